/-
  Arguments of a row as data.
-/
import Derived.Test.YthhodpedkdapcaaAl27
import Derived.RowKit
namespace Go.Proofs.Ythhodpedkdapcaa.Al
open Go.ChangeShapes Go.WideShapes Go.Deep Go.WideElems Go.RowKit
section
variable {H : Type} {enc : TypeId × Value → H} {P : Program} {W : World}
theorem top_str {t : TypeId} {v : Value} {d : DataW H} {p : List MemPlace} {r : Reach} {b0 : Nat} (ht : P.underlying t = some .string) (hval : Value.okWide P W r b0 t v) (h : DataW.Trod enc P W 0 (fun _ => true) true t v d p) :
    ∃ s : List UInt8, s.length ≤ maxLen ∧ RRep W (· < W.heap.size) (.str s) v := by
  obtain ⟨s, rfl⟩ := okWide_string ht hval
  obtain ⟨fuel, hf⟩ := h
  obtain ⟨l, h1, h2⟩ := Rd.str ht fuel _ _ hf
  exact ⟨l, h1, h2.2 0 _ _ rfl rfl⟩
theorem top_int {t : TypeId} {k : IntKind} {v : Value} {d : DataW H} {p : List MemPlace} {r : Reach} {b0 : Nat} (ht : P.underlying t = some (.int k)) (hval : Value.okWide P W r b0 t v) (h : DataW.Trod enc P W 0 (fun _ => true) true t v d p) :
    ∃ n : Int, (Lit.int k n).wf = true ∧ RRep W (· < W.heap.size) (.int k n) v := by
  obtain ⟨n, rfl, _, _, w⟩ := open_int ht hval h
  exact ⟨n, w, .int _ _⟩
theorem top_bool {t : TypeId} {v : Value} {d : DataW H} {p : List MemPlace} {r : Reach} {b0 : Nat} (ht : P.underlying t = some .bool) (hval : Value.okWide P W r b0 t v) (h : DataW.Trod enc P W 0 (fun _ => true) true t v d p) :
    ∃ b : Bool, True ∧ RRep W (· < W.heap.size) (.bool b) v := by
  obtain ⟨b, rfl, _⟩ := open_bool ht hval h
  exact ⟨b, trivial, .bool _⟩
end
end Go.Proofs.Ythhodpedkdapcaa.Al
