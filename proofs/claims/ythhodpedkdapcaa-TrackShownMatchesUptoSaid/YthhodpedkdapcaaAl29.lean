/-
  FROM A ROW's READING TO DATA, WITH ITS BULK.
-/
import Derived.Test.YthhodpedkdapcaaAl28
namespace Go.Proofs.Ythhodpedkdapcaa.Al
open Go.ChangeShapes Go.WideShapes Go.Deep Go.WideElems Go.RowKit

/-- How much a reading holds. -/
structure Blk (H : Type) where
  B : DataW H → Nat
  one : ∀ d, 1 ≤ B d
  str : ∀ s : List UInt8, s.length + 1 ≤ B (.lit (.string s))
  sl : ∀ l r, (l.map B).sum + 1 ≤ B (.slice l r)
  agg : ∀ l, (l.map B).sum + 1 ≤ B (.agg l)

section
variable {H : Type} {enc : TypeId × Value → H} {P : Program} {W : World} (K : Blk H)
/-- Whatever a reader reads at a type stands for such data, no bulkier than the reading. -/
def Rdm (enc : TypeId × Value → H) (P : Program) (W : World) (t : TypeId) {α : Type} (f : α → List RV) (ok : α → Prop) (μ : α → Nat) : Prop :=
  ∀ (fuel : Nat) (cs : List Value) (x : DataW H × List MemPlace), DataW.trod enc P W 0 (fun _ => true) true fuel t cs = some x → ∃ a, ok a ∧ RowRep W cs (f a) ∧ μ a ≤ K.B x.1
theorem Rdm.int {t : TypeId} {k : IntKind} (ht : P.underlying t = some (.int k)) : Rdm K enc P W t (fun n : Int => [.int k n]) (fun n => (Lit.int k n).wf = true) (fun _ => 1) := by
  intro fuel cs x h
  obtain ⟨n, rfl, _, hw⟩ := DataW.trod_int ht h
  exact ⟨n, hw, .one (.int k n), K.one _⟩
theorem Rdm.bool {t : TypeId} (ht : P.underlying t = some .bool) : Rdm K enc P W t (fun b : Bool => [.bool b]) (fun _ => True) (fun _ => 1) := by
  intro fuel cs x h
  obtain ⟨b, rfl, _⟩ := DataW.trod_bool ht h
  exact ⟨b, trivial, .one (.bool b), K.one _⟩
theorem Rdm.str {t : TypeId} (ht : P.underlying t = some .string) : Rdm K enc P W t (fun s : List UInt8 => [.str s]) (fun s => s.length ≤ maxLen) (fun s => s.length + 1) := by
  intro fuel cs x h
  obtain ⟨s, rfl, rfl, hs⟩ := DataW.trod_string ht h
  exact ⟨s.data.toList, by simpa using hs, .one (.str s), K.str _⟩
theorem Rdm.skip {t e : TypeId} (ht : P.underlying t = some (.slice e)) : Rdm K enc P W t (fun _ : Unit => [.any]) (fun _ => True) (fun _ => 1) := by
  intro fuel cs x h
  obtain ⟨a, h1, h2⟩ := Rd.skip (enc := enc) (W := W) ht fuel cs x h
  exact ⟨a, h1, h2, K.one _⟩
theorem sum_map_le {α β : Type} {l : List α} {m : List β} {f : α → Nat} {g : β → Nat} (hl : l.length = m.length) (h : ∀ (i : Nat) (a : α) (b : β), l[i]? = some a → m[i]? = some b → f a ≤ g b) : (l.map f).sum ≤ (m.map g).sum := by
  induction l generalizing m with
  | nil => simp
  | cons a l ih =>
    cases m with
    | nil => simp at hl
    | cons b m =>
      have h0 := h 0 a b rfl rfl
      have h1 := ih (m := m) (by simpa using hl) (fun i a b h1 h2 => h (i + 1) a b (by simpa using h1) (by simpa using h2))
      simp only [List.map_cons, List.sum_cons]
      omega
theorem Rdm.slice {t e : TypeId} {sz : Nat} {α : Type} {f : α → List RV} {ok : α → Prop} {μ : α → Nat} (ht : P.underlying t = some (.slice e)) (hc : P.cellsOf e = sz) (h0 : 0 < sz) (h : Rdm K enc P W e f ok μ) (hf : ∀ a, (f a).length = sz) :
    Rdm K enc P W t (fun l : List α => [.sl (l.map f)]) (fun l => l.length ≤ maxLen ∧ ∀ a ∈ l, ok a) (fun l => (l.map μ).sum + 1) := by
  intro fuel cs x hx
  subst hc
  rcases open_slice ht hx with ⟨rfl, _⟩ | ⟨a, len, cap, m, n, D, Pl, rfl, _, hl, hm, hmm, rfl, hi⟩
  · exact ⟨[], ⟨Nat.zero_le _, fun _ h => by cases h⟩, .one .snil, K.one _⟩
  simp only [if_true] at hmm
  have hread : ∀ i, i < len → ∃ b, ok b ∧ μ b ≤ K.B (D i) ∧ ∀ j d, (f b)[j]? = some d → ∃ u, W.cell? ((a.add (i * P.cellsOf e)).add j) = some u ∧ RRep W (· < W.heap.size) d u := by
    intro i hil
    obtain ⟨cs', h1, h2⟩ := hi i (by omega)
    obtain ⟨b, hb, hr, hμ⟩ := h n _ _ h2
    obtain ⟨_, h3, h4⟩ := World.cells?_some h1
    refine ⟨b, hb, hμ, fun j d hj => ?_⟩
    have hjl : j < (f b).length := (List.getElem?_eq_some_iff.1 hj).1
    have hjc : j < cs'.length := by rw [hr.1]; exact hjl
    refine ⟨cs'[j], ?_, hr.2 j d _ hj (List.getElem?_eq_getElem hjc)⟩
    rw [h4 j (by rw [← h3]; exact hjc)]
    exact List.getElem?_eq_getElem hjc
  obtain ⟨l, hll, hq⟩ := choose_list len hread
  have hok : ∀ b ∈ l, ok b := fun b hb => by
    obtain ⟨i, hi⟩ := List.mem_iff_getElem?.1 hb
    exact (hq i b hi).1
  have hμ : (l.map μ).sum + 1 ≤ K.B (.slice ((List.range len).map D) ((List.range (m - len)).map fun j => D (len + j))) := by
    refine Nat.le_trans ?_ (K.sl _ _)
    have := sum_map_le (l := l) (m := (List.range len).map D) (f := μ) (g := K.B) (by simpa using hll) (fun i a b h1 h2 => by
      have hil : i < len := by rw [← hll]; exact (List.getElem?_eq_some_iff.1 h1).1
      rw [List.getElem?_map, List.getElem?_range hil] at h2
      cases h2
      exact (hq i a h1).2.1)
    omega
  have hcells : ∀ i b, l[i]? = some b → ∀ j d, (f b)[j]? = some d → ∃ u, W.cell? ((a.add (i * P.cellsOf e)).add j) = some u ∧ RRep W (· < W.heap.size) d u := fun i b hb => (hq i b hb).2.2
  refine ⟨l, ⟨by rw [hll]; omega, hok⟩, .one ?_, hμ⟩
  subst hll
  by_cases hne : cap = 0
  · have : l = [] := List.eq_nil_of_length_eq_zero (by omega)
    subst this; subst hne
    exact .sl0 a
  · obtain ⟨cs', h1, _⟩ := hi 0 (by omega)
    obtain ⟨_, h3, h4⟩ := World.cells?_some h1
    have hc0 : ∃ u, W.cell? a = some u := by
      have := h4 0 h0
      rw [Nat.zero_mul, show (a.add 0).add 0 = a from rfl] at this
      exact ⟨cs'[0]'(by omega), this.trans (List.getElem?_eq_getElem (by omega))⟩
    obtain ⟨u0, hu0⟩ := hc0
    obtain ⟨b, off, spot⟩ := a
    have hsp : spot = none := World.cell?_spot hu0
    subst hsp
    have hblk : b < W.heap.size := by
      unfold World.cell? at hu0
      rcases Nat.lt_or_ge b W.heap.size with h | h
      · exact h
      · rw [Array.getElem?_eq_none h] at hu0; cases hu0
    have hadd : ∀ i j, ((⟨b, off, none⟩ : Addr).add (i * P.cellsOf e)).add j = ⟨b, off + i * P.cellsOf e + j, none⟩ := fun i j => by rw [Addr.add_lit, Addr.add_lit]
    have hu : ∀ (i : Nat) (row : List RV) (c : Nat) (d : RV), (l.map f)[i]? = some row → row[c]? = some d → ∃ u, W.cell? ⟨b, off + i * P.cellsOf e + c, none⟩ = some u ∧ RRep W (· < W.heap.size) d u := by
      intro i row c d h1 h2
      rw [List.getElem?_map, Option.map_eq_some_iff] at h1
      obtain ⟨z, h5, rfl⟩ := h1
      obtain ⟨u, h6, h7⟩ := hcells i z h5 c d h2
      rw [hadd] at h6
      exact ⟨u, h6, h7⟩
    have := RRep.sl (w := W) (S := (· < W.heap.size)) b off (l.map f) cap (P.cellsOf e) (fun i c => (W.cell? ⟨b, off + i * P.cellsOf e + c, none⟩).getD undef) (fun _ => hblk) (by simpa using hl) hm
      (fun row hr => by obtain ⟨z, _, rfl⟩ := List.mem_map.1 hr; exact hf z)
      (fun i row c d h1 h2 => by obtain ⟨u, h5, _⟩ := hu i row c d h1 h2; rw [h5]; rfl)
      (fun i row c d h1 h2 => by obtain ⟨u, h5, h6⟩ := hu i row c d h1 h2; rw [h5]; exact h6)
    rwa [List.length_map] at this

/-- A struct's parts, each read at its field's type. -/
theorem struct_parts {t : TypeId} {fs : Array Field} {n : Nat} {fuel : Nat} {cs : List Value} {x : DataW H × List MemPlace} (ht : P.underlying t = some (.struct fs)) (hC : P.cellsOf t = n)
    (h : DataW.trod enc P W 0 (fun _ => true) true fuel t cs = some x) :
    cs.length = n ∧ ∃ xs : List (DataW H × List MemPlace), x.1 = .agg (xs.map (·.1)) ∧ xs.length = fs.size ∧
      ∀ (j : Nat) (f : Field), fs[j]? = some f → ∃ (y : DataW H × List MemPlace) (m : Nat), xs[j]? = some y ∧ DataW.trod enc P W 0 (fun _ => true) true m f.type ((cs.drop f.offset).take (P.cellsOf f.type)) = some y := by
  obtain ⟨ys, n', hn', rfl, hlen, hyl, hf⟩ := DataW.trod_struct ht h
  refine ⟨hlen.trans hC, ys, rfl, hyl, fun j f hj => ?_⟩
  have hjl : j < fs.size := (Array.getElem?_eq_some_iff.1 hj).1
  have h1 := hf j f hj
  have h2 : ys[j]? = some ys[j] := List.getElem?_eq_getElem (by omega)
  exact ⟨ys[j], n', h2, h1.trans h2⟩
theorem RowRep.part {cs : List Value} {off k jj : Nat} {row : List RV} {d : RV} {u : Value} (h : RowRep W ((cs.drop off).take k) row) (hjj : Nat.blt jj k = true) (h1 : row[jj]? = some d) (h2 : cs[off + jj]? = some u) : RRep W (· < W.heap.size) d u := by
  refine h.2 jj d u h1 ?_
  rw [List.getElem?_take, if_pos (lt_of_blt hjj), List.getElem?_drop]
  exact h2

theorem topm {t : TypeId} {α : Type} {d0 : α → RV} {ok : α → Prop} {μ : α → Nat} {v : Value} {d : DataW H} {p : List MemPlace} (hr : Rdm K enc P W t (fun a : α => [d0 a]) ok μ) (hv : v.cells = #[v])
    (h : DataW.Trod enc P W 0 (fun _ => true) true t v d p) : ∃ a, ok a ∧ RRep W (· < W.heap.size) (d0 a) v ∧ μ a ≤ K.B d := by
  obtain ⟨fuel, hf⟩ := h
  obtain ⟨l, h1, h2, h3⟩ := hr fuel _ _ hf
  rw [hv] at h2
  exact ⟨l, h1, h2.2 0 _ _ rfl rfl, h3⟩
theorem topm_slice {t e : TypeId} {α : Type} {f : α → List RV} {ok : List α → Prop} {μ : List α → Nat} {v : Value} {d : DataW H} {p : List MemPlace} {r : Reach} {b0 : Nat} (ht : P.underlying t = some (.slice e)) (hr : Rdm K enc P W t (fun l : List α => [.sl (l.map f)]) ok μ)
    (hval : Value.okWide P W r b0 t v) (h : DataW.Trod enc P W 0 (fun _ => true) true t v d p) : ∃ l, ok l ∧ RRep W (· < W.heap.size) (.sl (l.map f)) v ∧ μ l ≤ K.B d := by
  obtain ⟨a, len, cap, rfl⟩ := okWide_slice ht hval
  exact topm K hr rfl h
theorem topm_str {t : TypeId} {v : Value} {d : DataW H} {p : List MemPlace} {r : Reach} {b0 : Nat} (ht : P.underlying t = some .string) (hval : Value.okWide P W r b0 t v) (h : DataW.Trod enc P W 0 (fun _ => true) true t v d p) :
    ∃ s : List UInt8, s.length ≤ maxLen ∧ RRep W (· < W.heap.size) (.str s) v ∧ s.length + 1 ≤ K.B d := by
  obtain ⟨s, rfl⟩ := okWide_string ht hval
  exact topm K (Rdm.str K ht) rfl h
theorem topm_int {t : TypeId} {k : IntKind} {v : Value} {d : DataW H} {p : List MemPlace} {r : Reach} {b0 : Nat} (ht : P.underlying t = some (.int k)) (hval : Value.okWide P W r b0 t v) (h : DataW.Trod enc P W 0 (fun _ => true) true t v d p) :
    ∃ n : Int, (Lit.int k n).wf = true ∧ RRep W (· < W.heap.size) (.int k n) v ∧ 1 ≤ K.B d := by
  obtain ⟨n, h1, h2⟩ := top_int ht hval h
  exact ⟨n, h1, h2, K.one _⟩
theorem topm_bool {t : TypeId} {v : Value} {d : DataW H} {p : List MemPlace} {r : Reach} {b0 : Nat} (ht : P.underlying t = some .bool) (hval : Value.okWide P W r b0 t v) (h : DataW.Trod enc P W 0 (fun _ => true) true t v d p) :
    ∃ b : Bool, True ∧ RRep W (· < W.heap.size) (.bool b) v ∧ 1 ≤ K.B d := by
  obtain ⟨b, h1, h2⟩ := top_bool ht hval h
  exact ⟨b, h1, h2, K.one _⟩
end
end Go.Proofs.Ythhodpedkdapcaa.Al
