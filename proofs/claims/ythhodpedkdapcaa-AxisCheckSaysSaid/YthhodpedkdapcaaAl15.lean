/-
  FROM A ROW's READING TO DATA, AND BACK: what an argument reads as, and that it reads as it did.
-/
import Derived.Test.YthhodpedkdapcaaAl14
import Derived.WideKeyArgs
import Derived.ChangeArms
import Derived.ChangeSame
import Derived.OpenShut
import Derived.Deep.Slices
import Derived.Deep.Fields
namespace Go.Proofs.Ythhodpedkdapcaa.Al
open Go.ChangeShapes Go.WideShapes Go.Deep Go.WideElems

/-- Where a call begins: all that is there is data. -/
def Cx.start (W : World) : Cx := { w := W, S := fun b => b < W.heap.size, F := fun _ => False, H := fun _ => none, β := fun _ => none, n := 0 }
theorem Cx.start_ok (W : World) : (Cx.start W).ok :=
  ⟨fun _ h => h, fun _ h => h.elim, fun _ _ h => h, (fun _ _ h => by cases h), (fun _ _ _ _ h => by cases h), (fun _ _ _ _ _ _ _ h => by cases h)⟩
theorem start_blk {W : World} {y : Cx} (h : (Cx.start W).le y) {b : Nat} (hb : b < W.heap.size) : y.w.heap[b]? = W.heap[b]? := h.blk b (.inl hb)

section
variable {H : Type} {enc : TypeId × Value → H} {P : Program} {W : World}

/-- Cells that stand for a row of data. -/
def RowRep (W : World) (cs : List Value) (rs : List RV) : Prop :=
  cs.length = rs.length ∧ ∀ (j : Nat) (d : RV) (u : Value), rs[j]? = some d → cs[j]? = some u → RRep W (· < W.heap.size) d u
/-- Whatever a reader reads at a type stands for such data. -/
def Rd (enc : TypeId × Value → H) (P : Program) (W : World) (t : TypeId) {α : Type} (f : α → List RV) (ok : α → Prop) : Prop :=
  ∀ (fuel : Nat) (cs : List Value) (x : DataW H × List MemPlace), DataW.trod enc P W 0 (fun _ => true) true fuel t cs = some x → ∃ a, ok a ∧ RowRep W cs (f a)

theorem RowRep.one {d : RV} {u : Value} (h : RRep W (· < W.heap.size) d u) : RowRep W [u] [d] := by
  refine ⟨rfl, fun j d' u' h1 h2 => ?_⟩
  cases j with
  | zero => simp at h1 h2; subst h1; subst h2; exact h
  | succ j => simp at h1
theorem RowRep.get1 {d : RV} {v : Value} (h : RowRep W [v] [d]) : RRep W (· < W.heap.size) d v := h.2 0 d v rfl rfl

theorem Rd.int {t : TypeId} {k : IntKind} (ht : P.underlying t = some (.int k)) : Rd enc P W t (fun n : Int => [.int k n]) (fun n => (Lit.int k n).wf = true) := by
  intro fuel cs x h
  obtain ⟨n, rfl, _, hw⟩ := DataW.trod_int ht h
  exact ⟨n, hw, .one (.int k n)⟩
theorem Rd.bool {t : TypeId} (ht : P.underlying t = some .bool) : Rd enc P W t (fun b : Bool => [.bool b]) (fun _ => True) := by
  intro fuel cs x h
  obtain ⟨b, rfl, _⟩ := DataW.trod_bool ht h
  exact ⟨b, trivial, .one (.bool b)⟩
theorem Rd.str {t : TypeId} (ht : P.underlying t = some .string) : Rd enc P W t (fun s : List UInt8 => [.str s]) (fun s => s.length ≤ maxLen) := by
  intro fuel cs x h
  obtain ⟨s, rfl, _, hs⟩ := DataW.trod_string ht h
  exact ⟨s.data.toList, by simpa using hs, .one (.str s)⟩
/-- A slice that nobody reads. -/
theorem Rd.skip {t e : TypeId} (ht : P.underlying t = some (.slice e)) : Rd enc P W t (fun _ : Unit => [.any]) (fun _ => True) := by
  intro fuel cs x h
  rcases open_slice ht h with ⟨rfl, _⟩ | ⟨a, len, cap, _, _, _, _, rfl, _⟩
  · exact ⟨(), trivial, .one (.any _ rfl)⟩
  · exact ⟨(), trivial, .one (.any _ rfl)⟩
theorem choose_list {α : Type} {Q : Nat → α → Prop} (n : Nat) (h : ∀ i, i < n → ∃ b, Q i b) : ∃ l : List α, l.length = n ∧ ∀ i b, l[i]? = some b → Q i b := by
  induction n with
  | zero => exact ⟨[], rfl, fun i b h => by simp at h⟩
  | succ k ih =>
    obtain ⟨l, h1, h3⟩ := ih (fun i hi => h i (by omega))
    obtain ⟨b, h4⟩ := h k (by omega)
    refine ⟨l ++ [b], by simp [h1], fun i b' hb' => ?_⟩
    rcases Nat.lt_or_ge i l.length with hil | hil
    · rw [List.getElem?_append_left hil] at hb'; exact h3 i b' hb'
    · rw [List.getElem?_append_right hil] at hb'
      have : i = l.length := by
        have := (List.getElem?_eq_some_iff.1 hb').1
        simp at this; omega
      subst this
      simp at hb'; subst hb'
      rw [h1]; exact h4
theorem Rd.slice {t e : TypeId} {sz : Nat} {α : Type} {f : α → List RV} {ok : α → Prop} (ht : P.underlying t = some (.slice e)) (hc : P.cellsOf e = sz) (h0 : 0 < sz) (h : Rd enc P W e f ok) (hf : ∀ a, (f a).length = sz) :
    Rd enc P W t (fun l : List α => [.sl (l.map f)]) (fun l => l.length ≤ maxLen ∧ ∀ a ∈ l, ok a) := by
  intro fuel cs x hx
  subst hc
  rcases open_slice ht hx with ⟨rfl, _⟩ | ⟨a, len, cap, m, n, D, Pl, rfl, _, hl, hm, hmm, _, hi⟩
  · exact ⟨[], ⟨Nat.zero_le _, fun _ h => by cases h⟩, .one .snil⟩
  simp only [if_true] at hmm
  have hread : ∀ i, i < len → ∃ b, ok b ∧ ∀ j d, (f b)[j]? = some d → ∃ u, W.cell? ((a.add (i * P.cellsOf e)).add j) = some u ∧ RRep W (· < W.heap.size) d u := by
    intro i hil
    obtain ⟨cs', h1, h2⟩ := hi i (by omega)
    obtain ⟨b, hb, hr⟩ := h n _ _ h2
    obtain ⟨_, h3, h4⟩ := World.cells?_some h1
    refine ⟨b, hb, fun j d hj => ?_⟩
    have hjl : j < (f b).length := (List.getElem?_eq_some_iff.1 hj).1
    have hjc : j < cs'.length := by rw [hr.1]; exact hjl
    refine ⟨cs'[j], ?_, hr.2 j d _ hj (List.getElem?_eq_getElem hjc)⟩
    rw [h4 j (by rw [← h3]; exact hjc)]
    exact List.getElem?_eq_getElem hjc
  obtain ⟨l, hll, hq⟩ := choose_list len hread
  have hok : ∀ b ∈ l, ok b := fun b hb => by
    obtain ⟨i, hi⟩ := List.mem_iff_getElem?.1 hb
    exact (hq i b hi).1
  have hcells : ∀ i b, l[i]? = some b → ∀ j d, (f b)[j]? = some d → ∃ u, W.cell? ((a.add (i * P.cellsOf e)).add j) = some u ∧ RRep W (· < W.heap.size) d u := fun i b hb => (hq i b hb).2
  refine ⟨l, ⟨by rw [hll]; omega, hok⟩, .one ?_⟩
  subst hll
  by_cases hne : cap = 0
  · have : l = [] := List.eq_nil_of_length_eq_zero (by omega)
    subst this; subst hne
    exact .sl0 a
  · obtain ⟨cs', h1, _⟩ := hi 0 (by omega)
    obtain ⟨_, h3, h4⟩ := World.cells?_some h1
    have hc0 : ∃ u, W.cell? a = some u := by
      have := h4 0 h0
      rw [Nat.zero_mul, show (a.add 0).add 0 = a from rfl] at this
      exact ⟨cs'[0]'(by omega), this.trans (List.getElem?_eq_getElem (by omega))⟩
    obtain ⟨u0, hu0⟩ := hc0
    obtain ⟨b, off, spot⟩ := a
    have hsp : spot = none := World.cell?_spot hu0
    subst hsp
    have hblk : b < W.heap.size := by
      unfold World.cell? at hu0
      rcases Nat.lt_or_ge b W.heap.size with h | h
      · exact h
      · rw [Array.getElem?_eq_none h] at hu0; cases hu0
    have hadd : ∀ i j, ((⟨b, off, none⟩ : Addr).add (i * P.cellsOf e)).add j = ⟨b, off + i * P.cellsOf e + j, none⟩ := fun i j => by rw [Addr.add_lit, Addr.add_lit]
    have hu : ∀ (i : Nat) (row : List RV) (c : Nat) (d : RV), (l.map f)[i]? = some row → row[c]? = some d → ∃ u, W.cell? ⟨b, off + i * P.cellsOf e + c, none⟩ = some u ∧ RRep W (· < W.heap.size) d u := by
      intro i row c d h1 h2
      rw [List.getElem?_map, Option.map_eq_some_iff] at h1
      obtain ⟨z, h5, rfl⟩ := h1
      obtain ⟨u, h6, h7⟩ := hcells i z h5 c d h2
      rw [hadd] at h6
      exact ⟨u, h6, h7⟩
    have := RRep.sl (w := W) (S := (· < W.heap.size)) b off (l.map f) cap (P.cellsOf e) (fun i c => (W.cell? ⟨b, off + i * P.cellsOf e + c, none⟩).getD undef) (fun _ => hblk) (by simpa using hl) hm
      (fun row hr => by obtain ⟨z, _, rfl⟩ := List.mem_map.1 hr; exact hf z)
      (fun i row c d h1 h2 => by obtain ⟨u, h5, _⟩ := hu i row c d h1 h2; rw [h5]; rfl)
      (fun i row c d h1 h2 => by obtain ⟨u, h5, h6⟩ := hu i row c d h1 h2; rw [h5]; exact h6)
    rwa [List.length_map] at this

/-- A struct's cells, each read at its field's type. -/
theorem struct_fields {t : TypeId} {fs : Array Field} {fuel : Nat} {cs : List Value} {x : DataW H × List MemPlace} (ht : P.underlying t = some (.struct fs)) (hone : oneCellFields P fs = true) (hC : P.cellsOf t = fs.size)
    (h : DataW.trod enc P W 0 (fun _ => true) true fuel t cs = some x) :
    cs.length = fs.size ∧ ∀ (j : Nat) (f : Field), fs[j]? = some f → ∃ (v : Value) (n : Nat) (y : DataW H × List MemPlace), cs[j]? = some v ∧ DataW.trod enc P W 0 (fun _ => true) true n f.type [v] = some y := by
  obtain ⟨ys, n', hn', hy, hlen, hyl, hf⟩ := DataW.trod_struct ht h
  rw [hC] at hlen
  refine ⟨hlen, fun j f hj => ?_⟩
  obtain ⟨ho, hk⟩ := hone_of hone j f hj
  have hjl : j < fs.size := (Array.getElem?_eq_some_iff.1 hj).1
  have h1 := hf j f hj
  rw [ho, hk] at h1
  have hone' : (cs.drop j).take 1 = [cs[j]'(by omega)] := by
    rw [List.drop_eq_getElem_cons (by omega)]
    rfl
  rw [hone'] at h1
  exact ⟨_, n', _, List.getElem?_eq_getElem (by omega), h1.trans (List.getElem?_eq_getElem (by omega))⟩

/-- An argument that is a slice. -/
theorem top_slice {t e : TypeId} {α : Type} {f : α → List RV} {ok : List α → Prop} {v : Value} {d : DataW H} {p : List MemPlace} {r : Reach} {b0 : Nat} (ht : P.underlying t = some (.slice e)) (hr : Rd enc P W t (fun l : List α => [.sl (l.map f)]) ok)
    (hval : Value.okWide P W r b0 t v) (h : DataW.Trod enc P W 0 (fun _ => true) true t v d p) : ∃ l, ok l ∧ RRep W (· < W.heap.size) (.sl (l.map f)) v := by
  obtain ⟨a, len, cap, rfl⟩ := okWide_slice ht hval
  obtain ⟨fuel, hf⟩ := h
  obtain ⟨l, h1, h2⟩ := hr fuel _ _ hf
  exact ⟨l, h1, h2.2 0 _ _ rfl rfl⟩

theorem trodAll_stays (hl : laidOutB P = true) {W' : World} {sp' : Nat → Bool} : ∀ {ts : List TypeId} {vs : List Value} {ds : List (DataW H)} {ps : List MemPlace}, (∀ t ∈ ts, P.readableRec t = true ∧ t < P.types.size) →
    DataW.TrodAll enc P W 0 (fun _ => true) true ts vs ds ps → (∀ p ∈ ps, W.sameAt W' p) → (∀ p ∈ ps, sp' p.block = true) → DataW.TrodAll enc P W' 0 sp' true ts vs ds ps
  | [], [], [], _, _, h, _, _ => h
  | t :: _, _ :: _, _ :: _, _, hT, ⟨p, q, h1, h2, e⟩, hs, hsp =>
    ⟨p, q, Trod_stays hl (hT t (List.mem_cons.2 (.inl rfl))).1 (hT t (List.mem_cons.2 (.inl rfl))).2 h1 (fun x hx => hs x (by rw [e]; exact List.mem_append_left _ hx)) (fun x hx => hsp x (by rw [e]; exact List.mem_append_left _ hx)),
      trodAll_stays hl (fun t ht => hT t (List.mem_cons.2 (.inr ht))) h2 (fun x hx => hs x (by rw [e]; exact List.mem_append_right _ hx)) (fun x hx => hsp x (by rw [e]; exact List.mem_append_right _ hx)), e⟩

theorem start_same {y : Cx} (h : (Cx.start W).le y) {p : MemPlace} (hp : p.block < W.heap.size) : W.sameAt y.w p := by
  cases p with
  | cell b off => exact World.cell?_of_block (start_blk h hp)
  | map b => exact start_blk h hp
theorem start_kept {y : Cx} (h : (Cx.start W).le y) (may : MemPlace → Prop) : W.keptBut y.w may := by
  refine ⟨h.os, h.output, fun i hi => ?_⟩
  have := (World.keptBut_refl W may).2.2 i hi
  rw [start_blk h hi]
  exact this

/-- THE ROW's LAST STEP: the arguments read as they did, the results as is said. -/
theorem close_row {f : Func} {s : ChangeSpec} {args : Array Value} {v : Value} {ds gs : List (DataW H)} {before : List MemPlace} {y : Cx} (hl : laidOutB P = true) (hts : ∀ t ∈ f.params.toList, P.readableRec t = true ∧ t < P.types.size) (hsv : s.vars = [])
    (hW : DataW.Whole enc P f.params.toList s.vars false W args.toList ds gs before) (hle : (Cx.start W).le y) (hargs : (s.fn H (ds ++ gs)).args = ds) (hvars : (s.fn H (ds ++ gs)).vars = [])
    (hres : ∀ (b : Nat) (sp : Nat → Bool) (hd : Bool), DataW.TrodAll enc P y.w b sp hd f.resultTypes.toList (v.resultList f.resultTypes.size) (s.fn H (ds ++ gs)).results []) : s.post enc P f false true false false W args v y.w := by
  have hW' := hW
  obtain ⟨p, q, hA, hV, rfl, _, _⟩ := hW
  rw [hsv] at hV
  obtain ⟨rfl, rfl⟩ := trodVars_none hV
  have hlt : ∀ x ∈ p, x.block < W.heap.size := DataW.TrodAll.lt hA
  refine ⟨ds, [], p ++ [], [], p, [], hW', hres _ _ _, ?_, ?_, start_kept hle _, fun h => by cases h⟩
  · rw [hargs]
    exact trodAll_stays hl hts hA (fun x hx => start_same hle (hlt x hx)) (fun x hx => by simpa using hlt x hx)
  · rw [hsv, hvars]; rfl
end
end Go.Proofs.Ythhodpedkdapcaa.Al
