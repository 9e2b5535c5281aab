/-
  Contracts with an effect upon shared objects, and the call by such a contract.
-/
import Derived.Test.YthhodpedkdapcaaAl16
namespace Go.Proofs.Ythhodpedkdapcaa.Al

/-- The shared objects, in the caller's heap. -/
def Shares (h : Heap) (L : List Nat) : Heap → Prop
  | [] => True
  | (id, some o) :: r => (Nat.ble 1000 id && Nat.blt id (1000 + L.length)) = true ∧ hget h (rid L id) = some (o.ren L) ∧ o.canon L.length = true ∧ Shares h L r
  | (_, none) :: _ => False
theorem Shares.get {h : Heap} {L : List Nat} {hc : Heap} (hs : Shares h L hc) {id : Nat} {o : AObj} (ho : hget hc id = some o) : 1000 ≤ id ∧ id < 1000 + L.length ∧ hget h (rid L id) = some (o.ren L) ∧ o.canon L.length = true := by
  induction hc with
  | nil => cases ho
  | cons p r ih =>
    obtain ⟨d, v⟩ := p
    rw [hget_cons] at ho
    cases v with
    | none => exact hs.elim
    | some o1 =>
      obtain ⟨h1, h2, h3, h4⟩ := hs
      split at ho
      · rename_i hd; subst hd; cases ho
        simp only [Bool.and_eq_true, Nat.ble_eq, Nat.blt_eq] at h1
        exact ⟨h1.1, h1.2, h2, h3⟩
      · exact ih h4 ho
/-- What the callee leaves: shared objects, no others. -/
def canonH (k : Nat) : Heap → Bool
  | [] => true
  | (id, some o) :: r => Nat.ble 1000 id && Nat.blt id (1000 + k) && o.canon k && canonH k r
  | (_, none) :: r => canonH k r
theorem canonH_get {k : Nat} {h : Heap} (hs : canonH k h = true) {id : Nat} {o : AObj} (ho : hget h id = some o) : 1000 ≤ id ∧ id < 1000 + k ∧ o.canon k = true := by
  induction h with
  | nil => cases ho
  | cons p r ih =>
    obtain ⟨d, v⟩ := p
    rw [hget_cons] at ho
    cases v with
    | none =>
      split at ho
      · cases ho
      · exact ih hs ho
    | some o1 =>
      simp only [canonH, Bool.and_eq_true, Nat.ble_eq, Nat.blt_eq] at hs
      split at ho
      · rename_i hd; subst hd; cases ho; exact ⟨hs.1.1.1, hs.1.1.2, hs.1.2⟩
      · exact ih hs.2 ho
/-- A CONTRACT WITH AN EFFECT: 'k' shared objects, called 1000, 1001, ..; 'h': what they are; 'Post': what is returned, and what they are then. -/
def AHC (P : Program) (f : FuncId) (k : Nat) (args : List AV) (h : Heap) (Post : AV → Heap → Prop) : Prop :=
  Callable P f ∧ ∀ (x : Cx) (vs : Array Value), x.ok → x.H = hget h → ArgsRep x args vs.toList →
    Calls P f vs x.w fun e w' => ∃ u y r h', e = .returned u ∧ y.w = w' ∧ x.le y ∧ y.ok ∧ y.H = hget h' ∧ AVRep y r u ∧ r.canon k = true ∧ canonH k h' = true ∧ Post r h'

def backH (L : List Nat) (hc : Heap) : Nat → List Nat → Heap
  | _, [] => []
  | j, id :: r => (id, (hget hc j).map (AObj.ren L)) :: backH L hc (j + 1) r
theorem hget_back (L : List Nat) (hc h : Heap) (M : List Nat) : ∀ (j i : Nat), hget (backH L hc j M ++ h) i = if i ∈ M then (hget hc (j + M.idxOf i)).map (AObj.ren L) else hget h i := by
  induction M with
  | nil => intro j i; simp [backH]
  | cons m M ih =>
    intro j i
    simp only [backH, List.cons_append, hget_cons, List.mem_cons]
    by_cases hi : m = i
    · subst hi; simp
    · rw [if_neg hi, ih]
      have hi' : ¬ i = m := fun e => hi e.symm
      simp only [hi', false_or]
      split
      · rw [List.idxOf_cons, show (m == i) = false from by simpa using hi, cond_false, show j + 1 + M.idxOf i = j + (M.idxOf i + 1) by omega]
      · rfl
def cid (L : List Nat) (i : Nat) : Nat := 1000 + L.idxOf i
theorem rid_cid {L : List Nat} {i : Nat} (h : i ∈ L) : rid L (cid L i) = i := by
  have hl := List.idxOf_lt_length_of_mem h
  simp [rid, cid, List.getD, List.getElem?_eq_getElem hl]
theorem cid_range {L : List Nat} {i : Nat} (h : i ∈ L) : 1000 ≤ cid L i ∧ cid L i < 1000 + L.length := by
  have hl := List.idxOf_lt_length_of_mem h
  unfold cid; omega
theorem rid_mem {L : List Nat} {i : Nat} (h1 : 1000 ≤ i) (h2 : i < 1000 + L.length) : rid L i ∈ L := by
  have hl : i - 1000 < L.length := by omega
  simp only [rid, List.getD, List.getElem?_eq_getElem hl, Option.getD_some]
  exact List.getElem_mem hl
theorem cid_rid {L : List Nat} (hnd : L.Nodup) {i : Nat} (h1 : 1000 ≤ i) (h2 : i < 1000 + L.length) : cid L (rid L i) = i := by
  have hl : i - 1000 < L.length := by omega
  simp only [rid, List.getD, List.getElem?_eq_getElem hl, Option.getD_some, cid]
  rw [hnd.idxOf_getElem]
  omega

/-- The callee's context. -/
def Cx.view (z : Cx) (L : List Nat) (hc : Heap) : Cx :=
  { w := z.w, S := z.S, F := fun b => z.F b ∨ ∃ id o k, id ∉ L ∧ z.H id = some o ∧ z.β id = some (b, k), H := hget hc, β := fun i => z.β (rid L i), n := z.n }

theorem ORep_ren_in {x y : Cx} {L : List Nat} {k : Nat} (hw : y.w = x.w) (hS : ∀ b, x.S b → y.S b) (hn : x.n ≤ y.n) (hH : ∀ id, 1000 ≤ id → id < 1000 + k → SameObj y id x (rid L id)) {β : Option (Nat × Nat)} {o : AObj} (ho : ORep x β (o.ren L)) (hc : o.canon k = true) : ORep y β o := by
  have hb : ∀ b, x.S b → y.w.heap[b]? = x.w.heap[b]? := fun _ _ => by rw [hw]
  cases o with
  | arr g e sz xs =>
    obtain ⟨h0, h1, hdr, us, h2, h3, h4⟩ := ho
    exact ⟨h0, h1, hdr, us, h2, by rw [hw]; exact h3, fun i row c d k1 k2 => by obtain ⟨u, k3, k4⟩ := h4 i row c d k1 k2; exact ⟨u, k3, k4.mono hb hS⟩⟩
  | box g e cs =>
    obtain ⟨b, cur, h1, h2, h3, h4⟩ := ho
    refine ⟨b, cur, h1, by rw [hw]; exact h2, by rw [h3, renL_length], fun j c hj => ?_⟩
    obtain ⟨u, k1, k2, k3⟩ := h4 j (ren L c) (by rw [renL_get, hj]; rfl)
    exact ⟨u, k1, k2, ren_in hw hS hn hH k3 c rfl (canonL_get hc hj)⟩
theorem ORep_ren_out {x y : Cx} {L : List Nat} {k : Nat} (hw : y.w = x.w) (hS : ∀ b, x.S b → y.S b) (hn : x.n ≤ y.n) (hH : ∀ id, 1000 ≤ id → id < 1000 + k → SameObj y (rid L id) x id) {β : Option (Nat × Nat)} {o : AObj} (ho : ORep x β o) (hc : o.canon k = true) : ORep y β (o.ren L) := by
  have hb : ∀ b, x.S b → y.w.heap[b]? = x.w.heap[b]? := fun _ _ => by rw [hw]
  cases o with
  | arr g e sz xs =>
    obtain ⟨h0, h1, hdr, us, h2, h3, h4⟩ := ho
    exact ⟨h0, h1, hdr, us, h2, by rw [hw]; exact h3, fun i row c d k1 k2 => by obtain ⟨u, k3, k4⟩ := h4 i row c d k1 k2; exact ⟨u, k3, k4.mono hb hS⟩⟩
  | box g e cs =>
    obtain ⟨b, cur, h1, h2, h3, h4⟩ := ho
    refine ⟨b, cur, h1, by rw [hw]; exact h2, by rw [h3, renL_length], fun j c hj => ?_⟩
    rw [renL_get, Option.map_eq_some_iff] at hj
    obtain ⟨c0, hj, rfl⟩ := hj
    obtain ⟨u, k1, k2, k3⟩ := h4 j c0 hj
    exact ⟨u, k1, k2, ren_out hw hS hn hH k3 (canonL_get hc hj)⟩

theorem view_same {z : Cx} {h : Heap} {L : List Nat} {hc : Heap} (hH : z.H = hget h) (hs : Shares h L hc) : ∀ id, 1000 ≤ id → id < 1000 + L.length → SameObj (z.view L hc) id z (rid L id) := by
  intro id _ _ o ho
  obtain ⟨_, _, h3, _⟩ := hs.get ho
  exact ⟨o.ren L, by rw [hH]; exact h3, AObj.ren_gen L o, AObj.ren_shape L o, rfl⟩
theorem view_ok {z : Cx} {h : Heap} {L : List Nat} {hc : Heap} (hok : z.ok) (hH : z.H = hget h) (hs : Shares h L hc) (hnd : L.Nodup) : (z.view L hc).ok := by
  refine ⟨hok.S_lt, fun b hb => ?_, fun b hb hf => ?_, fun id o ho => ?_, fun id o b k ho hb => ?_, fun id id' o o' b k k' ho ho' hb hb' => ?_⟩
  · rcases hb with hb | ⟨id, o, k, _, h1, h2⟩
    · exact hok.F_lt b hb
    · exact (hok.own id o b k h1 h2).1
  · rcases hf with hf | ⟨id, o, k, _, h1, h2⟩
    · exact hok.SF b hb hf
    · exact (hok.own id o b k h1 h2).2.1 hb
  · obtain ⟨h1, h2, h3, h4⟩ := hs.get ho
    obtain ⟨k1, k2⟩ := hok.obj _ _ (by rw [hH]; exact h3)
    exact ⟨by rwa [AObj.ren_gen] at k1, ORep_ren_in (x := z) (y := z.view L hc) (k := L.length) rfl (fun _ h => h) (Nat.le_refl _) (view_same hH hs) k2 h4⟩
  · obtain ⟨h1, h2, h3, h4⟩ := hs.get ho
    obtain ⟨k1, k2, k3⟩ := hok.own _ _ b k (by rw [hH]; exact h3) hb
    refine ⟨k1, k2, ?_⟩
    rintro (hf | ⟨i2, o2, k', hn2, e1, e2⟩)
    · exact k3 hf
    · exact hn2 (hok.inj _ _ _ _ b k k' (by rw [hH]; exact h3) e1 hb e2 ▸ rid_mem h1 h2)
  · obtain ⟨h1, h2, h3, _⟩ := hs.get ho
    obtain ⟨h1', h2', h3', _⟩ := hs.get ho'
    have := hok.inj _ _ _ _ b k k' (by rw [hH]; exact h3) (by rw [hH]; exact h3') hb hb'
    rw [← cid_rid hnd h1 h2, this, cid_rid hnd h1' h2']

/-- The caller's context behind the call. -/
def Cx.back (z y : Cx) (L : List Nat) (hc h : Heap) : Cx :=
  { w := y.w, S := y.S, F := z.F, H := hget (backH L hc 1000 L ++ h), β := fun i => if i ∈ L then y.β (cid L i) else z.β i, n := y.n }

theorem back_same {z y : Cx} {h hc : Heap} {L : List Nat} (hnd : L.Nodup) (hyH : y.H = hget hc) : ∀ id, 1000 ≤ id → id < 1000 + L.length → SameObj (z.back y L hc h) (rid L id) y id := by
  intro id h1 h2 o ho
  have hm := rid_mem h1 h2
  have ho' : hget (backH L hc 1000 L ++ h) (rid L id) = some o := ho
  rw [hget_back, if_pos hm, show 1000 + L.idxOf (rid L id) = cid L (rid L id) from rfl, cid_rid hnd h1 h2, Option.map_eq_some_iff] at ho'
  obtain ⟨o2, k1, rfl⟩ := ho'
  refine ⟨o2, by rw [hyH]; exact k1, (AObj.ren_gen L o2).symm, (AObj.ren_shape L o2).symm, ?_⟩
  show y.β id = if rid L id ∈ L then y.β (cid L (rid L id)) else _
  rw [if_pos hm, cid_rid hnd h1 h2]

theorem back_spec {z y : Cx} {h hc hc' : Heap} {L : List Nat} (hok : z.ok) (hH : z.H = hget h) (hs : Shares h L hc) (hnd : L.Nodup) (hle : (z.view L hc).le y) (hyok : y.ok) (hyH : y.H = hget hc') (hcan : canonH L.length hc' = true) :
    z.le (z.back y L hc' h) ∧ (z.back y L hc' h).ok := by
  have hyF : y.F = (z.view L hc).F := hle.F
  have hget' : ∀ i o, hget (backH L hc' 1000 L ++ h) i = some o → (i ∈ L ∧ ∃ o2, hget hc' (cid L i) = some o2 ∧ o = o2.ren L) ∨ (i ∉ L ∧ hget h i = some o) := by
    intro i o ho
    rw [hget_back] at ho
    split at ho
    · rename_i hi
      rw [Option.map_eq_some_iff] at ho
      obtain ⟨o2, k1, k2⟩ := ho
      exact .inl ⟨hi, o2, k1, k2.symm⟩
    · rename_i hi; exact .inr ⟨hi, ho⟩
  have hble : ∀ id ob b k, id ∉ L → z.H id = some ob → z.β id = some (b, k) → y.F b := fun id ob b k h1 h2 h3 => by rw [hyF]; exact .inr ⟨id, ob, k, h1, h2, h3⟩
  have hle2 : z.le (z.back y L hc' h) := by
    refine ⟨hle.size, hle.os, hle.tape, hle.output, fun b hb => hle.blk b (hb.imp id (fun h => Or.inl h)), fun b h => hle.S b h, rfl, hle.n, fun id o' ho' hg => ?_⟩
    rcases hget' id o' ho' with ⟨hi, o2, k1, rfl⟩ | ⟨hi, k1⟩
    · rw [AObj.ren_gen] at hg
      obtain ⟨o, e1, e2, e3, e4⟩ := hle.H (cid L id) o2 (by rw [hyH]; exact k1) hg
      obtain ⟨_, _, e5, _⟩ := hs.get e1
      rw [rid_cid hi] at e5
      refine ⟨o.ren L, by rw [hH]; exact e5, by rw [AObj.ren_gen, AObj.ren_gen]; exact e2, by rw [AObj.ren_shape, AObj.ren_shape]; exact e3, ?_⟩
      show (if id ∈ L then y.β (cid L id) else z.β id) = z.β id
      rw [if_pos hi, e4]
      show z.β (rid L (cid L id)) = z.β id
      rw [rid_cid hi]
    · refine ⟨o', by rw [hH]; exact k1, rfl, rfl, ?_⟩
      show (if id ∈ L then y.β (cid L id) else z.β id) = z.β id
      rw [if_neg hi]
  refine ⟨hle2, hyok.S_lt, fun b hb => Nat.lt_of_lt_of_le (hok.F_lt b hb) hle.size, fun b hb hf => ?_, fun id ob hob => ?_, fun id ob b k h1 h2 => ?_, fun id id' o o' b k k' h1 h1' h2 h2' => ?_⟩
  · exact hyok.SF b hb (by rw [hyF]; exact .inl hf)
  · rcases hget' id ob hob with ⟨hi, o2, k1, rfl⟩ | ⟨hi, k1⟩
    · obtain ⟨e1, e2⟩ := hyok.obj (cid L id) o2 (by rw [hyH]; exact k1)
      have hβ : (z.back y L hc' h).β id = y.β (cid L id) := if_pos hi
      rw [hβ, AObj.ren_gen]
      exact ⟨e1, ORep_ren_out (x := y) (y := z.back y L hc' h) (k := L.length) rfl (fun _ h => h) (Nat.le_refl _) (back_same hnd hyH) e2 (canonH_get hcan k1).2.2⟩
    · obtain ⟨e1, e2⟩ := hok.obj id ob (by rw [hH]; exact k1)
      have hβ : (z.back y L hc' h).β id = z.β id := if_neg hi
      rw [hβ]
      exact ⟨Nat.lt_of_lt_of_le e1 hle.n, e2.mono hle2 fun b k hb => hle.blk b (.inr (.inr ⟨id, ob, k, hi, by rw [hH]; exact k1, hb⟩))⟩
  · rcases hget' id ob h1 with ⟨hi, o2, k1, rfl⟩ | ⟨hi, k1⟩
    · have hβ : (z.back y L hc' h).β id = y.β (cid L id) := if_pos hi
      rw [hβ] at h2
      obtain ⟨e1, e2, e3⟩ := hyok.own (cid L id) o2 b k (by rw [hyH]; exact k1) h2
      exact ⟨e1, e2, fun hf => e3 (by rw [hyF]; exact .inl hf)⟩
    · have hβ : (z.back y L hc' h).β id = z.β id := if_neg hi
      rw [hβ] at h2
      obtain ⟨e1, e2, e3⟩ := hok.own id ob b k (by rw [hH]; exact k1) h2
      exact ⟨Nat.lt_of_lt_of_le e1 hle.size, fun hs' => hyok.SF b hs' (hble id ob b k hi (by rw [hH]; exact k1) h2), e3⟩
  · have hβp : ∀ i, i ∈ L → (z.back y L hc' h).β i = y.β (cid L i) := fun i hi => if_pos hi
    have hβn : ∀ i, i ∉ L → (z.back y L hc' h).β i = z.β i := fun i hi => if_neg hi
    rcases hget' id o h1 with ⟨hi, o2, k1, rfl⟩ | ⟨hi, k1⟩ <;> rcases hget' id' o' h1' with ⟨hi', o2', k1', rfl⟩ | ⟨hi', k1'⟩
    · rw [hβp id hi] at h2; rw [hβp id' hi'] at h2'
      have := hyok.inj _ _ _ _ b k k' (by rw [hyH]; exact k1) (by rw [hyH]; exact k1') h2 h2'
      rw [← rid_cid hi, this, rid_cid hi']
    · rw [hβp id hi] at h2; rw [hβn id' hi'] at h2'
      exact absurd (hble id' o' b k' hi' (by rw [hH]; exact k1') h2') (hyok.own _ _ b k (by rw [hyH]; exact k1) h2).2.2
    · rw [hβn id hi] at h2; rw [hβp id' hi'] at h2'
      exact absurd (hble id o b k hi (by rw [hH]; exact k1) h2) (hyok.own _ _ b k' (by rw [hyH]; exact k1') h2').2.2
    · rw [hβn id hi] at h2; rw [hβn id' hi'] at h2'
      exact hok.inj _ _ _ _ b k k' (by rw [hH]; exact k1) (by rw [hH]; exact k1') h2 h2'
end Go.Proofs.Ythhodpedkdapcaa.Al
