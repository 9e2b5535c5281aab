/-
  Operations that make memory, for drawn regions.
-/
import Derived.Test.YthhodpedkdapcaaAl32
namespace Go.Proofs.Ythhodpedkdapcaa.Al
section
variable {P : Program} {o : Oper} {R : Env} {h : Heap} {n : Nat}
theorem spA_buildSlice {t e : TypeId} {sz by_ len : Nat} {parts : Array (Nat × Operand)} (id : Nat) {rows : List (List RV)} (ho : o.op = .buildSlice t len parts) (ht : GrowTy P t e sz by_)
    (hp : RowsEv true R 0 parts.toList rows) (hlen : rows.length = len) (hrow : ∀ row ∈ rows, row.length = sz) (hsmall : Nat.ble (len * sz) 16777216 = true) :
    OpSpecA P o R h n (.own id n) ((id, some (.arr n e sz rows)) :: h) (n + 1) := by
  intro z w hok hH hn he K Q hK
  have hc : true = true := rfl
  obtain ⟨ht1, ii, zv, hi, hisz, _, hz, hzs, _, h0⟩ := ht
  have hsm : len * sz ≤ 16777216 := Nat.le_of_ble_eq_true hsmall
  have hlm : len ≤ len * sz := Nat.le_mul_of_pos_right _ h0
  obtain ⟨hpl, hpg⟩ := hp.get
  have hinit : ∃ init : Array Value, init.size = len * sz ∧ ∀ W, (Instr.buildSlice t len (parts.map fun (i, x) => (i, w.eval x))).run P W =
      match Instr.fill (fun i => some (i * sz, sz)) init (parts.toList.map fun (i, x) => (i, w.eval x)) with
      | some cells => .ok (.slice (some ⟨W.heap.size, 0, none⟩) len len) (W.alloc (.cells cells e))
      | none => .halt (.stuck "buildSlice: a part of the wrong size") W := by
    refine ⟨(Array.range (len * sz)).map (fun i => (if len * sz = 0 then #[] else zv.cells)[i % (if len * sz = 0 then #[] else zv.cells).size]!), by simp, fun W => ?_⟩
    have hnot : ¬ 2 ^ 24 < len * sz := by omega
    by_cases hl0 : len * sz = 0
    · simp only [Instr.buildSlice, Sem.run_bind, run_underlying ht1, Result.andThen_ok, run_sizeOf hi, hisz, hl0]
      simp
      split <;> simp_all [newRow, Instr.fill]
    · simp only [Instr.buildSlice, Sem.run_bind, run_underlying ht1, Result.andThen_ok, run_sizeOf hi, hisz]
      simp only [hnot, hl0, zeroValue, typeInfo, if_false, Sem.run_bind, run_program, Result.andThen_ok, hi, hz, Sem.run_pure, Array.toList_map]
      generalize Instr.fill _ _ _ = r
      cases r <;> simp [newRow]
  obtain ⟨init, hisize, hrun⟩ := hinit
  obtain ⟨us', f1, f2, _, f4⟩ := fill_rows sz (parts.toList.map fun (i, x) => (i, w.eval x)) 0 init (fun j p hj => by
    simp only [List.getElem?_map, Option.map_eq_some_iff] at hj
    obtain ⟨q, hq, rfl⟩ := hj
    obtain ⟨h1, row, a, h2, h3, h4⟩ := hpg j q hq
    refine ⟨by simpa using h1, ?_⟩
    rw [(rowRV_rep h4 (h3.rep he hc)).1]
    exact hrow row (List.mem_of_getElem? h2)) (by rw [hisize]; simp only [List.length_map, hpl, hlen, Nat.zero_add]; exact Nat.le_refl _)
  obtain ⟨y, k1, k2, k3, k4, k5, k6⟩ := newRow_spec hok id e sz rows us' h0 hrow (by rw [f2, hisize, hlen]) (by unfold maxLen; omega) (fun i row k d h1 h2 => by
    have hi' : i < parts.toList.length := by rw [hpl]; exact (List.getElem?_eq_some_iff.1 h1).1
    obtain ⟨_, row', a, h3, h4, h5⟩ := hpg i _ (List.getElem?_eq_getElem hi')
    rw [h1] at h3; cases h3
    obtain ⟨u, h6, h7⟩ := (rowRV_rep h5 (h4.rep he hc)).2 k d h2
    refine ⟨u, ?_, h7⟩
    have hk : k < sz := by rw [← hrow row (List.mem_of_getElem? h1)]; exact (List.getElem?_eq_some_iff.1 h2).1
    have := f4 i (parts.toList[i].1, w.eval parts.toList[i].2) k (by simp [List.getElem?_map, List.getElem?_eq_getElem hi']) hk
    rw [Nat.zero_add] at this
    rw [this]; exact h6)
  unfold Oper.wp execOp
  simp only [ho, Sem.run_bind, hrun, f1, Result.andThen_ok, Sem.run_pure]
  have := hK _ y k1 k2 (by rw [k4, hH, hn, hget_upd]) (by rw [k5, hn]) (by rw [← hn]; exact k6) (fun b hb => by rw [k3]; exact heap_alloc_old _ _ hb)
  rw [k3, hlen] at this
  exact this
theorem msA_lit {α : Type} {f : α → List RV} {t e : TypeId} {sz by_ len : Nat} {parts : Array (Nat × Operand)} (id : Nat) {l : List α} (ho : o.op = .buildSlice t len parts) (ht : GrowTy P t e sz by_)
    (hp : RowsEv true R 0 parts.toList (l.map f)) (hlen : l.length = len) (hrow : ∀ a, (f a).length = sz) (hsmall : Nat.ble (len * sz) 16777216 = true) :
    OpSpecA P o R h n (.own id n) ((id, some (.arr n e sz (l.map f))) :: h) (n + 1) :=
  spA_buildSlice id ho ht hp (by rw [List.length_map]; exact hlen) (fun row hr => by obtain ⟨a, _, rfl⟩ := List.mem_map.1 hr; exact hrow a) hsmall
end
end Go.Proofs.Ythhodpedkdapcaa.Al
namespace Go.Proofs.Ythhodpedkdapcaa.Al
def pick (l : List Oper) : List Nat → List Oper
  | [] => []
  | i :: is => match l[i]? with
    | some o => o :: pick l is
    | none => pick l is
theorem pick_map {l : List Oper} {is : List Nat} (h : (is.all fun i => Nat.blt i l.length) = true) : is.map (fun i => l.toArray[i]?) = (pick l is).map some := by
  induction is with
  | nil => rfl
  | cons i is ih =>
    simp only [List.all_cons, Bool.and_eq_true] at h
    have hi := lt_of_blt h.1
    rw [List.map_cons, ih h.2, pick, List.getElem?_eq_getElem hi]
    simp [hi]
theorem AW.regionF' {P : Program} {s : St} {id : Nat} {l : List Oper} {Q : Exit → St → Prop} (fl hq al : List Nat) (n : Nat) {lf lh la lt : List Oper} (hm : P.follows .mixedOrders = true) (hB : regB l.toArray fl hq al n = true)
    (hi : ((fl ++ hq ++ al).all fun i => Nat.blt i l.length) = true) (e1 : pick l fl = lf) (e2 : pick l hq = lh) (e3 : pick l al = la) (e4 : l.drop n = lt)
    (h : AFl P l.toArray lf s fun s1 => AF P l.toArray lh s1 fun s2 => AA P l.toArray la s2 fun s3 => AOps P l.toArray lt s3 (Q .normal)) : AW P (.region id l.toArray true) Q s := by
  subst e1; subst e2; subst e3
  simp only [List.all_append, Bool.and_eq_true] at hi
  exact AW.regionF fl hq al n hm hB (pick_map hi.1.1) (pick_map hi.1.2) (pick_map hi.2) e4 h
end Go.Proofs.Ythhodpedkdapcaa.Al
