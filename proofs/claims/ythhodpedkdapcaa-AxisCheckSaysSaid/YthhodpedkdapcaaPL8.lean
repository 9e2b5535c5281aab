/-
  Plain laws of axes: where old rows go, the document's form and the program's.
-/
import Derived.Test.YthhodpedkdapcaaPL7
namespace Go.Proofs.Ythhodpedkdapcaa.Al
theorem rows_rep0 (n : Nat) (us : List Int) (f p t : Int) (h : f ≤ p) : ctlV (who p (rowsL (List.replicate n 0 ++ us) f) t) = if p < f + n then t + p - f else ctlV (who p (rowsL us (f + n)) (t + n)) := by
  induction n generalizing f t with
  | zero => rw [if_neg (by simp; omega)]; simp
  | succ n ih =>
    rw [List.replicate_succ, List.cons_append, rowsL, if_pos rfl, who]
    by_cases e : f = p
    · rw [if_pos e, if_pos (by omega)]; show t = _; omega
    · rw [if_neg e, ih (f + 1) (t + 1) (by omega)]
      rw [show f + 1 + (n : Int) = f + ((n + 1 : Nat) : Int) by omega, show t + 1 + (n : Int) = t + ((n + 1 : Nat) : Int) by omega, show t + 1 + p - (f + 1) = t + p - f by omega]
theorem rows_rep1 (n : Nat) (us : List Int) (f p t : Int) (h : 0 ≤ p) : who p (rowsL (List.replicate n 1 ++ us) f) t = who p (rowsL us f) (t + n) := by
  induction n generalizing t with
  | zero => simp
  | succ n ih =>
    rw [List.replicate_succ, List.cons_append, rowsL, if_neg (by decide), if_pos rfl, who, if_neg (by omega), ih, show t + 1 + (n : Int) = t + ((n + 1 : Nat) : Int) by omega]
theorem rows_rep2 (n : Nat) (us : List Int) (f : Int) : rowsL (List.replicate n 2 ++ us) f = rowsL us (f + n) := by
  induction n generalizing f with
  | zero => simp
  | succ n ih =>
    rw [List.replicate_succ, List.cons_append, rowsL, if_neg (by decide), if_neg (by decide), ih, show f + 1 + (n : Int) = f + ((n + 1 : Nat) : Int) by omega]
theorem rows_gt (us : List Int) (f p t : Int) (h0 : 0 ≤ p) (h : p < f) : who p (rowsL us f) t = .nrm () := by
  induction us generalizing f t with
  | nil => rfl
  | cons u us ih =>
    rw [rowsL]
    split
    · rw [who, if_neg (by omega)]; exact ih _ _ (by omega)
    · split
      · rw [who, if_neg (by omega)]; exact ih _ _ (by omega)
      · exact ih _ _ (by omega)
theorem where_place (a : List GAxisStep) (h : ∀ s ∈ a, Stp s) (f p t : Int) (h0 : 0 ≤ p) (hp : f ≤ p) : ctlV (who p (rowsL (units a) f) t) = ctlV (plo p a (f, t)) := by
  induction a generalizing f t with
  | nil => rfl
  | cons s a ih =>
    have hs := h s (List.mem_cons_self ..)
    have hr : ∀ s ∈ a, Stp s := fun x hx => h x (List.mem_cons_of_mem _ hx)
    unfold Stp at hs
    have hn : ((s.N.toNat : Nat) : Int) = s.N := by omega
    rw [units_cons, plo_cons]
    by_cases d1 : s.Kind = 1
    · rw [if_pos d1, d1, rows_rep1 _ _ _ _ _ h0, hn]; exact ih hr _ _ hp
    · rw [if_neg d1]
      by_cases d0 : s.Kind = 0
      · rw [d0, rows_rep0 _ _ _ _ _ hp, hn]
        simp only [if_true]
        split
        · rfl
        · exact ih hr _ _ (by omega)
      · have d2 : s.Kind = 2 := by omega
        rw [d2, rows_rep2, hn]
        simp only [show ¬ ((2 : Int) = 0) by decide, if_false]
        by_cases e : p < f + s.N
        · rw [if_pos e, rows_gt _ _ _ _ h0 e]; rfl
        · rw [if_neg e]; exact ih hr _ _ (by omega)
def cntOld : List Int → Int
  | [] => 0
  | u :: us => (if u = 1 then 0 else 1) + cntOld us
theorem cntOld_app (x y : List Int) : cntOld (x ++ y) = cntOld x + cntOld y := by
  induction x with
  | nil => simp [cntOld]
  | cons u x ih => rw [List.cons_append, cntOld, cntOld, ih]; omega
theorem cntOld_rep (n : Nat) (k : Int) : cntOld (List.replicate n k) = if k = 1 then 0 else n := by
  induction n with
  | zero => simp [cntOld]
  | succ n ih => rw [List.replicate_succ, cntOld, ih]; split <;> omega
theorem cntOld_units (a : List GAxisStep) (h : ∀ s ∈ a, Stp s) : cntOld (units a) = oldLen a := by
  induction a with
  | nil => simp [cntOld, units, oldLen]
  | cons s a ih =>
    have hs := h s (List.mem_cons_self ..)
    unfold Stp at hs
    rw [units_cons, cntOld_app, cntOld_rep, oldLen_cons, ih fun x hx => h x (List.mem_cons_of_mem _ hx)]
    unfold oldN
    split <;> omega
theorem law_axes_eq : law_axes = some true := by
  unfold law_axes
  rw [axis_Apply_eq _ _ (by decide) (by decide)]
  have e : axErr [GAxisStep.mk 0 2, GAxisStep.mk 1 3, GAxisStep.mk 0 1] = 0 := by decide +kernel
  rw [e, if_neg (by decide)]
  have e2 : apo [GAxisStep.mk 0 2, GAxisStep.mk 1 3, GAxisStep.mk 0 1] (oldLen [GAxisStep.mk 0 2, GAxisStep.mk 1 3, GAxisStep.mk 0 1]) [1, 2] [] = .nrm [1, 5] := by rfl
  rw [e2]
  simp only [ctl1_nrm, bnd2_some]
  rw [ref_SameInts_eq _ _ (by decide)]
  rfl
theorem cnt_iter {f : Int × Int → Option ((Int × Int) ⊕ Int)} (us : List Int) (hm : us.length ≤ 1099511627776)
    (h1 : ∀ o (k : Nat), k < us.length → f (o, (k : Int)) = bnd1 (if (!decide (us[k]! = 1)) = true then (bnd1 (chk .i64 (o + 1)) fun (y : Int) => some y) else some o) fun z => bnd1 (chk .i64 ((k : Int) + 1)) fun x => some (.inl (z, x))) (h2 : ∀ o, f (o, (us.length : Int)) = some (.inr o)) :
    iter f (0, 0) = some (cntOld us) := by
  rw [iter_walk (f := f) us (fun (c : Int) k => (c, (k : Int))) (fun l c => c + cntOld l) (fun k c => 0 ≤ c ∧ c ≤ k)
    (fun k c hk hI => by
      left
      rw [h1 _ _ hk, chk_nat (by omega), chk_ok (by omega) (by omega), cntOld]
      generalize us[k]! = u
      by_cases d : u = 1
      · exact ⟨c, by simp [d], by omega, by simp [d]⟩
      · exact ⟨c + 1, by simp [d], by omega, by simp [d]; omega⟩)
    (fun c hI => by rw [h2]; simp [cntOld]) 0 (by simp) (0, 0) rfl]
  simp
def lwo (us : List Int) (old : Int) (bad : Bool) : List Int → List Int → Ctl (List Int) Bool
  | [], w => .nrm w
  | x :: l, w => if x < 0 ∨ old ≤ x then .ext bad else lwo us old bad l (w ++ [ctlV (who x (rowsL us 0) 0)])
theorem lwo_cons (us : List Int) (old : Int) (bad : Bool) (x : Int) (l w : List Int) : lwo us old bad (x :: l) w = if x < 0 ∨ old ≤ x then .ext bad else lwo us old bad l (w ++ [ctlV (who x (rowsL us 0) 0)]) := rfl
theorem law_AxisApply_L2_eq (ps r2 : List Int) (r3 : Int) (us : List Int) (old : Int) (hp : ps.length ≤ 1048576) (hu : us.length ≤ 1048576) (ho : 0 ≤ old ∧ old ≤ 2147483647) :
    iter (fun (a : Int × (List Int)) => law_AxisApplyMatches_L2 ps r2 r3 us old a.1 a.2) (0, []) = some (lwo us old ((decide (r3 = 2)) && (decide ((r2.length : Int) = 0))) ps []) := by
  rw [iter_walk (f := fun (a : Int × (List Int)) => law_AxisApplyMatches_L2 ps r2 r3 us old a.1 a.2) ps (fun (c : List Int) k => ((k : Int), c)) (lwo us old ((decide (r3 = 2)) && (decide ((r2.length : Int) = 0)))) (fun k c => c.length ≤ k)
      (fun k c hk hI => by
        unfold law_AxisApplyMatches_L2
        rw [lwo_cons]
        simp only
        rw [if_pos (by simpa using hk), idx_nat hk, bnd1_some, chk_nat (by omega), chk_ok (by omega) (by omega), bnd1_some, ref_In_eq, bnd1_some]
        generalize ps[k]! = x
        by_cases d : x < 0 ∨ old ≤ x
        · right
          rw [if_pos d, if_pos (by simp; omega)]
        · left
          rw [if_neg d, if_neg (by simp; omega), ref_Where_eq _ _ (by omega), bnd1_some, app8 (by omega)]
          exact ⟨_, rfl, by simp; omega, rfl⟩)
      (fun c hI => by unfold law_AxisApplyMatches_L2; rw [if_neg (by simp)]; rfl) [] (by simp) (0, []) rfl]
theorem apo_lwo (a : List GAxisStep) (h : ∀ s ∈ a, Stp s) (old : Int) (bad : Bool) (ps : List Int) (out : List Int) :
    (∃ l, apo a old ps out = .nrm l ∧ lwo (units a) old bad ps out = .nrm l) ∨ (apo a old ps out = .ext ([], 2) ∧ lwo (units a) old bad ps out = .ext bad) := by
  induction ps generalizing out with
  | nil => exact .inl ⟨out, rfl, rfl⟩
  | cons x ps ih =>
    rw [apo_cons, lwo_cons]
    by_cases d : x < 0 ∨ old ≤ x
    · right; rw [if_pos d, if_pos d]; exact ⟨rfl, rfl⟩
    · rw [if_neg d, if_neg d, where_place a h 0 x 0 (by omega) (by omega)]
      exact ih _
theorem apo_len (a : List GAxisStep) (r : Int) (ps out : List Int) {l : List Int} (h : apo a r ps out = .nrm l) : l.length = out.length + ps.length := by
  induction ps generalizing out with
  | nil => cases h; simp
  | cons x ps ih =>
    rw [apo_cons] at h
    split at h
    · cases h
    · rw [ih _ h]; simp; omega
theorem law_AxisApply_true (a : List GAxisStep) (ps : List Int) (hm : a.length ≤ 9223372036854775807) (hp : ps.length ≤ 1048576) : law_AxisApplyMatches a ps = some true := by
  unfold law_AxisApplyMatches
  rw [law_axes_eq, bnd1_some, if_neg (by decide), axis_Apply_eq a ps hm hp, ref_AxisError_eq a (by omega)]
  by_cases he : axErr a = 0
  · have hg := goodA_of he
    have hl := lens_pos hg.stp
    have hol := hg.olds
    rw [he, if_neg (by decide)]
    have hsz := size_pos hg.stp
    rcases apo_lwo a hg.stp (oldLen a) true ps [] with ⟨l, h1, h2⟩ | ⟨h1, h2⟩
    · have hll := apo_len _ _ _ _ h1
      rw [h1]
      simp only [ctl1_nrm, bnd2_some, bnd1_some]
      rw [if_neg (by decide), law_few_eq a hg, bnd1_some]
      by_cases hf : sizeLen a ≤ 300
      · rw [decide_eq_true hf, if_neg (by decide), ref_Units_eq a hg.stp (by omega), bnd1_some, cnt_iter (units a) (by omega) (fun o k hk => by
          unfold law_AxisApplyMatches_L1
          rw [if_pos (by simpa using hk), idx_nat hk, bnd1_some]) (fun o => by unfold law_AxisApplyMatches_L1; rw [if_neg (by simp)]), bnd1_some, cntOld_units a hg.stp,
          law_AxisApply_L2_eq ps l 0 (units a) (oldLen a) hp (by omega) (by omega)]
        rcases apo_lwo a hg.stp (oldLen a) ((decide ((0 : Int) = 2)) && (decide ((l.length : Int) = 0))) ps [] with ⟨l', h3, h4⟩ | ⟨h3, h4⟩
        · rw [h1] at h3; cases h3
          rw [h4]
          simp only [ctl1_nrm, decide_true, beq_self_eq_true, gd_true]
          rw [ref_SameInts_eq _ _ (by simp at hll; omega)]
          simp
        · rw [h1] at h3; cases h3
      · rw [decide_eq_false hf]; simp
    · rw [h1]
      simp only [ctl1_ext, bnd2_some, bnd1_some]
      rw [if_neg (by decide), law_few_eq a hg, bnd1_some]
      by_cases hf : sizeLen a ≤ 300
      · rw [decide_eq_true hf, if_neg (by decide), ref_Units_eq a hg.stp (by omega), bnd1_some, cnt_iter (units a) (by omega) (fun o k hk => by
          unfold law_AxisApplyMatches_L1
          rw [if_pos (by simpa using hk), idx_nat hk, bnd1_some]) (fun o => by unfold law_AxisApplyMatches_L1; rw [if_neg (by simp)]), bnd1_some, cntOld_units a hg.stp,
          law_AxisApply_L2_eq ps [] 2 (units a) (oldLen a) hp (by omega) (by omega)]
        rcases apo_lwo a hg.stp (oldLen a) ((decide ((2 : Int) = 2)) && (decide ((([] : List Int).length : Int) = 0))) ps [] with ⟨l', h3, h4⟩ | ⟨h3, h4⟩
        · rw [h1] at h3; cases h3
        · rw [h4]; rfl
      · rw [decide_eq_false hf]; simp
  · rw [if_pos he]
    simp only [bnd2_some, bnd1_some]
    rw [if_pos (by simpa using he)]
    simp
end Go.Proofs.Ythhodpedkdapcaa.Al
