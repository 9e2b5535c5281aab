/-
  Plain laws of axes: Check, Lengths, Keep.
-/
import Derived.Test.YthhodpedkdapcaaPL8
namespace Go.Proofs.Ythhodpedkdapcaa.Al
theorem axis_Lengths_eq (a : List GAxisStep) (hm : a.length ≤ 9223372036854775807) : axis_Lengths a = some (if axErr a ≠ 0 then (0, 0, axErr a) else (oldLen a, nowLen a, 0)) := by
  unfold axis_Lengths
  rw [axis_Check_eq a hm, bnd1_some]
  by_cases he : axErr a = 0
  · rw [if_neg (show ¬ ((!decide (axErr a = 0)) = true) by simpa using he), if_neg (show ¬ (axErr a ≠ 0) by simpa using he), axis_lengths_eq a (goodA_of he), bnd2_some]
  · rw [if_pos (by simpa using he), if_pos he]
theorem axErr_nil : axErr [] = 0 := by decide
theorem axErr_keep (n : Int) (h1 : 1 ≤ n) (h2 : n ≤ 2147483647) : axErr [GAxisStep.mk 0 n] = 0 := by
  rw [axErr_none]
  · have : oldLen [GAxisStep.mk 0 n] = n ∧ nowLen [GAxisStep.mk 0 n] = n := by simp [oldLen, nowLen, oldN, nowN]
    rw [if_neg (by omega)]
  · intro j hj
    obtain rfl : j = 0 := by simpa using hj
    unfold errS
    have e : ([GAxisStep.mk 0 n] : List GAxisStep)[0]! = GAxisStep.mk 0 n := rfl
    rw [e]
    simp only
    rw [if_neg (by omega), if_neg (by omega), if_neg (by omega)]
def keepL (n : Int) : List GAxisStep := if n = 0 then [] else [GAxisStep.mk 0 n]
theorem axis_Keep_eq (n : Int) : axis_Keep n = some (if n < 0 ∨ 2147483647 < n then ([], 2) else (keepL n, 0)) := by
  unfold axis_Keep
  by_cases h : n < 0 ∨ 2147483647 < n
  · rw [if_pos (by simpa using h), if_pos h]
  · rw [if_neg (by simpa using h), if_neg h]
    unfold axis_writer_put axis_writer_done axis_writer_flush keepL
    by_cases h0 : n = 0
    · subst h0
      rw [if_pos rfl]
      simp only [decide_true, if_true, bnd1_some]
      rw [if_neg (by decide), bnd1_some, if_neg (by decide), bnd1_some, bnd1_some, axis_Check_eq _ (by simp), bnd1_some, axErr_nil]
      rfl
    · rw [if_neg (by simpa using h0), if_neg h0, if_neg (by decide), if_neg (by decide), if_neg (by decide), bnd1_some, if_neg (by decide), bnd1_some, bnd1_some]
      have e1 : chk .i64 (((([] : List GAxisStep).length : Nat) : Int) - 1) = some (-1) := by decide
      have e2 : app 16 ([] : List GAxisStep) [GAxisStep.mk 0 n] = some [GAxisStep.mk 0 n] := by unfold app; rw [if_pos (by simp)]; rfl
      simp only [e1, e2, bnd1_some]
      rw [show ((decide ((0 : Int) ≤ -1)) == true) = false by decide, gd_false, bnd1_some, if_neg (by decide), bnd1_some, if_neg (show ¬ (decide ((0 : Int) < 0) = true) by decide), bnd1_some, if_neg (show ¬ (decide ((0 : Int) < 0) = true) by decide), bnd1_some, bnd1_some, axis_Check_eq _ (by simp), bnd1_some, axErr_keep n (by omega) (by omega)]
      rfl
theorem keep_lens (n : Int) (h : 0 ≤ n) (h2 : n ≤ 2147483647) : axErr (keepL n) = 0 ∧ oldLen (keepL n) = n ∧ nowLen (keepL n) = n := by
  unfold keepL
  by_cases h0 : n = 0
  · subst h0; rw [if_pos rfl]; exact ⟨axErr_nil, by simp [oldLen], by simp [nowLen]⟩
  · rw [if_neg h0]; exact ⟨axErr_keep n (by omega) h2, by simp [oldLen, oldN], by simp [nowLen, nowN]⟩
theorem law_AxisCheckSays_loop (a : List GAxisStep) (hg : GoodA a) : iter (fun (c : Int × Int × Int) => law_AxisCheckSays_L1 a c.1 c.2.1 c.2.2) (oldLen a, nowLen a, 0) = some (0, 0) := by
  have hm := hg.len
  have := iter_walk (f := fun (c : Int × Int × Int) => law_AxisCheckSays_L1 a c.1 c.2.1 c.2.2) a (fun (c : Int × Int) k => (c.1, c.2, (k : Int))) (fun l (c : Int × Int) => (c.1 - oldLen l, c.2 - nowLen l))
    (fun k c => 0 ≤ c.1 ∧ c.1 ≤ 2147483647 ∧ 0 ≤ c.2 ∧ c.2 ≤ 2147483647 ∧ c.1 = oldLen (a.drop k) ∧ c.2 = nowLen (a.drop k))
    (fun k c hk hI => by
      left
      have hs := stp_at hg.stp hk
      have hd := lens_pos (a := a.drop (k + 1)) (fun s hs => hg.stp s (List.mem_of_mem_drop hs))
      obtain ⟨o, w⟩ := c
      unfold law_AxisCheckSays_L1
      simp only at hI ⊢
      rw [drop_at hk, oldLen_cons, nowLen_cons] at hI
      rw [if_pos (by simpa using hk), idx_nat hk, bnd1_some, chk_nat (by omega), oldLen_cons, nowLen_cons]
      generalize a[k]! = x at hs hI ⊢
      unfold Stp at hs
      rw [chk_ok (by omega) (by omega), chk_ok (by omega) (by omega)]
      refine ⟨(o - oldN x, w - nowN x), ?_, ?_, ?_⟩
      · unfold oldN nowN
        by_cases d1 : x.Kind = 1
        · simp [d1]
        · by_cases d2 : x.Kind = 2 <;> simp [d1, d2]
      · have : 0 ≤ oldN x ∧ 0 ≤ nowN x := by unfold oldN nowN; split <;> split <;> omega
        simp only; omega
      · simp only; congr 1 <;> omega)
    (fun c hI => by unfold law_AxisCheckSays_L1; rw [if_neg (by simp)]; simp [oldLen, nowLen]) (oldLen a, nowLen a) (by
      have := lens_pos hg.stp
      have h1 := hg.olds
      have h2 := hg.nows
      exact ⟨this.1, h1, this.2, h2, rfl, rfl⟩) (oldLen a, nowLen a, 0) rfl
  rw [this]
  simp
theorem law_AxisCheckSays_true (a : List GAxisStep) (n : Int) (hm : a.length ≤ 9223372036854775807) : law_AxisCheckSays a n = some true := by
  unfold law_AxisCheckSays
  rw [law_axes_eq, bnd1_some, if_neg (by decide), axis_Lengths_eq a hm, ref_AxisError_eq a hm, axis_Keep_eq, axis_Check_eq a hm]
  have key : ∀ (r5 : List GAxisStep) (r6 : Int), (r5, r6) = (if n < 0 ∨ 2147483647 < n then ([], 2) else (keepL n, 0)) →
      ((if ((decide (n < 0)) || (decide (2147483647 < n))) then (
          if ((!decide (r6 = 2)) || (!decide ((r5.length : Int) = 0))) then (some (.ext false)) else (some (.nrm ()))
        ) else (
          bnd3 (axis_Lengths r5) fun (r8 : Int) (r9 : Int) (r10 : Int) =>
          if ((((!decide (r6 = 0)) || (!decide (r10 = 0))) || (!decide (r8 = n))) || (!decide (r9 = n))) then (some (.ext false)) else (some (.nrm ()))) : Option (Ctl Unit Bool))) = some (.nrm ()) := by
    intro r5 r6 h
    by_cases hc : n < 0 ∨ 2147483647 < n
    · rw [if_pos hc] at h
      injection h with h1 h2
      subst h1; subst h2
      rw [if_pos (by simpa using hc)]; rfl
    · rw [if_neg hc] at h
      injection h with h1 h2
      subst h1; subst h2
      obtain ⟨k1, k2, k3⟩ := keep_lens n (by omega) (by omega)
      rw [if_neg (by simpa using hc), axis_Lengths_eq _ (by unfold keepL; split <;> simp), if_neg (show ¬ (axErr (keepL n) ≠ 0) by simpa using k1), k2, k3]
      simp
  generalize hr : (if n < 0 ∨ 2147483647 < n then (([] : List GAxisStep), (2 : Int)) else (keepL n, 0)) = r at key
  obtain ⟨r5, r6⟩ := r
  have key := key r5 r6 rfl
  by_cases he : axErr a = 0
  · have hg := goodA_of he
    rw [if_neg (show ¬ (axErr a ≠ 0) by simpa using he), he]
    simp only [bnd3_some, bnd1_some, bnd2_some]
    rw [if_neg (by decide), key, ctl1_nrm, if_neg (by decide), law_AxisCheckSays_loop a hg]
    rfl
  · rw [if_pos he]
    simp only [bnd3_some, bnd1_some, bnd2_some]
    rw [if_neg (by simp), key, ctl1_nrm, if_pos (by simpa using he)]
    rfl
end Go.Proofs.Ythhodpedkdapcaa.Al
