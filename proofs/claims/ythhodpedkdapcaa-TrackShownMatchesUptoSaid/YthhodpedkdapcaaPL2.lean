/-
  Plain laws of lists of attributes: walks over two lists.
-/
import Derived.Test.YthhodpedkdapcaaPL1
namespace Go.Proofs.Ythhodpedkdapcaa.Al
def nil2 : GAttr := ⟨[], []⟩
/-- The walk over two lists. -/
def bothL (stp : GAttr → GAttr → List GAttr → List GAttr) : List GAttr → List GAttr → List GAttr → List GAttr
  | [], [], c => c
  | x :: a, [], c => bothL stp a [] (stp x nil2 c)
  | [], y :: b, c => bothL stp [] b (stp nil2 y c)
  | x :: a, y :: b, c => if sLt x.Name y.Name then bothL stp a (y :: b) (stp x nil2 c) else if sLt y.Name x.Name then bothL stp (x :: a) b (stp nil2 y c) else bothL stp a b (stp x y c)
  termination_by a b => a.length + b.length
def bothStep (stp : GAttr → GAttr → List GAttr → List GAttr) (a b : List GAttr) (i j : Nat) (o : List GAttr) : Option ((Int × Int × List GAttr) ⊕ Ctl Unit (List GAttr)) :=
  if i < a.length ∨ j < b.length then
    if j = b.length ∨ (i < a.length ∧ sLt a[i]!.Name b[j]!.Name = true) then some (.inl (((i + 1 : Nat) : Int), (j : Int), stp a[i]! nil2 o))
    else if i = a.length ∨ sLt b[j]!.Name a[i]!.Name = true then some (.inl ((i : Int), ((j + 1 : Nat) : Int), stp nil2 b[j]! o))
    else some (.inl (((i + 1 : Nat) : Int), ((j + 1 : Nat) : Int), stp a[i]! b[j]! o))
  else some (.inr (.ext o))
theorem drop_cons {l : List GAttr} {i : Nat} (h : i < l.length) : l.drop i = l[i]! :: l.drop (i + 1) := by
  rw [List.drop_eq_getElem_cons h, getElem!_pos l i h]
theorem both_iter {f : (Int × Int × List GAttr) → Option ((Int × Int × List GAttr) ⊕ Ctl Unit (List GAttr))} (stp : GAttr → GAttr → List GAttr → List GAttr) (a b c : List GAttr) (B : Nat) (hstp : ∀ x y o, (stp x y o).length ≤ o.length + 1)
    (hf : ∀ (i j : Nat) (o : List GAttr), i ≤ a.length → j ≤ b.length → o.length + (a.length - i) + (b.length - j) ≤ B → f (i, j, o) = bothStep stp a b i j o) (hB : c.length + a.length + b.length ≤ B) : iter f (0, 0, c) = some (.ext (bothL stp a b c)) := by
  have key : ∀ (m i j : Nat) (o : List GAttr), i ≤ a.length → j ≤ b.length → (a.length - i) + (b.length - j) = m → o.length + m ≤ B → iter f ((i : Int), (j : Int), o) = some (.ext (bothL stp (a.drop i) (b.drop j) o)) := by
    intro m
    induction m using Nat.strongRecOn with
    | _ m ih =>
      intro i j o hi hj hm ho
      have hs := hf i j o hi hj (by omega)
      unfold bothStep at hs
      by_cases hia : i < a.length
      · rw [drop_cons hia]
        by_cases hjb : j < b.length
        · rw [drop_cons hjb]
          rw [if_pos (.inl hia)] at hs
          by_cases h1 : sLt a[i]!.Name b[j]!.Name = true
          · rw [if_pos (.inr ⟨hia, h1⟩)] at hs
            rw [iter_next hs, bothL, if_pos h1, ← drop_cons hjb]
            exact ih (m - 1) (by omega) (i + 1) j _ (by omega) hj (by omega) (by have := hstp a[i]! nil2 o; omega)
          · rw [if_neg (by rintro (h | h); omega; exact h1 h.2)] at hs
            by_cases h2 : sLt b[j]!.Name a[i]!.Name = true
            · rw [if_pos (.inr h2)] at hs
              rw [iter_next hs, bothL, if_neg h1, if_pos h2, ← drop_cons hia]
              exact ih (m - 1) (by omega) i (j + 1) _ hi (by omega) (by omega) (by have := hstp nil2 b[j]! o; omega)
            · rw [if_neg (by rintro (h | h); omega; exact h2 h)] at hs
              rw [iter_next hs, bothL, if_neg h1, if_neg h2]
              exact ih (m - 2) (by omega) (i + 1) (j + 1) _ (by omega) (by omega) (by omega) (by have := hstp a[i]! b[j]! o; omega)
        · have hjl : j = b.length := by omega
          rw [if_pos (.inl hia), if_pos (.inl hjl)] at hs
          have hd : b.drop j = [] := by rw [hjl]; simp
          rw [iter_next hs, hd, bothL, ← hd]
          exact ih (m - 1) (by omega) (i + 1) j _ (by omega) hj (by omega) (by have := hstp a[i]! nil2 o; omega)
      · have hil : i = a.length := by omega
        have hd : a.drop i = [] := by rw [hil]; simp
        by_cases hjb : j < b.length
        · rw [if_pos (.inr hjb), if_neg (by rintro (h | h); omega; omega), if_pos (.inl hil)] at hs
          rw [drop_cons hjb, iter_next hs, hd, bothL, ← hd]
          exact ih (m - 1) (by omega) i (j + 1) _ hi (by omega) (by omega) (by have := hstp nil2 b[j]! o; omega)
        · have hjl : j = b.length := by omega
          rw [if_neg (by omega)] at hs
          have hd2 : b.drop j = [] := by rw [hjl]; simp
          rw [iter_stop hs, hd, hd2, bothL]
  exact key _ 0 0 c (Nat.zero_le _) (Nat.zero_le _) rfl (by omega)
theorem app1 {o : List GAttr} {x : GAttr} (h : o.length + 1 ≤ 4398046511104) : app 32 o [x] = some (o ++ [x]) := by
  unfold app; rw [if_pos (by simp; omega)]
def stpRaw (x y : GAttr) (o : List GAttr) : List GAttr := if y.Name = [] then o ++ [x] else if y.Value = [] then o else o ++ [y]
def stpChange (x y : GAttr) (o : List GAttr) : List GAttr := if y.Name = [] then o ++ [⟨x.Name, []⟩] else if x = y then o else o ++ [y]
def stpBoth (x y : GAttr) (o : List GAttr) : List GAttr := o ++ [if y.Name = [] then x else y]
def stpWithout (x y : GAttr) (o : List GAttr) : List GAttr := if y.Name = [] then o ++ [x] else o
theorem stpRaw_len (x y o) : (stpRaw x y o).length ≤ o.length + 1 := by unfold stpRaw; split; simp; split <;> simp
theorem stpChange_len (x y o) : (stpChange x y o).length ≤ o.length + 1 := by unfold stpChange; split; simp; split <;> simp
theorem stpBoth_len (x y o) : (stpBoth x y o).length ≤ o.length + 1 := by unfold stpBoth; simp
theorem stpWithout_len (x y o) : (stpWithout x y o).length ≤ o.length + 1 := by unfold stpWithout; split <;> simp
theorem attr_Raw_f1_eq (c : List GAttr) (x y : GAttr) (h : c.length + 1 ≤ 4398046511104) : attr_Raw_f1 c x y = some (stpRaw x y c) := by
  unfold attr_Raw_f1 stpRaw
  rw [app1 h, app1 h]
  by_cases h1 : y.Name = [] <;> by_cases h2 : y.Value = [] <;> simp [h1, h2]
theorem attr_eq_iff (x y : GAttr) : x = y ↔ x.Name = y.Name ∧ x.Value = y.Value := by cases x; cases y; simp
theorem attr_Change_f1_eq (c : List GAttr) (x y : GAttr) (h : c.length + 1 ≤ 4398046511104) : attr_Change_f1 c x y = some (stpChange x y c) := by
  unfold attr_Change_f1 stpChange
  rw [app1 h, app1 h]
  simp only [attr_eq_iff]
  by_cases h1 : y.Name = []
  · simp [h1]
  · by_cases h2 : x.Name = y.Name <;> by_cases h3 : x.Value = y.Value <;> simp [h1, h2, h3]
theorem attr_Both_f1_eq (c : List GAttr) (x y : GAttr) (h : c.length + 1 ≤ 4398046511104) : attr_Both_f1 c x y = some (stpBoth x y c) := by
  unfold attr_Both_f1 stpBoth
  by_cases h1 : y.Name = [] <;> simp [h1, app1 h]
theorem attr_Without_f1_eq (c : List GAttr) (x y : GAttr) (h : c.length + 1 ≤ 4398046511104) : attr_Without_f1 c x y = some (stpWithout x y c) := by
  unfold attr_Without_f1 stpWithout
  rw [app1 h]
  by_cases h1 : y.Name = [] <;> simp [h1]
theorem attr_both__Raw_f1_step (a b : List GAttr) (i j : Nat) (o : List GAttr) (hab : a.length + b.length ≤ 4398046511104) (hi : i ≤ a.length) (hj : j ≤ b.length) (ho : o.length + (a.length - i) + (b.length - j) ≤ 4398046511104) : attr_both__Raw_f1_L1 a b i j o = bothStep stpRaw a b i j o := by
  unfold attr_both__Raw_f1_L1 bothStep
  by_cases hia : i < a.length
  · rw [if_pos (by simp; omega), if_pos (.inl hia), idx_nat hia]
    have e1 : decide ((i : Int) < (a.length : Int)) = true := by simp; omega
    have e2 : decide ((i : Int) = (a.length : Int)) = false := by simp; omega
    rw [e1, e2]
    by_cases hjb : j < b.length
    · have e3 : decide ((j : Int) = (b.length : Int)) = false := by simp; omega
      rw [e3, idx_nat hjb]
      simp only [beq_self_eq_true, Bool.true_and, Bool.and_self, gd_true, bnd1_some, Bool.false_or]
      rw [attr_Raw_f1_eq _ _ _ (by omega), attr_Raw_f1_eq _ _ _ (by omega), attr_Raw_f1_eq _ _ _ (by omega)]
      simp only [bnd1_some]
      rw [chk_nat (by omega), chk_nat (by omega)]
      simp only [bnd1_some]
      have hne : ¬ j = b.length := by omega
      have hni : ¬ i = a.length := by omega
      simp only [hne, hni, hia, true_and, false_or]; rfl
    · have hjl : j = b.length := by omega
      have e3 : decide ((j : Int) = (b.length : Int)) = true := by simp; omega
      rw [e3]
      have e4 : ((true == false) && (true == true)) = false := rfl
      rw [e4]
      simp only [gd_false, bnd1_some, Bool.true_or]
      rw [if_pos trivial, if_pos (.inl hjl), attr_Raw_f1_eq _ _ _ (by omega), bnd1_some, chk_nat (by omega), bnd1_some]; rfl
  · have hil : i = a.length := by omega
    have e1 : decide ((i : Int) < (a.length : Int)) = false := by simp; omega
    have e2 : decide ((i : Int) = (a.length : Int)) = true := by simp; omega
    rw [e1, e2]
    by_cases hjb : j < b.length
    · have e3 : decide ((j : Int) = (b.length : Int)) = false := by simp; omega
      have e5 : decide ((j : Int) < (b.length : Int)) = true := by simp; omega
      have hne : ¬ j = b.length := by omega
      rw [e3, e5, if_pos (by rfl), if_pos (.inr hjb), idx_nat hjb]
      have e4 : ((false == false) && (false == true)) = false := rfl
      have e6 : ((true == false)) = false := rfl
      rw [e4, e6]
      simp only [gd_false, bnd1_some, Bool.false_or, Bool.false_and, Bool.true_or, if_true, Bool.false_eq_true, if_false]
      have hx : ¬ (j = b.length ∨ i < a.length ∧ sLt a[i]!.Name b[j]!.Name = true) := by
        intro h; rcases h with h | h
        · exact hne h
        · exact hia h.1
      rw [if_neg hx, if_pos (.inl hil), attr_Raw_f1_eq _ _ _ (by omega), bnd1_some, chk_nat (by omega), bnd1_some]; rfl
    · have e5 : decide ((j : Int) < (b.length : Int)) = false := by simp; omega
      rw [e5, if_neg (by decide), if_neg (by omega)]
theorem attr_both__Raw_f1_eq (c a b : List GAttr) (h : c.length + a.length + b.length ≤ 4398046511104) : attr_both__Raw_f1 c a b = some (bothL stpRaw a b c) := by
  unfold attr_both__Raw_f1
  rw [both_iter stpRaw a b c 4398046511104 stpRaw_len (fun i j o h1 h2 h3 => attr_both__Raw_f1_step a b i j o (by omega) h1 h2 h3) h]; rfl
theorem attr_Raw_eq (a b : List GAttr) (h : a.length + b.length ≤ 4398046511104) : attr_Raw a b = some (bothL stpRaw a b []) := by
  unfold attr_Raw; rw [attr_both__Raw_f1_eq [] a b (by simpa using h)]; rfl
theorem attr_both__Change_f1_step (a b : List GAttr) (i j : Nat) (o : List GAttr) (hab : a.length + b.length ≤ 4398046511104) (hi : i ≤ a.length) (hj : j ≤ b.length) (ho : o.length + (a.length - i) + (b.length - j) ≤ 4398046511104) : attr_both__Change_f1_L1 a b i j o = bothStep stpChange a b i j o := by
  unfold attr_both__Change_f1_L1 bothStep
  by_cases hia : i < a.length
  · rw [if_pos (by simp; omega), if_pos (.inl hia), idx_nat hia]
    have e1 : decide ((i : Int) < (a.length : Int)) = true := by simp; omega
    have e2 : decide ((i : Int) = (a.length : Int)) = false := by simp; omega
    rw [e1, e2]
    by_cases hjb : j < b.length
    · have e3 : decide ((j : Int) = (b.length : Int)) = false := by simp; omega
      rw [e3, idx_nat hjb]
      simp only [beq_self_eq_true, Bool.true_and, Bool.and_self, gd_true, bnd1_some, Bool.false_or]
      rw [attr_Change_f1_eq _ _ _ (by omega), attr_Change_f1_eq _ _ _ (by omega), attr_Change_f1_eq _ _ _ (by omega)]
      simp only [bnd1_some]
      rw [chk_nat (by omega), chk_nat (by omega)]
      simp only [bnd1_some]
      have hne : ¬ j = b.length := by omega
      have hni : ¬ i = a.length := by omega
      simp only [hne, hni, hia, true_and, false_or]; rfl
    · have hjl : j = b.length := by omega
      have e3 : decide ((j : Int) = (b.length : Int)) = true := by simp; omega
      rw [e3]
      have e4 : ((true == false) && (true == true)) = false := rfl
      rw [e4]
      simp only [gd_false, bnd1_some, Bool.true_or]
      rw [if_pos trivial, if_pos (.inl hjl), attr_Change_f1_eq _ _ _ (by omega), bnd1_some, chk_nat (by omega), bnd1_some]; rfl
  · have hil : i = a.length := by omega
    have e1 : decide ((i : Int) < (a.length : Int)) = false := by simp; omega
    have e2 : decide ((i : Int) = (a.length : Int)) = true := by simp; omega
    rw [e1, e2]
    by_cases hjb : j < b.length
    · have e3 : decide ((j : Int) = (b.length : Int)) = false := by simp; omega
      have e5 : decide ((j : Int) < (b.length : Int)) = true := by simp; omega
      have hne : ¬ j = b.length := by omega
      rw [e3, e5, if_pos (by rfl), if_pos (.inr hjb), idx_nat hjb]
      have e4 : ((false == false) && (false == true)) = false := rfl
      have e6 : ((true == false)) = false := rfl
      rw [e4, e6]
      simp only [gd_false, bnd1_some, Bool.false_or, Bool.false_and, Bool.true_or, if_true, Bool.false_eq_true, if_false]
      have hx : ¬ (j = b.length ∨ i < a.length ∧ sLt a[i]!.Name b[j]!.Name = true) := by
        intro h; rcases h with h | h
        · exact hne h
        · exact hia h.1
      rw [if_neg hx, if_pos (.inl hil), attr_Change_f1_eq _ _ _ (by omega), bnd1_some, chk_nat (by omega), bnd1_some]; rfl
    · have e5 : decide ((j : Int) < (b.length : Int)) = false := by simp; omega
      rw [e5, if_neg (by decide), if_neg (by omega)]
theorem attr_both__Change_f1_eq (c a b : List GAttr) (h : c.length + a.length + b.length ≤ 4398046511104) : attr_both__Change_f1 c a b = some (bothL stpChange a b c) := by
  unfold attr_both__Change_f1
  rw [both_iter stpChange a b c 4398046511104 stpChange_len (fun i j o h1 h2 h3 => attr_both__Change_f1_step a b i j o (by omega) h1 h2 h3) h]; rfl
theorem attr_Change_eq (a b : List GAttr) (h : a.length + b.length ≤ 4398046511104) : attr_Change a b = some (bothL stpChange a b []) := by
  unfold attr_Change; rw [attr_both__Change_f1_eq [] a b (by simpa using h)]; rfl
theorem attr_both__Both_f1_step (a b : List GAttr) (i j : Nat) (o : List GAttr) (hab : a.length + b.length ≤ 4398046511104) (hi : i ≤ a.length) (hj : j ≤ b.length) (ho : o.length + (a.length - i) + (b.length - j) ≤ 4398046511104) : attr_both__Both_f1_L1 a b i j o = bothStep stpBoth a b i j o := by
  unfold attr_both__Both_f1_L1 bothStep
  by_cases hia : i < a.length
  · rw [if_pos (by simp; omega), if_pos (.inl hia), idx_nat hia]
    have e1 : decide ((i : Int) < (a.length : Int)) = true := by simp; omega
    have e2 : decide ((i : Int) = (a.length : Int)) = false := by simp; omega
    rw [e1, e2]
    by_cases hjb : j < b.length
    · have e3 : decide ((j : Int) = (b.length : Int)) = false := by simp; omega
      rw [e3, idx_nat hjb]
      simp only [beq_self_eq_true, Bool.true_and, Bool.and_self, gd_true, bnd1_some, Bool.false_or]
      rw [attr_Both_f1_eq _ _ _ (by omega), attr_Both_f1_eq _ _ _ (by omega), attr_Both_f1_eq _ _ _ (by omega)]
      simp only [bnd1_some]
      rw [chk_nat (by omega), chk_nat (by omega)]
      simp only [bnd1_some]
      have hne : ¬ j = b.length := by omega
      have hni : ¬ i = a.length := by omega
      simp only [hne, hni, hia, true_and, false_or]; rfl
    · have hjl : j = b.length := by omega
      have e3 : decide ((j : Int) = (b.length : Int)) = true := by simp; omega
      rw [e3]
      have e4 : ((true == false) && (true == true)) = false := rfl
      rw [e4]
      simp only [gd_false, bnd1_some, Bool.true_or]
      rw [if_pos trivial, if_pos (.inl hjl), attr_Both_f1_eq _ _ _ (by omega), bnd1_some, chk_nat (by omega), bnd1_some]; rfl
  · have hil : i = a.length := by omega
    have e1 : decide ((i : Int) < (a.length : Int)) = false := by simp; omega
    have e2 : decide ((i : Int) = (a.length : Int)) = true := by simp; omega
    rw [e1, e2]
    by_cases hjb : j < b.length
    · have e3 : decide ((j : Int) = (b.length : Int)) = false := by simp; omega
      have e5 : decide ((j : Int) < (b.length : Int)) = true := by simp; omega
      have hne : ¬ j = b.length := by omega
      rw [e3, e5, if_pos (by rfl), if_pos (.inr hjb), idx_nat hjb]
      have e4 : ((false == false) && (false == true)) = false := rfl
      have e6 : ((true == false)) = false := rfl
      rw [e4, e6]
      simp only [gd_false, bnd1_some, Bool.false_or, Bool.false_and, Bool.true_or, if_true, Bool.false_eq_true, if_false]
      have hx : ¬ (j = b.length ∨ i < a.length ∧ sLt a[i]!.Name b[j]!.Name = true) := by
        intro h; rcases h with h | h
        · exact hne h
        · exact hia h.1
      rw [if_neg hx, if_pos (.inl hil), attr_Both_f1_eq _ _ _ (by omega), bnd1_some, chk_nat (by omega), bnd1_some]; rfl
    · have e5 : decide ((j : Int) < (b.length : Int)) = false := by simp; omega
      rw [e5, if_neg (by decide), if_neg (by omega)]
theorem attr_both__Both_f1_eq (c a b : List GAttr) (h : c.length + a.length + b.length ≤ 4398046511104) : attr_both__Both_f1 c a b = some (bothL stpBoth a b c) := by
  unfold attr_both__Both_f1
  rw [both_iter stpBoth a b c 4398046511104 stpBoth_len (fun i j o h1 h2 h3 => attr_both__Both_f1_step a b i j o (by omega) h1 h2 h3) h]; rfl
theorem attr_Both_eq (a b : List GAttr) (h : a.length + b.length ≤ 4398046511104) : attr_Both a b = some (bothL stpBoth a b []) := by
  unfold attr_Both; rw [attr_both__Both_f1_eq [] a b (by simpa using h)]; rfl
theorem attr_both__Without_f1_step (a b : List GAttr) (i j : Nat) (o : List GAttr) (hab : a.length + b.length ≤ 4398046511104) (hi : i ≤ a.length) (hj : j ≤ b.length) (ho : o.length + (a.length - i) + (b.length - j) ≤ 4398046511104) : attr_both__Without_f1_L1 a b i j o = bothStep stpWithout a b i j o := by
  unfold attr_both__Without_f1_L1 bothStep
  by_cases hia : i < a.length
  · rw [if_pos (by simp; omega), if_pos (.inl hia), idx_nat hia]
    have e1 : decide ((i : Int) < (a.length : Int)) = true := by simp; omega
    have e2 : decide ((i : Int) = (a.length : Int)) = false := by simp; omega
    rw [e1, e2]
    by_cases hjb : j < b.length
    · have e3 : decide ((j : Int) = (b.length : Int)) = false := by simp; omega
      rw [e3, idx_nat hjb]
      simp only [beq_self_eq_true, Bool.true_and, Bool.and_self, gd_true, bnd1_some, Bool.false_or]
      rw [attr_Without_f1_eq _ _ _ (by omega), attr_Without_f1_eq _ _ _ (by omega), attr_Without_f1_eq _ _ _ (by omega)]
      simp only [bnd1_some]
      rw [chk_nat (by omega), chk_nat (by omega)]
      simp only [bnd1_some]
      have hne : ¬ j = b.length := by omega
      have hni : ¬ i = a.length := by omega
      simp only [hne, hni, hia, true_and, false_or]; rfl
    · have hjl : j = b.length := by omega
      have e3 : decide ((j : Int) = (b.length : Int)) = true := by simp; omega
      rw [e3]
      have e4 : ((true == false) && (true == true)) = false := rfl
      rw [e4]
      simp only [gd_false, bnd1_some, Bool.true_or]
      rw [if_pos trivial, if_pos (.inl hjl), attr_Without_f1_eq _ _ _ (by omega), bnd1_some, chk_nat (by omega), bnd1_some]; rfl
  · have hil : i = a.length := by omega
    have e1 : decide ((i : Int) < (a.length : Int)) = false := by simp; omega
    have e2 : decide ((i : Int) = (a.length : Int)) = true := by simp; omega
    rw [e1, e2]
    by_cases hjb : j < b.length
    · have e3 : decide ((j : Int) = (b.length : Int)) = false := by simp; omega
      have e5 : decide ((j : Int) < (b.length : Int)) = true := by simp; omega
      have hne : ¬ j = b.length := by omega
      rw [e3, e5, if_pos (by rfl), if_pos (.inr hjb), idx_nat hjb]
      have e4 : ((false == false) && (false == true)) = false := rfl
      have e6 : ((true == false)) = false := rfl
      rw [e4, e6]
      simp only [gd_false, bnd1_some, Bool.false_or, Bool.false_and, Bool.true_or, if_true, Bool.false_eq_true, if_false]
      have hx : ¬ (j = b.length ∨ i < a.length ∧ sLt a[i]!.Name b[j]!.Name = true) := by
        intro h; rcases h with h | h
        · exact hne h
        · exact hia h.1
      rw [if_neg hx, if_pos (.inl hil), attr_Without_f1_eq _ _ _ (by omega), bnd1_some, chk_nat (by omega), bnd1_some]; rfl
    · have e5 : decide ((j : Int) < (b.length : Int)) = false := by simp; omega
      rw [e5, if_neg (by decide), if_neg (by omega)]
theorem attr_both__Without_f1_eq (c a b : List GAttr) (h : c.length + a.length + b.length ≤ 4398046511104) : attr_both__Without_f1 c a b = some (bothL stpWithout a b c) := by
  unfold attr_both__Without_f1
  rw [both_iter stpWithout a b c 4398046511104 stpWithout_len (fun i j o h1 h2 h3 => attr_both__Without_f1_step a b i j o (by omega) h1 h2 h3) h]; rfl
theorem attr_Without_eq (a b : List GAttr) (h : a.length + b.length ≤ 4398046511104) : attr_Without a b = some (bothL stpWithout a b []) := by
  unfold attr_Without; rw [attr_both__Without_f1_eq [] a b (by simpa using h)]; rfl
theorem attr_Same_eq (a b : List GAttr) (hm : a.length ≤ 9223372036854775807) : attr_Same a b = some (decide (a = b)) := by
  unfold attr_Same
  by_cases hl : a.length = b.length
  · rw [if_neg (by simp [hl]), iter_find (n := a.length) (fun k => if decide (a[k]! = b[k]!) then none else some false) (fun k hk => by
      unfold attr_Same_L1
      rw [if_pos (by simpa using hk), idx_nat hk, idx_nat (by omega), bnd1_some, bnd1_some, chk_nat (by omega)]
      generalize a[k]! = x
      generalize b[k]! = y
      by_cases h : x = y
      · subst h; simp [stepOf]
      · have h' := h; rw [attr_eq_iff] at h'
        simp only [decide_eq_false h, Bool.and_true]
        by_cases h1 : x.Name = y.Name
        · have h2 : ¬ x.Value = y.Value := fun e => h' ⟨h1, e⟩
          simp [h1, h2, stepOf]
        · simp [h1, stepOf]) (by unfold attr_Same_L1; rw [if_neg (by simp)]), find_const, ctl_outOf]
    by_cases h : a = b
    · subst h; simp
    · rw [decide_eq_false h]
      have : ((List.range a.length).all fun k => decide (a[k]! = b[k]!)) = false := by
        rw [← Bool.not_eq_true, List.all_eq_true]
        intro hall
        apply h
        apply List.ext_getElem hl
        intro k h1 h2
        have := hall k (List.mem_range.2 h1)
        simp only [decide_eq_true_eq] at this
        rwa [getElem!_pos a k h1, getElem!_pos b k h2] at this
      rw [this]; rfl
  · rw [if_pos (by simp; omega), decide_eq_false (by rintro rfl; exact hl rfl)]
theorem ref_SameAttrs_eq (a b : List GAttr) (hm : a.length ≤ 9223372036854775807) : ref_SameAttrs a b = some (decide (a = b)) := by
  unfold ref_SameAttrs
  by_cases hl : a.length = b.length
  · rw [if_neg (by simp [hl]), iter_find (n := a.length) (fun k => if decide (a[k]! = b[k]!) then none else some false) (fun k hk => by
      unfold ref_SameAttrs_L1
      rw [if_pos (by simpa using hk), idx_nat hk, idx_nat (by omega), bnd1_some, bnd1_some, chk_nat (by omega)]
      generalize a[k]! = x
      generalize b[k]! = y
      by_cases h : x = y
      · subst h; simp [stepOf]
      · have h' := h; rw [attr_eq_iff] at h'
        simp only [decide_eq_false h, Bool.and_true]
        by_cases h1 : x.Name = y.Name
        · have h2 : ¬ x.Value = y.Value := fun e => h' ⟨h1, e⟩
          simp [h1, h2, stepOf]
        · simp [h1, stepOf]) (by unfold ref_SameAttrs_L1; rw [if_neg (by simp)]), find_const, ctl_outOf]
    by_cases h : a = b
    · subst h; simp
    · rw [decide_eq_false h]
      have : ((List.range a.length).all fun k => decide (a[k]! = b[k]!)) = false := by
        rw [← Bool.not_eq_true, List.all_eq_true]
        intro hall
        apply h
        apply List.ext_getElem hl
        intro k h1 h2
        have := hall k (List.mem_range.2 h1)
        simp only [decide_eq_true_eq] at this
        rwa [getElem!_pos a k h1, getElem!_pos b k h2] at this
      rw [this]; rfl
  · rw [if_pos (by simp; omega), decide_eq_false (by rintro rfl; exact hl rfl)]

theorem attr_Apply_eq (l ch : List GAttr) (h1 : okStr l) (h2 : okStr ch) (h : l.length + ch.length ≤ 4398046511104) :
    attr_Apply l ch = some (if attrErr l false ≠ 0 then ([], attrErr l false) else if attrErr ch true ≠ 0 then ([], attrErr ch true) else (bothL stpRaw l ch [], 0)) := by
  unfold attr_Apply
  rw [attr_Check_eq l h1 (by omega), bnd1_some]
  by_cases e1 : attrErr l false = 0
  · simp only [e1, decide_true, Bool.not_true, Bool.false_eq_true, if_false, ne_eq, not_true_eq_false]
    rw [attr_CheckChange_eq ch h2 (by omega), bnd1_some]
    by_cases e2 : attrErr ch true = 0
    · simp only [e2, decide_true, Bool.not_true, Bool.false_eq_true, if_false, not_true_eq_false]
      rw [attr_Raw_eq l ch h]; rfl
    · simp [e2]
  · simp [e1]
theorem okStr_of {l : List GAttr} (h : l.all (fun a => decide (a.Name.length ≤ 100) && decide (a.Value.length ≤ 1000)) = true) : okStr l := by
  intro a ha
  have := List.all_eq_true.1 h a ha
  simp only [Bool.and_eq_true, decide_eq_true_eq] at this
  omega
theorem law_attrs_eq : law_attrs = some true := by
  unfold law_attrs
  rw [attr_Apply_eq _ _ (okStr_of (by decide)) (okStr_of (by decide)) (by decide)]
  have e1 : attrErr [(GAttr.mk [97] [49]), (GAttr.mk [98] [50])] false = 0 := by decide
  have e2 : attrErr [(GAttr.mk [97] []), (GAttr.mk [99] [51])] true = 0 := by decide
  have e3 : bothL stpRaw [(GAttr.mk [97] [49]), (GAttr.mk [98] [50])] [(GAttr.mk [97] []), (GAttr.mk [99] [51])] [] = [(GAttr.mk [98] [50]), (GAttr.mk [99] [51])] := by
    simp [bothL, stpRaw, nil2, sLt, Op.bytesLess]
  rw [e1, e2, e3]
  simp only [ne_eq, not_true_eq_false, if_false, bnd2_some]
  rw [ref_SameAttrs_eq _ _ (by decide), attr_Name_eq _ (by decide)]
  rfl
theorem law_AttrCheckSays_true (s : List UInt8) (l : List GAttr) (hs : s.length ≤ 9223372036854775807) (h : okStr l) (hl : l.length ≤ 9223372036854775807) : law_AttrCheckSays s l = some true := by
  unfold law_AttrCheckSays
  rw [law_attrs_eq, attr_Name_eq s hs, ref_Name_eq s hs, attr_Check_eq l h hl, ref_AttrsError_eq l _ h hl, attr_CheckChange_eq l h hl, ref_AttrsError_eq l _ h hl, attr_Get_eq l s hl, ref_Get_eq l s hl]
  simp
end Go.Proofs.Ythhodpedkdapcaa.Al
