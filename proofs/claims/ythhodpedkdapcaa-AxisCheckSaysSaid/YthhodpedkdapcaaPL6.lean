/-
  Plain laws of axes: loops by invariants; errors.
-/
import Derived.Test.YthhodpedkdapcaaPL0
import Derived.Test.YthhodpedkdapcaaMod1
namespace Go.Proofs.Ythhodpedkdapcaa.Al
/-- A loop by an invariant. -/
theorem iter_hoare {σ β : Type} {f : σ → Option (σ ⊕ β)} (n : Nat) (R : Nat → σ → Prop) (Q : β → Prop)
    (h1 : ∀ k s, k < n → R k s → (∃ s', f s = some (.inl s') ∧ R (k + 1) s') ∨ (∃ b, f s = some (.inr b) ∧ Q b))
    (h2 : ∀ s, R n s → ∃ b, f s = some (.inr b) ∧ Q b) {s : σ} (h0 : R 0 s) : ∃ b, iter f s = some b ∧ Q b := by
  have key : ∀ m k s, k + m = n → R k s → ∃ b, iter f s = some b ∧ Q b := by
    intro m
    induction m with
    | zero =>
      intro k s hk hR
      obtain rfl : k = n := by omega
      obtain ⟨b, hb, hq⟩ := h2 s hR
      exact ⟨b, iter_stop hb, hq⟩
    | succ m ih =>
      intro k s hk hR
      rcases h1 k s (by omega) hR with ⟨s', h3, h4⟩ | ⟨b, h3, h4⟩
      · obtain ⟨b, h5, h6⟩ := ih (k + 1) s' (by omega) h4
        exact ⟨b, by rw [iter_next h3, h5], h6⟩
      · exact ⟨b, iter_stop h3, h4⟩
  exact key n 0 s (by omega) h0
theorem drop_at {α : Type} [Inhabited α] {l : List α} {k : Nat} (h : k < l.length) : l.drop k = l[k]! :: l.drop (k + 1) := by
  rw [List.drop_eq_getElem_cons h, getElem!_pos l k h]
theorem take_at {α : Type} [Inhabited α] {l : List α} {k : Nat} (h : k < l.length) : l.take (k + 1) = l.take k ++ [l[k]!] := by
  rw [List.take_add_one, List.getElem?_eq_getElem h, getElem!_pos l k h]; rfl
theorem mem_at {α : Type} [Inhabited α] {l : List α} {k : Nat} (h : k < l.length) : l[k]! ∈ l := by
  rw [getElem!_pos l k h]; exact List.getElem_mem h

/-! Axes. -/
def axN (s : GAxisStep) : Int := s.N
def oldN (s : GAxisStep) : Int := if s.Kind = 1 then 0 else s.N
def nowN (s : GAxisStep) : Int := if s.Kind = 2 then 0 else s.N
def oldLen (a : List GAxisStep) : Int := (a.map oldN).sum
def nowLen (a : List GAxisStep) : Int := (a.map nowN).sum
theorem oldLen_at {a : List GAxisStep} {k : Nat} (h : k < a.length) : oldLen (a.take (k + 1)) = oldLen (a.take k) + oldN a[k]! := by
  unfold oldLen; rw [take_at h]; simp
theorem nowLen_at {a : List GAxisStep} {k : Nat} (h : k < a.length) : nowLen (a.take (k + 1)) = nowLen (a.take k) + nowN a[k]! := by
  unfold nowLen; rw [take_at h]; simp
def errS (a : List GAxisStep) (k : Nat) : Option Int :=
  if a[k]!.Kind < 0 ∨ 2 < a[k]!.Kind then some 8 else if a[k]!.N < 1 ∨ 2147483647 < a[k]!.N then some 2
  else if 0 < k ∧ (a[k - 1]!.Kind = a[k]!.Kind ∨ (a[k - 1]!.Kind = 2 ∧ a[k]!.Kind = 1)) then some 5 else none
def axErr (a : List GAxisStep) : Int :=
  match (List.range a.length).findSome? (errS a) with
  | some e => e
  | none => if 2147483647 < oldLen a ∨ 2147483647 < nowLen a then 3 else 0
theorem find_first {ρ : Type} {n k : Nat} {g : Nat → Option ρ} {r : ρ} (hk : k < n) (h1 : ∀ j, j < k → g j = none) (h2 : g k = some r) : (List.range n).findSome? g = some r := by
  obtain ⟨m, rfl⟩ : ∃ m, n = k + (m + 1) := ⟨n - k - 1, by omega⟩
  rw [List.range_eq_range', ← List.range'_append (s := 0) (m := k) (n := m + 1) (step := 1), List.findSome?_append]
  have : (List.range' 0 k).findSome? g = none := by
    rw [List.findSome?_eq_none_iff]; intro x hx; exact h1 x (by simpa using hx)
  rw [this, Nat.one_mul, Nat.zero_add, List.range'_succ, List.findSome?_cons, h2]; rfl
theorem find_none {ρ : Type} {n : Nat} {g : Nat → Option ρ} (h1 : ∀ j, j < n → g j = none) : (List.range n).findSome? g = none := by
  rw [List.findSome?_eq_none_iff]; intro x hx; exact h1 x (by simpa using hx)
/-- Steps whose kinds and numbers are right. -/
def Stp (s : GAxisStep) : Prop := 0 ≤ s.Kind ∧ s.Kind ≤ 2 ∧ 1 ≤ s.N ∧ s.N ≤ 2147483647
theorem stp_of {a : List GAxisStep} {k : Nat} (h : errS a k = none) : Stp a[k]! := by
  unfold errS at h
  unfold Stp
  split at h
  · cases h
  · split at h
    · cases h
    · omega
theorem good_take {a : List GAxisStep} {k : Nat} (hk : k ≤ a.length) (h : ∀ j, j < k → Stp a[j]!) : 0 ≤ oldLen (a.take k) ∧ oldLen (a.take k) ≤ k * 2147483647 ∧ 0 ≤ nowLen (a.take k) ∧ nowLen (a.take k) ≤ k * 2147483647 := by
  induction k with
  | zero => simp [oldLen, nowLen]
  | succ k ih =>
    have := ih (by omega) (fun j hj => h j (by omega))
    have hs := h k (by omega)
    rw [oldLen_at (by omega), nowLen_at (by omega)]
    unfold oldN nowN
    unfold Stp at hs
    omega
theorem axErr_some {a : List GAxisStep} {k : Nat} {r : Int} (hk : k < a.length) (h1 : ∀ j, j < k → errS a j = none) (h2 : errS a k = some r) : axErr a = r := by
  unfold axErr; rw [find_first hk h1 h2]
theorem axErr_none {a : List GAxisStep} (h1 : ∀ j, j < a.length → errS a j = none) : axErr a = if 2147483647 < oldLen a ∨ 2147483647 < nowLen a then 3 else 0 := by
  unfold axErr; rw [find_none h1]
theorem chk_ok {x : Int} (h1 : -9223372036854775808 ≤ x) (h2 : x ≤ 9223372036854775807) : chk .i64 x = some x := chk64 h1 h2
theorem axis_Check_eq (a : List GAxisStep) (hm : a.length ≤ 9223372036854775807) : axis_Check a = some (axErr a) := by
  unfold axis_Check
  obtain ⟨b, hb, hq⟩ := iter_hoare (f := fun (x : Int × Int × Int) => axis_Check_L1 a x.1 x.2.1 x.2.2) a.length
    (fun k s => s = (min (oldLen (a.take k)) 2147483648, min (nowLen (a.take k)) 2147483648, (k : Int)) ∧ ∀ j, j < k → errS a j = none)
    (fun b => b = match (List.range a.length).findSome? (errS a) with | some e => .ext e | none => .nrm (min (oldLen a) 2147483648, min (nowLen a) 2147483648))
    (fun k s hk hR => by
      obtain ⟨rfl, hg⟩ := hR
      have hlen := good_take (a := a) (k := k) (by omega) (fun j hj => stp_of (hg j hj))
      unfold axis_Check_L1
      simp only
      rw [if_pos (by simpa using hk), idx_nat hk, bnd1_some, chk_nat (by omega)]
      cases he : errS a k with
      | some r =>
        right
        rw [find_first hk hg he]
        refine ⟨_, ?_, rfl⟩
        unfold errS at he
        by_cases c1 : a[k]!.Kind < 0 ∨ 2 < a[k]!.Kind
        · rw [if_pos c1] at he; cases he
          rw [if_pos (by simpa using c1)]; rfl
        rw [if_neg c1] at he
        rw [if_neg (by simpa using c1)]
        by_cases c2 : a[k]!.N < 1 ∨ 2147483647 < a[k]!.N
        · rw [if_pos c2] at he; cases he
          rw [if_pos (by simpa using c2)]; rfl
        rw [if_neg c2] at he
        rw [if_neg (by simpa using c2)]
        by_cases c3 : 0 < k ∧ (a[k - 1]!.Kind = a[k]!.Kind ∨ (a[k - 1]!.Kind = 2 ∧ a[k]!.Kind = 1))
        · rw [if_pos c3] at he; cases he
          have h0 : decide ((0 : Int) < (k : Int)) = true := by simp; omega
          rw [h0, chk_pred c3.1 (by omega)]
          simp only [beq_self_eq_true, gd_true, bnd1_some, Bool.true_and]
          rw [idx_nat (by omega), bnd1_some, if_pos (by simpa using c3.2)]; rfl
        · rw [if_neg c3] at he; cases he
      | none =>
        left
        have hs := stp_of he
        have h0 := he
        unfold errS at he
        by_cases c1 : a[k]!.Kind < 0 ∨ 2 < a[k]!.Kind
        · rw [if_pos c1] at he; cases he
        rw [if_neg c1] at he
        rw [if_neg (by simpa using c1)]
        by_cases c2 : a[k]!.N < 1 ∨ 2147483647 < a[k]!.N
        · rw [if_pos c2] at he; cases he
        rw [if_neg c2] at he
        rw [if_neg (by simpa using c2)]
        by_cases c3 : 0 < k ∧ (a[k - 1]!.Kind = a[k]!.Kind ∨ (a[k - 1]!.Kind = 2 ∧ a[k]!.Kind = 1))
        · rw [if_pos c3] at he; cases he
        clear he
        have e3 : k = 0 ∨ (0 < k ∧ ¬ (a[k - 1]!.Kind = a[k]!.Kind ∨ (a[k - 1]!.Kind = 2 ∧ a[k]!.Kind = 1))) := by
          by_cases h0 : k = 0
          · exact .inl h0
          · exact .inr ⟨by omega, fun h => c3 ⟨by omega, h⟩⟩
        have hR' : ∀ j, j < k + 1 → errS a j = none := fun j hj => by
          rcases Nat.lt_or_ge j k with h | h
          · exact hg j h
          · obtain rfl : j = k := by omega
            exact h0
        have fin : (ctl2 (bnd1 (if (!decide (a[k]!.Kind = 1)) = true then (bnd1 (chk .i64 (min (oldLen (a.take k)) 2147483648 + a[k]!.N)) fun (x9 : Int) => some (min x9 2147483648)) else some (min (oldLen (a.take k)) 2147483648)) fun (before6 : Int) =>
            if (!decide (a[k]!.Kind = 2)) = true then (bnd1 (chk .i64 (min (nowLen (a.take k)) 2147483648 + a[k]!.N)) fun (x8 : Int) => some (.nrm (before6, min x8 2147483648))) else some (.nrm (before6, min (nowLen (a.take k)) 2147483648)))
            fun (before5 : Int) (after5 : Int) => bnd1 (some (((k + 1 : Nat)) : Int)) fun (x4 : Int) => some (Sum.inl (before5, after5, x4)) : Option ((Int × Int × Int) ⊕ (Ctl (Int × Int) Int))) =
            some (.inl (min (oldLen (a.take (k + 1))) 2147483648, min (nowLen (a.take (k + 1))) 2147483648, ((k + 1 : Nat) : Int))) := by
          unfold Stp at hs
          rw [oldLen_at hk, nowLen_at hk]
          clear c1 c2 c3 e3 hR' h0
          generalize a[k]! = x at hs ⊢
          generalize oldLen (a.take k) = o at hlen ⊢
          generalize nowLen (a.take k) = w at hlen ⊢
          rw [chk_ok (by omega) (by omega), chk_ok (by omega) (by omega)]
          unfold oldN nowN
          by_cases d1 : x.Kind = 1
          · have d2 : ¬ x.Kind = 2 := by omega
            simp [d1]; omega
          · by_cases d2 : x.Kind = 2
            · simp [d2]; omega
            · simp [d1, d2]; omega
        rcases e3 with rfl | ⟨hp, e3⟩
        · exact ⟨_, fin, rfl, hR'⟩
        · have h1 : decide ((0 : Int) < (k : Int)) = true := by simp; omega
          rw [h1, chk_pred (by omega) (by omega)]
          simp only [beq_self_eq_true, gd_true, bnd1_some, Bool.true_and]
          rw [idx_nat (by omega), bnd1_some, if_neg (by simpa using e3)]
          exact ⟨_, fin, rfl, hR'⟩)
    (fun s hR => by
      obtain ⟨rfl, hg⟩ := hR
      rw [find_none hg, List.take_length]
      unfold axis_Check_L1
      exact ⟨_, by rw [if_neg (by simp)], rfl⟩)
    (s := (0, 0, 0)) ⟨by simp [oldLen, nowLen]; decide, fun j hj => absurd hj (Nat.not_lt_zero _)⟩
  rw [hb, hq]
  unfold axErr
  cases (List.range a.length).findSome? (errS a) with
  | some e => rfl
  | none =>
    show (if (decide (2147483647 < min (oldLen a) 2147483648) || decide (2147483647 < min (nowLen a) 2147483648)) = true then some 3 else some 0) = _
    by_cases h : 2147483647 < oldLen a ∨ 2147483647 < nowLen a
    · rw [if_pos (by simp; omega), if_pos h]
    · rw [if_neg (by simp; omega), if_neg h]
theorem ref_In_eq (x lo hi : Int) : ref_In x lo hi = some (decide (lo ≤ x) && decide (x ≤ hi)) := by
  unfold ref_In
  rfl
theorem ref_AxisError_eq (a : List GAxisStep) (hm : a.length ≤ 9223372036854775807) : ref_AxisError a = some (axErr a) := by
  unfold ref_AxisError
  obtain ⟨b, hb, hq⟩ := iter_hoare (f := fun (x : Int × Int × Int) => ref_AxisError_L1 a x.1 x.2.1 x.2.2) a.length
    (fun k s => ∃ o w : Int, s = (o, w, (k : Int)) ∧ (∀ j, j < k → errS a j = none) ∧ (oldLen (a.take k) ≤ 2147483647 → o = oldLen (a.take k)) ∧ (2147483647 < oldLen (a.take k) → 2147483647 < o) ∧ 0 ≤ o ∧ o ≤ 4294967296
      ∧ (nowLen (a.take k) ≤ 2147483647 → w = nowLen (a.take k)) ∧ (2147483647 < nowLen (a.take k) → 2147483647 < w) ∧ 0 ≤ w ∧ w ≤ 4294967296)
    (fun b => match (List.range a.length).findSome? (errS a) with | some e => b = .ext e | none => ∃ o w : Int, b = .nrm (o, w) ∧ (2147483647 < o ↔ 2147483647 < oldLen a) ∧ (2147483647 < w ↔ 2147483647 < nowLen a))
    (fun k s hk hR => by
      obtain ⟨o, w, rfl, hg, hR⟩ := hR
      have hlen := good_take (a := a) (k := k) (by omega) (fun j hj => stp_of (hg j hj))
      unfold ref_AxisError_L1
      simp only
      rw [if_pos (by simpa using hk), idx_nat hk, bnd1_some, chk_nat (by omega), ref_In_eq, bnd1_some, ref_In_eq, bnd1_some]
      have q1 : (!(decide (0 ≤ a[k]!.Kind) && decide (a[k]!.Kind ≤ 2))) = decide (a[k]!.Kind < 0 ∨ 2 < a[k]!.Kind) := by
        rw [Bool.eq_iff_iff]; simp only [Bool.not_eq_true', Bool.and_eq_false_imp, decide_eq_true_eq, decide_eq_false_iff_not]; omega
      have q2 : (!(decide (1 ≤ a[k]!.N) && decide (a[k]!.N ≤ 2147483647))) = decide (a[k]!.N < 1 ∨ 2147483647 < a[k]!.N) := by
        rw [Bool.eq_iff_iff]; simp only [Bool.not_eq_true', Bool.and_eq_false_imp, decide_eq_true_eq, decide_eq_false_iff_not]; omega
      rw [q1, q2]
      cases he : errS a k with
      | some r =>
        right
        rw [find_first hk hg he]
        refine ⟨_, ?_, rfl⟩
        unfold errS at he
        by_cases c1 : a[k]!.Kind < 0 ∨ 2 < a[k]!.Kind
        · rw [if_pos c1] at he; cases he
          rw [if_pos (decide_eq_true c1)]; rfl
        rw [if_neg c1] at he
        rw [if_neg (by rw [decide_eq_true_eq]; exact c1)]
        by_cases c2 : a[k]!.N < 1 ∨ 2147483647 < a[k]!.N
        · rw [if_pos c2] at he; cases he
          rw [if_pos (decide_eq_true c2)]; rfl
        rw [if_neg c2] at he
        rw [if_neg (by rw [decide_eq_true_eq]; exact c2)]
        by_cases c3 : 0 < k ∧ (a[k - 1]!.Kind = a[k]!.Kind ∨ (a[k - 1]!.Kind = 2 ∧ a[k]!.Kind = 1))
        · rw [if_pos c3] at he; cases he
          have h0 : decide ((0 : Int) < (k : Int)) = true := by simp; omega
          rw [h0, chk_pred c3.1 (by omega)]
          simp only [beq_self_eq_true, gd_true, bnd1_some, Bool.true_and]
          rw [idx_nat (by omega), bnd1_some]
          rcases c3.2 with d | ⟨d1, d2⟩
          · rw [d, decide_eq_true rfl]; rfl
          · have : ¬ a[k]!.Kind = a[k - 1]!.Kind := by omega
            rw [decide_eq_false this, decide_eq_true d2]
            simp only [beq_self_eq_true, Bool.and_self, gd_true, bnd1_some, Bool.false_or, Bool.true_and]
            rw [idx_nat (by omega), bnd1_some, decide_eq_true d1]; rfl
        · rw [if_neg c3] at he; cases he
      | none =>
        left
        have hs := stp_of he
        have h0 := he
        unfold errS at he
        by_cases c1 : a[k]!.Kind < 0 ∨ 2 < a[k]!.Kind
        · rw [if_pos c1] at he; cases he
        rw [if_neg c1] at he
        rw [if_neg (by rw [decide_eq_true_eq]; exact c1)]
        by_cases c2 : a[k]!.N < 1 ∨ 2147483647 < a[k]!.N
        · rw [if_pos c2] at he; cases he
        rw [if_neg c2] at he
        rw [if_neg (by rw [decide_eq_true_eq]; exact c2)]
        by_cases c3 : 0 < k ∧ (a[k - 1]!.Kind = a[k]!.Kind ∨ (a[k - 1]!.Kind = 2 ∧ a[k]!.Kind = 1))
        · rw [if_pos c3] at he; cases he
        clear he q1 q2
        have e3 : k = 0 ∨ (0 < k ∧ ¬ (a[k - 1]!.Kind = a[k]!.Kind ∨ (a[k - 1]!.Kind = 2 ∧ a[k]!.Kind = 1))) := by
          by_cases h0 : k = 0
          · exact .inl h0
          · exact .inr ⟨by omega, fun h => c3 ⟨by omega, h⟩⟩
        have hR' : ∀ j, j < k + 1 → errS a j = none := fun j hj => by
          rcases Nat.lt_or_ge j k with h | h
          · exact hg j h
          · obtain rfl : j = k := by omega
            exact h0
        have fin : ∃ o2 w2 : Int, (ctl2 (bnd1 (if (!decide (a[k]!.Kind = 1) && decide (o < 2147483648)) = true then (bnd1 (chk .i64 (o + a[k]!.N)) fun (x9 : Int) => some x9) else some o) fun (before6 : Int) =>
            if (!decide (a[k]!.Kind = 2) && decide (w < 2147483648)) = true then (bnd1 (chk .i64 (w + a[k]!.N)) fun (x8 : Int) => some (.nrm (before6, x8))) else some (.nrm (before6, w)))
            fun (before5 : Int) (after5 : Int) => bnd1 (some (((k + 1 : Nat)) : Int)) fun (x4 : Int) => some (Sum.inl (before5, after5, x4)) : Option ((Int × Int × Int) ⊕ (Ctl (Int × Int) Int))) =
            some (.inl (o2, w2, ((k + 1 : Nat) : Int))) ∧ ((oldLen (a.take (k + 1)) ≤ 2147483647 → o2 = oldLen (a.take (k + 1))) ∧ (2147483647 < oldLen (a.take (k + 1)) → 2147483647 < o2) ∧ 0 ≤ o2 ∧ o2 ≤ 4294967296
      ∧ (nowLen (a.take (k + 1)) ≤ 2147483647 → w2 = nowLen (a.take (k + 1))) ∧ (2147483647 < nowLen (a.take (k + 1)) → 2147483647 < w2) ∧ 0 ≤ w2 ∧ w2 ≤ 4294967296) := by
          unfold Stp at hs
          rw [oldLen_at hk, nowLen_at hk]
          clear c1 c2 c3 e3 hR' h0
          generalize a[k]! = x at hs ⊢
          generalize oldLen (a.take k) = o1 at hlen hR ⊢
          generalize nowLen (a.take k) = w1 at hlen hR ⊢
          rw [chk_ok (by omega) (by omega), chk_ok (by omega) (by omega)]
          unfold oldN nowN
          refine ⟨if x.Kind ≠ 1 ∧ o < 2147483648 then o + x.N else o, if x.Kind ≠ 2 ∧ w < 2147483648 then w + x.N else w, ?_, ?_⟩
          · by_cases d1 : x.Kind = 1
            · by_cases d3 : w < 2147483648 <;> simp [d1, d3]
            · by_cases d2 : x.Kind = 2
              · by_cases d3 : o < 2147483648 <;> simp [d2, d3]
              · by_cases d3 : o < 2147483648 <;> by_cases d4 : w < 2147483648 <;> simp [d1, d2, d3, d4]
          · split <;> split <;> split <;> split <;> omega
        obtain ⟨o2, w2, f1, f2⟩ := fin
        rcases e3 with rfl | ⟨hp, e3⟩
        · exact ⟨_, f1, o2, w2, rfl, hR', f2⟩
        · have h1 : decide ((0 : Int) < (k : Int)) = true := by simp; omega
          rw [h1, chk_pred (by omega) (by omega)]
          simp only [beq_self_eq_true, gd_true, bnd1_some, Bool.true_and]
          rw [idx_nat (by omega), bnd1_some]
          have n1 : ¬ a[k]!.Kind = a[k - 1]!.Kind := fun e => e3 (.inl e.symm)
          rw [decide_eq_false n1]
          simp only [Bool.false_or, beq_self_eq_true, Bool.true_and]
          by_cases d2 : a[k]!.Kind = 1
          · rw [decide_eq_true d2]
            simp only [beq_self_eq_true, gd_true, bnd1_some]
            rw [idx_nat (by omega), bnd1_some]
            have n2 : ¬ a[k - 1]!.Kind = 2 := fun e => e3 (.inr ⟨e, d2⟩)
            rw [decide_eq_false n2, if_neg (by decide)]
            rw [decide_eq_true d2] at f1
            exact ⟨_, f1, o2, w2, rfl, hR', f2⟩
          · rw [decide_eq_false d2]
            rw [decide_eq_false d2] at f1
            exact ⟨_, f1, o2, w2, rfl, hR', f2⟩)
    (fun s hR => by
      obtain ⟨o, w, rfl, hg, hR⟩ := hR
      rw [find_none hg]
      rw [List.take_length] at hR
      unfold ref_AxisError_L1
      exact ⟨_, by rw [if_neg (by simp)], o, w, rfl, by omega, by omega⟩)
    (s := (0, 0, 0)) ⟨0, 0, rfl, fun j hj => absurd hj (Nat.not_lt_zero _), by simp [oldLen, nowLen]⟩
  rw [hb]
  unfold axErr
  cases hf : (List.range a.length).findSome? (errS a) with
  | some e => rw [hf] at hq; rw [hq]; rfl
  | none =>
    rw [hf] at hq
    obtain ⟨o, w, rfl, h1, h2⟩ := hq
    show (if (decide (2147483647 < o) || decide (2147483647 < w)) = true then some 3 else some 0) = _
    rw [show (decide (2147483647 < o) || decide (2147483647 < w)) = decide (2147483647 < oldLen a ∨ 2147483647 < nowLen a) by simp [h1, h2]]
    by_cases h : 2147483647 < oldLen a ∨ 2147483647 < nowLen a
    · rw [if_pos (decide_eq_true h), if_pos h]
    · rw [if_neg (by rw [decide_eq_true_eq]; exact h), if_neg h]
end Go.Proofs.Ythhodpedkdapcaa.Al
