/-
  Which entries count, the program's way and the reference's: plain Lean.
-/
import Derived.Test.YthhodpedkdapcaaUndo0
namespace Go.Proofs.Ythhodpedkdapcaa.Al
/-- What both ways bring about. -/
def CountSat (log : List Entry) (o : List Bool) (j : Nat) : Prop :=
  o.length = log.length ∧ ∀ i, j ≤ i → i < log.length → (o[i]! = true ↔ log[i]!.refused = 0 ∧ ¬ ∃ q, i < q ∧ q < log.length ∧ log[q]!.undoes = (i : Int) + 1 ∧ o[q]! = true)
theorem CountSat.unique {log : List Entry} {a b : List Bool} (ha : CountSat log a 0) (hb : CountSat log b 0) : a = b := by
  have key : ∀ m i, i + m = log.length → i < log.length → a[i]! = b[i]! := by
    intro m
    induction m using Nat.strongRecOn with
    | _ m ih =>
      intro i hm hi
      have h1 := ha.2 i (Nat.zero_le _) hi
      have h2 := hb.2 i (Nat.zero_le _) hi
      have h3 : (∃ q, i < q ∧ q < log.length ∧ log[q]!.undoes = (i : Int) + 1 ∧ a[q]! = true) ↔ (∃ q, i < q ∧ q < log.length ∧ log[q]!.undoes = (i : Int) + 1 ∧ b[q]! = true) := by
        constructor
        · rintro ⟨q, k1, k2, k3, k4⟩; exact ⟨q, k1, k2, k3, by rw [← ih (log.length - q) (by omega) q (by omega) k2]; exact k4⟩
        · rintro ⟨q, k1, k2, k3, k4⟩; exact ⟨q, k1, k2, k3, by rw [ih (log.length - q) (by omega) q (by omega) k2]; exact k4⟩
      rw [h3] at h1
      exact Bool.eq_iff_iff.2 (h1.trans h2.symm)
  apply List.ext_getElem (ha.1.trans hb.1.symm)
  intro i h1 h2
  have := key (log.length - i) i (by have := ha.1; omega) (by have := ha.1; omega)
  rwa [getElem!_pos a i h1, getElem!_pos b i h2] at this
theorem CountSat.set {log : List Entry} {o : List Bool} {i : Nat} {v : Bool} (h : CountSat log o (i + 1)) (hi : i < log.length)
    (hv : v = true ↔ log[i]!.refused = 0 ∧ ¬ ∃ q, i < q ∧ q < log.length ∧ log[q]!.undoes = (i : Int) + 1 ∧ o[q]! = true) : CountSat log (o.set i v) i := by
  refine ⟨by simp [h.1], fun p hp hl => ?_⟩
  have hq : (∃ q, p < q ∧ q < log.length ∧ log[q]!.undoes = (p : Int) + 1 ∧ (o.set i v)[q]! = true) ↔ (∃ q, p < q ∧ q < log.length ∧ log[q]!.undoes = (p : Int) + 1 ∧ o[q]! = true) := by
    constructor
    · rintro ⟨q, k1, k2, k3, k4⟩; exact ⟨q, k1, k2, k3, by rwa [set_other (by omega)] at k4⟩
    · rintro ⟨q, k1, k2, k3, k4⟩; exact ⟨q, k1, k2, k3, by rwa [set_other (by omega)]⟩
  rw [hq]
  rcases Nat.lt_or_ge i p with h1 | h1
  · rw [set_other (by omega)]; exact h.2 p (by omega) hl
  · obtain rfl : p = i := by omega
    rw [set_get (by rw [h.1]; exact hl)]; exact hv
theorem cIn_iff (log : List Entry) (o : List Bool) (i : Nat) : cIn log o i log.length = true ↔ log[i]!.refused = 0 ∧ ¬ ∃ q, i < q ∧ q < log.length ∧ log[q]!.undoes = (i : Int) + 1 ∧ o[q]! = true := by
  unfold cIn
  rw [Bool.and_eq_true, decide_eq_true_eq, Bool.not_eq_true', ← Bool.not_eq_true, List.any_eq_true]
  refine and_congr Iff.rfl (not_congr ⟨?_, ?_⟩)
  · rintro ⟨q, k1, k2⟩
    rw [List.mem_range'_1] at k1
    rw [Bool.and_eq_true, decide_eq_true_eq] at k2
    exact ⟨q, by omega, by omega, k2.1, k2.2⟩
  · rintro ⟨q, k1, k2, k3, k4⟩
    exact ⟨q, List.mem_range'_1.2 ⟨by omega, by omega⟩, by rw [Bool.and_eq_true, decide_eq_true_eq]; exact ⟨k3, k4⟩⟩
theorem countingLoop_sat (log : List Entry) (j : Nat) (o : List Bool) (hj : j ≤ log.length) (h : CountSat log o j) : CountSat log (countingLoop log j o) 0 := by
  induction j generalizing o with
  | zero => exact h
  | succ i ih => exact ih _ (by omega) (h.set (by omega) (cIn_iff log o i))
theorem CountSat.start (log : List Entry) : CountSat log (List.replicate log.length false) log.length := ⟨by simp, fun i h1 h2 => by omega⟩
/-- What is marked as undone. -/
def UndSat (log : List Entry) (o und : List Bool) (j : Nat) : Prop :=
  und.length = log.length ∧ ∀ p, p < log.length → (und[p]! = true ↔ ∃ q, j ≤ q ∧ q < log.length ∧ log[q]!.undoes = (p : Int) + 1 ∧ log[q]!.undoes ≤ q ∧ o[q]! = true)
theorem countsLoop_sat (log : List Entry) (j : Nat) (o und : List Bool) (hj : j ≤ log.length) (h : CountSat log o j) (hu : UndSat log o und j) : CountSat log (countsLoop log j (o, und)).1 0 := by
  induction j generalizing o und with
  | zero => exact h
  | succ i ih =>
    have hil : i < log.length := by omega
    have hv : cOut log und i = true ↔ log[i]!.refused = 0 ∧ ¬ ∃ q, i < q ∧ q < log.length ∧ log[q]!.undoes = (i : Int) + 1 ∧ o[q]! = true := by
      unfold cOut
      rw [Bool.and_eq_true, decide_eq_true_eq, Bool.not_eq_true', ← Bool.not_eq_true, hu.2 i hil, and_comm]
      refine and_congr Iff.rfl (not_congr ⟨?_, ?_⟩)
      · rintro ⟨q, k1, k2, k3, k4, k5⟩; exact ⟨q, k1, k2, k3, k5⟩
      · rintro ⟨q, k1, k2, k3, k5⟩; exact ⟨q, k1, k2, k3, by omega, k5⟩
    refine ih _ _ (by omega) (h.set hil hv) ?_
    have hol := h.1
    have hq : ∀ p, (∃ q, i ≤ q ∧ q < log.length ∧ log[q]!.undoes = (p : Int) + 1 ∧ log[q]!.undoes ≤ q ∧ (o.set i (cOut log und i))[q]! = true) ↔
        (log[i]!.undoes = (p : Int) + 1 ∧ log[i]!.undoes ≤ i ∧ cOut log und i = true) ∨ ∃ q, i + 1 ≤ q ∧ q < log.length ∧ log[q]!.undoes = (p : Int) + 1 ∧ log[q]!.undoes ≤ q ∧ o[q]! = true := by
      intro p
      constructor
      · rintro ⟨q, k1, k2, k3, k4, k5⟩
        rcases Nat.lt_or_ge i q with h1 | h1
        · rw [set_other (by omega)] at k5; exact .inr ⟨q, h1, k2, k3, k4, k5⟩
        · obtain rfl : q = i := by omega
          rw [set_get (by omega)] at k5; exact .inl ⟨k3, k4, k5⟩
      · rintro (⟨k3, k4, k5⟩ | ⟨q, k1, k2, k3, k4, k5⟩)
        · exact ⟨i, Nat.le_refl _, hil, k3, k4, by rw [set_get (by omega)]; exact k5⟩
        · exact ⟨q, by omega, k2, k3, k4, by rw [set_other (by omega)]; exact k5⟩
    unfold cUnd
    split
    · rename_i hc
      simp only [Bool.and_eq_true, decide_eq_true_eq] at hc
      refine ⟨by simp [hu.1], fun p hp => ?_⟩
      rw [hq]
      by_cases hpe : (log[i]!.undoes - 1).toNat = p
      · subst hpe
        rw [set_get (by rw [hu.1]; exact hp)]
        exact ⟨fun _ => .inl ⟨by omega, hc.2, hc.1.1⟩, fun _ => rfl⟩
      · rw [set_other hpe, hu.2 p hp]
        exact ⟨.inr, fun h1 => h1.resolve_left (by rintro ⟨k3, _⟩; omega)⟩
    · rename_i hc
      simp only [Bool.and_eq_true, decide_eq_true_eq] at hc
      refine ⟨hu.1, fun p hp => ?_⟩
      rw [hq, hu.2 p hp]
      exact ⟨.inr, fun h1 => h1.resolve_left (by rintro ⟨k3, k4, k5⟩; exact hc ⟨⟨k5, by omega⟩, k4⟩)⟩
theorem counts_sat (log : List Entry) : CountSat log (counts log) 0 :=
  countsLoop_sat log _ _ _ (Nat.le_refl _) (.start log) ⟨by simp, fun p hp => by
    constructor
    · intro h; simp [hp] at h
    · rintro ⟨q, k1, k2, _⟩; omega⟩
theorem counting_eq (log : List Entry) : counting log = counts log := (countingLoop_sat log _ _ (Nat.le_refl _) (.start log)).unique (counts_sat log)

theorem level_depth (log : List Entry) (i : Nat) : levelN log i = if depthN log i = 0 then 0 else if depthN log i % 2 = 1 then 1 else 2 := by
  induction i using Nat.strongRecOn with
  | _ i ih =>
    rw [levelN, depthN]
    by_cases hu : uok log i = true
    · rw [dif_pos hu, dif_pos hu, ih _ (uok_lt hu)]
      generalize depthN log (log[i]!.undoes - 1).toNat = d
      repeat' split
      all_goals omega
    · rw [dif_neg hu, dif_neg hu]; rfl
theorem fwd_eq (log : List Entry) (site : Int) (i : Nat) (hi : i ≤ log.length) : fwd log (counts log) site i = (lastLoop log (counts log) site i, lastUnd log (counts log) site i) := by
  induction i with
  | zero => rfl
  | succ i ih =>
    have hs := (counts_sat log).2 i (Nat.zero_le _) (by omega)
    have hr : (counts log)[i]! = true → log[i]!.refused = 0 := fun h => (hs.1 h).1
    rw [fwd, lastLoop, lastUnd, ih (by omega), level_depth]
    generalize (counts log)[i]! = c at hr
    generalize depthN log i = d
    generalize log[i]!.refused = r at hr
    generalize log[i]!.site = st
    cases c
    · simp only [Bool.false_eq_true, false_and, and_false, if_false]
      repeat' split
      all_goals first | rfl | omega | (simp; omega)
    · have := hr rfl
      subst this
      simp only [true_and, and_true, if_true]
      repeat' split
      all_goals first | rfl | omega | (simp; omega)
def three : List Entry := [⟨1, 0, .sl [], 0, 0⟩, ⟨1, 0, .sl [], 1, 0⟩, ⟨1, 0, .sl [], 2, 0⟩]
theorem three_counts : counts three = [true, false, true] := by decide
theorem three_last : lastLoop three (counts three) 1 three.length = 1 := by
  show lastLoop three (counts three) 1 3 = 1
  rw [three_counts]
  have h0 : depthN three 0 = 0 := by rw [depthN, dif_neg (by decide)]
  have h1 : depthN three 1 = 1 := by rw [depthN, dif_pos (by decide)]; exact congrArg (· + 1) h0
  have h2 : depthN three 2 = 2 := by rw [depthN, dif_pos (by decide)]; exact congrArg (· + 1) h1
  rw [lastLoop, if_neg (by rw [h2]; decide), lastLoop, if_neg (by decide), lastLoop, if_pos ⟨by decide, by decide, h0⟩]; rfl
end Go.Proofs.Ythhodpedkdapcaa.Al
