/-
  SUMS OF BULKS.
-/
import Derived.Test.YthhodpedkdapcaaAl29
namespace Go.Proofs.Ythhodpedkdapcaa.Al
theorem list_of_gets {α : Type} {l ys : List α} (hl : l.length = ys.length) (h : ∀ (j : Nat) (y : α), ys[j]? = some y → l[j]? = some y) : l = ys := by
  apply List.ext_getElem? 
  intro i
  rcases Nat.lt_or_ge i ys.length with hi | hi
  · rw [h i _ (List.getElem?_eq_getElem hi), List.getElem?_eq_getElem hi]
  · rw [List.getElem?_eq_none hi, List.getElem?_eq_none (by omega)]
theorem len_le_sum {α : Type} {μ : α → Nat} (h : ∀ x, 1 ≤ μ x) (l : List α) : l.length ≤ (l.map μ).sum := by
  induction l with
  | nil => simp
  | cons a l ih => have := h a; simp only [List.length_cons, List.map_cons, List.sum_cons]; omega
theorem mem_le_sum {α : Type} {μ : α → Nat} {l : List α} {a : α} (h : a ∈ l) : μ a ≤ (l.map μ).sum := by
  induction l with
  | nil => cases h
  | cons b l ih =>
    simp only [List.map_cons, List.sum_cons]
    rcases List.mem_cons.1 h with rfl | h
    · omega
    · have := ih h; omega
end Go.Proofs.Ythhodpedkdapcaa.Al
