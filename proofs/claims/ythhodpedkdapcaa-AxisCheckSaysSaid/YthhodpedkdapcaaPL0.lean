/-
  Plain laws over models: what the models' words come to.
-/
import Derived.Test.YthhodpedkdapcaaAl27
namespace Go.Proofs.Ythhodpedkdapcaa.Al

@[simp] theorem bnd1_some {a α : Type} (x : a) (f : a → Option α) : bnd1 (some x) f = f x := rfl
@[simp] theorem bnd2_some {a b α : Type} (x : a) (y : b) (f : a → b → Option α) : bnd2 (some (x, y)) f = f x y := rfl
@[simp] theorem bnd3_some {a b c α : Type} (x : a) (y : b) (z : c) (f : a → b → c → Option α) : bnd3 (some (x, y, z)) f = f x y z := rfl
@[simp] theorem bnd4_some {a b c d α : Type} (x : a) (y : b) (z : c) (u : d) (f : a → b → c → d → Option α) : bnd4 (some (x, y, z, u)) f = f x y z u := rfl
@[simp] theorem ctl1_nrm {a α : Type} (x : a) (f : a → Option α) : ctl1 (some (.nrm x)) f = f x := rfl
@[simp] theorem ctl1_ext {a α : Type} (t : α) (f : a → Option α) : ctl1 (some (.ext t)) f = some t := rfl
@[simp] theorem ctl2_nrm {a b α : Type} (x : a) (y : b) (f : a → b → Option α) : ctl2 (some (.nrm (x, y))) f = f x y := rfl
@[simp] theorem ctl2_ext {a b α : Type} (t : α) (f : a → b → Option α) : ctl2 (some (.ext t)) f = some t := rfl
@[simp] theorem ctl3_nrm {a b c α : Type} (x : a) (y : b) (z : c) (f : a → b → c → Option α) : ctl3 (some (.nrm (x, y, z))) f = f x y z := rfl
@[simp] theorem ctl3_ext {a b c α : Type} (t : α) (f : a → b → c → Option α) : ctl3 (some (.ext t)) f = some t := rfl
@[simp] theorem gd_true {α : Type} [Inhabited α] (m : Option α) : gd true m = m := rfl
@[simp] theorem gd_false {α : Type} [Inhabited α] (m : Option α) : gd false m = some default := rfl
theorem idx_nat {α : Type} [Inhabited α] {l : List α} {k : Nat} (h : k < l.length) : idx l (k : Int) = some l[k]! := by
  unfold idx
  rw [if_pos (Int.natCast_nonneg k), Int.toNat_natCast, List.getElem?_eq_getElem h, getElem!_pos l k h]
theorem idx_nat' {α : Type} {l : List α} {k : Nat} (h : k < l.length) : idx l (k : Int) = some l[k] := by
  unfold idx
  rw [if_pos (Int.natCast_nonneg k), Int.toNat_natCast, List.getElem?_eq_getElem h]
theorem chk_nat {k : Nat} (h : k < 9223372036854775807) : chk .i64 ((k : Int) + 1) = some (((k + 1 : Nat)) : Int) := by
  rw [chk64 (by omega) (by omega)]; rfl
theorem chk_pred {k : Nat} (h : 0 < k) (h2 : k ≤ 9223372036854775807) : chk .i64 ((k : Int) - 1) = some ((k - 1 : Nat) : Int) := by
  rw [chk64 (by omega) (by omega)]; congr 1; omega

/-- A round that stops with an answer, or goes on. -/
def stepOf {ρ : Type} (k : Nat) : Option ρ → Option (Int ⊕ Ctl Unit ρ)
  | none => some (.inl ((k + 1 : Nat) : Int))
  | some r => some (.inr (.ext r))
def outOf {ρ : Type} : Option ρ → Ctl Unit ρ
  | none => .nrm ()
  | some r => .ext r
/-- A loop over indices that stops at the first one that gives an answer. -/
theorem iter_find {ρ : Type} {f : Int → Option (Int ⊕ Ctl Unit ρ)} {n : Nat} (g : Nat → Option ρ) (h1 : ∀ k : Nat, k < n → f k = stepOf k (g k))
    (h2 : f n = some (.inr (.nrm ()))) : iter f 0 = some (outOf ((List.range n).findSome? g)) := by
  have key : ∀ m k : Nat, k + m = n → iter f (k : Int) = some (outOf ((List.range' k m).findSome? g)) := by
    intro m
    induction m with
    | zero =>
      intro k hk
      obtain rfl : k = n := by omega
      rw [iter_stop h2]; rfl
    | succ m ih =>
      intro k hk
      rw [List.range'_succ, List.findSome?_cons]
      have := h1 k (by omega)
      cases hg : g k with
      | none => rw [hg] at this; rw [iter_next this, ih (k + 1) (by omega)]
      | some r => rw [hg] at this; rw [iter_stop this]; rfl
  rw [List.range_eq_range']
  exact key n 0 (by omega)
theorem findSome_congr {α ρ : Type} {l : List α} {g h : α → Option ρ} (e : ∀ x ∈ l, g x = h x) : l.findSome? g = l.findSome? h := by
  induction l with
  | nil => rfl
  | cons a l ih => rw [List.findSome?_cons, List.findSome?_cons, e a (List.mem_cons_self ..), ih fun x hx => e x (List.mem_cons_of_mem _ hx)]
/-- All elements, by their indices. -/
theorem find_all {α ρ : Type} [Inhabited α] (l : List α) (p : α → Bool) (r : ρ) : (List.range l.length).findSome? (fun k => if p l[k]! then none else some r) = if l.all p then none else some r := by
  induction l with
  | nil => rfl
  | cons a l ih =>
    rw [List.length_cons, List.range_succ_eq_map, List.findSome?_cons, List.findSome?_map]
    have hr : (List.range l.length).findSome? ((fun k => if p (a :: l)[k]! = true then none else some r) ∘ Nat.succ) = if l.all p = true then none else some r := by
      rw [← ih]; exact findSome_congr fun k _ => by simp
    rw [hr]
    by_cases hp : p a = true
    · simp [hp]
    · simp [hp]
theorem ctl_outOf {ρ : Type} (o : Option ρ) (f : Unit → Option ρ) : ctl1 (some (outOf o)) f = match o with | none => f () | some r => some r := by cases o <;> rfl
end Go.Proofs.Ythhodpedkdapcaa.Al
