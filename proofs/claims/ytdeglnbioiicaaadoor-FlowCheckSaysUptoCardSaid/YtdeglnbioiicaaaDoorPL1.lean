/- Plain laws over the models, a part of them. -/
import Derived.Test.YtdeglnbioiicaaaDoorMod1
namespace Go.Proofs.YtdeglnbioiicaaaDoor.Al
@[simp] theorem bnd1_some {a α : Type} (x : a) (f : a → Option α) : bnd1 (some x) f = f x := rfl
@[simp] theorem bnd2_some {a b α : Type} (x : a) (y : b) (f : a → b → Option α) : bnd2 (some (x, y)) f = f x y := rfl
@[simp] theorem bnd3_some {a b c α : Type} (x : a) (y : b) (z : c) (f : a → b → c → Option α) : bnd3 (some (x, y, z)) f = f x y z := rfl
@[simp] theorem bnd4_some {a b c d α : Type} (x : a) (y : b) (z : c) (u : d) (f : a → b → c → d → Option α) : bnd4 (some (x, y, z, u)) f = f x y z u := rfl
@[simp] theorem ctl1_nrm {a α : Type} (x : a) (f : a → Option α) : ctl1 (some (.nrm x)) f = f x := rfl
@[simp] theorem ctl1_ext {a α : Type} (t : α) (f : a → Option α) : ctl1 (some (.ext t)) f = some t := rfl
@[simp] theorem ctl2_nrm {a b α : Type} (x : a) (y : b) (f : a → b → Option α) : ctl2 (some (.nrm (x, y))) f = f x y := rfl
@[simp] theorem ctl2_ext {a b α : Type} (t : α) (f : a → b → Option α) : ctl2 (some (.ext t)) f = some t := rfl
@[simp] theorem ctl3_nrm {a b c α : Type} (x : a) (y : b) (z : c) (f : a → b → c → Option α) : ctl3 (some (.nrm (x, y, z))) f = f x y z := rfl
@[simp] theorem ctl3_ext {a b c α : Type} (t : α) (f : a → b → c → Option α) : ctl3 (some (.ext t)) f = some t := rfl
@[simp] theorem gd_true {α : Type} [Inhabited α] (m : Option α) : gd true m = m := rfl
@[simp] theorem gd_false {α : Type} [Inhabited α] (m : Option α) : gd false m = some default := rfl
theorem idx_nat {α : Type} [Inhabited α] {l : List α} {k : Nat} (h : k < l.length) : idx l (k : Int) = some l[k]! := by
  unfold idx
  rw [if_pos (Int.natCast_nonneg k), Int.toNat_natCast, List.getElem?_eq_getElem h, getElem!_pos l k h]
theorem chk_nat {k : Nat} (h : k < 9223372036854775807) : chk .i64 ((k : Int) + 1) = some (((k + 1 : Nat)) : Int) := by
  rw [chk64 (by omega) (by omega)]; rfl
theorem chk_pred {k : Nat} (h : 0 < k) (h2 : k ≤ 9223372036854775807) : chk .i64 ((k : Int) - 1) = some ((k - 1 : Nat) : Int) := by
  rw [chk64 (by omega) (by omega)]; congr 1; omega
def stepOf {ρ : Type} (k : Nat) : Option ρ → Option (Int ⊕ Ctl Unit ρ)
  | none => some (.inl ((k + 1 : Nat) : Int))
  | some r => some (.inr (.ext r))
def outOf {ρ : Type} : Option ρ → Ctl Unit ρ
  | none => .nrm ()
  | some r => .ext r
theorem iter_find {ρ : Type} {f : Int → Option (Int ⊕ Ctl Unit ρ)} {n : Nat} (g : Nat → Option ρ) (h1 : ∀ k : Nat, k < n → f k = stepOf k (g k))
    (h2 : f n = some (.inr (.nrm ()))) : iter f 0 = some (outOf ((List.range n).findSome? g)) := by
  have key : ∀ m k : Nat, k + m = n → iter f (k : Int) = some (outOf ((List.range' k m).findSome? g)) := by
    intro m
    induction m with
    | zero =>
      intro k hk
      obtain rfl : k = n := by omega
      rw [iter_stop h2]; rfl
    | succ m ih =>
      intro k hk
      rw [List.range'_succ, List.findSome?_cons]
      have := h1 k (by omega)
      cases hg : g k with
      | none => rw [hg] at this; rw [iter_next this, ih (k + 1) (by omega)]
      | some r => rw [hg] at this; rw [iter_stop this]; rfl
  rw [List.range_eq_range']
  exact key n 0 (by omega)
theorem findSome_congr {α ρ : Type} {l : List α} {g h : α → Option ρ} (e : ∀ x ∈ l, g x = h x) : l.findSome? g = l.findSome? h := by
  induction l with
  | nil => rfl
  | cons a l ih => rw [List.findSome?_cons, List.findSome?_cons, e a (List.mem_cons_self ..), ih fun x hx => e x (List.mem_cons_of_mem _ hx)]
theorem find_all {α ρ : Type} [Inhabited α] (l : List α) (p : α → Bool) (r : ρ) : (List.range l.length).findSome? (fun k => if p l[k]! then none else some r) = if l.all p then none else some r := by
  induction l with
  | nil => rfl
  | cons a l ih =>
    rw [List.length_cons, List.range_succ_eq_map, List.findSome?_cons, List.findSome?_map]
    have hr : (List.range l.length).findSome? ((fun k => if p (a :: l)[k]! = true then none else some r) ∘ Nat.succ) = if l.all p = true then none else some r := by
      rw [← ih]; exact findSome_congr fun k _ => by simp
    rw [hr]
    by_cases hp : p a = true
    · simp [hp]
    · simp [hp]
theorem ctl_outOf {ρ : Type} (o : Option ρ) (f : Unit → Option ρ) : ctl1 (some (outOf o)) f = match o with | none => f () | some r => some r := by cases o <;> rfl
end Go.Proofs.YtdeglnbioiicaaaDoor.Al


namespace Go.Proofs.YtdeglnbioiicaaaDoor.Al
def chOK (c : UInt8) : Bool := (decide (97 ≤ c.toNat) && decide (c.toNat ≤ 122)) || (decide (48 ≤ c.toNat) && decide (c.toNat ≤ 57)) || decide (c.toNat = 46) || decide (c.toNat = 45)
def nameOK (s : List UInt8) : Bool := decide (1 ≤ s.length) && decide (s.length ≤ 24) && (decide (97 ≤ s[0]!.toNat) && decide (s[0]!.toNat ≤ 122)) && s.all chOK
def valCh (c : UInt8) : Bool := decide (32 ≤ c.toNat) && decide (c.toNat ≤ 126)
def valOK (s : List UInt8) : Bool := decide (1 ≤ s.length) && decide (s.length ≤ 200) && s.all valCh
theorem attr_Name_step (s : List UInt8) (k : Nat) (hk : k < s.length) (hm : s.length ≤ 9223372036854775807) : attr_Name_L1 s k = stepOf k (if chOK s[k]! then none else some false) := by
  unfold attr_Name_L1
  rw [if_pos (by simpa using hk), idx_nat hk, bnd1_some, chk_nat (by omega)]
  generalize s[k]! = c
  have e : (((((decide ((c.toNat : Int) < 97)) || (decide (122 < (c.toNat : Int)))) && ((decide ((c.toNat : Int) < 48)) || (decide (57 < (c.toNat : Int))))) && (!decide ((c.toNat : Int) = 46))) && (!decide ((c.toNat : Int) = 45))) = !chOK c := by
    unfold chOK
    rw [Bool.eq_iff_iff]
    simp only [Bool.or_eq_true, Bool.and_eq_true, decide_eq_true_eq, Bool.not_eq_true', decide_eq_false_iff_not, Bool.or_eq_false_iff, Bool.and_eq_false_imp]
    omega
  rw [e]
  cases chOK c <;> rfl
theorem attr_Name_eq (s : List UInt8) (hm : s.length ≤ 9223372036854775807) : attr_Name s = some (nameOK s) := by
  unfold attr_Name
  rw [iter_find (n := s.length) (fun k => if chOK s[k]! then none else some false) (fun k hk => attr_Name_step s k hk hm) (by unfold attr_Name_L1; rw [if_neg (by simp)]), find_all]
  unfold nameOK
  cases s with
  | nil => simp
  | cons c t =>
    have h0 : idx (c :: t) 0 = some c := rfl
    rw [h0]
    simp only [List.getElem!_cons_zero, decide_eq_false (List.cons_ne_nil c t), Bool.false_or]
    generalize (c :: t).all chOK = al
    generalize hl : (c :: t).length = L
    have hL : 1 ≤ L := by rw [← hl]; simp
    by_cases h1 : 24 < (L : Int)
    · have e1 : decide (L ≤ 24) = false := by simp; omega
      simp [h1, e1]
    · rw [decide_eq_false h1]
      simp only [Bool.false_or, beq_self_eq_true, gd_true, bnd1_some]
      have e1 : decide (L ≤ 24) = true := by simp; omega
      have e2 : decide (1 ≤ L) = true := by simp; omega
      rw [e1, e2]
      by_cases h2 : (c.toNat : Int) < 97
      · have e3 : decide (97 ≤ c.toNat) = false := by simp; omega
        simp [h2, e3]
      · rw [decide_eq_false h2]
        have e3 : decide (97 ≤ c.toNat) = true := by simp; omega
        simp only [beq_self_eq_true, gd_true, bnd1_some, Bool.false_or]
        by_cases h3 : 122 < (c.toNat : Int)
        · have e4 : decide (c.toNat ≤ 122) = false := by simp; omega
          simp [h3, e4]
        · have e4 : decide (c.toNat ≤ 122) = true := by simp; omega
          rw [if_neg (by simpa using h3), ctl_outOf, e3, e4]
          cases al <;> rfl
def refCh (k : Nat) (c : UInt8) : Bool := (decide (97 ≤ c.toNat) && decide (c.toNat ≤ 122)) || (decide (k ≠ 0) && chOK c)
theorem ref_Name_step (s : List UInt8) (k : Nat) (hk : k < s.length) (hm : s.length ≤ 9223372036854775807) :
    ref_Name_L1 s k = stepOf k (if refCh k s[k]! then none else some false) := by
  unfold ref_Name_L1
  rw [if_pos (by simpa using hk), idx_nat hk, bnd1_some, chk_nat (by omega)]
  generalize s[k]! = c
  have e : ((!((decide (97 ≤ (c.toNat : Int))) && (decide ((c.toNat : Int) ≤ 122)))) && ((decide ((k : Int) = 0)) || (((!decide ((c.toNat : Int) = 46)) && (!decide ((c.toNat : Int) = 45))) && ((decide ((c.toNat : Int) < 48)) || (decide (57 < (c.toNat : Int))))))) = !refCh k c := by
    unfold refCh chOK
    rw [Bool.eq_iff_iff]
    simp only [Bool.or_eq_true, Bool.and_eq_true, decide_eq_true_eq, Bool.not_eq_true', decide_eq_false_iff_not, Bool.or_eq_false_iff, Bool.and_eq_false_imp]
    omega
  rw [e]
  cases refCh k c <;> rfl
theorem all_iff {α : Type} [Inhabited α] (l : List α) (p : α → Bool) : l.all p = true ↔ ∀ k, k < l.length → p l[k]! = true := by
  rw [List.all_eq_true]
  constructor
  · intro h k hk; rw [getElem!_pos l k hk]; exact h _ (List.getElem_mem hk)
  · intro h x hx
    obtain ⟨k, hk, rfl⟩ := List.mem_iff_getElem.1 hx
    rw [← getElem!_pos l k hk]; exact h k hk
theorem find_const {ρ : Type} (n : Nat) (p : Nat → Bool) (r : ρ) : (List.range n).findSome? (fun k => if p k then none else some r) = if (List.range n).all p then none else some r := by
  generalize List.range n = l
  induction l with
  | nil => rfl
  | cons a l ih => rw [List.findSome?_cons, List.all_cons, ]; by_cases h : p a = true <;> simp [h, ih]
theorem ref_Name_eq (s : List UInt8) (hm : s.length ≤ 9223372036854775807) : ref_Name s = some (nameOK s) := by
  unfold ref_Name
  rw [iter_find (n := s.length) (fun k => if refCh k s[k]! then none else some false) (fun k hk => ref_Name_step s k hk hm) (by unfold ref_Name_L1; rw [if_neg (by simp)]), find_const, ctl_outOf]
  have key : ((List.range s.length).all fun k => refCh k s[k]!) = (decide (s = []) || ((decide (97 ≤ s[0]!.toNat) && decide (s[0]!.toNat ≤ 122)) && s.all chOK)) := by
    rw [Bool.eq_iff_iff, List.all_eq_true]
    simp only [List.mem_range, Bool.or_eq_true, decide_eq_true_eq, Bool.and_eq_true, all_iff]
    constructor
    · intro h
      cases hs : s with
      | nil => exact .inl rfl
      | cons c t =>
        rw [← hs]
        have hl : 0 < s.length := by rw [hs]; simp
        have h0 := h 0 hl
        simp only [refCh, Bool.or_eq_true, Bool.and_eq_true, decide_eq_true_eq] at h0
        refine .inr ⟨by omega, fun k hk => ?_⟩
        have := h k hk
        simp only [refCh, chOK, Bool.or_eq_true, Bool.and_eq_true, decide_eq_true_eq] at this ⊢
        omega
    · rintro (rfl | ⟨h1, h2⟩) k hk
      · cases hk
      · have := h2 k hk
        by_cases hk0 : k = 0
        · subst hk0; simp only [refCh, Bool.or_eq_true, Bool.and_eq_true, decide_eq_true_eq]; omega
        · simp only [refCh, Bool.or_eq_true, Bool.and_eq_true, decide_eq_true_eq]; exact .inr ⟨hk0, this⟩
  rw [key]
  unfold nameOK
  cases s with
  | nil => rfl
  | cons c t =>
    rw [decide_eq_false (List.cons_ne_nil c t), Bool.false_or]
    generalize (c :: t).all chOK = al
    generalize (decide (97 ≤ (c :: t)[0]!.toNat) && decide ((c :: t)[0]!.toNat ≤ 122)) = fc
    have e1 : decide (1 ≤ ((c :: t).length : Int)) = decide (1 ≤ (c :: t).length) := by simp; omega
    have e2 : decide (((c :: t).length : Int) ≤ 24) = decide ((c :: t).length ≤ 24) := by simp; omega
    rw [e1, e2]
    cases fc <;> cases al <;> simp
theorem attr_Value_eq (s : List UInt8) (hm : s.length ≤ 9223372036854775807) : attr_Value s = some (valOK s) := by
  unfold attr_Value valOK
  rw [iter_find (n := s.length) (fun k => if valCh s[k]! then none else some false) (fun k hk => by
    unfold attr_Value_L1
    rw [if_pos (by simpa using hk), idx_nat hk, bnd1_some, chk_nat (by omega)]
    generalize s[k]! = c
    have e : ((decide ((c.toNat : Int) < 32)) || (decide (126 < (c.toNat : Int)))) = !valCh c := by
      unfold valCh
      rw [Bool.eq_iff_iff]
      simp only [Bool.or_eq_true, Bool.and_eq_true, decide_eq_true_eq, Bool.not_eq_true', decide_eq_false_iff_not, Bool.and_eq_false_imp]
      omega
    rw [e]
    cases valCh c <;> rfl) (by unfold attr_Value_L1; rw [if_neg (by simp)]), find_all, ctl_outOf]
  generalize s.all valCh = al
  cases s with
  | nil => simp
  | cons c t =>
    rw [decide_eq_false (List.cons_ne_nil c t), Bool.false_or]
    generalize hl : (c :: t).length = L
    have hL : 1 ≤ L := by rw [← hl]; simp
    by_cases h1 : 200 < (L : Int)
    · have e1 : decide (L ≤ 200) = false := by simp; omega
      simp [h1, e1]
    · have e1 : decide (L ≤ 200) = true := by simp; omega
      have e2 : decide (1 ≤ L) = true := by simp; omega
      rw [if_neg (by simpa using h1), e1, e2]
      cases al <;> rfl
theorem ref_Value_eq (s : List UInt8) (hm : s.length ≤ 9223372036854775807) : ref_Value s = some (valOK s) := by
  unfold ref_Value valOK
  rw [iter_find (n := s.length) (fun k => if valCh s[k]! then none else some false) (fun k hk => by
    unfold ref_Value_L1
    rw [if_pos (by simpa using hk), idx_nat hk, bnd1_some, chk_nat (by omega)]
    generalize s[k]! = c
    have e : ((decide ((c.toNat : Int) < 32)) || (decide (126 < (c.toNat : Int)))) = !valCh c := by
      unfold valCh
      rw [Bool.eq_iff_iff]
      simp only [Bool.or_eq_true, Bool.and_eq_true, decide_eq_true_eq, Bool.not_eq_true', decide_eq_false_iff_not, Bool.and_eq_false_imp]
      omega
    rw [e]
    cases valCh c <;> rfl) (by unfold ref_Value_L1; rw [if_neg (by simp)]), find_all, ctl_outOf]
  generalize s.all valCh = al
  have e1 : decide (1 ≤ (s.length : Int)) = decide (1 ≤ s.length) := by simp; omega
  have e2 : decide ((s.length : Int) ≤ 200) = decide (s.length ≤ 200) := by simp; omega
  rw [e1, e2]
  cases al <;> simp
theorem sLt_cons (a b : UInt8) (x y : List UInt8) : sLt (a :: x) (b :: y) = (decide (a < b) || (a == b && sLt x y)) := rfl
theorem sLt_tri : ∀ (a b : List UInt8), (sLt a b || decide (a = b)) = !sLt b a
  | [], [] => rfl
  | [], _ :: _ => rfl
  | _ :: _, [] => rfl
  | a :: x, b :: y => by
    rw [sLt_cons, sLt_cons]
    have ih := sLt_tri x y
    by_cases h : a = b
    · subst h
      have h1 : ¬ a < a := fun h => by simp [UInt8.lt_iff_toNat_lt] at h
      simp only [decide_eq_false h1, beq_self_eq_true, Bool.true_and, Bool.false_or, List.cons.injEq, true_and]
      exact ih
    · have h2 : (a == b) = false := by simpa using h
      have h3 : (b == a) = false := by simpa using fun e : b = a => h e.symm
      have h4 : ¬ (a :: x = b :: y) := fun e => h (List.cons.inj e).1
      rw [h2, h3, decide_eq_false h4]
      simp only [Bool.false_and, Bool.or_false]
      have h5 : a.toNat ≠ b.toNat := fun e => h (UInt8.toNat_inj.1 e)
      by_cases hlt : a < b
      · have : ¬ b < a := by rw [UInt8.lt_iff_toNat_lt] at hlt ⊢; omega
        simp [hlt, this]
      · have : b < a := by rw [UInt8.lt_iff_toNat_lt] at hlt ⊢; omega
        simp [hlt, this]
def okStr (l : List GAttr) : Prop := ∀ a ∈ l, a.Name.length ≤ 9223372036854775807 ∧ a.Value.length ≤ 9223372036854775807
def errA (l : List GAttr) (ch : Bool) (k : Nat) : Option Int :=
  if nameOK l[k]!.Name = false then some 9 else if valOK l[k]!.Value = false ∧ ¬ (ch = true ∧ l[k]!.Value = []) then some 23 else if 0 < k ∧ sLt l[k - 1]!.Name l[k]!.Name = false then some 5 else none
def attrErr (l : List GAttr) (ch : Bool) : Int := ((List.range l.length).findSome? (errA l ch)).getD 0
theorem okStr.at {l : List GAttr} (h : okStr l) {k : Nat} (hk : k < l.length) : l[k]!.Name.length ≤ 9223372036854775807 ∧ l[k]!.Value.length ≤ 9223372036854775807 := by
  rw [getElem!_pos l k hk]; exact h _ (List.getElem_mem hk)
theorem attr_check_step (l : List GAttr) (ch : Bool) (h : okStr l) (hm : l.length ≤ 9223372036854775807) (k : Nat) (hk : k < l.length) : attr_check_L1 l ch k = stepOf k (errA l ch k) := by
  unfold attr_check_L1 errA
  obtain ⟨hn1, hn2⟩ := h.at hk
  rw [if_pos (by simpa using hk), idx_nat hk, bnd1_some]
  generalize l[k]! = x at hn1 hn2 ⊢
  rw [attr_Name_eq _ hn1, bnd1_some]
  cases nameOK x.Name
  · rfl
  rw [if_neg (by decide), if_neg (by decide), attr_Value_eq _ hn2, bnd1_some, chk_nat (by omega)]
  by_cases hv : valOK x.Value = false ∧ ¬ (ch = true ∧ x.Value = [])
  · rw [if_pos hv, if_pos (by simp [hv.1]; cases ch <;> simp_all)]; rfl
  rw [if_neg hv, if_neg (by intro e; simp at e; exact hv ⟨e.1, by rintro ⟨a, b⟩; simp [a, b] at e⟩)]
  by_cases hk0 : k = 0
  · subst hk0; rfl
  · have h0 : decide ((0 : Int) < (k : Int)) = true := by simp; omega
    rw [h0, chk_pred (by omega) (by omega)]
    simp only [beq_self_eq_true, gd_true, bnd1_some, Bool.true_and]
    rw [idx_nat (by omega), bnd1_some, sLt_tri]
    have : (0 < k ∧ sLt l[k - 1]!.Name x.Name = false) ↔ sLt l[k - 1]!.Name x.Name = false := by constructor; exact fun h => h.2; exact fun h => ⟨by omega, h⟩
    simp only [this]
    cases sLt l[k - 1]!.Name x.Name <;> rfl
theorem ref_AttrsError_step (l : List GAttr) (ch : Bool) (h : okStr l) (hm : l.length ≤ 9223372036854775807) (k : Nat) (hk : k < l.length) : ref_AttrsError_L1 l ch k = stepOf k (errA l ch k) := by
  unfold ref_AttrsError_L1 errA
  obtain ⟨hn1, hn2⟩ := h.at hk
  rw [if_pos (by simpa using hk), idx_nat hk, bnd1_some]
  generalize l[k]! = x at hn1 hn2 ⊢
  rw [ref_Name_eq _ hn1, bnd1_some]
  cases nameOK x.Name
  · rfl
  rw [if_neg (by decide), if_neg (by decide), ref_Value_eq _ hn2, bnd1_some, chk_nat (by omega)]
  by_cases hv : valOK x.Value = false ∧ ¬ (ch = true ∧ x.Value = [])
  · rw [if_pos hv, if_pos (by simp [hv.1]; cases ch <;> simp_all)]; rfl
  rw [if_neg hv, if_neg (by intro e; simp at e; exact hv ⟨e.1, by rintro ⟨a, b⟩; simp [a, b] at e⟩)]
  by_cases hk0 : k = 0
  · subst hk0; rfl
  · have h0 : decide ((0 : Int) < (k : Int)) = true := by simp; omega
    rw [h0, chk_pred (by omega) (by omega)]
    simp only [beq_self_eq_true, gd_true, bnd1_some, Bool.true_and]
    rw [idx_nat (by omega), bnd1_some]
    have : (0 < k ∧ sLt l[k - 1]!.Name x.Name = false) ↔ sLt l[k - 1]!.Name x.Name = false := by constructor; exact fun h => h.2; exact fun h => ⟨by omega, h⟩
    simp only [this]
    cases sLt l[k - 1]!.Name x.Name <;> rfl
theorem out_getD {o : Option Int} : (ctl1 (some (outOf o)) fun _ : Unit => some 0) = some (o.getD 0) := by cases o <;> rfl
theorem attr_check_eq (l : List GAttr) (ch : Bool) (h : okStr l) (hm : l.length ≤ 9223372036854775807) : attr_check l ch = some (attrErr l ch) := by
  unfold attr_check
  rw [iter_find (n := l.length) (errA l ch) (fun k hk => attr_check_step l ch h hm k hk) (by unfold attr_check_L1; rw [if_neg (by simp)]), out_getD]; rfl
theorem ref_AttrsError_eq (l : List GAttr) (ch : Bool) (h : okStr l) (hm : l.length ≤ 9223372036854775807) : ref_AttrsError l ch = some (attrErr l ch) := by
  unfold ref_AttrsError
  rw [iter_find (n := l.length) (errA l ch) (fun k hk => ref_AttrsError_step l ch h hm k hk) (by unfold ref_AttrsError_L1; rw [if_neg (by simp)]), out_getD]; rfl
theorem attr_Check_eq (l : List GAttr) (h : okStr l) (hm : l.length ≤ 9223372036854775807) : attr_Check l = some (attrErr l false) := by unfold attr_Check; rw [attr_check_eq l _ h hm]; rfl
end Go.Proofs.YtdeglnbioiicaaaDoor.Al


namespace Go.Proofs.YtdeglnbioiicaaaDoor.Al
def nil2 : GAttr := ⟨[], []⟩
theorem attr_eq_iff (x y : GAttr) : x = y ↔ x.Name = y.Name ∧ x.Value = y.Value := by cases x; cases y; simp
theorem attr_Same_eq (a b : List GAttr) (hm : a.length ≤ 9223372036854775807) : attr_Same a b = some (decide (a = b)) := by
  unfold attr_Same
  by_cases hl : a.length = b.length
  · rw [if_neg (by simp [hl]), iter_find (n := a.length) (fun k => if decide (a[k]! = b[k]!) then none else some false) (fun k hk => by
      unfold attr_Same_L1
      rw [if_pos (by simpa using hk), idx_nat hk, idx_nat (by omega), bnd1_some, bnd1_some, chk_nat (by omega)]
      generalize a[k]! = x
      generalize b[k]! = y
      by_cases h : x = y
      · subst h; simp [stepOf]
      · have h' := h; rw [attr_eq_iff] at h'
        simp only [decide_eq_false h, Bool.and_true]
        by_cases h1 : x.Name = y.Name
        · have h2 : ¬ x.Value = y.Value := fun e => h' ⟨h1, e⟩
          simp [h1, h2, stepOf]
        · simp [h1, stepOf]) (by unfold attr_Same_L1; rw [if_neg (by simp)]), find_const, ctl_outOf]
    by_cases h : a = b
    · subst h; simp
    · rw [decide_eq_false h]
      have : ((List.range a.length).all fun k => decide (a[k]! = b[k]!)) = false := by
        rw [← Bool.not_eq_true, List.all_eq_true]
        intro hall
        apply h
        apply List.ext_getElem hl
        intro k h1 h2
        have := hall k (List.mem_range.2 h1)
        simp only [decide_eq_true_eq] at this
        rwa [getElem!_pos a k h1, getElem!_pos b k h2] at this
      rw [this]; rfl
  · rw [if_pos (by simp; omega), decide_eq_false (by rintro rfl; exact hl rfl)]
theorem ref_SameAttrs_eq (a b : List GAttr) (hm : a.length ≤ 9223372036854775807) : ref_SameAttrs a b = some (decide (a = b)) := by
  unfold ref_SameAttrs
  by_cases hl : a.length = b.length
  · rw [if_neg (by simp [hl]), iter_find (n := a.length) (fun k => if decide (a[k]! = b[k]!) then none else some false) (fun k hk => by
      unfold ref_SameAttrs_L1
      rw [if_pos (by simpa using hk), idx_nat hk, idx_nat (by omega), bnd1_some, bnd1_some, chk_nat (by omega)]
      generalize a[k]! = x
      generalize b[k]! = y
      by_cases h : x = y
      · subst h; simp [stepOf]
      · have h' := h; rw [attr_eq_iff] at h'
        simp only [decide_eq_false h, Bool.and_true]
        by_cases h1 : x.Name = y.Name
        · have h2 : ¬ x.Value = y.Value := fun e => h' ⟨h1, e⟩
          simp [h1, h2, stepOf]
        · simp [h1, stepOf]) (by unfold ref_SameAttrs_L1; rw [if_neg (by simp)]), find_const, ctl_outOf]
    by_cases h : a = b
    · subst h; simp
    · rw [decide_eq_false h]
      have : ((List.range a.length).all fun k => decide (a[k]! = b[k]!)) = false := by
        rw [← Bool.not_eq_true, List.all_eq_true]
        intro hall
        apply h
        apply List.ext_getElem hl
        intro k h1 h2
        have := hall k (List.mem_range.2 h1)
        simp only [decide_eq_true_eq] at this
        rwa [getElem!_pos a k h1, getElem!_pos b k h2] at this
      rw [this]; rfl
  · rw [if_pos (by simp; omega), decide_eq_false (by rintro rfl; exact hl rfl)]
end Go.Proofs.YtdeglnbioiicaaaDoor.Al


namespace Go.Proofs.YtdeglnbioiicaaaDoor.Al
end Go.Proofs.YtdeglnbioiicaaaDoor.Al


namespace Go.Proofs.YtdeglnbioiicaaaDoor.Al
def One (l : List GAttr) (n : List UInt8) (o : Option GAttr) : Prop := l = o.toList ∧ ∀ e, o = some e → e.Name = n
structure GOK (g : GAttr → GAttr → List GAttr) (G : Option GAttr → Option GAttr → Option GAttr) : Prop where
  l : ∀ x : GAttr, x.Name ≠ [] → One (g x nil2) x.Name (G (some x) none)
  r : ∀ y : GAttr, y.Name ≠ [] → One (g nil2 y) y.Name (G none (some y))
  b : ∀ x y : GAttr, x.Name = y.Name → x.Name ≠ [] → One (g x y) x.Name (G (some x) (some y))
  n : G none none = none
end Go.Proofs.YtdeglnbioiicaaaDoor.Al


namespace Go.Proofs.YtdeglnbioiicaaaDoor.Al
end Go.Proofs.YtdeglnbioiicaaaDoor.Al


namespace Go.Proofs.YtdeglnbioiicaaaDoor.Al
theorem iter_hoare {σ β : Type} {f : σ → Option (σ ⊕ β)} (n : Nat) (R : Nat → σ → Prop) (Q : β → Prop)
    (h1 : ∀ k s, k < n → R k s → (∃ s', f s = some (.inl s') ∧ R (k + 1) s') ∨ (∃ b, f s = some (.inr b) ∧ Q b))
    (h2 : ∀ s, R n s → ∃ b, f s = some (.inr b) ∧ Q b) {s : σ} (h0 : R 0 s) : ∃ b, iter f s = some b ∧ Q b := by
  have key : ∀ m k s, k + m = n → R k s → ∃ b, iter f s = some b ∧ Q b := by
    intro m
    induction m with
    | zero =>
      intro k s hk hR
      obtain rfl : k = n := by omega
      obtain ⟨b, hb, hq⟩ := h2 s hR
      exact ⟨b, iter_stop hb, hq⟩
    | succ m ih =>
      intro k s hk hR
      rcases h1 k s (by omega) hR with ⟨s', h3, h4⟩ | ⟨b, h3, h4⟩
      · obtain ⟨b, h5, h6⟩ := ih (k + 1) s' (by omega) h4
        exact ⟨b, by rw [iter_next h3, h5], h6⟩
      · exact ⟨b, iter_stop h3, h4⟩
  exact key n 0 s (by omega) h0
theorem mem_at {α : Type} [Inhabited α] {l : List α} {k : Nat} (h : k < l.length) : l[k]! ∈ l := by
  rw [getElem!_pos l k h]; exact List.getElem_mem h
def oldN (s : GAxisStep) : Int := if s.Kind = 1 then 0 else s.N
def nowN (s : GAxisStep) : Int := if s.Kind = 2 then 0 else s.N
def oldLen (a : List GAxisStep) : Int := (a.map oldN).sum
def nowLen (a : List GAxisStep) : Int := (a.map nowN).sum
def Stp (s : GAxisStep) : Prop := 0 ≤ s.Kind ∧ s.Kind ≤ 2 ∧ 1 ≤ s.N ∧ s.N ≤ 2147483647
theorem ref_In_eq (x lo hi : Int) : ref_In x lo hi = some (decide (lo ≤ x) && decide (x ≤ hi)) := by
  unfold ref_In
  rfl
end Go.Proofs.YtdeglnbioiicaaaDoor.Al


namespace Go.Proofs.YtdeglnbioiicaaaDoor.Al
theorem ref_SameInts_eq (a b : List Int) (hm : a.length ≤ 9223372036854775807) : ref_SameInts a b = some (decide (a = b)) := by
  unfold ref_SameInts
  by_cases hl : a.length = b.length
  · rw [if_neg (by simp [hl]), iter_find (n := a.length) (fun k => if decide (a[k]! = b[k]!) then none else some false) (fun k hk => by
      unfold ref_SameInts_L1
      rw [if_pos (by simpa using hk), idx_nat hk, idx_nat (by omega), bnd1_some, bnd1_some, chk_nat (by omega)]
      generalize a[k]! = x
      generalize b[k]! = y
      by_cases h : x = y
      · subst h; simp [stepOf]
      · simp [h, stepOf]) (by unfold ref_SameInts_L1; rw [if_neg (by simp)]), find_const, ctl_outOf]
    by_cases h : a = b
    · subst h; simp
    · rw [decide_eq_false h]
      have : ((List.range a.length).all fun k => decide (a[k]! = b[k]!)) = false := by
        rw [← Bool.not_eq_true, List.all_eq_true]
        intro hall
        apply h
        apply List.ext_getElem hl
        intro k h1 h2
        have := hall k (List.mem_range.2 h1)
        simp only [decide_eq_true_eq] at this
        rwa [getElem!_pos a k h1, getElem!_pos b k h2] at this
      rw [this]; rfl
  · rw [if_pos (by simp; omega), decide_eq_false (by rintro rfl; exact hl rfl)]
structure GoodA (a : List GAxisStep) : Prop where
  stp : ∀ s ∈ a, Stp s
  olds : oldLen a ≤ 2147483647
  nows : nowLen a ≤ 2147483647
theorem oldLen_cons (s : GAxisStep) (a : List GAxisStep) : oldLen (s :: a) = oldN s + oldLen a := by simp [oldLen]
theorem nowLen_cons (s : GAxisStep) (a : List GAxisStep) : nowLen (s :: a) = nowN s + nowLen a := by simp [nowLen]
theorem GoodA.len {a : List GAxisStep} (h : GoodA a) : (a.length : Int) ≤ 4294967294 := by
  have key : ∀ l : List GAxisStep, (∀ s ∈ l, Stp s) → (l.length : Int) ≤ oldLen l + nowLen l := by
    intro l
    induction l with
    | nil => intro _; simp [oldLen, nowLen]
    | cons s l ih =>
      intro h
      have h1 := ih fun x hx => h x (List.mem_cons_of_mem _ hx)
      have h2 := h s (List.mem_cons_self ..)
      rw [oldLen_cons, nowLen_cons, List.length_cons]
      unfold oldN nowN
      unfold Stp at h2
      split <;> split <;> omega
  have h1 := key a h.stp
  have h2 := h.olds
  have h3 := h.nows
  omega
def Run (a : List GAxisStep) (k : Nat) (f t : Int) : Prop := 0 ≤ f ∧ f + oldLen (a.drop k) ≤ 2147483647 ∧ 0 ≤ t ∧ t + nowLen (a.drop k) ≤ 2147483647
theorem GoodA.run {a : List GAxisStep} (h : GoodA a) : Run a 0 0 0 := by
  have h2 := h.olds
  have h3 := h.nows
  unfold Run
  rw [List.drop_zero]
  omega
theorem app8 {o : List Int} {x : Int} (h : o.length + 1 ≤ 1099511627776) : app 8 o [x] = some (o ++ [x]) := by
  unfold app; rw [if_pos (by simp; omega)]
def sizeLen (a : List GAxisStep) : Int := (a.map (·.N)).sum
end Go.Proofs.YtdeglnbioiicaaaDoor.Al


namespace Go.Proofs.YtdeglnbioiicaaaDoor.Al
def charOK (c : Int) : Bool := decide (c = 9) || decide (c = 10) || (decide (32 ≤ c) && decide (c ≤ 126)) || (decide (160 ≤ c) && decide (c ≤ 55295)) || (decide (57344 ≤ c) && decide (c ≤ 1114111))
def elemErr (x : GElem) : Int :=
  if (x.Char = 0 ∧ x.Ref = 0) ∨ (x.Char ≠ 0 ∧ x.Ref ≠ 0) then 4 else if (x.Char ≠ 0 ∧ charOK x.Char = false) ∨ (x.Ref ≠ 0 ∧ ¬ (1 ≤ x.Ref ∧ x.Ref ≤ 1073741824)) then 2 else attrErr x.Attrs false
def okE (x : GElem) : Prop := x.Attrs.length ≤ 9223372036854775807 ∧ okStr x.Attrs
theorem flow_Char_eq (c : Int) : flow_Char c = some (charOK c) := by
  unfold flow_Char charOK
  congr 1
  rw [Bool.eq_iff_iff]
  simp only [Bool.or_eq_true, Bool.and_eq_true, decide_eq_true_eq]
  omega
theorem ref_Char_eq (c : Int) : ref_Char c = some (charOK c) := by
  unfold ref_Char charOK
  rw [ref_In_eq, ref_In_eq, ref_In_eq]
  generalize decide (c = 9) = a1
  generalize decide (c = 10) = a2
  generalize (decide (32 ≤ c) && decide (c ≤ 126)) = a3
  generalize (decide (160 ≤ c) && decide (c ≤ 55295)) = a4
  generalize (decide (57344 ≤ c) && decide (c ≤ 1114111)) = a5
  cases a1 <;> cases a2 <;> cases a3 <;> cases a4 <;> cases a5 <;> rfl
theorem flow_elem_eq (x : GElem) (h : okE x) : flow_elem x = some (elemErr x) := by
  unfold flow_elem elemErr
  rw [flow_Char_eq, attr_Check_eq _ h.2 h.1]
  by_cases c : x.Char = 0
  · by_cases r : x.Ref = 0
    · simp [c, r]
    · by_cases q : 1 ≤ x.Ref ∧ x.Ref ≤ 1073741824
      · have q1 : ¬ x.Ref < 1 := by omega
        have q2 : ¬ 1073741824 < x.Ref := by omega
        simp [c, r, q, q1, q2]
      · have q1 : x.Ref < 1 ∨ 1073741824 < x.Ref := by omega
        simp [c, r, q, q1]
  · by_cases r : x.Ref = 0
    · cases hc : charOK x.Char <;> simp [c, r, hc]
    · simp [c, r]
theorem ref_ElemError_eq (x : GElem) (h : okE x) : ref_ElemError x = some (elemErr x) := by
  unfold ref_ElemError elemErr
  rw [ref_Char_eq, ref_AttrsError_eq _ _ h.2 h.1, ref_In_eq]
  by_cases c : x.Char = 0
  · by_cases r : x.Ref = 0
    · simp [c, r]
    · by_cases q : 1 ≤ x.Ref ∧ x.Ref ≤ 1073741824
      · simp [c, r, q]
      · have q1 : (decide (1 ≤ x.Ref) && decide (x.Ref ≤ 1073741824)) = false := by rw [← Bool.not_eq_true]; simpa using q
        simp [c, r, q, q1]
  · by_cases r : x.Ref = 0
    · cases hc : charOK x.Char <;> simp [c, r, hc]
    · simp [c, r]
def errE (f : List GElem) (k : Nat) : Option Int := if elemErr f[k]! = 0 then none else some (elemErr f[k]!)
def partErr (f : List GElem) : Int := ((List.range f.length).findSome? (errE f)).getD 0
theorem flow_CheckPart_eq (f : List GElem) (h : ∀ x ∈ f, okE x) (hm : f.length ≤ 9223372036854775807) : flow_CheckPart f = some (partErr f) := by
  unfold flow_CheckPart
  rw [iter_find (n := f.length) (errE f) (fun k hk => by
    unfold flow_CheckPart_L1 errE
    rw [if_pos (by simpa using hk), idx_nat hk, bnd1_some, chk_nat (by omega), flow_elem_eq _ (h _ (mem_at hk)), bnd1_some]
    by_cases e : elemErr f[k]! = 0
    · rw [if_neg (by simpa using e), if_pos e]; rfl
    · rw [if_pos (by simpa using e), if_neg e]; rfl) (by unfold flow_CheckPart_L1; rw [if_neg (by simp)]), out_getD]; rfl
theorem ref_PartError_eq (f : List GElem) (h : ∀ x ∈ f, okE x) (hm : f.length ≤ 9223372036854775807) : ref_PartError f = some (partErr f) := by
  unfold ref_PartError
  rw [iter_find (n := f.length) (errE f) (fun k hk => by
    unfold ref_PartError_L1 errE
    rw [if_pos (by simpa using hk), idx_nat hk, bnd1_some, chk_nat (by omega), ref_ElemError_eq _ (h _ (mem_at hk)), bnd1_some]
    by_cases e : elemErr f[k]! = 0
    · rw [if_neg (by simpa using e), if_pos e]; rfl
    · rw [if_pos (by simpa using e), if_neg e]; rfl) (by unfold ref_PartError_L1; rw [if_neg (by simp)]), out_getD]; rfl
end Go.Proofs.YtdeglnbioiicaaaDoor.Al


namespace Go.Proofs.YtdeglnbioiicaaaDoor.Al
theorem ndT {p : Prop} [Decidable p] (h : ¬ p) : (!decide p) = true := by simp [h]
theorem ndF {p : Prop} [Decidable p] (h : p) : ¬ ((!decide p) = true) := by simp [h]
def okA (l : List GAttr) : Prop := l.length ≤ 1073741824 ∧ okStr l
theorem okA.e {x : GElem} (h : okA x.Attrs) : okE x := ⟨by have := h.1; omega, h.2⟩
structure OkSt (s : GStep) : Prop where
  at_ : okA s.Attrs
  el : s.Elems.length ≤ 1073741824
  ea : ∀ e ∈ s.Elems, okA e.Attrs
structure OkD (d : List GStep) : Prop where
  len : d.length ≤ 1099511627776
  st : ∀ s ∈ d, OkSt s
  sum : (d.map fun s => s.Elems.length).sum ≤ 1073741824
structure GoodS (s : GStep) : Prop where
  kind : (s.Kind = 0 ∧ s.Elems = [] ∧ 1 ≤ s.N ∧ s.N ≤ 2147483647 ∧ attrErr s.Attrs true = 0) ∨ (s.Kind = 2 ∧ s.Elems = [] ∧ s.Attrs = [] ∧ 1 ≤ s.N ∧ s.N ≤ 2147483647) ∨
    (s.Kind = 1 ∧ s.N = 0 ∧ s.Attrs = [] ∧ s.Elems ≠ [] ∧ partErr s.Elems = 0)
def ordBad (p s : GStep) : Bool := (decide (p.Kind = s.Kind) && (!decide (s.Kind = 0) || decide (p.Attrs = s.Attrs))) || (decide (p.Kind = 2) && decide (s.Kind = 1))
def oldS (s : GStep) : Int := if s.Kind = 1 then 0 else s.N
def nowS (s : GStep) : Int := if s.Kind = 2 then 0 else if s.Kind = 1 then s.Elems.length else s.N
def oldD (d : List GStep) : Int := (d.map oldS).sum
def nowD (d : List GStep) : Int := (d.map nowS).sum
end Go.Proofs.YtdeglnbioiicaaaDoor.Al


namespace Go.Proofs.YtdeglnbioiicaaaDoor.Al
end Go.Proofs.YtdeglnbioiicaaaDoor.Al


namespace Go.Proofs.YtdeglnbioiicaaaDoor.Al
inductive Un where
  | a (e : GElem)
  | r (cut : Bool) (at_ : List GAttr)
def uOf : List (List GElem) → List Bool → List (List GAttr) → List Un
  | A :: As, c :: cs, t :: ts => A.map Un.a ++ Un.r c t :: uOf As cs ts
  | A :: _, _, _ => A.map Un.a
  | [], _, _ => []
structure WfA (x : Ref_Act) : Prop where
  adds : x.Adds.length = x.Cuts.length + 1
  attrs : x.Attrs.length = x.Cuts.length
def Ref_Act.us (x : Ref_Act) : List Un := uOf x.Adds x.Cuts x.Attrs
theorem app40 {α : Type} {o xs : List α} (h : o.length + xs.length ≤ 1099511627776) : app 40 o xs = some (o ++ xs) := by
  unfold app; rw [if_pos]; omega
end Go.Proofs.YtdeglnbioiicaaaDoor.Al


namespace Go.Proofs.YtdeglnbioiicaaaDoor.Al
end Go.Proofs.YtdeglnbioiicaaaDoor.Al


namespace Go.Proofs.YtdeglnbioiicaaaDoor.Al
structure DS where
  out : List GStep
  adds : List GElem
  cuts : Nat
structure DB (m : Nat) (s : DS) : Prop where
  len : s.out.length + s.adds.length + s.cuts ≤ m
  mem : ∀ x ∈ s.out, 0 ≤ x.N ∧ x.N ≤ m ∧ x.Elems.length ≤ m ∧ x.Attrs.length ≤ 1099511627776
end Go.Proofs.YtdeglnbioiicaaaDoor.Al


namespace Go.Proofs.YtdeglnbioiicaaaDoor.Al
structure GoodD (d : List GStep) : Prop where
  st : ∀ s ∈ d, GoodS s
  ord : ∀ k, 0 < k → k < d.length → ordBad d[k - 1]! d[k]! = false
  olds : oldD d ≤ 2147483647
  nows : nowD d ≤ 2147483647
end Go.Proofs.YtdeglnbioiicaaaDoor.Al


namespace Go.Proofs.YtdeglnbioiicaaaDoor.Al
def onA (n : List UInt8) : List GAttr := [⟨n, [111, 110]⟩]
theorem law_on_eq (n : List UInt8) : law_on n = some (onA n) := rfl
end Go.Proofs.YtdeglnbioiicaaaDoor.Al


namespace Go.Proofs.YtdeglnbioiicaaaDoor.Al
def Okk2 (a : Nat) (s : GStep) : Prop := ((s.Kind = 0 ∧ s.Elems = [] ∧ 1 ≤ s.N ∧ attrErr s.Attrs true = 0) ∨ (s.Kind = 2 ∧ s.Elems = [] ∧ s.Attrs = [] ∧ 1 ≤ s.N) ∨
    (s.Kind = 1 ∧ s.N = 0 ∧ s.Attrs = [] ∧ s.Elems ≠ [] ∧ ∀ e ∈ s.Elems, elemErr e = 0)) ∧ okA s.Attrs ∧ s.Elems.length ≤ a ∧ ∀ e ∈ s.Elems, okA e.Attrs
def AdjD (l : List GStep) : Prop := ∀ k, 0 < k → k < l.length → ordBad l[k - 1]! l[k]! = false
structure CD (m a r n : Nat) (s : DS) : Prop where
  ok : ∀ x ∈ s.out, Okk2 a x
  adj : AdjD s.out
  last : 0 < s.out.length → s.out[s.out.length - 1]!.Kind = 0
  add : ∀ e ∈ s.adds, elemErr e = 0 ∧ okA e.Attrs
  olds : oldD s.out + s.cuts = r
  nows : nowD s.out + s.adds.length = n
  len : s.out.length + s.adds.length + s.cuts ≤ m
  al : s.adds.length ≤ a
theorem Okk2.mono {a b : Nat} {s : GStep} (h : Okk2 a s) (hab : a ≤ b) : Okk2 b s := ⟨h.1, h.2.1, Nat.le_trans h.2.2.1 hab, h.2.2.2⟩
end Go.Proofs.YtdeglnbioiicaaaDoor.Al


namespace Go.Proofs.YtdeglnbioiicaaaDoor.Al
end Go.Proofs.YtdeglnbioiicaaaDoor.Al


namespace Go.Proofs.YtdeglnbioiicaaaDoor.Al
theorem ref_SameElem_eq (x y : GElem) (h : x.Attrs.length ≤ 1073741824) : ref_SameElem x y = some (decide (x = y)) := by
  unfold ref_SameElem
  rw [ref_SameAttrs_eq _ _ (by omega)]
  obtain ⟨x1, x2, x3⟩ := x
  obtain ⟨y1, y2, y3⟩ := y
  by_cases h1 : x1 = y1 <;> by_cases h2 : x2 = y2 <;> by_cases h3 : x3 = y3 <;> simp [h1, h2, h3, default]
theorem all_eq_of {α : Type} [Inhabited α] [DecidableEq α] {a b : List α} (hl : a.length = b.length) (h : ((List.range a.length).all fun k => decide (a[k]! = b[k]!)) = true) : a = b := by
  apply List.ext_getElem hl
  intro k h1 h2
  have := List.all_eq_true.1 h k (List.mem_range.2 h1)
  simp only [decide_eq_true_eq] at this
  rwa [getElem!_pos a k h1, getElem!_pos b k h2] at this
theorem all_refl {α : Type} [Inhabited α] [DecidableEq α] (a : List α) : ((List.range a.length).all fun k => decide (a[k]! = a[k]!)) = true := by
  rw [List.all_eq_true]; intro k _; rw [decide_eq_true rfl]
theorem ref_SameFlow_eq (a b : List GElem) (hm : a.length ≤ 9223372036854775806) (h : ∀ e ∈ a, e.Attrs.length ≤ 1073741824) : ref_SameFlow a b = some (decide (a = b)) := by
  unfold ref_SameFlow
  by_cases hl : a.length = b.length
  · rw [if_neg (by simp [hl]), iter_find (n := a.length) (fun k => if decide (a[k]! = b[k]!) then none else some false) (fun k hk => by
      unfold ref_SameFlow_L1
      rw [if_pos (by simpa using hk), idx_nat hk, idx_nat (by omega), bnd1_some, bnd1_some, ref_SameElem_eq _ _ (h _ (mem_at hk)), bnd1_some, chk_nat (by omega)]
      generalize a[k]! = x
      generalize b[k]! = y
      by_cases h : x = y <;> simp [h, stepOf]) (by unfold ref_SameFlow_L1; rw [if_neg (by simp)]), find_const, ctl_outOf]
    by_cases h : a = b
    · subst h; rw [all_refl, decide_eq_true rfl]; rfl
    · rw [decide_eq_false h]
      have : ((List.range a.length).all fun k => decide (a[k]! = b[k]!)) = false := by
        rw [← Bool.not_eq_true]; exact fun hh => h (all_eq_of hl hh)
      rw [this]; rfl
  · rw [if_pos (by simp; omega), decide_eq_false (by rintro rfl; exact hl rfl)]
def OkU2 (us : List Un) : Prop := ∀ u ∈ us, match u with | .a e => elemErr e = 0 ∧ e.Attrs.length ≤ 1048576 | .r c t => (c = false → attrErr t true = 0) ∧ t.length ≤ 1048576
end Go.Proofs.YtdeglnbioiicaaaDoor.Al


namespace Go.Proofs.YtdeglnbioiicaaaDoor.Al
theorem okA_bulk {κ : GAttr → Nat} (h3 : ∀ a, a.Name.length + a.Value.length + 1 ≤ κ a) {l : List GAttr} (hb : (l.map κ).sum ≤ 1048576) : okA l := by
  have h1 := len_le_sum (μ := κ) (fun a => by have := h3 a; omega) l
  refine ⟨by omega, fun a ha => ?_⟩
  have h2 := mem_le_sum (μ := κ) ha
  have := h3 a
  omega
theorem okF_bulk {ν : GElem → Nat} {κ : GAttr → Nat} (h2 : ∀ e, (e.Attrs.map κ).sum + 1 ≤ ν e) (h3 : ∀ a, a.Name.length + a.Value.length + 1 ≤ κ a) {f : List GElem} (hb : (f.map ν).sum ≤ 1048576) : f.length ≤ 1048576 ∧ ∀ e ∈ f, okA e.Attrs := by
  have h1 := len_le_sum (μ := ν) (fun e => by have := h2 e; omega) f
  refine ⟨by omega, fun e he => okA_bulk h3 ?_⟩
  have h4 := mem_le_sum (μ := ν) he
  have := h2 e
  omega
end Go.Proofs.YtdeglnbioiicaaaDoor.Al


namespace Go.Proofs.YtdeglnbioiicaaaDoor.Al
structure SmD (d : List GStep) : Prop where
  at_ : ∀ s ∈ d, s.Attrs.length ≤ 1048576
  ea : ∀ s ∈ d, ∀ e ∈ s.Elems, e.Attrs.length ≤ 1048576
  sum : (d.map fun s => s.Elems.length).sum ≤ 1048576
  len : d.length ≤ 1048576
end Go.Proofs.YtdeglnbioiicaaaDoor.Al


namespace Go.Proofs.YtdeglnbioiicaaaDoor.Al
def OkU3 (us : List Un) : Prop := ∀ u ∈ us, match u with | .a e => elemErr e = 0 ∧ e.Attrs.length ≤ 1048576 | .r c t => (c = false → attrErr t true = 0) ∧ (c = true → t = []) ∧ t.length ≤ 1048576
theorem OkU3.two {us : List Un} (h : OkU3 us) : OkU2 us := by
  intro u hu
  have := h u hu
  match u, this with
  | .a e, he => exact he
  | .r c t, ht => exact ⟨ht.1, ht.2.2⟩
def szS (s : GStep) : Int := if s.Kind = 1 then s.Elems.length else s.N
structure RdD (p : Delta_Reader) : Prop where
  stp : ∀ s ∈ p.steps, GoodS s ∧ OkSt s
  u0 : 0 ≤ p.used
  fit : ∀ s rest, p.steps = s :: rest → p.used < szS s
end Go.Proofs.YtdeglnbioiicaaaDoor.Al


namespace Go.Proofs.YtdeglnbioiicaaaDoor.Al
end Go.Proofs.YtdeglnbioiicaaaDoor.Al


namespace Go.Proofs.YtdeglnbioiicaaaDoor.Al
end Go.Proofs.YtdeglnbioiicaaaDoor.Al


namespace Go.Proofs.YtdeglnbioiicaaaDoor.Al
def Adj (l : List GAxisStep) : Prop := ∀ k, k + 1 < l.length → l[k]!.Kind ≠ l[k + 1]!.Kind ∧ ¬ (l[k]!.Kind = 2 ∧ l[k + 1]!.Kind = 1)
def Okk (s : GAxisStep) : Prop := 0 ≤ s.Kind ∧ s.Kind ≤ 2 ∧ 1 ≤ s.N
structure WB (m : Int) (w : Axis_Writer) : Prop where
  a0 : 0 ≤ w.add
  c0 : 0 ≤ w.cut
  ok : ∀ s ∈ w.out, Okk s
  sum : sizeLen w.out + w.add + w.cut = m
  adj : Adj w.out
  last : 0 < w.out.length → w.out[w.out.length - 1]!.Kind = 0
end Go.Proofs.YtdeglnbioiicaaaDoor.Al


namespace Go.Proofs.YtdeglnbioiicaaaDoor.Al
structure RdOK (p : Axis_Reader) : Prop where
  stp : ∀ s ∈ p.steps, Stp s
  u0 : 0 ≤ p.used
  fit : ∀ s rest, p.steps = s :: rest → p.used < s.N
end Go.Proofs.YtdeglnbioiicaaaDoor.Al


namespace Go.Proofs.YtdeglnbioiicaaaDoor.Al
end Go.Proofs.YtdeglnbioiicaaaDoor.Al


namespace Go.Proofs.YtdeglnbioiicaaaDoor.Al
theorem OkU3.app {a b : List Un} (h : OkU3 (a ++ b)) : OkU3 b := fun u hu => h u (List.mem_append_right _ hu)
end Go.Proofs.YtdeglnbioiicaaaDoor.Al


namespace Go.Proofs.YtdeglnbioiicaaaDoor.Al
end Go.Proofs.YtdeglnbioiicaaaDoor.Al


namespace Go.Proofs.YtdeglnbioiicaaaDoor.Al
def flowErr (f : List GElem) : Int := if partErr f ≠ 0 then partErr f else if f = [] ∨ f[f.length - 1]!.Char ≠ 10 then 11 else 0
theorem errE_ne {f : List GElem} {k : Nat} {r : Int} (h : errE f k = some r) : r ≠ 0 := by
  unfold errE at h
  split at h
  · cases h
  · rename_i hne; cases h; exact hne
theorem flowErr_of (f : List GElem) (hm : f.length ≤ 1073741824) : (ctl1 (some (outOf ((List.range f.length).findSome? (errE f)))) fun (_ : Unit) =>
    bnd1 (gd ((true == true) && ((decide ((f.length : Int) = 0)) == false)) (chk .i64 ((f.length : Int) - 1))) fun (x4 : Int) =>
    bnd1 (gd ((true == true) && ((decide ((f.length : Int) = 0)) == false)) (idx f x4)) fun (x5 : GElem) =>
    if (true && ((decide ((f.length : Int) = 0)) || (!decide (x5.Char = 10)))) then some (11 : Int) else some 0) = some (flowErr f) := by
  rw [ctl_outOf]
  unfold flowErr partErr
  cases hr : (List.range f.length).findSome? (errE f) with
  | some r =>
    have hne : r ≠ 0 := by
      obtain ⟨k, hk⟩ := List.exists_of_findSome?_eq_some hr
      exact errE_ne hk.2
    dsimp only [Option.getD]
    rw [if_pos hne]
  | none =>
    dsimp only [Option.getD]
    rw [if_neg (by decide)]
    by_cases hl : f = []
    · subst hl; rfl
    · have h0 : 0 < f.length := List.length_pos_iff.2 hl
      have hd : decide ((f.length : Int) = 0) = false := decide_eq_false (by omega)
      rw [hd, show ((true == true) && (false == false)) = true from rfl, gd_true, show ((f.length : Int) - 1) = ((f.length - 1 : Nat) : Int) by omega, chk64 (by omega) (by omega), bnd1_some, gd_true, idx_nat (by omega), bnd1_some]
      by_cases hc : f[f.length - 1]!.Char = 10
      · rw [if_neg (by rw [decide_eq_true hc]; decide), if_neg (fun h => h.elim hl fun h => h hc)]
      · rw [if_pos (by rw [decide_eq_false hc]; decide), if_pos (.inr hc)]
theorem flow_Check_eq (f : List GElem) (h : ∀ x ∈ f, okE x) (hm : f.length ≤ 1073741824) : flow_Check f true = some (flowErr f) := by
  unfold flow_Check
  rw [iter_find (n := f.length) (errE f) (fun k hk => by
    unfold flow_Check_L1 errE
    rw [if_pos (by simpa using hk), idx_nat hk, bnd1_some, chk_nat (by omega), flow_elem_eq _ (h _ (mem_at hk)), bnd1_some]
    by_cases e : elemErr f[k]! = 0
    · rw [if_neg (ndF e), if_pos e]; rfl
    · rw [if_pos (ndT e), if_neg e]; rfl) (by unfold flow_Check_L1; rw [if_neg (by simp)])]
  exact flowErr_of f hm
theorem ref_FlowError_eq (f : List GElem) (h : ∀ x ∈ f, okE x) (hm : f.length ≤ 1073741824) : ref_FlowError f true = some (flowErr f) := by
  unfold ref_FlowError
  rw [iter_find (n := f.length) (errE f) (fun k hk => by
    unfold ref_FlowError_L1 errE
    rw [if_pos (by simpa using hk), idx_nat hk, bnd1_some, chk_nat (by omega), ref_ElemError_eq _ (h _ (mem_at hk)), bnd1_some]
    by_cases e : elemErr f[k]! = 0
    · rw [if_neg (ndF e), if_pos e]; rfl
    · rw [if_pos (ndT e), if_neg e]; rfl) (by unfold ref_FlowError_L1; rw [if_neg (by simp)])]
  exact flowErr_of f hm
instance : Inhabited Un := ⟨.r false []⟩
def off (n : List UInt8) : GAttr := ⟨n, []⟩
end Go.Proofs.YtdeglnbioiicaaaDoor.Al


namespace Go.Proofs.YtdeglnbioiicaaaDoor.Al
theorem decode_ascii (c : UInt8) (s : List UInt8) (h : c.toNat < 128) : unicode_utf8_DecodeRuneInString (c :: s) = some ((c.toNat : Int), 1) := by
  unfold unicode_utf8_DecodeRuneInString
  have e0 : idx (c :: s) 0 = some c := rfl
  rw [decide_eq_false (by simp), show ((!false) == true) = true from rfl, gd_true, e0, bnd1_some, Bool.not_false, Bool.true_and, if_pos (by rw [decide_eq_true_eq]; omega), bnd1_some]
  have : IntKind.i32.wrap (c.toNat : Int) = (c.toNat : Int) := by
    have h1 : ∀ n : Nat, n < 128 → IntKind.i32.wrap (n : Int) = (n : Int) := by decide +kernel
    exact h1 _ h
  rw [this]
structure TextR (at_ : List GAttr) (m : Nat) (R : Ctl (List GElem) (List GElem × Int)) : Prop where
  nrm : ∀ l, R = .nrm l → l.length ≤ m ∧ ∀ e ∈ l, e.Attrs = at_
  ext : ∀ l e, R = .ext (l, e) → l = []
theorem app32c (l : List GAttr) (h : l.length ≤ 1073741824) : app 32 ([] : List GAttr) l = some l := by
  unfold app
  rw [if_pos (by simp only [List.length_nil]; omega)]; rfl
end Go.Proofs.YtdeglnbioiicaaaDoor.Al


namespace Go.Proofs.YtdeglnbioiicaaaDoor.Al
theorem flow_Of_two (at_ : List GAttr) (ha : okA at_) (he : attrErr at_ false = 0) : flow_Of [97, 98] at_ = some ([⟨97, 0, at_⟩, ⟨98, 0, at_⟩], 0) := by
  have hl := ha.1
  have w1 : IntKind.i64.wrap ((97 : UInt8).toNat : Int) = 97 := by decide +kernel
  have w2 : IntKind.i64.wrap ((98 : UInt8).toNat : Int) = 98 := by decide +kernel
  have c1 : charOK 97 = true := by decide
  have c2 : charOK 98 = true := by decide
  unfold flow_Of
  rw [attr_Check_eq _ ha.2 (by omega), bnd1_some, he, if_neg (by decide)]
  have l1 : flow_Of_L1 at_ [97, 98] [] = some (.inl ([98], [⟨97, 0, at_⟩])) := by
    unfold flow_Of_L1
    rw [if_pos (by decide), decode_ascii 97 [98] (by decide), bnd2_some, if_neg (by decide), w1, flow_Char_eq, bnd1_some, c1, if_neg (by decide), app32c _ hl, bnd1_some, app40 (by simp), bnd1_some]
    rfl
  have l2 : flow_Of_L1 at_ [98] [⟨97, 0, at_⟩] = some (.inl ([], [⟨97, 0, at_⟩, ⟨98, 0, at_⟩])) := by
    unfold flow_Of_L1
    rw [if_pos (by decide), decode_ascii 98 [] (by decide), bnd2_some, if_neg (by decide), w2, flow_Char_eq, bnd1_some, c2, if_neg (by decide), app32c _ hl, bnd1_some, app40 (by simp), bnd1_some]
    rfl
  have l3 : flow_Of_L1 at_ [] [⟨97, 0, at_⟩, ⟨98, 0, at_⟩] = some (.inr (.nrm [⟨97, 0, at_⟩, ⟨98, 0, at_⟩])) := by
    unfold flow_Of_L1
    rw [if_neg (by decide)]
  have := (iter_next (f := fun (a : (List UInt8) × (List GElem)) => flow_Of_L1 at_ a.1 a.2) (s := ([97, 98], [])) l1).trans ((iter_next (f := fun (a : (List UInt8) × (List GElem)) => flow_Of_L1 at_ a.1 a.2) (s := ([98], [⟨97, 0, at_⟩])) l2).trans (iter_stop (f := fun (a : (List UInt8) × (List GElem)) => flow_Of_L1 at_ a.1 a.2) (s := ([], [⟨97, 0, at_⟩, ⟨98, 0, at_⟩])) l3))
  rw [this]; rfl
theorem onA_ok (s : List UInt8) (h : s.length ≤ 100) : okA (onA s) := by
  refine ⟨by simp [onA], fun a ha => ?_⟩
  have : a = (⟨s, [111, 110]⟩ : GAttr) := by simpa [onA] using ha
  subst this
  simp; omega
theorem law_flows_eq : law_flows = some true := by
  unfold law_flows
  have h1 : okA (onA [98, 111, 108, 100]) := onA_ok _ (by decide)
  have h2 : attrErr (onA [98, 111, 108, 100]) false = 0 := by decide +kernel
  rw [law_on_eq, bnd1_some, flow_Of_two _ h1 h2, bnd2_some]
  have i0 : idx ([⟨97, 0, onA [98, 111, 108, 100]⟩, ⟨98, 0, onA [98, 111, 108, 100]⟩] : List GElem) 0 = some ⟨97, 0, onA [98, 111, 108, 100]⟩ := rfl
  have i1 : idx ([⟨97, 0, onA [98, 111, 108, 100]⟩, ⟨98, 0, onA [98, 111, 108, 100]⟩] : List GElem) 1 = some ⟨98, 0, onA [98, 111, 108, 100]⟩ := rfl
  rw [i0, i1, flow_Check_eq [] (by simp) (by simp)]
  have i2 : ref_SameAttrs (onA [98, 111, 108, 100]) (onA [98, 111, 108, 100]) = some true := by rw [ref_SameAttrs_eq _ _ (by decide), decide_eq_true rfl]
  have i3 : flowErr [] = 11 := rfl
  rw [i3]
  show (bnd1 (gd _ (ref_SameAttrs (onA [98, 111, 108, 100]) (onA [98, 111, 108, 100]))) fun (r5 : Bool) => _) = some true
  rw [i2]; rfl
end Go.Proofs.YtdeglnbioiicaaaDoor.Al


namespace Go.Proofs.YtdeglnbioiicaaaDoor.Al
def errT (t : Bool) (f : List GElem) (k : Nat) : Option Int := if elemErr f[k]! = 0 then (if t = false ∧ f[k]!.Ref = 0 then some 8 else none) else some (elemErr f[k]!)
theorem elem_refchar {x : GElem} (h : elemErr x = 0) : (x.Ref = 0 ↔ x.Char ≠ 0) := by
  unfold elemErr at h
  by_cases c : x.Char = 0 <;> by_cases r : x.Ref = 0 <;> simp [c, r] at h ⊢
theorem flow_Check_F (f : List GElem) (h : ∀ x ∈ f, okE x) (hm : f.length ≤ 1073741824) : flow_Check f false = some (((List.range f.length).findSome? (errT false f)).getD 0) := by
  unfold flow_Check
  rw [iter_find (n := f.length) (errT false f) (fun k hk => by
    unfold flow_Check_L1 errT
    rw [if_pos (by simpa using hk), idx_nat hk, bnd1_some, chk_nat (by omega), flow_elem_eq _ (h _ (mem_at hk)), bnd1_some]
    generalize f[k]! = x
    by_cases e : elemErr x = 0
    · rw [if_neg (ndF e), if_pos e]
      by_cases r : x.Ref = 0
      · rw [if_pos (show (!false && decide (x.Ref = 0)) = true by rw [decide_eq_true r]; rfl), if_pos ⟨rfl, r⟩]; rfl
      · rw [if_neg (show ¬ (!false && decide (x.Ref = 0)) = true by rw [decide_eq_false r]; decide), if_neg (fun h => r h.2)]; rfl
    · rw [if_pos (ndT e), if_neg e]; rfl) (by unfold flow_Check_L1; rw [if_neg (by simp)])]
  cases (List.range f.length).findSome? (errT false f) <;> rfl
theorem ref_FlowError_F (f : List GElem) (h : ∀ x ∈ f, okE x) (hm : f.length ≤ 1073741824) : ref_FlowError f false = some (((List.range f.length).findSome? (errT false f)).getD 0) := by
  unfold ref_FlowError
  rw [iter_find (n := f.length) (errT false f) (fun k hk => by
    unfold ref_FlowError_L1 errT
    rw [if_pos (by simpa using hk), idx_nat hk, bnd1_some, chk_nat (by omega), ref_ElemError_eq _ (h _ (mem_at hk)), bnd1_some]
    generalize f[k]! = x
    by_cases e : elemErr x = 0
    · rw [if_neg (ndF e), if_pos e]
      have hr := elem_refchar e
      by_cases r : x.Ref = 0
      · rw [if_pos (show (!false && !decide (x.Char = 0)) = true by rw [decide_eq_false (hr.1 r)]; rfl), if_pos ⟨rfl, r⟩]; rfl
      · have hc : x.Char = 0 := Classical.byContradiction fun hc => r (hr.2 hc)
        rw [if_neg (show ¬ (!false && !decide (x.Char = 0)) = true by rw [decide_eq_true hc]; decide), if_neg (fun h => r h.2)]; rfl
    · rw [if_pos (ndT e), if_neg e]; rfl) (by unfold ref_FlowError_L1; rw [if_neg (by simp)])]
  cases (List.range f.length).findSome? (errT false f) <;> rfl
theorem checks_same (f : List GElem) (t : Bool) (h : ∀ x ∈ f, okE x) (hm : f.length ≤ 1073741824) : ∃ r, flow_Check f t = some r ∧ ref_FlowError f t = some r := by
  cases t
  · exact ⟨_, flow_Check_F f h hm, ref_FlowError_F f h hm⟩
  · exact ⟨_, flow_Check_eq f h hm, ref_FlowError_eq f h hm⟩
theorem flow_Same_eq (a b : List GElem) (hm : a.length ≤ 9223372036854775806) (h : ∀ e ∈ a, e.Attrs.length ≤ 1073741824) : flow_Same a b = some (decide (a = b)) := by
  unfold flow_Same
  by_cases hl : a.length = b.length
  · rw [if_neg (by simp [hl]), iter_find (n := a.length) (fun k => if decide (a[k]! = b[k]!) then none else some false) (fun k hk => by
      unfold flow_Same_L1
      have ha := h _ (mem_at hk)
      rw [if_pos (by simpa using hk), idx_nat hk, idx_nat (by omega), bnd1_some, bnd1_some, attr_Same_eq _ _ (by omega), chk_nat (by omega)]
      generalize a[k]! = x
      generalize b[k]! = y
      obtain ⟨x1, x2, x3⟩ := x
      obtain ⟨y1, y2, y3⟩ := y
      by_cases h1 : x1 = y1 <;> by_cases h2 : x2 = y2 <;> by_cases h3 : x3 = y3 <;> simp [h1, h2, h3, stepOf, default]) (by unfold flow_Same_L1; rw [if_neg (by simp)]), find_const, ctl_outOf]
    by_cases h : a = b
    · subst h; rw [all_refl, decide_eq_true rfl]; rfl
    · rw [decide_eq_false h]
      have : ((List.range a.length).all fun k => decide (a[k]! = b[k]!)) = false := by
        rw [← Bool.not_eq_true]; exact fun hh => h (all_eq_of hl hh)
      rw [this]; rfl
  · rw [if_pos (by simp; omega), decide_eq_false (by rintro rfl; exact hl rfl)]
theorem refs_loop (f : List GElem) (hm : f.length ≤ 1073741824) : ∃ r, iter (fun (a : Int × (List Int)) => flow_Refs_L1 f a.1 a.2) (0, []) = some r ∧ r.length ≤ f.length := by
  refine iter_hoare f.length (fun k st => st.1 = (k : Int) ∧ st.2.length ≤ k) _ ?_ ?_ ⟨rfl, by simp⟩
  · rintro k ⟨x, out⟩ hk ⟨rfl, ho⟩
    dsimp only at ho ⊢
    left
    unfold flow_Refs_L1
    rw [if_pos (by simpa using hk), idx_nat hk, bnd1_some]
    by_cases r : f[k]!.Ref = 0
    · rw [if_neg (ndF r), bnd1_some, chk_nat (by omega), bnd1_some]
      exact ⟨_, rfl, rfl, by dsimp only; omega⟩
    · rw [if_pos (ndT r), app8 (by omega), bnd1_some, bnd1_some, chk_nat (by omega), bnd1_some]
      exact ⟨_, rfl, rfl, by dsimp only; rw [List.length_append, List.length_singleton]; omega⟩
  · rintro ⟨x, out⟩ ⟨rfl, ho⟩
    dsimp only at ho ⊢
    unfold flow_Refs_L1
    rw [if_neg (by simp)]
    exact ⟨_, rfl, ho⟩
theorem want_refs : law_FlowCheckSays_L1 = flow_Refs_L1 := by
  funext f x o; rfl
theorem law_FlowCheck_true (c : Int) (f g : List GElem) (t : Bool) (hm : f.length ≤ 1073741824) (hf : ∀ e ∈ f, okA e.Attrs) : law_FlowCheckSays c f g t = some true := by
  have he : ∀ x ∈ f, okE x := fun x hx => ⟨by have := (hf x hx).1; omega, (hf x hx).2⟩
  have ha : ∀ x ∈ f, x.Attrs.length ≤ 1073741824 := fun x hx => (hf x hx).1
  obtain ⟨e, h1, h2⟩ := checks_same f t he hm
  obtain ⟨r, h3, h4⟩ := refs_loop f hm
  unfold law_FlowCheckSays
  have h5 : flow_Refs f = some r := by unfold flow_Refs; rw [h3]; rfl
  have h7 := ref_SameInts_eq r r (by omega)
  rw [want_refs, h3, h5, law_flows_eq, flow_Char_eq, ref_Char_eq, flow_CheckPart_eq f he (by omega), ref_PartError_eq f he (by omega), h1, h2, flow_Same_eq f g (by omega) ha, ref_SameFlow_eq f g (by omega) ha]
  simp [bnd1_some, gd, h7]
end Go.Proofs.YtdeglnbioiicaaaDoor.Al

