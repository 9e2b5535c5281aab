/- Plain laws over the models, a part of them. -/
import Derived.Test.YthoepnnckmfipaaGreatDoorMod1
import Derived.Lib.DecodeNEq
import Derived.Lib.TrimUEq
import Derived.Lib.ValidLaws
namespace Go.Proofs.YthoepnnckmfipaaGreatDoor.Al
@[simp] theorem bnd1_some {a α : Type} (x : a) (f : a → Option α) : bnd1 (some x) f = f x := rfl
@[simp] theorem bnd2_some {a b α : Type} (x : a) (y : b) (f : a → b → Option α) : bnd2 (some (x, y)) f = f x y := rfl
@[simp] theorem bnd3_some {a b c α : Type} (x : a) (y : b) (z : c) (f : a → b → c → Option α) : bnd3 (some (x, y, z)) f = f x y z := rfl
@[simp] theorem bnd4_some {a b c d α : Type} (x : a) (y : b) (z : c) (u : d) (f : a → b → c → d → Option α) : bnd4 (some (x, y, z, u)) f = f x y z u := rfl
@[simp] theorem ctl1_nrm {a α : Type} (x : a) (f : a → Option α) : ctl1 (some (.nrm x)) f = f x := rfl
@[simp] theorem ctl1_ext {a α : Type} (t : α) (f : a → Option α) : ctl1 (some (.ext t)) f = some t := rfl
@[simp] theorem ctl2_nrm {a b α : Type} (x : a) (y : b) (f : a → b → Option α) : ctl2 (some (.nrm (x, y))) f = f x y := rfl
@[simp] theorem ctl2_ext {a b α : Type} (t : α) (f : a → b → Option α) : ctl2 (some (.ext t)) f = some t := rfl
@[simp] theorem ctl3_nrm {a b c α : Type} (x : a) (y : b) (z : c) (f : a → b → c → Option α) : ctl3 (some (.nrm (x, y, z))) f = f x y z := rfl
@[simp] theorem ctl3_ext {a b c α : Type} (t : α) (f : a → b → c → Option α) : ctl3 (some (.ext t)) f = some t := rfl
@[simp] theorem gd_true {α : Type} [Inhabited α] (m : Option α) : gd true m = m := rfl
@[simp] theorem gd_false {α : Type} [Inhabited α] (m : Option α) : gd false m = some default := rfl
theorem idx_nat {α : Type} [Inhabited α] {l : List α} {k : Nat} (h : k < l.length) : idx l (k : Int) = some l[k]! := by
  unfold idx
  rw [if_pos (Int.natCast_nonneg k), Int.toNat_natCast, List.getElem?_eq_getElem h, getElem!_pos l k h]
theorem chk_nat {k : Nat} (h : k < 9223372036854775807) : chk .i64 ((k : Int) + 1) = some (((k + 1 : Nat)) : Int) := by
  rw [chk64 (by omega) (by omega)]; rfl
theorem chk_pred {k : Nat} (h : 0 < k) (h2 : k ≤ 9223372036854775807) : chk .i64 ((k : Int) - 1) = some ((k - 1 : Nat) : Int) := by
  rw [chk64 (by omega) (by omega)]; congr 1; omega
def stepOf {ρ : Type} (k : Nat) : Option ρ → Option (Int ⊕ Ctl Unit ρ)
  | none => some (.inl ((k + 1 : Nat) : Int))
  | some r => some (.inr (.ext r))
def outOf {ρ : Type} : Option ρ → Ctl Unit ρ
  | none => .nrm ()
  | some r => .ext r
theorem iter_find {ρ : Type} {f : Int → Option (Int ⊕ Ctl Unit ρ)} {n : Nat} (g : Nat → Option ρ) (h1 : ∀ k : Nat, k < n → f k = stepOf k (g k))
    (h2 : f n = some (.inr (.nrm ()))) : iter f 0 = some (outOf ((List.range n).findSome? g)) := by
  have key : ∀ m k : Nat, k + m = n → iter f (k : Int) = some (outOf ((List.range' k m).findSome? g)) := by
    intro m
    induction m with
    | zero =>
      intro k hk
      obtain rfl : k = n := by omega
      rw [iter_stop h2]; rfl
    | succ m ih =>
      intro k hk
      rw [List.range'_succ, List.findSome?_cons]
      have := h1 k (by omega)
      cases hg : g k with
      | none => rw [hg] at this; rw [iter_next this, ih (k + 1) (by omega)]
      | some r => rw [hg] at this; rw [iter_stop this]; rfl
  rw [List.range_eq_range']
  exact key n 0 (by omega)
theorem findSome_congr {α ρ : Type} {l : List α} {g h : α → Option ρ} (e : ∀ x ∈ l, g x = h x) : l.findSome? g = l.findSome? h := by
  induction l with
  | nil => rfl
  | cons a l ih => rw [List.findSome?_cons, List.findSome?_cons, e a (List.mem_cons_self ..), ih fun x hx => e x (List.mem_cons_of_mem _ hx)]
theorem find_all {α ρ : Type} [Inhabited α] (l : List α) (p : α → Bool) (r : ρ) : (List.range l.length).findSome? (fun k => if p l[k]! then none else some r) = if l.all p then none else some r := by
  induction l with
  | nil => rfl
  | cons a l ih =>
    rw [List.length_cons, List.range_succ_eq_map, List.findSome?_cons, List.findSome?_map]
    have hr : (List.range l.length).findSome? ((fun k => if p (a :: l)[k]! = true then none else some r) ∘ Nat.succ) = if l.all p = true then none else some r := by
      rw [← ih]; exact findSome_congr fun k _ => by simp
    rw [hr]
    by_cases hp : p a = true
    · simp [hp]
    · simp [hp]
theorem ctl_outOf {ρ : Type} (o : Option ρ) (f : Unit → Option ρ) : ctl1 (some (outOf o)) f = match o with | none => f () | some r => some r := by cases o <;> rfl
end Go.Proofs.YthoepnnckmfipaaGreatDoor.Al


namespace Go.Proofs.YthoepnnckmfipaaGreatDoor.Al
def chOK (c : UInt8) : Bool := (decide (97 ≤ c.toNat) && decide (c.toNat ≤ 122)) || (decide (48 ≤ c.toNat) && decide (c.toNat ≤ 57)) || decide (c.toNat = 46) || decide (c.toNat = 45)
def nameOK (s : List UInt8) : Bool := decide (1 ≤ s.length) && decide (s.length ≤ 24) && (decide (97 ≤ s[0]!.toNat) && decide (s[0]!.toNat ≤ 122)) && s.all chOK
def valCh (c : UInt8) : Bool := decide (32 ≤ c.toNat) && decide (c.toNat ≤ 126)
def valOK (s : List UInt8) : Bool := decide (1 ≤ s.length) && decide (s.length ≤ 200) && s.all valCh
theorem attr_Name_step (s : List UInt8) (k : Nat) (hk : k < s.length) (hm : s.length ≤ 9223372036854775807) : attr_Name_L1 s k = stepOf k (if chOK s[k]! then none else some false) := by
  unfold attr_Name_L1
  rw [if_pos (by simpa using hk), idx_nat hk, bnd1_some, chk_nat (by omega)]
  generalize s[k]! = c
  have e : (((((decide ((c.toNat : Int) < 97)) || (decide (122 < (c.toNat : Int)))) && ((decide ((c.toNat : Int) < 48)) || (decide (57 < (c.toNat : Int))))) && (!decide ((c.toNat : Int) = 46))) && (!decide ((c.toNat : Int) = 45))) = !chOK c := by
    unfold chOK
    rw [Bool.eq_iff_iff]
    simp only [Bool.or_eq_true, Bool.and_eq_true, decide_eq_true_eq, Bool.not_eq_true', decide_eq_false_iff_not, Bool.or_eq_false_iff, Bool.and_eq_false_imp]
    omega
  rw [e]
  cases chOK c <;> rfl
theorem attr_Name_eq (s : List UInt8) (hm : s.length ≤ 9223372036854775807) : attr_Name s = some (nameOK s) := by
  unfold attr_Name
  rw [iter_find (n := s.length) (fun k => if chOK s[k]! then none else some false) (fun k hk => attr_Name_step s k hk hm) (by unfold attr_Name_L1; rw [if_neg (by simp)]), find_all]
  unfold nameOK
  cases s with
  | nil => simp
  | cons c t =>
    have h0 : idx (c :: t) 0 = some c := rfl
    rw [h0]
    simp only [List.getElem!_cons_zero, decide_eq_false (List.cons_ne_nil c t), Bool.false_or]
    generalize (c :: t).all chOK = al
    generalize hl : (c :: t).length = L
    have hL : 1 ≤ L := by rw [← hl]; simp
    by_cases h1 : 24 < (L : Int)
    · have e1 : decide (L ≤ 24) = false := by simp; omega
      simp [h1, e1]
    · rw [decide_eq_false h1]
      simp only [Bool.false_or, beq_self_eq_true, gd_true, bnd1_some]
      have e1 : decide (L ≤ 24) = true := by simp; omega
      have e2 : decide (1 ≤ L) = true := by simp; omega
      rw [e1, e2]
      by_cases h2 : (c.toNat : Int) < 97
      · have e3 : decide (97 ≤ c.toNat) = false := by simp; omega
        simp [h2, e3]
      · rw [decide_eq_false h2]
        have e3 : decide (97 ≤ c.toNat) = true := by simp; omega
        simp only [beq_self_eq_true, gd_true, bnd1_some, Bool.false_or]
        by_cases h3 : 122 < (c.toNat : Int)
        · have e4 : decide (c.toNat ≤ 122) = false := by simp; omega
          simp [h3, e4]
        · have e4 : decide (c.toNat ≤ 122) = true := by simp; omega
          rw [if_neg (by simpa using h3), ctl_outOf, e3, e4]
          cases al <;> rfl
def refCh (k : Nat) (c : UInt8) : Bool := (decide (97 ≤ c.toNat) && decide (c.toNat ≤ 122)) || (decide (k ≠ 0) && chOK c)
theorem ref_Name_step (s : List UInt8) (k : Nat) (hk : k < s.length) (hm : s.length ≤ 9223372036854775807) :
    ref_Name_L1 s k = stepOf k (if refCh k s[k]! then none else some false) := by
  unfold ref_Name_L1
  rw [if_pos (by simpa using hk), idx_nat hk, bnd1_some, chk_nat (by omega)]
  generalize s[k]! = c
  have e : ((!((decide (97 ≤ (c.toNat : Int))) && (decide ((c.toNat : Int) ≤ 122)))) && ((decide ((k : Int) = 0)) || (((!decide ((c.toNat : Int) = 46)) && (!decide ((c.toNat : Int) = 45))) && ((decide ((c.toNat : Int) < 48)) || (decide (57 < (c.toNat : Int))))))) = !refCh k c := by
    unfold refCh chOK
    rw [Bool.eq_iff_iff]
    simp only [Bool.or_eq_true, Bool.and_eq_true, decide_eq_true_eq, Bool.not_eq_true', decide_eq_false_iff_not, Bool.or_eq_false_iff, Bool.and_eq_false_imp]
    omega
  rw [e]
  cases refCh k c <;> rfl
theorem all_iff {α : Type} [Inhabited α] (l : List α) (p : α → Bool) : l.all p = true ↔ ∀ k, k < l.length → p l[k]! = true := by
  rw [List.all_eq_true]
  constructor
  · intro h k hk; rw [getElem!_pos l k hk]; exact h _ (List.getElem_mem hk)
  · intro h x hx
    obtain ⟨k, hk, rfl⟩ := List.mem_iff_getElem.1 hx
    rw [← getElem!_pos l k hk]; exact h k hk
theorem find_const {ρ : Type} (n : Nat) (p : Nat → Bool) (r : ρ) : (List.range n).findSome? (fun k => if p k then none else some r) = if (List.range n).all p then none else some r := by
  generalize List.range n = l
  induction l with
  | nil => rfl
  | cons a l ih => rw [List.findSome?_cons, List.all_cons, ]; by_cases h : p a = true <;> simp [h, ih]
theorem ref_Name_eq (s : List UInt8) (hm : s.length ≤ 9223372036854775807) : ref_Name s = some (nameOK s) := by
  unfold ref_Name
  rw [iter_find (n := s.length) (fun k => if refCh k s[k]! then none else some false) (fun k hk => ref_Name_step s k hk hm) (by unfold ref_Name_L1; rw [if_neg (by simp)]), find_const, ctl_outOf]
  have key : ((List.range s.length).all fun k => refCh k s[k]!) = (decide (s = []) || ((decide (97 ≤ s[0]!.toNat) && decide (s[0]!.toNat ≤ 122)) && s.all chOK)) := by
    rw [Bool.eq_iff_iff, List.all_eq_true]
    simp only [List.mem_range, Bool.or_eq_true, decide_eq_true_eq, Bool.and_eq_true, all_iff]
    constructor
    · intro h
      cases hs : s with
      | nil => exact .inl rfl
      | cons c t =>
        rw [← hs]
        have hl : 0 < s.length := by rw [hs]; simp
        have h0 := h 0 hl
        simp only [refCh, Bool.or_eq_true, Bool.and_eq_true, decide_eq_true_eq] at h0
        refine .inr ⟨by omega, fun k hk => ?_⟩
        have := h k hk
        simp only [refCh, chOK, Bool.or_eq_true, Bool.and_eq_true, decide_eq_true_eq] at this ⊢
        omega
    · rintro (rfl | ⟨h1, h2⟩) k hk
      · cases hk
      · have := h2 k hk
        by_cases hk0 : k = 0
        · subst hk0; simp only [refCh, Bool.or_eq_true, Bool.and_eq_true, decide_eq_true_eq]; omega
        · simp only [refCh, Bool.or_eq_true, Bool.and_eq_true, decide_eq_true_eq]; exact .inr ⟨hk0, this⟩
  rw [key]
  unfold nameOK
  cases s with
  | nil => rfl
  | cons c t =>
    rw [decide_eq_false (List.cons_ne_nil c t), Bool.false_or]
    generalize (c :: t).all chOK = al
    generalize (decide (97 ≤ (c :: t)[0]!.toNat) && decide ((c :: t)[0]!.toNat ≤ 122)) = fc
    have e1 : decide (1 ≤ ((c :: t).length : Int)) = decide (1 ≤ (c :: t).length) := by simp; omega
    have e2 : decide (((c :: t).length : Int) ≤ 24) = decide ((c :: t).length ≤ 24) := by simp; omega
    rw [e1, e2]
    cases fc <;> cases al <;> simp
theorem attr_Value_eq (s : List UInt8) (hm : s.length ≤ 9223372036854775807) : attr_Value s = some (valOK s) := by
  unfold attr_Value valOK
  rw [iter_find (n := s.length) (fun k => if valCh s[k]! then none else some false) (fun k hk => by
    unfold attr_Value_L1
    rw [if_pos (by simpa using hk), idx_nat hk, bnd1_some, chk_nat (by omega)]
    generalize s[k]! = c
    have e : ((decide ((c.toNat : Int) < 32)) || (decide (126 < (c.toNat : Int)))) = !valCh c := by
      unfold valCh
      rw [Bool.eq_iff_iff]
      simp only [Bool.or_eq_true, Bool.and_eq_true, decide_eq_true_eq, Bool.not_eq_true', decide_eq_false_iff_not, Bool.and_eq_false_imp]
      omega
    rw [e]
    cases valCh c <;> rfl) (by unfold attr_Value_L1; rw [if_neg (by simp)]), find_all, ctl_outOf]
  generalize s.all valCh = al
  cases s with
  | nil => simp
  | cons c t =>
    rw [decide_eq_false (List.cons_ne_nil c t), Bool.false_or]
    generalize hl : (c :: t).length = L
    have hL : 1 ≤ L := by rw [← hl]; simp
    by_cases h1 : 200 < (L : Int)
    · have e1 : decide (L ≤ 200) = false := by simp; omega
      simp [h1, e1]
    · have e1 : decide (L ≤ 200) = true := by simp; omega
      have e2 : decide (1 ≤ L) = true := by simp; omega
      rw [if_neg (by simpa using h1), e1, e2]
      cases al <;> rfl
theorem ref_Value_eq (s : List UInt8) (hm : s.length ≤ 9223372036854775807) : ref_Value s = some (valOK s) := by
  unfold ref_Value valOK
  rw [iter_find (n := s.length) (fun k => if valCh s[k]! then none else some false) (fun k hk => by
    unfold ref_Value_L1
    rw [if_pos (by simpa using hk), idx_nat hk, bnd1_some, chk_nat (by omega)]
    generalize s[k]! = c
    have e : ((decide ((c.toNat : Int) < 32)) || (decide (126 < (c.toNat : Int)))) = !valCh c := by
      unfold valCh
      rw [Bool.eq_iff_iff]
      simp only [Bool.or_eq_true, Bool.and_eq_true, decide_eq_true_eq, Bool.not_eq_true', decide_eq_false_iff_not, Bool.and_eq_false_imp]
      omega
    rw [e]
    cases valCh c <;> rfl) (by unfold ref_Value_L1; rw [if_neg (by simp)]), find_all, ctl_outOf]
  generalize s.all valCh = al
  have e1 : decide (1 ≤ (s.length : Int)) = decide (1 ≤ s.length) := by simp; omega
  have e2 : decide ((s.length : Int) ≤ 200) = decide (s.length ≤ 200) := by simp; omega
  rw [e1, e2]
  cases al <;> simp
theorem sLt_cons (a b : UInt8) (x y : List UInt8) : sLt (a :: x) (b :: y) = (decide (a < b) || (a == b && sLt x y)) := rfl
theorem sLt_tri : ∀ (a b : List UInt8), (sLt a b || decide (a = b)) = !sLt b a
  | [], [] => rfl
  | [], _ :: _ => rfl
  | _ :: _, [] => rfl
  | a :: x, b :: y => by
    rw [sLt_cons, sLt_cons]
    have ih := sLt_tri x y
    by_cases h : a = b
    · subst h
      have h1 : ¬ a < a := fun h => by simp [UInt8.lt_iff_toNat_lt] at h
      simp only [decide_eq_false h1, beq_self_eq_true, Bool.true_and, Bool.false_or, List.cons.injEq, true_and]
      exact ih
    · have h2 : (a == b) = false := by simpa using h
      have h3 : (b == a) = false := by simpa using fun e : b = a => h e.symm
      have h4 : ¬ (a :: x = b :: y) := fun e => h (List.cons.inj e).1
      rw [h2, h3, decide_eq_false h4]
      simp only [Bool.false_and, Bool.or_false]
      have h5 : a.toNat ≠ b.toNat := fun e => h (UInt8.toNat_inj.1 e)
      by_cases hlt : a < b
      · have : ¬ b < a := by rw [UInt8.lt_iff_toNat_lt] at hlt ⊢; omega
        simp [hlt, this]
      · have : b < a := by rw [UInt8.lt_iff_toNat_lt] at hlt ⊢; omega
        simp [hlt, this]
def okStr (l : List GAttr) : Prop := ∀ a ∈ l, a.Name.length ≤ 9223372036854775807 ∧ a.Value.length ≤ 9223372036854775807
def errA (l : List GAttr) (ch : Bool) (k : Nat) : Option Int :=
  if nameOK l[k]!.Name = false then some 9 else if valOK l[k]!.Value = false ∧ ¬ (ch = true ∧ l[k]!.Value = []) then some 23 else if 0 < k ∧ sLt l[k - 1]!.Name l[k]!.Name = false then some 5 else none
def attrErr (l : List GAttr) (ch : Bool) : Int := ((List.range l.length).findSome? (errA l ch)).getD 0
theorem okStr.at {l : List GAttr} (h : okStr l) {k : Nat} (hk : k < l.length) : l[k]!.Name.length ≤ 9223372036854775807 ∧ l[k]!.Value.length ≤ 9223372036854775807 := by
  rw [getElem!_pos l k hk]; exact h _ (List.getElem_mem hk)
theorem attr_check_step (l : List GAttr) (ch : Bool) (h : okStr l) (hm : l.length ≤ 9223372036854775807) (k : Nat) (hk : k < l.length) : attr_check_L1 l ch k = stepOf k (errA l ch k) := by
  unfold attr_check_L1 errA
  obtain ⟨hn1, hn2⟩ := h.at hk
  rw [if_pos (by simpa using hk), idx_nat hk, bnd1_some]
  generalize l[k]! = x at hn1 hn2 ⊢
  rw [attr_Name_eq _ hn1, bnd1_some]
  cases nameOK x.Name
  · rfl
  rw [if_neg (by decide), if_neg (by decide), attr_Value_eq _ hn2, bnd1_some, chk_nat (by omega)]
  by_cases hv : valOK x.Value = false ∧ ¬ (ch = true ∧ x.Value = [])
  · rw [if_pos hv, if_pos (by simp [hv.1]; cases ch <;> simp_all)]; rfl
  rw [if_neg hv, if_neg (by intro e; simp at e; exact hv ⟨e.1, by rintro ⟨a, b⟩; simp [a, b] at e⟩)]
  by_cases hk0 : k = 0
  · subst hk0; rfl
  · have h0 : decide ((0 : Int) < (k : Int)) = true := by simp; omega
    rw [h0, chk_pred (by omega) (by omega)]
    simp only [beq_self_eq_true, gd_true, bnd1_some, Bool.true_and]
    rw [idx_nat (by omega), bnd1_some, sLt_tri]
    have : (0 < k ∧ sLt l[k - 1]!.Name x.Name = false) ↔ sLt l[k - 1]!.Name x.Name = false := by constructor; exact fun h => h.2; exact fun h => ⟨by omega, h⟩
    simp only [this]
    cases sLt l[k - 1]!.Name x.Name <;> rfl
theorem ref_AttrsError_step (l : List GAttr) (ch : Bool) (h : okStr l) (hm : l.length ≤ 9223372036854775807) (k : Nat) (hk : k < l.length) : ref_AttrsError_L1 l ch k = stepOf k (errA l ch k) := by
  unfold ref_AttrsError_L1 errA
  obtain ⟨hn1, hn2⟩ := h.at hk
  rw [if_pos (by simpa using hk), idx_nat hk, bnd1_some]
  generalize l[k]! = x at hn1 hn2 ⊢
  rw [ref_Name_eq _ hn1, bnd1_some]
  cases nameOK x.Name
  · rfl
  rw [if_neg (by decide), if_neg (by decide), ref_Value_eq _ hn2, bnd1_some, chk_nat (by omega)]
  by_cases hv : valOK x.Value = false ∧ ¬ (ch = true ∧ x.Value = [])
  · rw [if_pos hv, if_pos (by simp [hv.1]; cases ch <;> simp_all)]; rfl
  rw [if_neg hv, if_neg (by intro e; simp at e; exact hv ⟨e.1, by rintro ⟨a, b⟩; simp [a, b] at e⟩)]
  by_cases hk0 : k = 0
  · subst hk0; rfl
  · have h0 : decide ((0 : Int) < (k : Int)) = true := by simp; omega
    rw [h0, chk_pred (by omega) (by omega)]
    simp only [beq_self_eq_true, gd_true, bnd1_some, Bool.true_and]
    rw [idx_nat (by omega), bnd1_some]
    have : (0 < k ∧ sLt l[k - 1]!.Name x.Name = false) ↔ sLt l[k - 1]!.Name x.Name = false := by constructor; exact fun h => h.2; exact fun h => ⟨by omega, h⟩
    simp only [this]
    cases sLt l[k - 1]!.Name x.Name <;> rfl
theorem out_getD {o : Option Int} : (ctl1 (some (outOf o)) fun _ : Unit => some 0) = some (o.getD 0) := by cases o <;> rfl
theorem attr_check_eq (l : List GAttr) (ch : Bool) (h : okStr l) (hm : l.length ≤ 9223372036854775807) : attr_check l ch = some (attrErr l ch) := by
  unfold attr_check
  rw [iter_find (n := l.length) (errA l ch) (fun k hk => attr_check_step l ch h hm k hk) (by unfold attr_check_L1; rw [if_neg (by simp)]), out_getD]; rfl
theorem ref_AttrsError_eq (l : List GAttr) (ch : Bool) (h : okStr l) (hm : l.length ≤ 9223372036854775807) : ref_AttrsError l ch = some (attrErr l ch) := by
  unfold ref_AttrsError
  rw [iter_find (n := l.length) (errA l ch) (fun k hk => ref_AttrsError_step l ch h hm k hk) (by unfold ref_AttrsError_L1; rw [if_neg (by simp)]), out_getD]; rfl
theorem attr_Check_eq (l : List GAttr) (h : okStr l) (hm : l.length ≤ 9223372036854775807) : attr_Check l = some (attrErr l false) := by unfold attr_Check; rw [attr_check_eq l _ h hm]; rfl
theorem attr_CheckChange_eq (l : List GAttr) (h : okStr l) (hm : l.length ≤ 9223372036854775807) : attr_CheckChange l = some (attrErr l true) := by unfold attr_CheckChange; rw [attr_check_eq l _ h hm]; rfl
def getA (l : List GAttr) (name : List UInt8) : List UInt8 := ((List.range l.length).findSome? fun k => if l[k]!.Name = name then some l[k]!.Value else none).getD []
end Go.Proofs.YthoepnnckmfipaaGreatDoor.Al


namespace Go.Proofs.YthoepnnckmfipaaGreatDoor.Al
def nil2 : GAttr := ⟨[], []⟩
def bothL (stp : GAttr → GAttr → List GAttr → List GAttr) : List GAttr → List GAttr → List GAttr → List GAttr
  | [], [], c => c
  | x :: a, [], c => bothL stp a [] (stp x nil2 c)
  | [], y :: b, c => bothL stp [] b (stp nil2 y c)
  | x :: a, y :: b, c => if sLt x.Name y.Name then bothL stp a (y :: b) (stp x nil2 c) else if sLt y.Name x.Name then bothL stp (x :: a) b (stp nil2 y c) else bothL stp a b (stp x y c)
  termination_by a b => a.length + b.length
def bothStep (stp : GAttr → GAttr → List GAttr → List GAttr) (a b : List GAttr) (i j : Nat) (o : List GAttr) : Option ((Int × Int × List GAttr) ⊕ Ctl Unit (List GAttr)) :=
  if i < a.length ∨ j < b.length then
    if j = b.length ∨ (i < a.length ∧ sLt a[i]!.Name b[j]!.Name = true) then some (.inl (((i + 1 : Nat) : Int), (j : Int), stp a[i]! nil2 o))
    else if i = a.length ∨ sLt b[j]!.Name a[i]!.Name = true then some (.inl ((i : Int), ((j + 1 : Nat) : Int), stp nil2 b[j]! o))
    else some (.inl (((i + 1 : Nat) : Int), ((j + 1 : Nat) : Int), stp a[i]! b[j]! o))
  else some (.inr (.ext o))
theorem drop_cons {l : List GAttr} {i : Nat} (h : i < l.length) : l.drop i = l[i]! :: l.drop (i + 1) := by
  rw [List.drop_eq_getElem_cons h, getElem!_pos l i h]
theorem both_iter {f : (Int × Int × List GAttr) → Option ((Int × Int × List GAttr) ⊕ Ctl Unit (List GAttr))} (stp : GAttr → GAttr → List GAttr → List GAttr) (a b c : List GAttr) (B : Nat) (hstp : ∀ x y o, (stp x y o).length ≤ o.length + 1)
    (hf : ∀ (i j : Nat) (o : List GAttr), i ≤ a.length → j ≤ b.length → o.length + (a.length - i) + (b.length - j) ≤ B → f (i, j, o) = bothStep stp a b i j o) (hB : c.length + a.length + b.length ≤ B) : iter f (0, 0, c) = some (.ext (bothL stp a b c)) := by
  have key : ∀ (m i j : Nat) (o : List GAttr), i ≤ a.length → j ≤ b.length → (a.length - i) + (b.length - j) = m → o.length + m ≤ B → iter f ((i : Int), (j : Int), o) = some (.ext (bothL stp (a.drop i) (b.drop j) o)) := by
    intro m
    induction m using Nat.strongRecOn with
    | _ m ih =>
      intro i j o hi hj hm ho
      have hs := hf i j o hi hj (by omega)
      unfold bothStep at hs
      by_cases hia : i < a.length
      · rw [drop_cons hia]
        by_cases hjb : j < b.length
        · rw [drop_cons hjb]
          rw [if_pos (.inl hia)] at hs
          by_cases h1 : sLt a[i]!.Name b[j]!.Name = true
          · rw [if_pos (.inr ⟨hia, h1⟩)] at hs
            rw [iter_next hs, bothL, if_pos h1, ← drop_cons hjb]
            exact ih (m - 1) (by omega) (i + 1) j _ (by omega) hj (by omega) (by have := hstp a[i]! nil2 o; omega)
          · rw [if_neg (by rintro (h | h); omega; exact h1 h.2)] at hs
            by_cases h2 : sLt b[j]!.Name a[i]!.Name = true
            · rw [if_pos (.inr h2)] at hs
              rw [iter_next hs, bothL, if_neg h1, if_pos h2, ← drop_cons hia]
              exact ih (m - 1) (by omega) i (j + 1) _ hi (by omega) (by omega) (by have := hstp nil2 b[j]! o; omega)
            · rw [if_neg (by rintro (h | h); omega; exact h2 h)] at hs
              rw [iter_next hs, bothL, if_neg h1, if_neg h2]
              exact ih (m - 2) (by omega) (i + 1) (j + 1) _ (by omega) (by omega) (by omega) (by have := hstp a[i]! b[j]! o; omega)
        · have hjl : j = b.length := by omega
          rw [if_pos (.inl hia), if_pos (.inl hjl)] at hs
          have hd : b.drop j = [] := by rw [hjl]; simp
          rw [iter_next hs, hd, bothL, ← hd]
          exact ih (m - 1) (by omega) (i + 1) j _ (by omega) hj (by omega) (by have := hstp a[i]! nil2 o; omega)
      · have hil : i = a.length := by omega
        have hd : a.drop i = [] := by rw [hil]; simp
        by_cases hjb : j < b.length
        · rw [if_pos (.inr hjb), if_neg (by rintro (h | h); omega; omega), if_pos (.inl hil)] at hs
          rw [drop_cons hjb, iter_next hs, hd, bothL, ← hd]
          exact ih (m - 1) (by omega) i (j + 1) _ hi (by omega) (by omega) (by have := hstp nil2 b[j]! o; omega)
        · have hjl : j = b.length := by omega
          rw [if_neg (by omega)] at hs
          have hd2 : b.drop j = [] := by rw [hjl]; simp
          rw [iter_stop hs, hd, hd2, bothL]
  exact key _ 0 0 c (Nat.zero_le _) (Nat.zero_le _) rfl (by omega)
theorem app1 {o : List GAttr} {x : GAttr} (h : o.length + 1 ≤ 4398046511104) : app 32 o [x] = some (o ++ [x]) := by
  unfold app; rw [if_pos (by simp; omega)]
def stpRaw (x y : GAttr) (o : List GAttr) : List GAttr := if y.Name = [] then o ++ [x] else if y.Value = [] then o else o ++ [y]
theorem stpRaw_len (x y o) : (stpRaw x y o).length ≤ o.length + 1 := by unfold stpRaw; split; simp; split <;> simp
theorem attr_Raw_f1_eq (c : List GAttr) (x y : GAttr) (h : c.length + 1 ≤ 4398046511104) : attr_Raw_f1 c x y = some (stpRaw x y c) := by
  unfold attr_Raw_f1 stpRaw
  rw [app1 h, app1 h]
  by_cases h1 : y.Name = [] <;> by_cases h2 : y.Value = [] <;> simp [h1, h2]
theorem attr_eq_iff (x y : GAttr) : x = y ↔ x.Name = y.Name ∧ x.Value = y.Value := by cases x; cases y; simp
theorem attr_both__Raw_f1_step (a b : List GAttr) (i j : Nat) (o : List GAttr) (hab : a.length + b.length ≤ 4398046511104) (hi : i ≤ a.length) (hj : j ≤ b.length) (ho : o.length + (a.length - i) + (b.length - j) ≤ 4398046511104) : attr_both__Raw_f1_L1 a b i j o = bothStep stpRaw a b i j o := by
  unfold attr_both__Raw_f1_L1 bothStep
  by_cases hia : i < a.length
  · rw [if_pos (by simp; omega), if_pos (.inl hia), idx_nat hia]
    have e1 : decide ((i : Int) < (a.length : Int)) = true := by simp; omega
    have e2 : decide ((i : Int) = (a.length : Int)) = false := by simp; omega
    rw [e1, e2]
    by_cases hjb : j < b.length
    · have e3 : decide ((j : Int) = (b.length : Int)) = false := by simp; omega
      rw [e3, idx_nat hjb]
      simp only [beq_self_eq_true, Bool.true_and, Bool.and_self, gd_true, bnd1_some, Bool.false_or]
      rw [attr_Raw_f1_eq _ _ _ (by omega), attr_Raw_f1_eq _ _ _ (by omega), attr_Raw_f1_eq _ _ _ (by omega)]
      simp only [bnd1_some]
      rw [chk_nat (by omega), chk_nat (by omega)]
      simp only [bnd1_some]
      have hne : ¬ j = b.length := by omega
      have hni : ¬ i = a.length := by omega
      simp only [hne, hni, hia, true_and, false_or]; rfl
    · have hjl : j = b.length := by omega
      have e3 : decide ((j : Int) = (b.length : Int)) = true := by simp; omega
      rw [e3]
      have e4 : ((true == false) && (true == true)) = false := rfl
      rw [e4]
      simp only [gd_false, bnd1_some, Bool.true_or]
      rw [if_pos trivial, if_pos (.inl hjl), attr_Raw_f1_eq _ _ _ (by omega), bnd1_some, chk_nat (by omega), bnd1_some]; rfl
  · have hil : i = a.length := by omega
    have e1 : decide ((i : Int) < (a.length : Int)) = false := by simp; omega
    have e2 : decide ((i : Int) = (a.length : Int)) = true := by simp; omega
    rw [e1, e2]
    by_cases hjb : j < b.length
    · have e3 : decide ((j : Int) = (b.length : Int)) = false := by simp; omega
      have e5 : decide ((j : Int) < (b.length : Int)) = true := by simp; omega
      have hne : ¬ j = b.length := by omega
      rw [e3, e5, if_pos (by rfl), if_pos (.inr hjb), idx_nat hjb]
      have e4 : ((false == false) && (false == true)) = false := rfl
      have e6 : ((true == false)) = false := rfl
      rw [e4, e6]
      simp only [gd_false, bnd1_some, Bool.false_or, Bool.false_and, Bool.true_or, if_true, Bool.false_eq_true, if_false]
      have hx : ¬ (j = b.length ∨ i < a.length ∧ sLt a[i]!.Name b[j]!.Name = true) := by
        intro h; rcases h with h | h
        · exact hne h
        · exact hia h.1
      rw [if_neg hx, if_pos (.inl hil), attr_Raw_f1_eq _ _ _ (by omega), bnd1_some, chk_nat (by omega), bnd1_some]; rfl
    · have e5 : decide ((j : Int) < (b.length : Int)) = false := by simp; omega
      rw [e5, if_neg (by decide), if_neg (by omega)]
theorem attr_both__Raw_f1_eq (c a b : List GAttr) (h : c.length + a.length + b.length ≤ 4398046511104) : attr_both__Raw_f1 c a b = some (bothL stpRaw a b c) := by
  unfold attr_both__Raw_f1
  rw [both_iter stpRaw a b c 4398046511104 stpRaw_len (fun i j o h1 h2 h3 => attr_both__Raw_f1_step a b i j o (by omega) h1 h2 h3) h]; rfl
theorem attr_Raw_eq (a b : List GAttr) (h : a.length + b.length ≤ 4398046511104) : attr_Raw a b = some (bothL stpRaw a b []) := by
  unfold attr_Raw; rw [attr_both__Raw_f1_eq [] a b (by simpa using h)]; rfl
theorem attr_Same_eq (a b : List GAttr) (hm : a.length ≤ 9223372036854775807) : attr_Same a b = some (decide (a = b)) := by
  unfold attr_Same
  by_cases hl : a.length = b.length
  · rw [if_neg (by simp [hl]), iter_find (n := a.length) (fun k => if decide (a[k]! = b[k]!) then none else some false) (fun k hk => by
      unfold attr_Same_L1
      rw [if_pos (by simpa using hk), idx_nat hk, idx_nat (by omega), bnd1_some, bnd1_some, chk_nat (by omega)]
      generalize a[k]! = x
      generalize b[k]! = y
      by_cases h : x = y
      · subst h; simp [stepOf]
      · have h' := h; rw [attr_eq_iff] at h'
        simp only [decide_eq_false h, Bool.and_true]
        by_cases h1 : x.Name = y.Name
        · have h2 : ¬ x.Value = y.Value := fun e => h' ⟨h1, e⟩
          simp [h1, h2, stepOf]
        · simp [h1, stepOf]) (by unfold attr_Same_L1; rw [if_neg (by simp)]), find_const, ctl_outOf]
    by_cases h : a = b
    · subst h; simp
    · rw [decide_eq_false h]
      have : ((List.range a.length).all fun k => decide (a[k]! = b[k]!)) = false := by
        rw [← Bool.not_eq_true, List.all_eq_true]
        intro hall
        apply h
        apply List.ext_getElem hl
        intro k h1 h2
        have := hall k (List.mem_range.2 h1)
        simp only [decide_eq_true_eq] at this
        rwa [getElem!_pos a k h1, getElem!_pos b k h2] at this
      rw [this]; rfl
  · rw [if_pos (by simp; omega), decide_eq_false (by rintro rfl; exact hl rfl)]
theorem ref_SameAttrs_eq (a b : List GAttr) (hm : a.length ≤ 9223372036854775807) : ref_SameAttrs a b = some (decide (a = b)) := by
  unfold ref_SameAttrs
  by_cases hl : a.length = b.length
  · rw [if_neg (by simp [hl]), iter_find (n := a.length) (fun k => if decide (a[k]! = b[k]!) then none else some false) (fun k hk => by
      unfold ref_SameAttrs_L1
      rw [if_pos (by simpa using hk), idx_nat hk, idx_nat (by omega), bnd1_some, bnd1_some, chk_nat (by omega)]
      generalize a[k]! = x
      generalize b[k]! = y
      by_cases h : x = y
      · subst h; simp [stepOf]
      · have h' := h; rw [attr_eq_iff] at h'
        simp only [decide_eq_false h, Bool.and_true]
        by_cases h1 : x.Name = y.Name
        · have h2 : ¬ x.Value = y.Value := fun e => h' ⟨h1, e⟩
          simp [h1, h2, stepOf]
        · simp [h1, stepOf]) (by unfold ref_SameAttrs_L1; rw [if_neg (by simp)]), find_const, ctl_outOf]
    by_cases h : a = b
    · subst h; simp
    · rw [decide_eq_false h]
      have : ((List.range a.length).all fun k => decide (a[k]! = b[k]!)) = false := by
        rw [← Bool.not_eq_true, List.all_eq_true]
        intro hall
        apply h
        apply List.ext_getElem hl
        intro k h1 h2
        have := hall k (List.mem_range.2 h1)
        simp only [decide_eq_true_eq] at this
        rwa [getElem!_pos a k h1, getElem!_pos b k h2] at this
      rw [this]; rfl
  · rw [if_pos (by simp; omega), decide_eq_false (by rintro rfl; exact hl rfl)]
theorem okStr_of {l : List GAttr} (h : l.all (fun a => decide (a.Name.length ≤ 100) && decide (a.Value.length ≤ 1000)) = true) : okStr l := by
  intro a ha
  have := List.all_eq_true.1 h a ha
  simp only [Bool.and_eq_true, decide_eq_true_eq] at this
  omega
end Go.Proofs.YthoepnnckmfipaaGreatDoor.Al


namespace Go.Proofs.YthoepnnckmfipaaGreatDoor.Al
end Go.Proofs.YthoepnnckmfipaaGreatDoor.Al


namespace Go.Proofs.YthoepnnckmfipaaGreatDoor.Al
end Go.Proofs.YthoepnnckmfipaaGreatDoor.Al


namespace Go.Proofs.YthoepnnckmfipaaGreatDoor.Al
end Go.Proofs.YthoepnnckmfipaaGreatDoor.Al


namespace Go.Proofs.YthoepnnckmfipaaGreatDoor.Al
theorem iter_hoare {σ β : Type} {f : σ → Option (σ ⊕ β)} (n : Nat) (R : Nat → σ → Prop) (Q : β → Prop)
    (h1 : ∀ k s, k < n → R k s → (∃ s', f s = some (.inl s') ∧ R (k + 1) s') ∨ (∃ b, f s = some (.inr b) ∧ Q b))
    (h2 : ∀ s, R n s → ∃ b, f s = some (.inr b) ∧ Q b) {s : σ} (h0 : R 0 s) : ∃ b, iter f s = some b ∧ Q b := by
  have key : ∀ m k s, k + m = n → R k s → ∃ b, iter f s = some b ∧ Q b := by
    intro m
    induction m with
    | zero =>
      intro k s hk hR
      obtain rfl : k = n := by omega
      obtain ⟨b, hb, hq⟩ := h2 s hR
      exact ⟨b, iter_stop hb, hq⟩
    | succ m ih =>
      intro k s hk hR
      rcases h1 k s (by omega) hR with ⟨s', h3, h4⟩ | ⟨b, h3, h4⟩
      · obtain ⟨b, h5, h6⟩ := ih (k + 1) s' (by omega) h4
        exact ⟨b, by rw [iter_next h3, h5], h6⟩
      · exact ⟨b, iter_stop h3, h4⟩
  exact key n 0 s (by omega) h0
theorem take_at {α : Type} [Inhabited α] {l : List α} {k : Nat} (h : k < l.length) : l.take (k + 1) = l.take k ++ [l[k]!] := by
  rw [List.take_add_one, List.getElem?_eq_getElem h, getElem!_pos l k h]; rfl
theorem mem_at {α : Type} [Inhabited α] {l : List α} {k : Nat} (h : k < l.length) : l[k]! ∈ l := by
  rw [getElem!_pos l k h]; exact List.getElem_mem h
def oldN (s : GAxisStep) : Int := if s.Kind = 1 then 0 else s.N
def nowN (s : GAxisStep) : Int := if s.Kind = 2 then 0 else s.N
def oldLen (a : List GAxisStep) : Int := (a.map oldN).sum
def nowLen (a : List GAxisStep) : Int := (a.map nowN).sum
theorem oldLen_at {a : List GAxisStep} {k : Nat} (h : k < a.length) : oldLen (a.take (k + 1)) = oldLen (a.take k) + oldN a[k]! := by
  unfold oldLen; rw [take_at h]; simp
theorem nowLen_at {a : List GAxisStep} {k : Nat} (h : k < a.length) : nowLen (a.take (k + 1)) = nowLen (a.take k) + nowN a[k]! := by
  unfold nowLen; rw [take_at h]; simp
def errS (a : List GAxisStep) (k : Nat) : Option Int :=
  if a[k]!.Kind < 0 ∨ 2 < a[k]!.Kind then some 8 else if a[k]!.N < 1 ∨ 2147483647 < a[k]!.N then some 2
  else if 0 < k ∧ (a[k - 1]!.Kind = a[k]!.Kind ∨ (a[k - 1]!.Kind = 2 ∧ a[k]!.Kind = 1)) then some 5 else none
def axErr (a : List GAxisStep) : Int :=
  match (List.range a.length).findSome? (errS a) with
  | some e => e
  | none => if 2147483647 < oldLen a ∨ 2147483647 < nowLen a then 3 else 0
theorem find_first {ρ : Type} {n k : Nat} {g : Nat → Option ρ} {r : ρ} (hk : k < n) (h1 : ∀ j, j < k → g j = none) (h2 : g k = some r) : (List.range n).findSome? g = some r := by
  obtain ⟨m, rfl⟩ : ∃ m, n = k + (m + 1) := ⟨n - k - 1, by omega⟩
  rw [List.range_eq_range', ← List.range'_append (s := 0) (m := k) (n := m + 1) (step := 1), List.findSome?_append]
  have : (List.range' 0 k).findSome? g = none := by
    rw [List.findSome?_eq_none_iff]; intro x hx; exact h1 x (by simpa using hx)
  rw [this, Nat.one_mul, Nat.zero_add, List.range'_succ, List.findSome?_cons, h2]; rfl
theorem find_none {ρ : Type} {n : Nat} {g : Nat → Option ρ} (h1 : ∀ j, j < n → g j = none) : (List.range n).findSome? g = none := by
  rw [List.findSome?_eq_none_iff]; intro x hx; exact h1 x (by simpa using hx)
def Stp (s : GAxisStep) : Prop := 0 ≤ s.Kind ∧ s.Kind ≤ 2 ∧ 1 ≤ s.N ∧ s.N ≤ 2147483647
theorem stp_of {a : List GAxisStep} {k : Nat} (h : errS a k = none) : Stp a[k]! := by
  unfold errS at h
  unfold Stp
  split at h
  · cases h
  · split at h
    · cases h
    · omega
theorem good_take {a : List GAxisStep} {k : Nat} (hk : k ≤ a.length) (h : ∀ j, j < k → Stp a[j]!) : 0 ≤ oldLen (a.take k) ∧ oldLen (a.take k) ≤ k * 2147483647 ∧ 0 ≤ nowLen (a.take k) ∧ nowLen (a.take k) ≤ k * 2147483647 := by
  induction k with
  | zero => simp [oldLen, nowLen]
  | succ k ih =>
    have := ih (by omega) (fun j hj => h j (by omega))
    have hs := h k (by omega)
    rw [oldLen_at (by omega), nowLen_at (by omega)]
    unfold oldN nowN
    unfold Stp at hs
    omega
theorem chk_ok {x : Int} (h1 : -9223372036854775808 ≤ x) (h2 : x ≤ 9223372036854775807) : chk .i64 x = some x := chk64 h1 h2
theorem axis_Check_eq (a : List GAxisStep) (hm : a.length ≤ 9223372036854775807) : axis_Check a = some (axErr a) := by
  unfold axis_Check
  obtain ⟨b, hb, hq⟩ := iter_hoare (f := fun (x : Int × Int × Int) => axis_Check_L1 a x.1 x.2.1 x.2.2) a.length
    (fun k s => s = (min (oldLen (a.take k)) 2147483648, min (nowLen (a.take k)) 2147483648, (k : Int)) ∧ ∀ j, j < k → errS a j = none)
    (fun b => b = match (List.range a.length).findSome? (errS a) with | some e => .ext e | none => .nrm (min (oldLen a) 2147483648, min (nowLen a) 2147483648))
    (fun k s hk hR => by
      obtain ⟨rfl, hg⟩ := hR
      have hlen := good_take (a := a) (k := k) (by omega) (fun j hj => stp_of (hg j hj))
      unfold axis_Check_L1
      simp only
      rw [if_pos (by simpa using hk), idx_nat hk, bnd1_some, chk_nat (by omega)]
      cases he : errS a k with
      | some r =>
        right
        rw [find_first hk hg he]
        refine ⟨_, ?_, rfl⟩
        unfold errS at he
        by_cases c1 : a[k]!.Kind < 0 ∨ 2 < a[k]!.Kind
        · rw [if_pos c1] at he; cases he
          rw [if_pos (by simpa using c1)]; rfl
        rw [if_neg c1] at he
        rw [if_neg (by simpa using c1)]
        by_cases c2 : a[k]!.N < 1 ∨ 2147483647 < a[k]!.N
        · rw [if_pos c2] at he; cases he
          rw [if_pos (by simpa using c2)]; rfl
        rw [if_neg c2] at he
        rw [if_neg (by simpa using c2)]
        by_cases c3 : 0 < k ∧ (a[k - 1]!.Kind = a[k]!.Kind ∨ (a[k - 1]!.Kind = 2 ∧ a[k]!.Kind = 1))
        · rw [if_pos c3] at he; cases he
          have h0 : decide ((0 : Int) < (k : Int)) = true := by simp; omega
          rw [h0, chk_pred c3.1 (by omega)]
          simp only [beq_self_eq_true, gd_true, bnd1_some, Bool.true_and]
          rw [idx_nat (by omega), bnd1_some, if_pos (by simpa using c3.2)]; rfl
        · rw [if_neg c3] at he; cases he
      | none =>
        left
        have hs := stp_of he
        have h0 := he
        unfold errS at he
        by_cases c1 : a[k]!.Kind < 0 ∨ 2 < a[k]!.Kind
        · rw [if_pos c1] at he; cases he
        rw [if_neg c1] at he
        rw [if_neg (by simpa using c1)]
        by_cases c2 : a[k]!.N < 1 ∨ 2147483647 < a[k]!.N
        · rw [if_pos c2] at he; cases he
        rw [if_neg c2] at he
        rw [if_neg (by simpa using c2)]
        by_cases c3 : 0 < k ∧ (a[k - 1]!.Kind = a[k]!.Kind ∨ (a[k - 1]!.Kind = 2 ∧ a[k]!.Kind = 1))
        · rw [if_pos c3] at he; cases he
        clear he
        have e3 : k = 0 ∨ (0 < k ∧ ¬ (a[k - 1]!.Kind = a[k]!.Kind ∨ (a[k - 1]!.Kind = 2 ∧ a[k]!.Kind = 1))) := by
          by_cases h0 : k = 0
          · exact .inl h0
          · exact .inr ⟨by omega, fun h => c3 ⟨by omega, h⟩⟩
        have hR' : ∀ j, j < k + 1 → errS a j = none := fun j hj => by
          rcases Nat.lt_or_ge j k with h | h
          · exact hg j h
          · obtain rfl : j = k := by omega
            exact h0
        have fin : (ctl2 (bnd1 (if (!decide (a[k]!.Kind = 1)) = true then (bnd1 (chk .i64 (min (oldLen (a.take k)) 2147483648 + a[k]!.N)) fun (x9 : Int) => some (min x9 2147483648)) else some (min (oldLen (a.take k)) 2147483648)) fun (before6 : Int) =>
            if (!decide (a[k]!.Kind = 2)) = true then (bnd1 (chk .i64 (min (nowLen (a.take k)) 2147483648 + a[k]!.N)) fun (x8 : Int) => some (.nrm (before6, min x8 2147483648))) else some (.nrm (before6, min (nowLen (a.take k)) 2147483648)))
            fun (before5 : Int) (after5 : Int) => bnd1 (some (((k + 1 : Nat)) : Int)) fun (x4 : Int) => some (Sum.inl (before5, after5, x4)) : Option ((Int × Int × Int) ⊕ (Ctl (Int × Int) Int))) =
            some (.inl (min (oldLen (a.take (k + 1))) 2147483648, min (nowLen (a.take (k + 1))) 2147483648, ((k + 1 : Nat) : Int))) := by
          unfold Stp at hs
          rw [oldLen_at hk, nowLen_at hk]
          clear c1 c2 c3 e3 hR' h0
          generalize a[k]! = x at hs ⊢
          generalize oldLen (a.take k) = o at hlen ⊢
          generalize nowLen (a.take k) = w at hlen ⊢
          rw [chk_ok (by omega) (by omega), chk_ok (by omega) (by omega)]
          unfold oldN nowN
          by_cases d1 : x.Kind = 1
          · have d2 : ¬ x.Kind = 2 := by omega
            simp [d1]; omega
          · by_cases d2 : x.Kind = 2
            · simp [d2]; omega
            · simp [d1, d2]; omega
        rcases e3 with rfl | ⟨hp, e3⟩
        · exact ⟨_, fin, rfl, hR'⟩
        · have h1 : decide ((0 : Int) < (k : Int)) = true := by simp; omega
          rw [h1, chk_pred (by omega) (by omega)]
          simp only [beq_self_eq_true, gd_true, bnd1_some, Bool.true_and]
          rw [idx_nat (by omega), bnd1_some, if_neg (by simpa using e3)]
          exact ⟨_, fin, rfl, hR'⟩)
    (fun s hR => by
      obtain ⟨rfl, hg⟩ := hR
      rw [find_none hg, List.take_length]
      unfold axis_Check_L1
      exact ⟨_, by rw [if_neg (by simp)], rfl⟩)
    (s := (0, 0, 0)) ⟨by simp [oldLen, nowLen]; decide, fun j hj => absurd hj (Nat.not_lt_zero _)⟩
  rw [hb, hq]
  unfold axErr
  cases (List.range a.length).findSome? (errS a) with
  | some e => rfl
  | none =>
    show (if (decide (2147483647 < min (oldLen a) 2147483648) || decide (2147483647 < min (nowLen a) 2147483648)) = true then some 3 else some 0) = _
    by_cases h : 2147483647 < oldLen a ∨ 2147483647 < nowLen a
    · rw [if_pos (by simp; omega), if_pos h]
    · rw [if_neg (by simp; omega), if_neg h]
theorem ref_In_eq (x lo hi : Int) : ref_In x lo hi = some (decide (lo ≤ x) && decide (x ≤ hi)) := by
  unfold ref_In
  rfl
theorem ref_AxisError_eq (a : List GAxisStep) (hm : a.length ≤ 9223372036854775807) : ref_AxisError a = some (axErr a) := by
  unfold ref_AxisError
  obtain ⟨b, hb, hq⟩ := iter_hoare (f := fun (x : Int × Int × Int) => ref_AxisError_L1 a x.1 x.2.1 x.2.2) a.length
    (fun k s => ∃ o w : Int, s = (o, w, (k : Int)) ∧ (∀ j, j < k → errS a j = none) ∧ (oldLen (a.take k) ≤ 2147483647 → o = oldLen (a.take k)) ∧ (2147483647 < oldLen (a.take k) → 2147483647 < o) ∧ 0 ≤ o ∧ o ≤ 4294967296
      ∧ (nowLen (a.take k) ≤ 2147483647 → w = nowLen (a.take k)) ∧ (2147483647 < nowLen (a.take k) → 2147483647 < w) ∧ 0 ≤ w ∧ w ≤ 4294967296)
    (fun b => match (List.range a.length).findSome? (errS a) with | some e => b = .ext e | none => ∃ o w : Int, b = .nrm (o, w) ∧ (2147483647 < o ↔ 2147483647 < oldLen a) ∧ (2147483647 < w ↔ 2147483647 < nowLen a))
    (fun k s hk hR => by
      obtain ⟨o, w, rfl, hg, hR⟩ := hR
      have hlen := good_take (a := a) (k := k) (by omega) (fun j hj => stp_of (hg j hj))
      unfold ref_AxisError_L1
      simp only
      rw [if_pos (by simpa using hk), idx_nat hk, bnd1_some, chk_nat (by omega), ref_In_eq, bnd1_some, ref_In_eq, bnd1_some]
      have q1 : (!(decide (0 ≤ a[k]!.Kind) && decide (a[k]!.Kind ≤ 2))) = decide (a[k]!.Kind < 0 ∨ 2 < a[k]!.Kind) := by
        rw [Bool.eq_iff_iff]; simp only [Bool.not_eq_true', Bool.and_eq_false_imp, decide_eq_true_eq, decide_eq_false_iff_not]; omega
      have q2 : (!(decide (1 ≤ a[k]!.N) && decide (a[k]!.N ≤ 2147483647))) = decide (a[k]!.N < 1 ∨ 2147483647 < a[k]!.N) := by
        rw [Bool.eq_iff_iff]; simp only [Bool.not_eq_true', Bool.and_eq_false_imp, decide_eq_true_eq, decide_eq_false_iff_not]; omega
      rw [q1, q2]
      cases he : errS a k with
      | some r =>
        right
        rw [find_first hk hg he]
        refine ⟨_, ?_, rfl⟩
        unfold errS at he
        by_cases c1 : a[k]!.Kind < 0 ∨ 2 < a[k]!.Kind
        · rw [if_pos c1] at he; cases he
          rw [if_pos (decide_eq_true c1)]; rfl
        rw [if_neg c1] at he
        rw [if_neg (by rw [decide_eq_true_eq]; exact c1)]
        by_cases c2 : a[k]!.N < 1 ∨ 2147483647 < a[k]!.N
        · rw [if_pos c2] at he; cases he
          rw [if_pos (decide_eq_true c2)]; rfl
        rw [if_neg c2] at he
        rw [if_neg (by rw [decide_eq_true_eq]; exact c2)]
        by_cases c3 : 0 < k ∧ (a[k - 1]!.Kind = a[k]!.Kind ∨ (a[k - 1]!.Kind = 2 ∧ a[k]!.Kind = 1))
        · rw [if_pos c3] at he; cases he
          have h0 : decide ((0 : Int) < (k : Int)) = true := by simp; omega
          rw [h0, chk_pred c3.1 (by omega)]
          simp only [beq_self_eq_true, gd_true, bnd1_some, Bool.true_and]
          rw [idx_nat (by omega), bnd1_some]
          rcases c3.2 with d | ⟨d1, d2⟩
          · rw [d, decide_eq_true rfl]; rfl
          · have : ¬ a[k]!.Kind = a[k - 1]!.Kind := by omega
            rw [decide_eq_false this, decide_eq_true d2]
            simp only [beq_self_eq_true, Bool.and_self, gd_true, bnd1_some, Bool.false_or, Bool.true_and]
            rw [idx_nat (by omega), bnd1_some, decide_eq_true d1]; rfl
        · rw [if_neg c3] at he; cases he
      | none =>
        left
        have hs := stp_of he
        have h0 := he
        unfold errS at he
        by_cases c1 : a[k]!.Kind < 0 ∨ 2 < a[k]!.Kind
        · rw [if_pos c1] at he; cases he
        rw [if_neg c1] at he
        rw [if_neg (by rw [decide_eq_true_eq]; exact c1)]
        by_cases c2 : a[k]!.N < 1 ∨ 2147483647 < a[k]!.N
        · rw [if_pos c2] at he; cases he
        rw [if_neg c2] at he
        rw [if_neg (by rw [decide_eq_true_eq]; exact c2)]
        by_cases c3 : 0 < k ∧ (a[k - 1]!.Kind = a[k]!.Kind ∨ (a[k - 1]!.Kind = 2 ∧ a[k]!.Kind = 1))
        · rw [if_pos c3] at he; cases he
        clear he q1 q2
        have e3 : k = 0 ∨ (0 < k ∧ ¬ (a[k - 1]!.Kind = a[k]!.Kind ∨ (a[k - 1]!.Kind = 2 ∧ a[k]!.Kind = 1))) := by
          by_cases h0 : k = 0
          · exact .inl h0
          · exact .inr ⟨by omega, fun h => c3 ⟨by omega, h⟩⟩
        have hR' : ∀ j, j < k + 1 → errS a j = none := fun j hj => by
          rcases Nat.lt_or_ge j k with h | h
          · exact hg j h
          · obtain rfl : j = k := by omega
            exact h0
        have fin : ∃ o2 w2 : Int, (ctl2 (bnd1 (if (!decide (a[k]!.Kind = 1) && decide (o < 2147483648)) = true then (bnd1 (chk .i64 (o + a[k]!.N)) fun (x9 : Int) => some x9) else some o) fun (before6 : Int) =>
            if (!decide (a[k]!.Kind = 2) && decide (w < 2147483648)) = true then (bnd1 (chk .i64 (w + a[k]!.N)) fun (x8 : Int) => some (.nrm (before6, x8))) else some (.nrm (before6, w)))
            fun (before5 : Int) (after5 : Int) => bnd1 (some (((k + 1 : Nat)) : Int)) fun (x4 : Int) => some (Sum.inl (before5, after5, x4)) : Option ((Int × Int × Int) ⊕ (Ctl (Int × Int) Int))) =
            some (.inl (o2, w2, ((k + 1 : Nat) : Int))) ∧ ((oldLen (a.take (k + 1)) ≤ 2147483647 → o2 = oldLen (a.take (k + 1))) ∧ (2147483647 < oldLen (a.take (k + 1)) → 2147483647 < o2) ∧ 0 ≤ o2 ∧ o2 ≤ 4294967296
      ∧ (nowLen (a.take (k + 1)) ≤ 2147483647 → w2 = nowLen (a.take (k + 1))) ∧ (2147483647 < nowLen (a.take (k + 1)) → 2147483647 < w2) ∧ 0 ≤ w2 ∧ w2 ≤ 4294967296) := by
          unfold Stp at hs
          rw [oldLen_at hk, nowLen_at hk]
          clear c1 c2 c3 e3 hR' h0
          generalize a[k]! = x at hs ⊢
          generalize oldLen (a.take k) = o1 at hlen hR ⊢
          generalize nowLen (a.take k) = w1 at hlen hR ⊢
          rw [chk_ok (by omega) (by omega), chk_ok (by omega) (by omega)]
          unfold oldN nowN
          refine ⟨if x.Kind ≠ 1 ∧ o < 2147483648 then o + x.N else o, if x.Kind ≠ 2 ∧ w < 2147483648 then w + x.N else w, ?_, ?_⟩
          · by_cases d1 : x.Kind = 1
            · by_cases d3 : w < 2147483648 <;> simp [d1, d3]
            · by_cases d2 : x.Kind = 2
              · by_cases d3 : o < 2147483648 <;> simp [d2, d3]
              · by_cases d3 : o < 2147483648 <;> by_cases d4 : w < 2147483648 <;> simp [d1, d2, d3, d4]
          · split <;> split <;> split <;> split <;> omega
        obtain ⟨o2, w2, f1, f2⟩ := fin
        rcases e3 with rfl | ⟨hp, e3⟩
        · exact ⟨_, f1, o2, w2, rfl, hR', f2⟩
        · have h1 : decide ((0 : Int) < (k : Int)) = true := by simp; omega
          rw [h1, chk_pred (by omega) (by omega)]
          simp only [beq_self_eq_true, gd_true, bnd1_some, Bool.true_and]
          rw [idx_nat (by omega), bnd1_some]
          have n1 : ¬ a[k]!.Kind = a[k - 1]!.Kind := fun e => e3 (.inl e.symm)
          rw [decide_eq_false n1]
          simp only [Bool.false_or, beq_self_eq_true, Bool.true_and]
          by_cases d2 : a[k]!.Kind = 1
          · rw [decide_eq_true d2]
            simp only [beq_self_eq_true, gd_true, bnd1_some]
            rw [idx_nat (by omega), bnd1_some]
            have n2 : ¬ a[k - 1]!.Kind = 2 := fun e => e3 (.inr ⟨e, d2⟩)
            rw [decide_eq_false n2, if_neg (by decide)]
            rw [decide_eq_true d2] at f1
            exact ⟨_, f1, o2, w2, rfl, hR', f2⟩
          · rw [decide_eq_false d2]
            rw [decide_eq_false d2] at f1
            exact ⟨_, f1, o2, w2, rfl, hR', f2⟩)
    (fun s hR => by
      obtain ⟨o, w, rfl, hg, hR⟩ := hR
      rw [find_none hg]
      rw [List.take_length] at hR
      unfold ref_AxisError_L1
      exact ⟨_, by rw [if_neg (by simp)], o, w, rfl, by omega, by omega⟩)
    (s := (0, 0, 0)) ⟨0, 0, rfl, fun j hj => absurd hj (Nat.not_lt_zero _), by simp [oldLen, nowLen]⟩
  rw [hb]
  unfold axErr
  cases hf : (List.range a.length).findSome? (errS a) with
  | some e => rw [hf] at hq; rw [hq]; rfl
  | none =>
    rw [hf] at hq
    obtain ⟨o, w, rfl, h1, h2⟩ := hq
    show (if (decide (2147483647 < o) || decide (2147483647 < w)) = true then some 3 else some 0) = _
    rw [show (decide (2147483647 < o) || decide (2147483647 < w)) = decide (2147483647 < oldLen a ∨ 2147483647 < nowLen a) by simp [h1, h2]]
    by_cases h : 2147483647 < oldLen a ∨ 2147483647 < nowLen a
    · rw [if_pos (decide_eq_true h), if_pos h]
    · rw [if_neg (by rw [decide_eq_true_eq]; exact h), if_neg h]
end Go.Proofs.YthoepnnckmfipaaGreatDoor.Al


namespace Go.Proofs.YthoepnnckmfipaaGreatDoor.Al
end Go.Proofs.YthoepnnckmfipaaGreatDoor.Al


namespace Go.Proofs.YthoepnnckmfipaaGreatDoor.Al
def charOK (c : Int) : Bool := decide (c = 9) || decide (c = 10) || (decide (32 ≤ c) && decide (c ≤ 126)) || (decide (160 ≤ c) && decide (c ≤ 55295)) || (decide (57344 ≤ c) && decide (c ≤ 1114111))
def elemErr (x : GElem) : Int :=
  if (x.Char = 0 ∧ x.Ref = 0) ∨ (x.Char ≠ 0 ∧ x.Ref ≠ 0) then 4 else if (x.Char ≠ 0 ∧ charOK x.Char = false) ∨ (x.Ref ≠ 0 ∧ ¬ (1 ≤ x.Ref ∧ x.Ref ≤ 1073741824)) then 2 else attrErr x.Attrs false
def okE (x : GElem) : Prop := x.Attrs.length ≤ 9223372036854775807 ∧ okStr x.Attrs
theorem flow_Char_eq (c : Int) : flow_Char c = some (charOK c) := by
  unfold flow_Char charOK
  congr 1
  rw [Bool.eq_iff_iff]
  simp only [Bool.or_eq_true, Bool.and_eq_true, decide_eq_true_eq]
  omega
theorem ref_Char_eq (c : Int) : ref_Char c = some (charOK c) := by
  unfold ref_Char charOK
  rw [ref_In_eq, ref_In_eq, ref_In_eq]
  generalize decide (c = 9) = a1
  generalize decide (c = 10) = a2
  generalize (decide (32 ≤ c) && decide (c ≤ 126)) = a3
  generalize (decide (160 ≤ c) && decide (c ≤ 55295)) = a4
  generalize (decide (57344 ≤ c) && decide (c ≤ 1114111)) = a5
  cases a1 <;> cases a2 <;> cases a3 <;> cases a4 <;> cases a5 <;> rfl
theorem flow_elem_eq (x : GElem) (h : okE x) : flow_elem x = some (elemErr x) := by
  unfold flow_elem elemErr
  rw [flow_Char_eq, attr_Check_eq _ h.2 h.1]
  by_cases c : x.Char = 0
  · by_cases r : x.Ref = 0
    · simp [c, r]
    · by_cases q : 1 ≤ x.Ref ∧ x.Ref ≤ 1073741824
      · have q1 : ¬ x.Ref < 1 := by omega
        have q2 : ¬ 1073741824 < x.Ref := by omega
        simp [c, r, q, q1, q2]
      · have q1 : x.Ref < 1 ∨ 1073741824 < x.Ref := by omega
        simp [c, r, q, q1]
  · by_cases r : x.Ref = 0
    · cases hc : charOK x.Char <;> simp [c, r, hc]
    · simp [c, r]
theorem ref_ElemError_eq (x : GElem) (h : okE x) : ref_ElemError x = some (elemErr x) := by
  unfold ref_ElemError elemErr
  rw [ref_Char_eq, ref_AttrsError_eq _ _ h.2 h.1, ref_In_eq]
  by_cases c : x.Char = 0
  · by_cases r : x.Ref = 0
    · simp [c, r]
    · by_cases q : 1 ≤ x.Ref ∧ x.Ref ≤ 1073741824
      · simp [c, r, q]
      · have q1 : (decide (1 ≤ x.Ref) && decide (x.Ref ≤ 1073741824)) = false := by rw [← Bool.not_eq_true]; simpa using q
        simp [c, r, q, q1]
  · by_cases r : x.Ref = 0
    · cases hc : charOK x.Char <;> simp [c, r, hc]
    · simp [c, r]
def errE (f : List GElem) (k : Nat) : Option Int := if elemErr f[k]! = 0 then none else some (elemErr f[k]!)
def partErr (f : List GElem) : Int := ((List.range f.length).findSome? (errE f)).getD 0
theorem flow_CheckPart_eq (f : List GElem) (h : ∀ x ∈ f, okE x) (hm : f.length ≤ 9223372036854775807) : flow_CheckPart f = some (partErr f) := by
  unfold flow_CheckPart
  rw [iter_find (n := f.length) (errE f) (fun k hk => by
    unfold flow_CheckPart_L1 errE
    rw [if_pos (by simpa using hk), idx_nat hk, bnd1_some, chk_nat (by omega), flow_elem_eq _ (h _ (mem_at hk)), bnd1_some]
    by_cases e : elemErr f[k]! = 0
    · rw [if_neg (by simpa using e), if_pos e]; rfl
    · rw [if_pos (by simpa using e), if_neg e]; rfl) (by unfold flow_CheckPart_L1; rw [if_neg (by simp)]), out_getD]; rfl
theorem ref_PartError_eq (f : List GElem) (h : ∀ x ∈ f, okE x) (hm : f.length ≤ 9223372036854775807) : ref_PartError f = some (partErr f) := by
  unfold ref_PartError
  rw [iter_find (n := f.length) (errE f) (fun k hk => by
    unfold ref_PartError_L1 errE
    rw [if_pos (by simpa using hk), idx_nat hk, bnd1_some, chk_nat (by omega), ref_ElemError_eq _ (h _ (mem_at hk)), bnd1_some]
    by_cases e : elemErr f[k]! = 0
    · rw [if_neg (by simpa using e), if_pos e]; rfl
    · rw [if_pos (by simpa using e), if_neg e]; rfl) (by unfold ref_PartError_L1; rw [if_neg (by simp)]), out_getD]; rfl
def sHidden : List UInt8 := [104, 105, 100, 100, 101, 110]
def sOn : List UInt8 := [111, 110]
def sCut : List UInt8 := [99, 117, 116]
def sAdd : List UInt8 := [97, 100, 100]
def hid (x : GElem) (mode : Int) : Bool := decide (getA x.Attrs sHidden = sOn) || (decide (mode = 0) && !decide (getA x.Attrs sCut = [])) || (decide (mode = 1) && !decide (getA x.Attrs sAdd = []))
end Go.Proofs.YthoepnnckmfipaaGreatDoor.Al


namespace Go.Proofs.YthoepnnckmfipaaGreatDoor.Al
theorem ndT {p : Prop} [Decidable p] (h : ¬ p) : (!decide p) = true := by simp [h]
theorem ndF {p : Prop} [Decidable p] (h : p) : ¬ ((!decide p) = true) := by simp [h]
def okA (l : List GAttr) : Prop := l.length ≤ 1073741824 ∧ okStr l
theorem okA.e {x : GElem} (h : okA x.Attrs) : okE x := ⟨by have := h.1; omega, h.2⟩
structure OkSt (s : GStep) : Prop where
  at_ : okA s.Attrs
  el : s.Elems.length ≤ 1073741824
  ea : ∀ e ∈ s.Elems, okA e.Attrs
structure OkD (d : List GStep) : Prop where
  len : d.length ≤ 1099511627776
  st : ∀ s ∈ d, OkSt s
  sum : (d.map fun s => s.Elems.length).sum ≤ 1073741824
theorem okE_of {f : List GElem} (h : ∀ e ∈ f, okA e.Attrs) : ∀ e ∈ f, okE e := fun e he => (h e he).e
def stepErr (s : GStep) : Int :=
  if s.Kind = 1 then (if s.N ≠ 0 ∨ s.Attrs ≠ [] then 4 else if s.Elems = [] then 11 else partErr s.Elems)
  else if s.Kind = 0 ∨ s.Kind = 2 then (if s.Elems ≠ [] ∨ (s.Kind = 2 ∧ s.Attrs ≠ []) then 4 else if s.N < 1 ∨ 2147483647 < s.N then 2 else attrErr s.Attrs true)
  else 8
theorem len_pos {α : Type} [DecidableEq α] (l : List α) : decide (0 < (l.length : Int)) = !decide (l = []) := by
  by_cases h : l = []
  · subst h; rfl
  · have := List.length_pos_iff.2 h
    rw [decide_eq_false h, decide_eq_true (by omega)]; rfl
theorem len_zero {α : Type} [DecidableEq α] (l : List α) : decide ((l.length : Int) = 0) = decide (l = []) := by
  by_cases h : l = []
  · subst h; rfl
  · have := List.length_pos_iff.2 h
    rw [decide_eq_false h, decide_eq_false (by omega)]
theorem and_or_any : ∀ (b1 b2 r r' : Bool), b1 = false ∨ b2 = false → (b1 && (!b2 || r)) = (b1 && (!b2 || r')) := by decide
theorem delta_step_eq (s : GStep) (h : OkSt s) : delta_step s = some (stepErr s) := by
  have h1 := h.at_.1
  have h2 := h.el
  unfold delta_step stepErr
  rw [attr_CheckChange_eq _ h.at_.2 (by omega), flow_CheckPart_eq _ (okE_of h.ea) (by omega), len_pos, len_pos, len_zero]
  by_cases k1 : s.Kind = 1
  · have k0 : ¬ s.Kind = 0 := by omega
    have k2 : ¬ s.Kind = 2 := by omega
    simp only [k1, bnd1_some]
    by_cases n0 : s.N = 0 <;> by_cases a0 : s.Attrs = [] <;> by_cases e0 : s.Elems = [] <;> simp [n0, a0, e0]
  · by_cases k0 : s.Kind = 0
    · simp only [k0, bnd1_some]
      by_cases a0 : s.Attrs = [] <;> by_cases e0 : s.Elems = [] <;> by_cases n0 : s.N < 1 ∨ 2147483647 < s.N <;> simp [a0, e0, n0]
    · by_cases k2 : s.Kind = 2
      · simp only [k2, bnd1_some]
        by_cases a0 : s.Attrs = [] <;> by_cases e0 : s.Elems = [] <;> by_cases n0 : s.N < 1 ∨ 2147483647 < s.N <;> simp [a0, e0, n0]
      · simp [k0, k1, k2]
theorem ref_StepError_eq (s : GStep) (h : OkSt s) : ref_StepError s = some (stepErr s) := by
  have h1 := h.at_.1
  have h2 := h.el
  unfold ref_StepError stepErr
  rw [ref_AttrsError_eq _ _ h.at_.2 (by omega), ref_PartError_eq _ (okE_of h.ea) (by omega), ref_In_eq, ref_In_eq, len_pos, len_pos, len_zero]
  by_cases k1 : s.Kind = 1
  · simp only [k1, bnd1_some]
    by_cases n0 : s.N = 0 <;> by_cases a0 : s.Attrs = [] <;> by_cases e0 : s.Elems = [] <;> simp [n0, a0, e0]
  · have q2 : (!(decide (1 ≤ s.N) && decide (s.N ≤ 2147483647))) = decide (s.N < 1 ∨ 2147483647 < s.N) := by
      rw [Bool.eq_iff_iff]; simp only [Bool.not_eq_true', Bool.and_eq_false_imp, decide_eq_true_eq, decide_eq_false_iff_not]; omega
    simp only [bnd1_some]
    rw [q2]
    by_cases k0 : s.Kind = 0
    · simp only [k0]
      by_cases a0 : s.Attrs = [] <;> by_cases e0 : s.Elems = [] <;> by_cases n0 : s.N < 1 ∨ 2147483647 < s.N <;> simp [a0, e0, n0]
    · by_cases k2 : s.Kind = 2
      · simp only [k2]
        by_cases a0 : s.Attrs = [] <;> by_cases e0 : s.Elems = [] <;> by_cases n0 : s.N < 1 ∨ 2147483647 < s.N <;> simp [a0, e0, n0]
      · have : (!(decide (0 ≤ s.Kind) && decide (s.Kind ≤ 2))) = true := by
          rw [Bool.not_eq_true', Bool.and_eq_false_imp]; simp only [decide_eq_true_eq, decide_eq_false_iff_not]; omega
        rw [this]; simp [k0, k1, k2]
structure GoodS (s : GStep) : Prop where
  kind : (s.Kind = 0 ∧ s.Elems = [] ∧ 1 ≤ s.N ∧ s.N ≤ 2147483647 ∧ attrErr s.Attrs true = 0) ∨ (s.Kind = 2 ∧ s.Elems = [] ∧ s.Attrs = [] ∧ 1 ≤ s.N ∧ s.N ≤ 2147483647) ∨
    (s.Kind = 1 ∧ s.N = 0 ∧ s.Attrs = [] ∧ s.Elems ≠ [] ∧ partErr s.Elems = 0)
theorem goodS_of {s : GStep} (h : stepErr s = 0) : GoodS s := by
  constructor
  unfold stepErr at h
  by_cases k1 : s.Kind = 1
  · rw [if_pos k1] at h
    by_cases c1 : s.N ≠ 0 ∨ s.Attrs ≠ []
    · rw [if_pos c1] at h; cases h
    · rw [if_neg c1] at h
      by_cases c2 : s.Elems = []
      · rw [if_pos c2] at h; cases h
      · rw [if_neg c2] at h
        refine .inr (.inr ⟨k1, ?_, ?_, c2, h⟩)
        · exact Classical.byContradiction fun hn => c1 (.inl hn)
        · exact Classical.byContradiction fun hn => c1 (.inr hn)
  · rw [if_neg k1] at h
    by_cases k : s.Kind = 0 ∨ s.Kind = 2
    · rw [if_pos k] at h
      by_cases c1 : s.Elems ≠ [] ∨ (s.Kind = 2 ∧ s.Attrs ≠ [])
      · rw [if_pos c1] at h; cases h
      · rw [if_neg c1] at h
        by_cases c2 : s.N < 1 ∨ 2147483647 < s.N
        · rw [if_pos c2] at h; cases h
        · rw [if_neg c2] at h
          have he : s.Elems = [] := Classical.byContradiction fun hn => c1 (.inl hn)
          rcases k with k | k
          · exact .inl ⟨k, he, by omega, by omega, h⟩
          · exact .inr (.inl ⟨k, he, Classical.byContradiction fun hn => c1 (.inr ⟨k, hn⟩), by omega, by omega⟩)
    · rw [if_neg k] at h; cases h
def ordBad (p s : GStep) : Bool := (decide (p.Kind = s.Kind) && (!decide (s.Kind = 0) || decide (p.Attrs = s.Attrs))) || (decide (p.Kind = 2) && decide (s.Kind = 1))
def oldS (s : GStep) : Int := if s.Kind = 1 then 0 else s.N
def nowS (s : GStep) : Int := if s.Kind = 2 then 0 else if s.Kind = 1 then s.Elems.length else s.N
def oldD (d : List GStep) : Int := (d.map oldS).sum
def nowD (d : List GStep) : Int := (d.map nowS).sum
theorem oldD_at {d : List GStep} {k : Nat} (h : k < d.length) : oldD (d.take (k + 1)) = oldD (d.take k) + oldS d[k]! := by rw [take_at h]; simp [oldD]
theorem nowD_at {d : List GStep} {k : Nat} (h : k < d.length) : nowD (d.take (k + 1)) = nowD (d.take k) + nowS d[k]! := by rw [take_at h]; simp [nowD]
def errD (d : List GStep) (k : Nat) : Option Int := if stepErr d[k]! ≠ 0 then some (stepErr d[k]!) else if 0 < k ∧ ordBad d[k - 1]! d[k]! = true then some 5 else none
def delErr (d : List GStep) : Int := match (List.range d.length).findSome? (errD d) with
  | some e => e
  | none => if 2147483647 < oldD d ∨ 2147483647 < nowD d then 3 else 0
theorem iter_errs {f : Int × Int × Int → Option ((Int × Int × Int) ⊕ (Ctl (Int × Int) Int))} (n : Nat) (g : Nat → Option Int) (I : Nat → Int × Int → Prop)
    (h : ∀ (k : Nat) (a b : Int), k < n → (∀ j, j < k → g j = none) → I k (a, b) → (∃ e, g k = some e ∧ f (a, b, (k : Int)) = some (.inr (.ext e))) ∨ (g k = none ∧ ∃ a' b', f (a, b, (k : Int)) = some (.inl (a', b', ((k + 1 : Nat) : Int))) ∧ I (k + 1) (a', b')))
    (hend : ∀ (a b : Int), I n (a, b) → f (a, b, (n : Int)) = some (.inr (.nrm (a, b)))) {a0 b0 : Int} (h0 : I 0 (a0, b0)) :
    (∃ e, (List.range n).findSome? g = some e ∧ iter f (a0, b0, 0) = some (.ext e)) ∨ ((List.range n).findSome? g = none ∧ ∃ a b, I n (a, b) ∧ iter f (a0, b0, 0) = some (.nrm (a, b))) := by
  obtain ⟨b, hb, hq⟩ := iter_hoare (f := f) n (fun k s => s.2.2 = (k : Int) ∧ I k (s.1, s.2.1) ∧ ∀ j, j < k → g j = none)
    (fun b => (∃ e, (List.range n).findSome? g = some e ∧ b = .ext e) ∨ ((List.range n).findSome? g = none ∧ ∃ x y, I n (x, y) ∧ b = .nrm (x, y)))
    (fun k s hk hR => by
      obtain ⟨x, y, z⟩ := s
      obtain ⟨rfl, hI, hg⟩ := hR
      rcases h k x y hk hg hI with ⟨e, h1, h2⟩ | ⟨h1, a', b', h2, h3⟩
      · exact .inr ⟨_, h2, .inl ⟨e, find_first hk hg h1, rfl⟩⟩
      · refine .inl ⟨_, h2, rfl, h3, fun j hj => ?_⟩
        rcases Nat.lt_or_ge j k with h4 | h4
        · exact hg j h4
        · obtain rfl : j = k := by omega
          exact h1)
    (fun s hR => by
      obtain ⟨x, y, z⟩ := s
      obtain ⟨rfl, hI, hg⟩ := hR
      exact ⟨_, hend x y hI, .inr ⟨find_none hg, x, y, hI, rfl⟩⟩) (s := (a0, b0, 0)) ⟨rfl, h0, fun j hj => absurd hj (Nat.not_lt_zero _)⟩
  rcases hq with ⟨e, h1, rfl⟩ | ⟨h1, x, y, h2, rfl⟩
  · exact .inl ⟨e, h1, hb⟩
  · exact .inr ⟨h1, x, y, h2, hb⟩
theorem sizes {s : GStep} (h : GoodS s) (ho : OkSt s) : 0 ≤ oldS s ∧ oldS s ≤ 2147483647 ∧ 0 ≤ nowS s ∧ nowS s ≤ 2147483647 ∧ (s.Kind ≠ 2 → s.N + s.Elems.length = nowS s) ∧ (s.Kind ≠ 2 → delta_size s = some (nowS s)) := by
  have h2 := ho.el
  unfold oldS nowS delta_size
  rcases h.kind with ⟨k, e, n1, n2, _⟩ | ⟨k, e, _, n1, n2⟩ | ⟨k, n, _, _, _⟩
  · rw [e]; simp [k]; omega
  · rw [e]; simp [k]; omega
  · simp [k, n]; omega
theorem good_errD {d : List GStep} {k : Nat} (h : errD d k = none) : stepErr d[k]! = 0 ∧ (0 < k → ordBad d[k - 1]! d[k]! = false) := by
  unfold errD at h
  by_cases c : stepErr d[k]! ≠ 0
  · rw [if_pos c] at h; cases h
  · rw [if_neg c] at h
    refine ⟨Classical.not_not.1 c, fun hk => ?_⟩
    cases ho : ordBad d[k - 1]! d[k]! with
    | false => rfl
    | true => rw [if_pos ⟨hk, ho⟩] at h; cases h
theorem delta_Check_eq (d : List GStep) (h : OkD d) : delta_Check d = some (delErr d) := by
  have hm := h.len
  unfold delta_Check delErr
  rcases iter_errs (f := fun (a : Int × Int × Int) => delta_Check_L1 d a.1 a.2.1 a.2.2) d.length (errD d) (fun k c => 0 ≤ oldD (d.take k) ∧ 0 ≤ nowD (d.take k) ∧ c = (min (oldD (d.take k)) 2147483648, min (nowD (d.take k)) 2147483648))
    (fun k a b hk _ hI => by
      obtain ⟨p1, p2, hc⟩ := hI
      cases hc
      have hst := h.st _ (mem_at hk)
      show (∃ e, _ ∧ delta_Check_L1 d (min (oldD (d.take k)) 2147483648) (min (nowD (d.take k)) 2147483648) (k : Int) = _) ∨ (_ ∧ ∃ a' b', delta_Check_L1 d (min (oldD (d.take k)) 2147483648) (min (nowD (d.take k)) 2147483648) (k : Int) = _ ∧ _)
      unfold delta_Check_L1
      rw [if_pos (by simpa using hk), idx_nat hk, bnd1_some, delta_step_eq _ hst, bnd1_some]
      by_cases c1 : stepErr d[k]! ≠ 0
      · exact .inl ⟨_, by unfold errD; rw [if_pos c1], by rw [if_pos (by simpa using c1)]; rfl⟩
      rw [if_neg (by simpa using c1)]
      have hg := goodS_of (Classical.not_not.1 c1)
      obtain ⟨z1, z2, z3, z4, z5, z6⟩ := sizes hg hst
      have ord : ∀ (β : Type) (F : Unit → Option (Ctl β ((Int × Int × Int) ⊕ (Ctl (Int × Int) Int)))), (ctl1 (if (decide ((0 : Int) < (k : Int))) then (bnd1 (chk .i64 ((k : Int) - 1)) fun (x8 : Int) => bnd1 (idx d x8) fun (x9 : GStep) =>
          bnd1 (gd (((decide (x9.Kind = d[k]!.Kind)) == true) && ((!decide (d[k]!.Kind = 0)) == false)) (attr_Same x9.Attrs d[k]!.Attrs)) fun (r2 : Bool) =>
          if (((decide (x9.Kind = d[k]!.Kind)) && ((!decide (d[k]!.Kind = 0)) || r2)) || ((decide (x9.Kind = 2)) && (decide (d[k]!.Kind = 1)))) then (some (.ext (.ext (.inr (.ext 5))))) else (some (.nrm ()))) else (some (.nrm ()))) F) =
          if 0 < k ∧ ordBad d[k - 1]! d[k]! = true then some (.ext (.inr (.ext 5))) else F () := by
        intro β F
        by_cases hk0 : 0 < k
        · rw [if_pos (by simp; omega), chk_pred hk0 (by omega), bnd1_some, idx_nat (by omega), bnd1_some]
          have hp := (h.st _ (mem_at (l := d) (k := k - 1) (by omega))).at_.1
          have e : ∀ F2 : Bool → Option (Ctl Unit (Ctl β ((Int × Int × Int) ⊕ (Ctl (Int × Int) Int)))), (∀ r, (decide (d[k - 1]!.Kind = d[k]!.Kind) && ((!decide (d[k]!.Kind = 0)) || r)) = (decide (d[k - 1]!.Kind = d[k]!.Kind) && ((!decide (d[k]!.Kind = 0)) || decide (d[k - 1]!.Attrs = d[k]!.Attrs))) → F2 r = F2 (decide (d[k - 1]!.Attrs = d[k]!.Attrs))) →
              bnd1 (gd (((decide (d[k - 1]!.Kind = d[k]!.Kind)) == true) && ((!decide (d[k]!.Kind = 0)) == false)) (attr_Same d[k - 1]!.Attrs d[k]!.Attrs)) F2 = F2 (decide (d[k - 1]!.Attrs = d[k]!.Attrs)) := by
            intro F2 hF
            rw [attr_Same_eq _ _ (by omega)]
            by_cases q1 : d[k - 1]!.Kind = d[k]!.Kind <;> by_cases q2 : d[k]!.Kind = 0
            · rw [decide_eq_true q1, decide_eq_true q2]; rfl
            · rw [decide_eq_true q1, decide_eq_false q2]
              show F2 default = _
              exact hF _ (and_or_any _ _ _ _ (.inr (decide_eq_false q2)))
            · rw [decide_eq_false q1, decide_eq_true q2]
              show F2 default = _
              exact hF _ (and_or_any _ _ _ _ (.inl (decide_eq_false q1)))
            · rw [decide_eq_false q1, decide_eq_false q2]
              show F2 default = _
              exact hF _ (and_or_any _ _ _ _ (.inl (decide_eq_false q1)))
          rw [e _ (fun r hr => by rw [hr])]
          by_cases hb : ordBad d[k - 1]! d[k]! = true
          · rw [if_pos (c := (_ || _) = true) (by unfold ordBad at hb; exact hb), if_pos ⟨hk0, hb⟩]; rfl
          · rw [if_neg (c := (_ || _) = true) (by unfold ordBad at hb; exact hb), if_neg (fun hh => hb hh.2)]; rfl
        · rw [if_neg (by simp; omega), if_neg (fun hh => hk0 hh.1)]; rfl
      rw [ord]
      by_cases c2 : 0 < k ∧ ordBad d[k - 1]! d[k]! = true
      · exact .inl ⟨5, by unfold errD; rw [if_neg c1, if_pos c2], by rw [if_pos c2]; rfl⟩
      · rw [if_neg c2]
        refine .inr ⟨by unfold errD; rw [if_neg c1, if_neg c2], ?_⟩
        rw [oldD_at hk, nowD_at hk]
        clear ord c1 c2
        generalize oldD (d.take k) = o at p1 ⊢
        generalize nowD (d.take k) = w at p2 ⊢
        by_cases k1 : d[k]!.Kind = 1
        · have ho : oldS d[k]! = 0 := by unfold oldS; rw [if_pos k1]
          rw [if_neg (ndF k1), bnd1_some, if_pos (ndT (by omega)), z6 (by omega), bnd1_some, chk64 (by omega) (by omega), bnd1_some, ctl2_nrm, chk_nat (by omega), bnd1_some]
          exact ⟨_, _, rfl, by omega, by omega, by rw [ho]; congr 1 <;> omega⟩
        · have ho : oldS d[k]! = d[k]!.N := by unfold oldS; rw [if_neg k1]
          rw [if_pos (ndT k1), chk64 (by omega) (by omega), bnd1_some, bnd1_some]
          by_cases k2 : d[k]!.Kind = 2
          · have hw : nowS d[k]! = 0 := by unfold nowS; rw [if_pos k2]
            rw [if_neg (ndF k2), ctl2_nrm, chk_nat (by omega), bnd1_some]
            exact ⟨_, _, rfl, by omega, by omega, by rw [hw, ← ho]; congr 1 <;> omega⟩
          · rw [if_pos (ndT k2), z6 k2, bnd1_some, chk64 (by omega) (by omega), bnd1_some, ctl2_nrm, chk_nat (by omega), bnd1_some]
            exact ⟨_, _, rfl, by omega, by omega, by rw [← ho]; congr 1 <;> omega⟩)
    (fun a b hI => by
      show delta_Check_L1 d a b (d.length : Int) = _
      unfold delta_Check_L1
      rw [if_neg (by simp)]) (a0 := 0) (b0 := 0) ⟨by simp [oldD], by simp [nowD], by simp [oldD, nowD]; decide⟩ with ⟨e, h1, h2⟩ | ⟨h1, a, b, ⟨_, _, hc⟩, h2⟩
  · rw [h1, h2]; rfl
  · rw [h1, h2, ctl2_nrm]
    rw [List.take_length] at hc
    cases hc
    by_cases hx : 2147483647 < oldD d ∨ 2147483647 < nowD d
    · rw [if_pos (by simp; omega)]; simp only; rw [if_pos hx]
    · rw [if_neg (by simp; omega)]; simp only; rw [if_neg hx]
end Go.Proofs.YthoepnnckmfipaaGreatDoor.Al


namespace Go.Proofs.YthoepnnckmfipaaGreatDoor.Al
theorem ref_ord (p s : GStep) (hp : p.Kind = 0 ∨ p.Kind = 1 ∨ p.Kind = 2) (hl : p.Attrs.length ≤ 1073741824) (hs : s.Kind = 0 ∨ s.Kind = 1 ∨ s.Kind = 2) {γ : Type} (A B : Option γ) :
    (if (decide (s.Kind = 1)) then (if (!decide (p.Kind = 0)) then A else B) else (if (decide (s.Kind = 2)) then (if (decide (p.Kind = 2)) then A else B) else
      (bnd1 (gd ((decide (p.Kind = 0)) == true) (ref_SameAttrs p.Attrs s.Attrs)) fun (r1 : Bool) => if ((decide (p.Kind = 0)) && r1) then A else B))) = if ordBad p s = true then A else B := by
  rw [ref_SameAttrs_eq _ _ (by omega)]
  unfold ordBad
  rcases hs with k | k | k <;> rcases hp with j | j | j <;> simp [k, j, default]
theorem kind3 {s : GStep} (h : GoodS s) : s.Kind = 0 ∨ s.Kind = 1 ∨ s.Kind = 2 := by
  rcases h.kind with ⟨k, _⟩ | ⟨k, _⟩ | ⟨k, _⟩
  · exact .inl k
  · exact .inr (.inr k)
  · exact .inr (.inl k)
theorem ref_DeltaError_eq (d : List GStep) (h : OkD d) : ref_DeltaError d = some (delErr d) := by
  have hm := h.len
  unfold ref_DeltaError delErr
  rcases iter_errs (f := fun (a : Int × Int × Int) => ref_DeltaError_L1 d a.1 a.2.1 a.2.2) d.length (errD d)
    (fun k c => 0 ≤ oldD (d.take k) ∧ 0 ≤ nowD (d.take k) ∧ (oldD (d.take k) ≤ 2147483647 → c.1 = oldD (d.take k)) ∧ (2147483647 < oldD (d.take k) → 2147483647 < c.1) ∧ 0 ≤ c.1 ∧ c.1 ≤ 4294967296 ∧
      (nowD (d.take k) ≤ 2147483647 → c.2 = nowD (d.take k)) ∧ (2147483647 < nowD (d.take k) → 2147483647 < c.2) ∧ 0 ≤ c.2 ∧ c.2 ≤ 4294967296)
    (fun k a b hk hpre hI => by
      obtain ⟨p1, p2, q1, q2, q3, q4, q5, q6, q7, q8⟩ := hI
      dsimp only at q1 q2 q3 q4 q5 q6 q7 q8
      have hst := h.st _ (mem_at hk)
      show (∃ e, _ ∧ ref_DeltaError_L1 d a b (k : Int) = _) ∨ (_ ∧ ∃ a' b', ref_DeltaError_L1 d a b (k : Int) = _ ∧ _)
      unfold ref_DeltaError_L1
      rw [if_pos (by simpa using hk), idx_nat hk, bnd1_some, ref_StepError_eq _ hst, bnd1_some]
      by_cases c1 : stepErr d[k]! ≠ 0
      · exact .inl ⟨_, by unfold errD; rw [if_pos c1], by rw [if_pos (ndT c1)]; rfl⟩
      rw [if_neg (ndF (Classical.not_not.1 c1))]
      have hg := goodS_of (Classical.not_not.1 c1)
      obtain ⟨z1, z2, z3, z4, z5, z6⟩ := sizes hg hst
      have ord : ∀ (β : Type) (F : Unit → Option (Ctl β ((Int × Int × Int) ⊕ (Ctl (Int × Int) Int)))), (ctl1 (if (decide ((0 : Int) < (k : Int))) then (bnd1 (chk .i64 ((k : Int) - 1)) fun (x7 : Int) => bnd1 (idx d x7) fun (x8 : GStep) =>
            if (decide (d[k]!.Kind = 1)) then (
              if (!decide (x8.Kind = 0)) then (
                some (.ext (.ext (.inr (.ext 5))))
              ) else (
                some (.nrm ())
              )
            ) else (
              if (decide (d[k]!.Kind = 2)) then (
                if (decide (x8.Kind = 2)) then (
                  some (.ext (.ext (.inr (.ext 5))))
                ) else (
                  some (.nrm ())
                )
              ) else (
                bnd1 (gd ((decide (x8.Kind = 0)) == true) (ref_SameAttrs x8.Attrs d[k]!.Attrs)) fun (r1 : Bool) =>
                if ((decide (x8.Kind = 0)) && r1) then (
                  some (.ext (.ext (.inr (.ext 5))))
                ) else (
                  some (.nrm ())
                )
              )
            )) else (some (.nrm ()))) F) =
          if 0 < k ∧ ordBad d[k - 1]! d[k]! = true then some (.ext (.inr (.ext 5))) else F () := by
        intro β F
        by_cases hk0 : 0 < k
        · rw [if_pos (by rw [decide_eq_true_eq]; omega), chk_pred hk0 (by omega), bnd1_some, idx_nat (by omega), bnd1_some]
          have hp := (h.st _ (mem_at (l := d) (k := k - 1) (by omega))).at_.1
          have hpg := kind3 (goodS_of (good_errD (hpre (k - 1) (by omega))).1)
          rw [ref_ord _ _ hpg hp (kind3 hg)]
          by_cases hb : ordBad d[k - 1]! d[k]! = true
          · rw [if_pos hb, if_pos ⟨hk0, hb⟩]; rfl
          · rw [if_neg hb, if_neg (fun hh => hb hh.2)]; rfl
        · rw [if_neg (by rw [decide_eq_true_eq]; omega), if_neg (fun hh => hk0 hh.1)]; rfl
      rw [ord]
      by_cases c2 : 0 < k ∧ ordBad d[k - 1]! d[k]! = true
      · exact .inl ⟨5, by unfold errD; rw [if_neg c1, if_pos c2], by rw [if_pos c2]; rfl⟩
      · rw [if_neg c2]
        refine .inr ⟨by unfold errD; rw [if_neg c1, if_neg c2], ?_⟩
        rw [oldD_at hk, nowD_at hk]
        clear ord c1 c2
        generalize oldD (d.take k) = o at p1 q1 q2 ⊢
        generalize nowD (d.take k) = w at p2 q5 q6 ⊢
        have hold : ∃ o', (if ((!decide (d[k]!.Kind = 1)) && (decide (a < 2147483648))) then (bnd1 (chk .i64 (a + d[k]!.N)) fun (old7 : Int) => some old7) else some a) = some o' ∧ (o + oldS d[k]! ≤ 2147483647 → o' = o + oldS d[k]!) ∧ (2147483647 < o + oldS d[k]! → 2147483647 < o') ∧ 0 ≤ o' ∧ o' ≤ 4294967296 := by
          by_cases k1 : d[k]!.Kind = 1
          · have ho : oldS d[k]! = 0 := by unfold oldS; rw [if_pos k1]
            rw [if_neg (by rw [Bool.and_eq_true]; exact fun h => ndF k1 h.1)]
            exact ⟨a, rfl, by omega, by omega, by omega, by omega⟩
          · have ho : oldS d[k]! = d[k]!.N := by unfold oldS; rw [if_neg k1]
            by_cases ha : a < 2147483648
            · rw [if_pos (by rw [Bool.and_eq_true]; exact ⟨ndT k1, decide_eq_true ha⟩), chk64 (by omega) (by omega), bnd1_some]
              exact ⟨_, rfl, by omega, by omega, by omega, by omega⟩
            · rw [if_neg (by rw [Bool.and_eq_true]; exact fun h => ha (of_decide_eq_true h.2))]
              exact ⟨a, rfl, by omega, by omega, by omega, by omega⟩
        obtain ⟨o', e1, r1, r2, r3, r4⟩ := hold
        rw [e1, bnd1_some]
        by_cases k2 : d[k]!.Kind = 2
        · have hw : nowS d[k]! = 0 := by unfold nowS; rw [if_pos k2]
          rw [if_neg (by rw [Bool.and_eq_true]; exact fun h => ndF k2 h.1), ctl2_nrm, chk_nat (by omega), bnd1_some]
          exact ⟨_, _, rfl, by omega, by omega, r1, r2, r3, r4, by dsimp only; omega, by dsimp only; omega, by dsimp only; omega, by dsimp only; omega⟩
        · have hN := z5 k2
          by_cases hb : b < 2147483648
          · rw [if_pos (by rw [Bool.and_eq_true]; exact ⟨ndT k2, decide_eq_true hb⟩), chk64 (by omega) (by omega), bnd1_some, chk64 (by omega) (by omega), bnd1_some, ctl2_nrm, chk_nat (by omega), bnd1_some]
            exact ⟨_, _, rfl, by omega, by omega, r1, r2, r3, r4, by dsimp only; omega, by dsimp only; omega, by dsimp only; omega, by dsimp only; omega⟩
          · rw [if_neg (by rw [Bool.and_eq_true]; exact fun h => hb (of_decide_eq_true h.2)), ctl2_nrm, chk_nat (by omega), bnd1_some]
            exact ⟨_, _, rfl, by omega, by omega, r1, r2, r3, r4, by dsimp only; omega, by dsimp only; omega, by dsimp only; omega, by dsimp only; omega⟩)
    (fun a b hI => by
      show ref_DeltaError_L1 d a b (d.length : Int) = _
      unfold ref_DeltaError_L1
      rw [if_neg (by simp)]) (a0 := 0) (b0 := 0) ⟨by simp [oldD], by simp [nowD], by simp [oldD], by simp [oldD], by simp, by simp, by simp [nowD], by simp [nowD], by simp, by simp⟩ with ⟨e, h1, h2⟩ | ⟨h1, a, b, hI, h2⟩
  · rw [h1, h2]; rfl
  · rw [h1, h2, ctl2_nrm]
    rw [List.take_length] at hI
    dsimp only at hI
    by_cases hx : 2147483647 < oldD d ∨ 2147483647 < nowD d
    · rw [if_pos (by simp; omega)]; simp only; rw [if_pos hx]
    · rw [if_neg (by simp; omega)]; simp only; rw [if_neg hx]
end Go.Proofs.YthoepnnckmfipaaGreatDoor.Al


namespace Go.Proofs.YthoepnnckmfipaaGreatDoor.Al
inductive Un where
  | a (e : GElem)
  | r (cut : Bool) (at_ : List GAttr)
theorem set_eq {α : Type} {l : List α} {k : Nat} {x : α} : l.set ((k : Int).toNat) x = l.set k x := by simp
end Go.Proofs.YthoepnnckmfipaaGreatDoor.Al


namespace Go.Proofs.YthoepnnckmfipaaGreatDoor.Al
end Go.Proofs.YthoepnnckmfipaaGreatDoor.Al


namespace Go.Proofs.YthoepnnckmfipaaGreatDoor.Al
end Go.Proofs.YthoepnnckmfipaaGreatDoor.Al


namespace Go.Proofs.YthoepnnckmfipaaGreatDoor.Al
theorem loop_map {α β : Type} [Inhabited α] {f : Int × List β → Option ((Int × List β) ⊕ List β)} (l : List α) (g : α → β) (z : β)
    (h : ∀ (k : Nat) (out : List β), k < l.length → out.length = l.length → f ((k : Int), out) = some (.inl (((k + 1 : Nat) : Int), out.set k (g l[k]!)))) (hend : ∀ out, f ((l.length : Int), out) = some (.inr out)) :
    iter f (0, List.replicate l.length z) = some (l.map g) := by
  have key : ∃ r, iter f (0, List.replicate l.length z) = some r ∧ r = l.map g := by
    refine iter_hoare l.length (fun k st => st = ((k : Int), (l.take k).map g ++ List.replicate (l.length - k) z)) _ ?_ ?_ (by simp)
    · rintro k st hk rfl
      refine .inl ⟨_, h k _ hk (by simp; omega), ?_⟩
      congr 1
      obtain ⟨m, hm⟩ : ∃ m, l.length - k = m + 1 := ⟨l.length - k - 1, by omega⟩
      rw [hm, List.replicate_succ, take_at hk, List.map_append, List.set_append_right _ _ (by rw [List.length_map, List.length_take]; omega), show l.length - (k + 1) = m by omega]
      have : k - ((l.take k).map g).length = 0 := by simp; omega
      rw [this, List.set_cons_zero, List.append_assoc]; rfl
    · rintro st rfl
      refine ⟨_, hend _, by simp⟩
  obtain ⟨r, h1, h2⟩ := key
  rw [h1, h2]
theorem app32 {l : List GAttr} (h : l.length ≤ 1073741824) : app 32 [] l = some l := by
  unfold app; rw [if_pos]; rfl; simp; omega
theorem mk40 {α : Type} {n : Nat} (z : α) (h : n ≤ 4294967296) : mk 40 (n : Int) z = some (List.replicate n z) := by
  unfold mk; rw [if_pos (by omega)]; simp
theorem flow_Copy_eq (f : List GElem) (hm : f.length ≤ 4294967296) (h : ∀ e ∈ f, okA e.Attrs) : flow_Copy f = some f := by
  unfold flow_Copy
  rw [mk40 _ hm, bnd1_some]
  have := loop_map (f := fun (a : Int × (List GElem)) => flow_Copy_L1 f a.1 a.2) f id (GElem.mk 0 0 []) (fun k out hk hl => by
    have ha := (h _ (mem_at hk)).1
    show flow_Copy_L1 f (k : Int) out = _
    unfold flow_Copy_L1
    rw [if_pos (by simpa using hk), idx_nat hk, bnd1_some, app32 ha, bnd1_some, idx_nat (by omega), bnd1_some, chk_nat (by omega), bnd1_some, set_eq]
    rfl) (fun out => by
    show flow_Copy_L1 f (f.length : Int) out = _
    unfold flow_Copy_L1
    rw [if_neg (by simp)])
  rw [this, List.map_id]; rfl
theorem slc_to {α : Type} (l : List α) (n : Int) (h0 : 0 ≤ n) (h : n ≤ l.length) : slc l 0 n = some (l.take n.toNat) := by
  unfold slc; rw [if_pos (by omega)]; simp
end Go.Proofs.YthoepnnckmfipaaGreatDoor.Al


namespace Go.Proofs.YthoepnnckmfipaaGreatDoor.Al
def onA (n : List UInt8) : List GAttr := [⟨n, [111, 110]⟩]
theorem law_on_eq (n : List UInt8) : law_on n = some (onA n) := rfl
end Go.Proofs.YthoepnnckmfipaaGreatDoor.Al


namespace Go.Proofs.YthoepnnckmfipaaGreatDoor.Al
end Go.Proofs.YthoepnnckmfipaaGreatDoor.Al


namespace Go.Proofs.YthoepnnckmfipaaGreatDoor.Al
end Go.Proofs.YthoepnnckmfipaaGreatDoor.Al


namespace Go.Proofs.YthoepnnckmfipaaGreatDoor.Al
theorem ref_SameElem_eq (x y : GElem) (h : x.Attrs.length ≤ 1073741824) : ref_SameElem x y = some (decide (x = y)) := by
  unfold ref_SameElem
  rw [ref_SameAttrs_eq _ _ (by omega)]
  obtain ⟨x1, x2, x3⟩ := x
  obtain ⟨y1, y2, y3⟩ := y
  by_cases h1 : x1 = y1 <;> by_cases h2 : x2 = y2 <;> by_cases h3 : x3 = y3 <;> simp [h1, h2, h3, default]
theorem all_eq_of {α : Type} [Inhabited α] [DecidableEq α] {a b : List α} (hl : a.length = b.length) (h : ((List.range a.length).all fun k => decide (a[k]! = b[k]!)) = true) : a = b := by
  apply List.ext_getElem hl
  intro k h1 h2
  have := List.all_eq_true.1 h k (List.mem_range.2 h1)
  simp only [decide_eq_true_eq] at this
  rwa [getElem!_pos a k h1, getElem!_pos b k h2] at this
theorem all_refl {α : Type} [Inhabited α] [DecidableEq α] (a : List α) : ((List.range a.length).all fun k => decide (a[k]! = a[k]!)) = true := by
  rw [List.all_eq_true]; intro k _; rw [decide_eq_true rfl]
theorem ref_SameFlow_eq (a b : List GElem) (hm : a.length ≤ 9223372036854775806) (h : ∀ e ∈ a, e.Attrs.length ≤ 1073741824) : ref_SameFlow a b = some (decide (a = b)) := by
  unfold ref_SameFlow
  by_cases hl : a.length = b.length
  · rw [if_neg (by simp [hl]), iter_find (n := a.length) (fun k => if decide (a[k]! = b[k]!) then none else some false) (fun k hk => by
      unfold ref_SameFlow_L1
      rw [if_pos (by simpa using hk), idx_nat hk, idx_nat (by omega), bnd1_some, bnd1_some, ref_SameElem_eq _ _ (h _ (mem_at hk)), bnd1_some, chk_nat (by omega)]
      generalize a[k]! = x
      generalize b[k]! = y
      by_cases h : x = y <;> simp [h, stepOf]) (by unfold ref_SameFlow_L1; rw [if_neg (by simp)]), find_const, ctl_outOf]
    by_cases h : a = b
    · subst h; rw [all_refl, decide_eq_true rfl]; rfl
    · rw [decide_eq_false h]
      have : ((List.range a.length).all fun k => decide (a[k]! = b[k]!)) = false := by
        rw [← Bool.not_eq_true]; exact fun hh => h (all_eq_of hl hh)
      rw [this]; rfl
  · rw [if_pos (by simp; omega), decide_eq_false (by rintro rfl; exact hl rfl)]
end Go.Proofs.YthoepnnckmfipaaGreatDoor.Al


namespace Go.Proofs.YthoepnnckmfipaaGreatDoor.Al
theorem okA_bulk {κ : GAttr → Nat} (h3 : ∀ a, a.Name.length + a.Value.length + 1 ≤ κ a) {l : List GAttr} (hb : (l.map κ).sum ≤ 1048576) : okA l := by
  have h1 := len_le_sum (μ := κ) (fun a => by have := h3 a; omega) l
  refine ⟨by omega, fun a ha => ?_⟩
  have h2 := mem_le_sum (μ := κ) ha
  have := h3 a
  omega
theorem okF_bulk {ν : GElem → Nat} {κ : GAttr → Nat} (h2 : ∀ e, (e.Attrs.map κ).sum + 1 ≤ ν e) (h3 : ∀ a, a.Name.length + a.Value.length + 1 ≤ κ a) {f : List GElem} (hb : (f.map ν).sum ≤ 1048576) : f.length ≤ 1048576 ∧ ∀ e ∈ f, okA e.Attrs := by
  have h1 := len_le_sum (μ := ν) (fun e => by have := h2 e; omega) f
  refine ⟨by omega, fun e he => okA_bulk h3 ?_⟩
  have h4 := mem_le_sum (μ := ν) he
  have := h2 e
  omega
theorem okD_bulk {μ : GStep → Nat} {ν : GElem → Nat} {κ : GAttr → Nat} (h1 : ∀ s, (s.Attrs.map κ).sum + (s.Elems.map ν).sum + 1 ≤ μ s) (h2 : ∀ e, (e.Attrs.map κ).sum + 1 ≤ ν e) (h3 : ∀ a, a.Name.length + a.Value.length + 1 ≤ κ a) (d : List GStep)
    (hb : (d.map μ).sum ≤ 1048576) : OkD d := by
  have h4 := len_le_sum (μ := μ) (fun s => by have := h1 s; omega) d
  have h5 : ∀ (d : List GStep), (d.map fun s => s.Elems.length).sum ≤ (d.map μ).sum := by
    intro d
    induction d with
    | nil => simp
    | cons s d ih =>
      have e1 := len_le_sum (μ := ν) (fun e => by have := h2 e; omega) s.Elems
      have e2 := h1 s
      simp only [List.map_cons, List.sum_cons]
      omega
  refine ⟨by omega, fun s hs => ?_, by have := h5 d; omega⟩
  have h6 := mem_le_sum (μ := μ) hs
  have h7 := h1 s
  obtain ⟨h8, h9⟩ := okF_bulk (f := s.Elems) h2 h3 (by omega)
  exact ⟨okA_bulk h3 (by omega), by omega, h9⟩
end Go.Proofs.YthoepnnckmfipaaGreatDoor.Al


namespace Go.Proofs.YthoepnnckmfipaaGreatDoor.Al
end Go.Proofs.YthoepnnckmfipaaGreatDoor.Al


namespace Go.Proofs.YthoepnnckmfipaaGreatDoor.Al
end Go.Proofs.YthoepnnckmfipaaGreatDoor.Al


namespace Go.Proofs.YthoepnnckmfipaaGreatDoor.Al
end Go.Proofs.YthoepnnckmfipaaGreatDoor.Al


namespace Go.Proofs.YthoepnnckmfipaaGreatDoor.Al
end Go.Proofs.YthoepnnckmfipaaGreatDoor.Al


namespace Go.Proofs.YthoepnnckmfipaaGreatDoor.Al
end Go.Proofs.YthoepnnckmfipaaGreatDoor.Al


namespace Go.Proofs.YthoepnnckmfipaaGreatDoor.Al
end Go.Proofs.YthoepnnckmfipaaGreatDoor.Al


namespace Go.Proofs.YthoepnnckmfipaaGreatDoor.Al
end Go.Proofs.YthoepnnckmfipaaGreatDoor.Al


namespace Go.Proofs.YthoepnnckmfipaaGreatDoor.Al
end Go.Proofs.YthoepnnckmfipaaGreatDoor.Al


namespace Go.Proofs.YthoepnnckmfipaaGreatDoor.Al
end Go.Proofs.YthoepnnckmfipaaGreatDoor.Al


namespace Go.Proofs.YthoepnnckmfipaaGreatDoor.Al
def flowErr (f : List GElem) : Int := if partErr f ≠ 0 then partErr f else if f = [] ∨ f[f.length - 1]!.Char ≠ 10 then 11 else 0
theorem errE_ne {f : List GElem} {k : Nat} {r : Int} (h : errE f k = some r) : r ≠ 0 := by
  unfold errE at h
  split at h
  · cases h
  · rename_i hne; cases h; exact hne
theorem flowErr_of (f : List GElem) (hm : f.length ≤ 1073741824) : (ctl1 (some (outOf ((List.range f.length).findSome? (errE f)))) fun (_ : Unit) =>
    bnd1 (gd ((true == true) && ((decide ((f.length : Int) = 0)) == false)) (chk .i64 ((f.length : Int) - 1))) fun (x4 : Int) =>
    bnd1 (gd ((true == true) && ((decide ((f.length : Int) = 0)) == false)) (idx f x4)) fun (x5 : GElem) =>
    if (true && ((decide ((f.length : Int) = 0)) || (!decide (x5.Char = 10)))) then some (11 : Int) else some 0) = some (flowErr f) := by
  rw [ctl_outOf]
  unfold flowErr partErr
  cases hr : (List.range f.length).findSome? (errE f) with
  | some r =>
    have hne : r ≠ 0 := by
      obtain ⟨k, hk⟩ := List.exists_of_findSome?_eq_some hr
      exact errE_ne hk.2
    dsimp only [Option.getD]
    rw [if_pos hne]
  | none =>
    dsimp only [Option.getD]
    rw [if_neg (by decide)]
    by_cases hl : f = []
    · subst hl; rfl
    · have h0 : 0 < f.length := List.length_pos_iff.2 hl
      have hd : decide ((f.length : Int) = 0) = false := decide_eq_false (by omega)
      rw [hd, show ((true == true) && (false == false)) = true from rfl, gd_true, show ((f.length : Int) - 1) = ((f.length - 1 : Nat) : Int) by omega, chk64 (by omega) (by omega), bnd1_some, gd_true, idx_nat (by omega), bnd1_some]
      by_cases hc : f[f.length - 1]!.Char = 10
      · rw [if_neg (by rw [decide_eq_true hc]; decide), if_neg (fun h => h.elim hl fun h => h hc)]
      · rw [if_pos (by rw [decide_eq_false hc]; decide), if_pos (.inr hc)]
theorem flow_Check_eq (f : List GElem) (h : ∀ x ∈ f, okE x) (hm : f.length ≤ 1073741824) : flow_Check f true = some (flowErr f) := by
  unfold flow_Check
  rw [iter_find (n := f.length) (errE f) (fun k hk => by
    unfold flow_Check_L1 errE
    rw [if_pos (by simpa using hk), idx_nat hk, bnd1_some, chk_nat (by omega), flow_elem_eq _ (h _ (mem_at hk)), bnd1_some]
    by_cases e : elemErr f[k]! = 0
    · rw [if_neg (ndF e), if_pos e]; rfl
    · rw [if_pos (ndT e), if_neg e]; rfl) (by unfold flow_Check_L1; rw [if_neg (by simp)])]
  exact flowErr_of f hm
theorem ref_FlowError_eq (f : List GElem) (h : ∀ x ∈ f, okE x) (hm : f.length ≤ 1073741824) : ref_FlowError f true = some (flowErr f) := by
  unfold ref_FlowError
  rw [iter_find (n := f.length) (errE f) (fun k hk => by
    unfold ref_FlowError_L1 errE
    rw [if_pos (by simpa using hk), idx_nat hk, bnd1_some, chk_nat (by omega), ref_ElemError_eq _ (h _ (mem_at hk)), bnd1_some]
    by_cases e : elemErr f[k]! = 0
    · rw [if_neg (ndF e), if_pos e]; rfl
    · rw [if_pos (ndT e), if_neg e]; rfl) (by unfold ref_FlowError_L1; rw [if_neg (by simp)])]
  exact flowErr_of f hm
instance : Inhabited Un := ⟨.r false []⟩
def off (n : List UInt8) : GAttr := ⟨n, []⟩
end Go.Proofs.YthoepnnckmfipaaGreatDoor.Al


namespace Go.Proofs.YthoepnnckmfipaaGreatDoor.Al
theorem first_len : tabFirst.length = 256 := by decide +kernel
theorem slc_from8 (s : List UInt8) (k : Nat) (hk : k ≤ s.length) : slc s (k : Int) (s.length : Int) = some (s.drop k) := by
  unfold slc
  rw [if_pos (by omega)]
  congr 1
  rw [List.take_of_length_le (by simp), Int.toNat_natCast]
end Go.Proofs.YthoepnnckmfipaaGreatDoor.Al


namespace Go.Proofs.YthoepnnckmfipaaGreatDoor.Al
end Go.Proofs.YthoepnnckmfipaaGreatDoor.Al


namespace Go.Proofs.YthoepnnckmfipaaGreatDoor.Al
def errT (t : Bool) (f : List GElem) (k : Nat) : Option Int := if elemErr f[k]! = 0 then (if t = false ∧ f[k]!.Ref = 0 then some 8 else none) else some (elemErr f[k]!)
theorem elem_refchar {x : GElem} (h : elemErr x = 0) : (x.Ref = 0 ↔ x.Char ≠ 0) := by
  unfold elemErr at h
  by_cases c : x.Char = 0 <;> by_cases r : x.Ref = 0 <;> simp [c, r] at h ⊢
theorem flow_Check_F (f : List GElem) (h : ∀ x ∈ f, okE x) (hm : f.length ≤ 1073741824) : flow_Check f false = some (((List.range f.length).findSome? (errT false f)).getD 0) := by
  unfold flow_Check
  rw [iter_find (n := f.length) (errT false f) (fun k hk => by
    unfold flow_Check_L1 errT
    rw [if_pos (by simpa using hk), idx_nat hk, bnd1_some, chk_nat (by omega), flow_elem_eq _ (h _ (mem_at hk)), bnd1_some]
    generalize f[k]! = x
    by_cases e : elemErr x = 0
    · rw [if_neg (ndF e), if_pos e]
      by_cases r : x.Ref = 0
      · rw [if_pos (show (!false && decide (x.Ref = 0)) = true by rw [decide_eq_true r]; rfl), if_pos ⟨rfl, r⟩]; rfl
      · rw [if_neg (show ¬ (!false && decide (x.Ref = 0)) = true by rw [decide_eq_false r]; decide), if_neg (fun h => r h.2)]; rfl
    · rw [if_pos (ndT e), if_neg e]; rfl) (by unfold flow_Check_L1; rw [if_neg (by simp)])]
  cases (List.range f.length).findSome? (errT false f) <;> rfl
theorem ref_FlowError_F (f : List GElem) (h : ∀ x ∈ f, okE x) (hm : f.length ≤ 1073741824) : ref_FlowError f false = some (((List.range f.length).findSome? (errT false f)).getD 0) := by
  unfold ref_FlowError
  rw [iter_find (n := f.length) (errT false f) (fun k hk => by
    unfold ref_FlowError_L1 errT
    rw [if_pos (by simpa using hk), idx_nat hk, bnd1_some, chk_nat (by omega), ref_ElemError_eq _ (h _ (mem_at hk)), bnd1_some]
    generalize f[k]! = x
    by_cases e : elemErr x = 0
    · rw [if_neg (ndF e), if_pos e]
      have hr := elem_refchar e
      by_cases r : x.Ref = 0
      · rw [if_pos (show (!false && !decide (x.Char = 0)) = true by rw [decide_eq_false (hr.1 r)]; rfl), if_pos ⟨rfl, r⟩]; rfl
      · have hc : x.Char = 0 := Classical.byContradiction fun hc => r (hr.2 hc)
        rw [if_neg (show ¬ (!false && !decide (x.Char = 0)) = true by rw [decide_eq_true hc]; decide), if_neg (fun h => r h.2)]; rfl
    · rw [if_pos (ndT e), if_neg e]; rfl) (by unfold ref_FlowError_L1; rw [if_neg (by simp)])]
  cases (List.range f.length).findSome? (errT false f) <;> rfl
theorem checks_same (f : List GElem) (t : Bool) (h : ∀ x ∈ f, okE x) (hm : f.length ≤ 1073741824) : ∃ r, flow_Check f t = some r ∧ ref_FlowError f t = some r := by
  cases t
  · exact ⟨_, flow_Check_F f h hm, ref_FlowError_F f h hm⟩
  · exact ⟨_, flow_Check_eq f h hm, ref_FlowError_eq f h hm⟩
theorem flow_Same_eq (a b : List GElem) (hm : a.length ≤ 9223372036854775806) (h : ∀ e ∈ a, e.Attrs.length ≤ 1073741824) : flow_Same a b = some (decide (a = b)) := by
  unfold flow_Same
  by_cases hl : a.length = b.length
  · rw [if_neg (by simp [hl]), iter_find (n := a.length) (fun k => if decide (a[k]! = b[k]!) then none else some false) (fun k hk => by
      unfold flow_Same_L1
      have ha := h _ (mem_at hk)
      rw [if_pos (by simpa using hk), idx_nat hk, idx_nat (by omega), bnd1_some, bnd1_some, attr_Same_eq _ _ (by omega), chk_nat (by omega)]
      generalize a[k]! = x
      generalize b[k]! = y
      obtain ⟨x1, x2, x3⟩ := x
      obtain ⟨y1, y2, y3⟩ := y
      by_cases h1 : x1 = y1 <;> by_cases h2 : x2 = y2 <;> by_cases h3 : x3 = y3 <;> simp [h1, h2, h3, stepOf, default]) (by unfold flow_Same_L1; rw [if_neg (by simp)]), find_const, ctl_outOf]
    by_cases h : a = b
    · subst h; rw [all_refl, decide_eq_true rfl]; rfl
    · rw [decide_eq_false h]
      have : ((List.range a.length).all fun k => decide (a[k]! = b[k]!)) = false := by
        rw [← Bool.not_eq_true]; exact fun hh => h (all_eq_of hl hh)
      rw [this]; rfl
  · rw [if_pos (by simp; omega), decide_eq_false (by rintro rfl; exact hl rfl)]
end Go.Proofs.YthoepnnckmfipaaGreatDoor.Al


namespace Go.Proofs.YthoepnnckmfipaaGreatDoor.Al
end Go.Proofs.YthoepnnckmfipaaGreatDoor.Al


namespace Go.Proofs.YthoepnnckmfipaaGreatDoor.Al
theorem same_loop {α : Type} [Inhabited α] [DecidableEq α] {f : Int → Option (Int ⊕ Ctl Unit Bool)} (a b : List α) (hl : a.length = b.length)
    (h1 : ∀ k : Nat, k < a.length → f k = stepOf k (if decide (a[k]! = b[k]!) then none else some false)) (h2 : f a.length = some (.inr (.nrm ()))) :
    (ctl1 (iter f 0) fun (_ : Unit) => some true) = some (decide (a = b)) := by
  rw [iter_find (n := a.length) (fun k => if decide (a[k]! = b[k]!) then none else some false) h1 h2, find_const, ctl_outOf]
  by_cases h : a = b
  · subst h; rw [all_refl, decide_eq_true rfl]; rfl
  · rw [decide_eq_false h]
    have : ((List.range a.length).all fun k => decide (a[k]! = b[k]!)) = false := by
      rw [← Bool.not_eq_true]; exact fun hh => h (all_eq_of hl hh)
    rw [this]; rfl
theorem rect_eqb (x y : GRect) : (decide (x.Row = y.Row) && (decide (x.Col = y.Col) && (decide (x.H = y.H) && (decide (x.W = y.W) && true)))) = decide (x = y) := by
  obtain ⟨x1, x2, x3, x4⟩ := x
  obtain ⟨y1, y2, y3, y4⟩ := y
  rw [Bool.eq_iff_iff]; simp
theorem draw_eqb (x y : GDrawOp) : (decide (x.Clock = y.Clock) && (decide (x.Site = y.Site) && (decide (x.Kind = y.Kind) && (decide (x.Item = y.Item) && (decide (x.Parent = y.Parent) && (decide (x.Place = y.Place) && (decide (x.Name = y.Name) && (decide (x.Value = y.Value) && true)))))))) = decide (x = y) := by
  obtain ⟨x1, x2, x3, x4, x5, x6, x7, x8⟩ := x
  obtain ⟨y1, y2, y3, y4, y5, y6, y7, y8⟩ := y
  rw [Bool.eq_iff_iff]; simp
theorem rects_eq (a b : List GRect) (hm : a.length ≤ 9223372036854775806) : slices_Equal_api_Rect_api_Rect a b = some (decide (a = b)) := by
  unfold slices_Equal_api_Rect_api_Rect
  by_cases hl : a.length = b.length
  · rw [if_neg (by simp [hl])]
    exact same_loop a b hl (fun k hk => by
      unfold slices_Equal_api_Rect_api_Rect_L1
      rw [if_pos (by simpa using hk), idx_nat hk, idx_nat (by omega), bnd1_some, bnd1_some, rect_eqb, chk_nat (by omega)]
      generalize a[k]! = x
      generalize b[k]! = y
      by_cases h : x = y <;> simp [h, stepOf]) (by unfold slices_Equal_api_Rect_api_Rect_L1; rw [if_neg (by simp)])
  · rw [if_pos (by simp; omega), decide_eq_false (by rintro rfl; exact hl rfl)]
theorem ref_rects_eq (a b : List GRect) (hm : a.length ≤ 9223372036854775806) : ref_SameRects a b = some (decide (a = b)) := by
  unfold ref_SameRects
  by_cases hl : a.length = b.length
  · rw [if_neg (by simp [hl])]
    exact same_loop a b hl (fun k hk => by
      unfold ref_SameRects_L1
      rw [if_pos (by simpa using hk), idx_nat hk, idx_nat (by omega), bnd1_some, bnd1_some, rect_eqb, chk_nat (by omega)]
      generalize a[k]! = x
      generalize b[k]! = y
      by_cases h : x = y <;> simp [h, stepOf]) (by unfold ref_SameRects_L1; rw [if_neg (by simp)])
  · rw [if_pos (by simp; omega), decide_eq_false (by rintro rfl; exact hl rfl)]
theorem draws_eq (a b : List GDrawOp) (hm : a.length ≤ 9223372036854775806) : slices_Equal_api_DrawOp_api_DrawOp a b = some (decide (a = b)) := by
  unfold slices_Equal_api_DrawOp_api_DrawOp
  by_cases hl : a.length = b.length
  · rw [if_neg (by simp [hl])]
    exact same_loop a b hl (fun k hk => by
      unfold slices_Equal_api_DrawOp_api_DrawOp_L1
      rw [if_pos (by simpa using hk), idx_nat hk, idx_nat (by omega), bnd1_some, bnd1_some, draw_eqb, chk_nat (by omega)]
      generalize a[k]! = x
      generalize b[k]! = y
      by_cases h : x = y <;> simp [h, stepOf]) (by unfold slices_Equal_api_DrawOp_api_DrawOp_L1; rw [if_neg (by simp)])
  · rw [if_pos (by simp; omega), decide_eq_false (by rintro rfl; exact hl rfl)]
theorem ref_ops_eq (a b : List GDrawOp) (hm : a.length ≤ 9223372036854775806) : ref_SameOps a b = some (decide (a = b)) := by
  unfold ref_SameOps
  by_cases hl : a.length = b.length
  · rw [if_neg (by simp [hl])]
    exact same_loop a b hl (fun k hk => by
      unfold ref_SameOps_L1
      rw [if_pos (by simpa using hk), idx_nat hk, idx_nat (by omega), bnd1_some, bnd1_some, draw_eqb, chk_nat (by omega)]
      generalize a[k]! = x
      generalize b[k]! = y
      by_cases h : x = y <;> simp [h, stepOf]) (by unfold ref_SameOps_L1; rw [if_neg (by simp)])
  · rw [if_pos (by simp; omega), decide_eq_false (by rintro rfl; exact hl rfl)]
theorem cell_eq (x y : GCell) (hm : x.Attrs.length ≤ 1073741824) : grid_SameCell x y = some (decide (x = y)) := by
  unfold grid_SameCell
  rw [attr_Same_eq _ _ (by omega)]
  obtain ⟨x1, x2, x3, x4, x5⟩ := x
  obtain ⟨y1, y2, y3, y4, y5⟩ := y
  by_cases h1 : x1 = y1 <;> by_cases h2 : x2 = y2 <;> by_cases h3 : x3 = y3 <;> by_cases h4 : x4 = y4 <;> by_cases h5 : x5 = y5 <;> simp [h1, h2, h3, h4, h5, gd, bnd1_some]
theorem ref_cell_eq (x y : GCell) (hm : x.Attrs.length ≤ 1073741824) : ref_SameCell x y = some (decide (x = y)) := by
  unfold ref_SameCell
  rw [ref_SameAttrs_eq _ _ (by omega)]
  obtain ⟨x1, x2, x3, x4, x5⟩ := x
  obtain ⟨y1, y2, y3, y4, y5⟩ := y
  by_cases h1 : x1 = y1 <;> by_cases h2 : x2 = y2 <;> by_cases h3 : x3 = y3 <;> by_cases h4 : x4 = y4 <;> by_cases h5 : x5 = y5 <;> simp [h1, h2, h3, h4, h5, gd, bnd1_some]
theorem cells_eq (a b : List GCell) (hm : a.length ≤ 9223372036854775806) (h : ∀ x ∈ a, x.Attrs.length ≤ 1073741824) : slices_EqualFunc_api_Cell_api_Cell_api_Cell_api_Cell__SameCell a b = some (decide (a = b)) := by
  unfold slices_EqualFunc_api_Cell_api_Cell_api_Cell_api_Cell__SameCell
  by_cases hl : a.length = b.length
  · rw [if_neg (by simp [hl])]
    exact same_loop a b hl (fun k hk => by
      unfold slices_EqualFunc_api_Cell_api_Cell_api_Cell_api_Cell__SameCell_L1
      rw [if_pos (by simpa using hk), idx_nat hk, idx_nat (by omega), bnd1_some, bnd1_some, cell_eq _ _ (h _ (mem_at hk)), bnd1_some, chk_nat (by omega)]
      generalize a[k]! = x
      generalize b[k]! = y
      by_cases h : x = y <;> simp [h, stepOf]) (by unfold slices_EqualFunc_api_Cell_api_Cell_api_Cell_api_Cell__SameCell_L1; rw [if_neg (by simp)])
  · rw [if_pos (by simp; omega), decide_eq_false (by rintro rfl; exact hl rfl)]
theorem ref_cells_eq (a b : List GCell) (hm : a.length ≤ 9223372036854775806) (h : ∀ x ∈ a, x.Attrs.length ≤ 1073741824) : ref_SameCells a b = some (decide (a = b)) := by
  unfold ref_SameCells
  by_cases hl : a.length = b.length
  · rw [if_neg (by simp [hl])]
    exact same_loop a b hl (fun k hk => by
      unfold ref_SameCells_L1
      rw [if_pos (by simpa using hk), idx_nat hk, idx_nat (by omega), bnd1_some, bnd1_some, ref_cell_eq _ _ (h _ (mem_at hk)), bnd1_some, chk_nat (by omega)]
      generalize a[k]! = x
      generalize b[k]! = y
      by_cases h : x = y <;> simp [h, stepOf]) (by unfold ref_SameCells_L1; rw [if_neg (by simp)])
  · rw [if_pos (by simp; omega), decide_eq_false (by rintro rfl; exact hl rfl)]
def okG (g : GGrid) : Prop := g.Cells.length ≤ 1048576 ∧ g.Merges.length ≤ 1048576 ∧ ∀ x ∈ g.Cells, okA x.Attrs
structure okN (n : GNode) : Prop where
  at_ : okA n.Attrs
  fl : n.Flow.length ≤ 1048576
  fa : ∀ e ∈ n.Flow, okA e.Attrs
  gr : okG n.Grid
  dr : n.Draw.length ≤ 1048576
def okDoc (d : GDoc) : Prop := d.Nodes.length ≤ 1048576 ∧ ∀ n ∈ d.Nodes, okN n
theorem grid_eq (x y : GGrid) (h : okG x) : grid_Same x y = some (decide (x = y)) := by
  obtain ⟨h1, h2, h3⟩ := h
  unfold grid_Same
  rw [rects_eq _ _ (by omega), cells_eq _ _ (by omega) (fun e he => (h3 e he).1)]
  obtain ⟨x1, x2, x3, x4⟩ := x
  obtain ⟨y1, y2, y3, y4⟩ := y
  by_cases h1 : x1 = y1 <;> by_cases h2 : x2 = y2 <;> by_cases h3 : x3 = y3 <;> by_cases h4 : x4 = y4 <;> simp [h1, h2, h3, h4, gd, bnd1_some]
theorem ref_grid_eq (x y : GGrid) (h : okG x) : ref_SameGrid x y = some (decide (x = y)) := by
  obtain ⟨h1, h2, h3⟩ := h
  unfold ref_SameGrid
  rw [ref_rects_eq _ _ (by omega), ref_cells_eq _ _ (by omega) (fun e he => (h3 e he).1)]
  obtain ⟨x1, x2, x3, x4⟩ := x
  obtain ⟨y1, y2, y3, y4⟩ := y
  by_cases h1 : x1 = y1 <;> by_cases h2 : x2 = y2 <;> by_cases h3 : x3 = y3 <;> by_cases h4 : x4 = y4 <;> simp [h1, h2, h3, h4, gd, bnd1_some]
theorem node_eq (x y : GNode) (h : okN x) : doc_SameNode x y = some (decide (x = y)) := by
  have ha := h.at_.1
  have hf := h.fl
  have hd := h.dr
  unfold doc_SameNode
  rw [attr_Same_eq _ _ (by omega), flow_Same_eq _ _ (by omega) (fun e he => (h.fa e he).1), grid_eq _ _ h.gr, draws_eq _ _ (by omega)]
  obtain ⟨x1, x2, x3, x4, x5, x6⟩ := x
  obtain ⟨y1, y2, y3, y4, y5, y6⟩ := y
  by_cases h1 : x1 = y1 <;> by_cases h2 : x2 = y2 <;> by_cases h3 : x3 = y3 <;> by_cases h4 : x4 = y4 <;> by_cases h5 : x5 = y5 <;> by_cases h6 : x6 = y6 <;> simp [h1, h2, h3, h4, h5, h6, gd, bnd1_some]
theorem ref_node_eq (x y : GNode) (h : okN x) : ref_SameNode x y = some (decide (x = y)) := by
  have ha := h.at_.1
  have hf := h.fl
  have hd := h.dr
  unfold ref_SameNode
  rw [ref_SameAttrs_eq _ _ (by omega), ref_SameFlow_eq _ _ (by omega) (fun e he => (h.fa e he).1), ref_grid_eq _ _ h.gr, ref_ops_eq _ _ (by omega)]
  obtain ⟨x1, x2, x3, x4, x5, x6⟩ := x
  obtain ⟨y1, y2, y3, y4, y5, y6⟩ := y
  by_cases h1 : x1 = y1 <;> by_cases h2 : x2 = y2 <;> by_cases h3 : x3 = y3 <;> by_cases h4 : x4 = y4 <;> by_cases h5 : x5 = y5 <;> by_cases h6 : x6 = y6 <;> simp [h1, h2, h3, h4, h5, h6, gd, bnd1_some]
theorem doc_eq (a b : GDoc) (h : okDoc a) : doc_Same a b = some (decide (a.Nodes = b.Nodes)) := by
  unfold doc_Same slices_EqualFunc_api_Node_api_Node_api_Node_api_Node__SameNode
  have hm := h.1
  by_cases hl : a.Nodes.length = b.Nodes.length
  · rw [if_neg (by simp [hl]), same_loop a.Nodes b.Nodes hl (fun k hk => by
      unfold slices_EqualFunc_api_Node_api_Node_api_Node_api_Node__SameNode_L1
      rw [if_pos (by simpa using hk), idx_nat hk, idx_nat (by omega), bnd1_some, bnd1_some, node_eq _ _ (h.2 _ (mem_at hk)), bnd1_some, chk_nat (by omega)]
      generalize a.Nodes[k]! = x
      generalize b.Nodes[k]! = y
      by_cases h : x = y <;> simp [h, stepOf]) (by unfold slices_EqualFunc_api_Node_api_Node_api_Node_api_Node__SameNode_L1; rw [if_neg (by simp)])]
    rfl
  · rw [if_pos (by simp; omega), decide_eq_false (fun e => hl (by rw [e]))]; rfl
theorem ref_doc_eq (a b : GDoc) (h : okDoc a) : ref_SameDoc a b = some (decide (a.Nodes = b.Nodes)) := by
  unfold ref_SameDoc
  have hm := h.1
  by_cases hl : a.Nodes.length = b.Nodes.length
  · rw [if_neg (by simp [hl]), same_loop a.Nodes b.Nodes hl (fun k hk => by
      unfold ref_SameDoc_L1
      rw [if_pos (by simpa using hk), idx_nat hk, idx_nat (by omega), bnd1_some, bnd1_some, ref_node_eq _ _ (h.2 _ (mem_at hk)), bnd1_some, chk_nat (by omega)]
      generalize a.Nodes[k]! = x
      generalize b.Nodes[k]! = y
      by_cases h : x = y <;> simp [h, stepOf]) (by unfold ref_SameDoc_L1; rw [if_neg (by simp)])]
  · rw [if_pos (by simp; omega), decide_eq_false (fun e => hl (by rw [e]))]
theorem copy_loop (g : GGrid) (hm : g.Cells.length ≤ 1048576) (h : ∀ x ∈ g.Cells, okA x.Attrs) : iter (fun (a : Int × GGrid) => doc_CopyNode_L1 g.Cells a.1 a.2) (0, g) = some g := by
  have key : ∃ r, iter (fun (a : Int × GGrid) => doc_CopyNode_L1 g.Cells a.1 a.2) (0, g) = some r ∧ r = g := by
    refine iter_hoare g.Cells.length (fun k st => st = ((k : Int), g)) _ ?_ ?_ rfl
    · rintro k st hk rfl
      left
      refine ⟨_, ?_, rfl⟩
      dsimp only
      unfold doc_CopyNode_L1
      have ha := (h _ (mem_at hk)).1
      rw [if_pos (by simpa using hk), idx_nat hk, bnd1_some, app32 ha, bnd1_some, chk_nat (by omega), bnd1_some, set_eq]
      have hs : g.Cells.set k (GCell.mk g.Cells[k]!.Row g.Cells[k]!.Col g.Cells[k]!.Text g.Cells[k]!.Ref g.Cells[k]!.Attrs) = g.Cells := by
        rw [show (GCell.mk g.Cells[k]!.Row g.Cells[k]!.Col g.Cells[k]!.Text g.Cells[k]!.Ref g.Cells[k]!.Attrs) = g.Cells[k]! from rfl, getElem!_pos g.Cells k hk]
        exact List.set_getElem_self hk
      rw [hs]
    · rintro st rfl
      refine ⟨g, ?_, rfl⟩
      dsimp only
      unfold doc_CopyNode_L1
      rw [if_neg (by simp)]
  obtain ⟨r, h1, rfl⟩ := key
  exact h1
theorem app_by {α : Type} (b : Nat) (l : List α) (hb : b ≤ 128) (h : l.length ≤ 1048576) : app b ([] : List α) l = some l := by
  unfold app
  rw [if_pos]; rfl
  simp only [List.length_nil, Nat.zero_add]
  refine ⟨?_, by omega⟩
  calc l.length * b ≤ 1048576 * 128 := Nat.mul_le_mul h hb
    _ ≤ _ := by decide
theorem copyNode_eq (n : GNode) (h : okN n) : doc_CopyNode n = some n := by
  unfold doc_CopyNode
  have hg := h.gr
  have hf := h.fl
  rw [app32 h.at_.1, bnd1_some, flow_Copy_eq _ (by omega) h.fa, bnd1_some, app_by _ _ (by decide) h.dr, bnd1_some, app_by _ _ (by decide) hg.2.1, bnd1_some, app_by _ _ (by decide) hg.1, bnd1_some]
  have := copy_loop n.Grid hg.1 hg.2.2
  rw [show (GGrid.mk n.Grid.Rows n.Grid.Cols n.Grid.Cells n.Grid.Merges) = n.Grid from rfl, this]; rfl
theorem findSome_map {β : Type} (p : Nat → Bool) (F : Nat → β) (l : List Nat) : (l.findSome? fun k => if p k then some (F k) else none) = (l.find? p).map F := by
  induction l with
  | nil => rfl
  | cons a l ih => rw [List.findSome?_cons, List.find?_cons]; by_cases h : p a = true <;> simp [h, ih]
end Go.Proofs.YthoepnnckmfipaaGreatDoor.Al


namespace Go.Proofs.YthoepnnckmfipaaGreatDoor.Al
def n1D : GNode := GNode.mk 1 0 [] [(GElem.mk 0 2 [])] (GGrid.mk 0 0 [] []) []
def n2D : GNode := GNode.mk 2 1 [] [(GElem.mk 10 0 [])] (GGrid.mk 0 0 [] []) []
def firstD : GDoc := GDoc.mk [n1D, n2D]
theorem okE_1 : okE (GElem.mk 0 2 []) := ⟨by decide, fun a ha => by cases ha⟩
theorem okE_2 : okE (GElem.mk 10 0 []) := ⟨by decide, fun a ha => by cases ha⟩
theorem okG_0 : okG (GGrid.mk 0 0 [] []) := ⟨by decide, by decide, fun a ha => by cases ha⟩
theorem okA_0 : okA [] := ⟨by decide, fun a ha => by cases ha⟩
theorem ok_firstD : okDoc firstD := by
  refine ⟨by decide, fun n hn => ?_⟩
  have : n = n1D ∨ n = n2D := by simpa [firstD] using hn
  rcases this with rfl | rfl
  · exact ⟨okA_0, by decide, fun e he => by
      have : e = GElem.mk 0 2 [] := by simpa [n1D] using he
      subst this; exact okA_0, okG_0, by decide⟩
  · exact ⟨okA_0, by decide, fun e he => by
      have : e = GElem.mk 10 0 [] := by simpa [n2D] using he
      subst this; exact okA_0, okG_0, by decide⟩
theorem attr_nil : attr_Check [] = some 0 := by rw [attr_Check_eq _ (fun a ha => by cases ha) (by decide)]; rfl
theorem flow1 : flow_Check [GElem.mk 0 2 []] false = some 0 := by
  rw [flow_Check_F _ (fun x hx => by
    have : x = GElem.mk 0 2 [] := by simpa using hx
    subst this; exact okE_1) (by decide)]
  rfl
theorem flow2 : flow_Check [GElem.mk 10 0 []] true = some 0 := by
  rw [flow_Check_eq _ (fun x hx => by
    have : x = GElem.mk 10 0 [] := by simpa using hx
    subst this; exact okE_2) (by decide)]
  rfl
theorem grid0 : grid_Same (GGrid.mk 0 0 [] []) (GGrid.mk 0 0 [] []) = some true := by rw [grid_eq _ _ okG_0, decide_eq_true rfl]
theorem node1 : doc_CheckNode n1D = some 0 := by
  unfold doc_CheckNode n1D
  dsimp only
  rw [if_neg (by decide), if_neg (by decide), attr_nil, bnd1_some, if_neg (by decide)]
  have t : doc_Texts 0 = some false := rfl
  have l : doc_Lists 0 = some true := rfl
  have g : doc_Grids 0 = some false := rfl
  have d : doc_Draws 0 = some false := rfl
  rw [t, l, g, d, grid0]
  show (bnd1 (flow_Check [GElem.mk 0 2 []] false) fun (r4 : Int) => some r4) = some 0
  rw [flow1]; rfl
theorem node2 : doc_CheckNode n2D = some 0 := by
  unfold doc_CheckNode n2D
  dsimp only
  rw [if_neg (by decide), if_neg (by decide), attr_nil, bnd1_some, if_neg (by decide)]
  have t : doc_Texts 1 = some true := rfl
  have l : doc_Lists 1 = some false := rfl
  have g : doc_Grids 1 = some false := rfl
  have d : doc_Draws 1 = some false := rfl
  rw [t, l, g, d, grid0]
  show (bnd1 (flow_Check [GElem.mk 10 0 []] true) fun (r4 : Int) => some r4) = some 0
  rw [flow2]; rfl
theorem refs1 : doc_Refs n1D = some [2] := by
  unfold doc_Refs flow_Refs_o
  have h1 : (fun (a : Int × (List Int)) => flow_Refs_o_L1 n1D.Flow a.1 a.2) (0, []) = some (.inl (1, [2])) := by
    show flow_Refs_o_L1 [GElem.mk 0 2 []] 0 [] = _
    unfold flow_Refs_o_L1; rfl
  have h2 : (fun (a : Int × (List Int)) => flow_Refs_o_L1 n1D.Flow a.1 a.2) (1, [2]) = some (.inr [2]) := by
    show flow_Refs_o_L1 [GElem.mk 0 2 []] 1 [2] = _
    unfold flow_Refs_o_L1; rfl
  have h3 : (fun (a : Int × (List Int)) => doc_Refs_L1 n1D a.1 a.2) (0, [2]) = some (.inr [2]) := by
    show doc_Refs_L1 n1D 0 [2] = _
    unfold doc_Refs_L1; rfl
  rw [iter_next h1, iter_stop h2, bnd1_some, bnd1_some, iter_stop h3]; rfl
theorem refs2 : doc_Refs n2D = some [] := by
  unfold doc_Refs flow_Refs_o
  have h1 : (fun (a : Int × (List Int)) => flow_Refs_o_L1 n2D.Flow a.1 a.2) (0, []) = some (.inl (1, [])) := by
    show flow_Refs_o_L1 [GElem.mk 10 0 []] 0 [] = _
    unfold flow_Refs_o_L1; rfl
  have h2 : (fun (a : Int × (List Int)) => flow_Refs_o_L1 n2D.Flow a.1 a.2) (1, []) = some (.inr []) := by
    show flow_Refs_o_L1 [GElem.mk 10 0 []] 1 [] = _
    unfold flow_Refs_o_L1; rfl
  have h3 : (fun (a : Int × (List Int)) => doc_Refs_L1 n2D a.1 a.2) (0, []) = some (.inr []) := by
    show doc_Refs_L1 n2D 0 [] = _
    unfold doc_Refs_L1; rfl
  rw [iter_next h1, iter_stop h2, bnd1_some, bnd1_some, iter_stop h3]; rfl
theorem find2 : doc_find firstD 2 = some (1, true) := by
  unfold doc_find slices_BinarySearchFunc_api_Node_api_Node_int__find_f1
  have h1 : (fun (a : Int × Int) => slices_BinarySearchFunc_api_Node_api_Node_int__find_f1_L1 firstD.Nodes 2 a.1 a.2) (0, (firstD.Nodes.length : Int)) = some (.inl (0, 1)) := by
    show slices_BinarySearchFunc_api_Node_api_Node_int__find_f1_L1 firstD.Nodes 2 0 2 = _
    unfold slices_BinarySearchFunc_api_Node_api_Node_int__find_f1_L1; decide +kernel
  have h2 : (fun (a : Int × Int) => slices_BinarySearchFunc_api_Node_api_Node_int__find_f1_L1 firstD.Nodes 2 a.1 a.2) (0, 1) = some (.inl (1, 1)) := by
    show slices_BinarySearchFunc_api_Node_api_Node_int__find_f1_L1 firstD.Nodes 2 0 1 = _
    unfold slices_BinarySearchFunc_api_Node_api_Node_int__find_f1_L1; decide +kernel
  have h3 : (fun (a : Int × Int) => slices_BinarySearchFunc_api_Node_api_Node_int__find_f1_L1 firstD.Nodes 2 a.1 a.2) (1, 1) = some (.inr 1) := by
    show slices_BinarySearchFunc_api_Node_api_Node_int__find_f1_L1 firstD.Nodes 2 1 1 = _
    unfold slices_BinarySearchFunc_api_Node_api_Node_int__find_f1_L1; rfl
  rw [iter_next h1, iter_next h2, iter_stop h3, bnd1_some]; rfl
theorem permitted1 : doc_Permitted 0 1 = some true := by
  unfold doc_Permitted
  rw [if_pos (by decide), bnd1_some]
  unfold slices_Contains_int_int slices_Index_int_int
  have h1 : (fun (a : Int) => slices_Index_int_int_L1 [1, 6, 7, 10, 11, 12] 1 a) 0 = some (.inr (.ext 0)) := by
    show slices_Index_int_int_L1 [1, 6, 7, 10, 11, 12] 1 0 = _
    unfold slices_Index_int_int_L1; rfl
  rw [iter_stop h1]; rfl
theorem crefs1 : doc_CheckRefs firstD 0 [2] = some 0 := by
  unfold doc_CheckRefs
  have h1 : (fun (a : Int) => doc_CheckRefs_L1 firstD 0 [2] a) 0 = some (.inl 1) := by
    show doc_CheckRefs_L1 firstD 0 [2] 0 = _
    unfold doc_CheckRefs_L1
    rw [if_pos (by decide), show idx ([2] : List Int) 0 = some 2 from rfl, bnd1_some, find2, bnd2_some, if_neg (by decide), show idx firstD.Nodes 1 = some n2D from rfl, bnd1_some, show n2D.Kind = 1 from rfl, permitted1]
    rfl
  have h2 : (fun (a : Int) => doc_CheckRefs_L1 firstD 0 [2] a) 1 = some (.inr (.nrm ())) := by
    show doc_CheckRefs_L1 firstD 0 [2] 1 = _
    unfold doc_CheckRefs_L1; rfl
  rw [iter_next h1, iter_stop h2]; rfl
theorem crefs2 : doc_CheckRefs firstD 1 [] = some 0 := by
  unfold doc_CheckRefs
  have h2 : (fun (a : Int) => doc_CheckRefs_L1 firstD 1 [] a) 0 = some (.inr (.nrm ())) := by
    show doc_CheckRefs_L1 firstD 1 [] 0 = _
    unfold doc_CheckRefs_L1; rfl
  rw [iter_stop h2]; rfl
theorem check_first : doc_Check firstD = some 0 := by
  unfold doc_Check
  have a1 : (fun (a : Int) => doc_Check_L1 firstD a) 0 = some (.inl 1) := by
    show doc_Check_L1 firstD 0 = _
    unfold doc_Check_L1
    rw [if_pos (by decide), show idx firstD.Nodes 0 = some n1D from rfl, bnd1_some, node1]; rfl
  have a2 : (fun (a : Int) => doc_Check_L1 firstD a) 1 = some (.inl 2) := by
    show doc_Check_L1 firstD 1 = _
    unfold doc_Check_L1
    rw [if_pos (by decide), show idx firstD.Nodes 1 = some n2D from rfl, bnd1_some, node2]; rfl
  have a3 : (fun (a : Int) => doc_Check_L1 firstD a) 2 = some (.inr (.nrm ())) := by
    show doc_Check_L1 firstD 2 = _
    unfold doc_Check_L1; rfl
  have b1 : (fun (a : Int) => doc_Check_L2 firstD a) 0 = some (.inl 1) := by
    show doc_Check_L2 firstD 0 = _
    unfold doc_Check_L2
    rw [if_pos (by decide), show idx firstD.Nodes 0 = some n1D from rfl, bnd1_some, refs1, bnd1_some, show n1D.Kind = 0 from rfl, crefs1]; rfl
  have b2 : (fun (a : Int) => doc_Check_L2 firstD a) 1 = some (.inl 2) := by
    show doc_Check_L2 firstD 1 = _
    unfold doc_Check_L2
    rw [if_pos (by decide), show idx firstD.Nodes 1 = some n2D from rfl, bnd1_some, refs2, bnd1_some, show n2D.Kind = 1 from rfl, crefs2]; rfl
  have b3 : (fun (a : Int) => doc_Check_L2 firstD a) 2 = some (.inr (.nrm ())) := by
    show doc_Check_L2 firstD 2 = _
    unfold doc_Check_L2; rfl
  rw [if_neg (by decide), iter_next a1, iter_next a2, iter_stop a3, iter_next b1, iter_next b2, iter_stop b3]; rfl
theorem law_docs_eq : law_docs = some true := by
  unfold law_docs
  have h1 : doc_First = some firstD := rfl
  have h2 : law_simple [GElem.mk 10 0 []] = some firstD := rfl
  have h3 : law_end = some (GElem.mk 10 0 []) := rfl
  rw [h1, bnd1_some, check_first, bnd1_some, if_pos (by decide), h3, bnd1_some, h2, bnd1_some, ref_doc_eq _ _ ok_firstD, bnd1_some, bnd1_some, decide_eq_true rfl]
  rfl
end Go.Proofs.YthoepnnckmfipaaGreatDoor.Al


namespace Go.Proofs.YthoepnnckmfipaaGreatDoor.Al
theorem okDoc_bulk {μ : GNode → Nat} {γ : GGrid → Nat} {ψ : GCell → Nat} {ρ : GRect → Nat} {δ : GDrawOp → Nat} {ν : GElem → Nat} {κ : GAttr → Nat}
    (hn : ∀ n, (n.Attrs.map κ).sum + (n.Flow.map ν).sum + γ n.Grid + (n.Draw.map δ).sum + 1 ≤ μ n) (hg : ∀ g, (g.Cells.map ψ).sum + (g.Merges.map ρ).sum + 1 ≤ γ g)
    (hc : ∀ c, (c.Attrs.map κ).sum + 1 ≤ ψ c) (hr : ∀ r, 1 ≤ ρ r) (hd : ∀ o, 1 ≤ δ o) (he : ∀ e, (e.Attrs.map κ).sum + 1 ≤ ν e) (ha : ∀ a, a.Name.length + a.Value.length + 1 ≤ κ a)
    {d : GDoc} (hb : (d.Nodes.map μ).sum ≤ 1048576) : okDoc d := by
  have h1 := len_le_sum (μ := μ) (fun n => by have := hn n; omega) d.Nodes
  refine ⟨by omega, fun n hm => ?_⟩
  have h2 := mem_le_sum (μ := μ) hm
  have h3 := hn n
  have h4 := hg n.Grid
  have h5 := okF_bulk (ν := ν) (κ := κ) he ha (f := n.Flow) (by omega)
  have h6 := len_le_sum (μ := ψ) (fun c => by have := hc c; omega) n.Grid.Cells
  have h7 := len_le_sum (μ := ρ) hr n.Grid.Merges
  have h8 := len_le_sum (μ := δ) hd n.Draw
  refine ⟨okA_bulk ha (by omega), h5.1, h5.2, ⟨by omega, by omega, fun c hcm => okA_bulk ha ?_⟩, by omega⟩
  have h9 := mem_le_sum (μ := ψ) hcm
  have := hc c
  omega
end Go.Proofs.YthoepnnckmfipaaGreatDoor.Al


namespace Go.Proofs.YthoepnnckmfipaaGreatDoor.Al
theorem wrap32 {n : Nat} (h : n < 2147483648) : IntKind.i32.wrap (n : Int) = (n : Int) := by
  have e : (n : Int) % (2 ^ (32 : Nat) : Int) = (n : Int) := Int.emod_eq_of_lt (by omega) (by omega)
  show (if (true && decide ((n : Int) % (2 ^ (32 : Nat) : Int) ≥ (2 ^ (31 : Nat) : Int))) = true then (n : Int) % (2 ^ (32 : Nat) : Int) - (2 ^ (32 : Nat) : Int) else (n : Int) % (2 ^ (32 : Nat) : Int)) = _
  rw [e, if_neg]
  simp only [Bool.true_and, decide_eq_true_eq]
  omega
theorem wrap64 {n : Nat} (h : n < 9223372036854775808) : IntKind.i64.wrap (n : Int) = (n : Int) := by
  have e : (n : Int) % (2 ^ (64 : Nat) : Int) = (n : Int) := Int.emod_eq_of_lt (by omega) (by omega)
  show (if (true && decide ((n : Int) % (2 ^ (64 : Nat) : Int) ≥ (2 ^ (63 : Nat) : Int))) = true then (n : Int) % (2 ^ (64 : Nat) : Int) - (2 ^ (64 : Nat) : Int) else (n : Int) % (2 ^ (64 : Nat) : Int)) = _
  rw [e, if_neg]
  simp only [Bool.true_and, decide_eq_true_eq]
  omega
theorem bOr_nat (i a b : Nat) (hb : b < 2 ^ i) (hs : a * 2 ^ i + b < 2147483648) : bOr .i32 ((a * 2 ^ i : Nat) : Int) (b : Int) = ((a * 2 ^ i + b : Nat) : Int) := by
  unfold bOr
  have h1 : (BitVec.ofInt 32 ((a * 2 ^ i : Nat) : Int) ||| BitVec.ofInt 32 (b : Int)).toNat = a * 2 ^ i + b := by
    rw [BitVec.toNat_or, BitVec.ofInt_natCast, BitVec.ofInt_natCast, BitVec.toNat_ofNat, BitVec.toNat_ofNat, Nat.mod_eq_of_lt (by omega), Nat.mod_eq_of_lt (by omega)]
    rw [← Nat.shiftLeft_eq, Nat.shiftLeft_add_eq_or_of_lt hb]
  show IntKind.i32.wrap ((BitVec.ofInt 32 ((a * 2 ^ i : Nat) : Int) ||| BitVec.ofInt 32 (b : Int)).toNat : Int) = _
  rw [h1]; exact wrap32 hs
theorem and31 : ∀ b : Fin 256, bAnd .u8 ((b.val : Nat) : Int) 31 = ((b.val % 32 : Nat) : Int) := by decide +kernel
theorem and15 : ∀ b : Fin 256, bAnd .u8 ((b.val : Nat) : Int) 15 = ((b.val % 16 : Nat) : Int) := by decide +kernel
theorem and7 : ∀ b : Fin 256, bAnd .u8 ((b.val : Nat) : Int) 7 = ((b.val % 8 : Nat) : Int) := by decide +kernel
theorem and63 : ∀ b : Fin 256, bAnd .u8 ((b.val : Nat) : Int) 63 = ((b.val % 64 : Nat) : Int) := by decide +kernel
theorem shl_nat (i a : Nat) (hi : i ≤ 32) (hs : a * 2 ^ i < 2147483648) : shlC .i32 (a : Int) i = ((a * 2 ^ i : Nat) : Int) := by
  unfold shlC
  show IntKind.i32.wrap ((a : Int) * 2 ^ (min i 32)) = _
  rw [Nat.min_eq_left hi, show (a : Int) * 2 ^ i = ((a * 2 ^ i : Nat) : Int) by push_cast; rfl, wrap32 hs]
theorem firstT_eq : ∀ c : Fin 256, tabFirst[c.val]! = (Lib.firstT c.val : Int) := by decide +kernel
theorem bad_bits : ∀ c : Fin 256, bOr .i32 (bAndNot .i32 (IntKind.i32.wrap (c.val : Int)) (shrC .i32 (shlC .i32 (IntKind.i32.wrap 241) 31) 31)) (bAnd .i32 65533 (shrC .i32 (shlC .i32 (IntKind.i32.wrap 241) 31) 31)) = 65533 := by decide +kernel
theorem sz_bits : ∀ c : Fin 256, IntKind.i64.wrap (bAnd .u8 (Lib.firstT c.val : Int) 7) = ((Lib.firstT c.val % 8 : Nat) : Int) := by decide +kernel
theorem acc_bits : ∀ c : Fin 256, idx tabAccept (shrC .u8 (Lib.firstT c.val : Int) 4) = some (Utf8_AcceptRange.mk (Lib.accLo (Lib.firstT c.val / 16)) (Lib.accHi (Lib.firstT c.val / 16))) := by decide +kernel
theorem first_cases : ∀ c : Fin 256, 128 ≤ c.val → Lib.firstT c.val = 241 ∨ (2 ≤ Lib.firstT c.val % 8 ∧ Lib.firstT c.val % 8 ≤ 4 ∧ Lib.firstT c.val < 240) := by decide +kernel
theorem b2_bits (c d : Fin 256) : bOr .i32 (shlC .i32 (IntKind.i32.wrap (bAnd .u8 ((c.val : Nat) : Int) 31)) 6) (IntKind.i32.wrap (bAnd .u8 ((d.val : Nat) : Int) 63)) = ((c.val % 32 * 64 + d.val % 64 : Nat) : Int) := by
  rw [and31, and63, wrap32 (by omega), wrap32 (by omega), shl_nat 6 _ (by omega) (by omega), bOr_nat 6 _ _ (by omega) (by omega)]
theorem b3_bits (c d e : Fin 256) : bOr .i32 (bOr .i32 (shlC .i32 (IntKind.i32.wrap (bAnd .u8 ((c.val : Nat) : Int) 15)) 12) (shlC .i32 (IntKind.i32.wrap (bAnd .u8 ((d.val : Nat) : Int) 63)) 6)) (IntKind.i32.wrap (bAnd .u8 ((e.val : Nat) : Int) 63)) =
    ((c.val % 16 * 4096 + d.val % 64 * 64 + e.val % 64 : Nat) : Int) := by
  rw [and15, and63, and63, wrap32 (by omega), wrap32 (by omega), wrap32 (by omega), shl_nat 12 _ (by omega) (by omega), shl_nat 6 _ (by omega) (by omega), bOr_nat 12 _ _ (by omega) (by omega),
    show c.val % 16 * 2 ^ 12 + d.val % 64 * 2 ^ 6 = (c.val % 16 * 64 + d.val % 64) * 2 ^ 6 by omega, bOr_nat 6 _ _ (by omega) (by omega)]
theorem b4_bits (c d e f : Fin 256) : bOr .i32 (bOr .i32 (bOr .i32 (shlC .i32 (IntKind.i32.wrap (bAnd .u8 ((c.val : Nat) : Int) 7)) 18) (shlC .i32 (IntKind.i32.wrap (bAnd .u8 ((d.val : Nat) : Int) 63)) 12)) (shlC .i32 (IntKind.i32.wrap (bAnd .u8 ((e.val : Nat) : Int) 63)) 6)) (IntKind.i32.wrap (bAnd .u8 ((f.val : Nat) : Int) 63)) =
    ((c.val % 8 * 262144 + d.val % 64 * 4096 + e.val % 64 * 64 + f.val % 64 : Nat) : Int) := by
  rw [and7, and63, and63, and63, wrap32 (by omega), wrap32 (by omega), wrap32 (by omega), wrap32 (by omega), shl_nat 18 _ (by omega) (by omega), shl_nat 12 _ (by omega) (by omega), shl_nat 6 _ (by omega) (by omega), bOr_nat 18 _ _ (by omega) (by omega),
    show c.val % 8 * 2 ^ 18 + d.val % 64 * 2 ^ 12 = (c.val % 8 * 64 + d.val % 64) * 2 ^ 12 by omega, bOr_nat 12 _ _ (by omega) (by omega),
    show (c.val % 8 * 64 + d.val % 64) * 2 ^ 12 + e.val % 64 * 2 ^ 6 = ((c.val % 8 * 64 + d.val % 64) * 64 + e.val % 64) * 2 ^ 6 by omega, bOr_nat 6 _ _ (by omega) (by omega)]
theorem getD_bang (s : List UInt8) (k : Nat) (h : k < s.length) : s.getD k 0 = s[k]! := by
  rw [getElem!_pos s k h, List.getD_eq_getElem?_getD, List.getElem?_eq_getElem h]; rfl
theorem slow_eqN (s : List UInt8) (h : s ≠ []) (h128 : 128 ≤ (s.getD 0 0).toNat) : unicode_utf8_decodeRuneInStringSlow s = some (((Lib.decodeL s).1 : Int), ((Lib.decodeL s).2 : Int)) := by
  have h0 : 0 < s.length := List.length_pos_iff.2 h
  rw [Lib.decodeL_N]
  unfold unicode_utf8_decodeRuneInStringSlow
  rw [if_neg (by rw [decide_eq_true_eq]; omega), show (0 : Int) = ((0 : Nat) : Int) from rfl, idx_nat h0, bnd1_some]
  rw [getD_bang s 0 h0] at h128 ⊢
  generalize s[0]! = c at h128 ⊢
  obtain ⟨C, hC⟩ : ∃ C : Fin 256, C.val = c.toNat := ⟨⟨c.toNat, c.toNat_lt⟩, rfl⟩
  rw [← hC] at h128 ⊢
  rw [idx_nat (l := tabFirst) (by rw [first_len]; exact C.isLt), bnd1_some, firstT_eq, acc_bits, sz_bits]
  rcases first_cases C h128 with hf | ⟨hf1, hf2, hf3⟩
  · rw [if_pos (by rw [decide_eq_true_eq]; omega), Lib.bad_eq _ _ _ _ _ C.isLt hf, hf]
    show some (_, (1 : Int)) = _
    rw [show ((241 : Nat) : Int) = 241 from rfl, bad_bits C]; rfl
  · rw [if_neg (by rw [decide_eq_true_eq]; omega), bnd1_some]
    have hsl := Lib.slow_eq s.length C.val (s.getD 1 0).toNat (s.getD 2 0).toNat (s.getD 3 0).toNat h0 (UInt8.toNat_lt _) (UInt8.toNat_lt _) (UInt8.toNat_lt _) hf3
    rw [← hsl]
    generalize hsz : Lib.firstT C.val % 8 = sz at hf1 hf2 ⊢
    generalize Lib.accLo (Lib.firstT C.val / 16) = lo
    generalize Lib.accHi (Lib.firstT C.val / 16) = hi
    unfold Lib.slowN
    by_cases hl : s.length < sz
    · rw [if_pos (by rw [decide_eq_true_eq]; omega), if_pos hl]; rfl
    rw [if_neg (by rw [decide_eq_true_eq]; omega), if_neg hl, show (1 : Int) = ((1 : Nat) : Int) from rfl, idx_nat (by omega), bnd1_some, getD_bang s 1 (by omega)]
    generalize s[1]! = d
    obtain ⟨D, hD⟩ : ∃ D : Fin 256, D.val = d.toNat := ⟨⟨d.toNat, d.toNat_lt⟩, rfl⟩
    rw [← hD]
    by_cases c1 : D.val < lo ∨ hi < D.val
    · rw [if_pos (by simp only [Bool.or_eq_true, decide_eq_true_eq]; omega), if_pos c1]; rfl
    rw [if_neg (by simp only [Bool.or_eq_true, decide_eq_true_eq]; omega), if_neg c1]
    by_cases e2 : sz ≤ 2
    · rw [if_pos (by rw [decide_eq_true_eq]; omega), if_pos e2, b2_bits]; rfl
    rw [if_neg (by rw [decide_eq_true_eq]; omega), if_neg e2, show (2 : Int) = ((2 : Nat) : Int) from rfl, idx_nat (by omega), bnd1_some, getD_bang s 2 (by omega)]
    generalize s[2]! = e
    obtain ⟨E, hE⟩ : ∃ E : Fin 256, E.val = e.toNat := ⟨⟨e.toNat, e.toNat_lt⟩, rfl⟩
    rw [← hE]
    by_cases c2 : E.val < 128 ∨ 191 < E.val
    · rw [if_pos (by simp only [Bool.or_eq_true, decide_eq_true_eq]; omega), if_pos c2]; rfl
    rw [if_neg (by simp only [Bool.or_eq_true, decide_eq_true_eq]; omega), if_neg c2]
    by_cases e3 : sz ≤ 3
    · rw [if_pos (by rw [decide_eq_true_eq]; omega), if_pos e3, b3_bits]; rfl
    rw [if_neg (by rw [decide_eq_true_eq]; omega), if_neg e3, show (3 : Int) = ((3 : Nat) : Int) from rfl, idx_nat (by omega), bnd1_some, getD_bang s 3 (by omega)]
    generalize s[3]! = f
    obtain ⟨F, hF⟩ : ∃ F : Fin 256, F.val = f.toNat := ⟨⟨f.toNat, f.toNat_lt⟩, rfl⟩
    rw [← hF]
    by_cases c3 : F.val < 128 ∨ 191 < F.val
    · rw [if_pos (by simp only [Bool.or_eq_true, decide_eq_true_eq]; omega), if_pos c3]; rfl
    rw [if_neg (by simp only [Bool.or_eq_true, decide_eq_true_eq]; omega), if_neg c3, b4_bits]; rfl
theorem decode_eqL (s : List UInt8) (h : s ≠ []) : unicode_utf8_DecodeRuneInString s = some (((Lib.decodeL s).1 : Int), ((Lib.decodeL s).2 : Int)) := by
  have h0 : 0 < s.length := List.length_pos_iff.2 h
  unfold unicode_utf8_DecodeRuneInString
  rw [decide_eq_false h, show ((!false) == true) = true from rfl, gd_true, show (0 : Int) = ((0 : Nat) : Int) from rfl, idx_nat h0, bnd1_some, Bool.not_false, Bool.true_and]
  by_cases hc : (s[0]!).toNat < 128
  · rw [if_pos (by rw [decide_eq_true_eq]; omega), bnd1_some, wrap32 (by omega)]
    obtain ⟨c, t, rfl⟩ := List.exists_cons_of_ne_nil h
    have hc' : c.toNat < 128 := hc
    rw [Lib.decodeL_ascii c t hc']; rfl
  · rw [if_neg (by rw [decide_eq_true_eq]; omega), slow_eqN s h (by rw [getD_bang s 0 h0]; omega), bnd2_some]
def badR (r : Nat) : Bool := decide (r = 10) || !charOK (r : Int)
def textF : Nat → List UInt8 → Bool
  | 0, _ => true
  | n + 1, s => if s = [] then true else if ((Lib.decodeL s).1 = 65533 ∧ (Lib.decodeL s).2 = 1) ∨ badR (Lib.decodeL s).1 = true then false else textF n (s.drop (Lib.decodeL s).2)
theorem textF_s (n : Nat) (s : List UInt8) : textF (n + 1) s = if s = [] then true else if ((Lib.decodeL s).1 = 65533 ∧ (Lib.decodeL s).2 = 1) ∨ badR (Lib.decodeL s).1 = true then false else textF n (s.drop (Lib.decodeL s).2) := rfl
def runeF : Nat → List UInt8 → Bool
  | 0, _ => true
  | n + 1, s => if s = [] then true else if badR (Lib.decodeL s).1 = true then false else runeF n (s.drop (Lib.decodeL s).2)
theorem runeF_s (n : Nat) (s : List UInt8) : runeF (n + 1) s = if s = [] then true else if badR (Lib.decodeL s).1 = true then false else runeF n (s.drop (Lib.decodeL s).2) := rfl
theorem text_rune : ∀ (n : Nat) (s : List UInt8), s.length ≤ n → (Lib.validD s && runeF n s) = textF n s := by
  intro n
  induction n with
  | zero => intro s hs; obtain rfl := List.eq_nil_of_length_eq_zero (Nat.le_zero.1 hs); rfl
  | succ n ih =>
    intro s hs
    rw [textF_s, runeF_s]
    by_cases hn : s = []
    · subst hn; rfl
    · have hw := Lib.decodeL_width s
      have hl := List.length_pos_iff.2 hn
      rw [if_neg hn, if_neg hn, Lib.validD_step s hn]
      by_cases hv : (Lib.decodeL s).1 = 65533 ∧ (Lib.decodeL s).2 = 1
      · rw [if_pos hv, if_pos (show ((Lib.decodeL s).1 = 65533 ∧ (Lib.decodeL s).2 = 1) ∨ badR (Lib.decodeL s).1 = true from .inl hv)]; rfl
      · rw [if_neg hv]
        by_cases hb : badR (Lib.decodeL s).1 = true
        · rw [if_pos hb, if_pos (.inr hb), Bool.and_false]
        · rw [if_neg hb, if_neg (by rintro (h | h); exact hv h; exact hb h)]
          exact ih _ (by rw [List.length_drop]; omega)
theorem charOK_wrap (r : Nat) (h : r ≤ 1114111) : IntKind.i64.wrap (r : Int) = (r : Int) := wrap64 (by omega)
theorem grid_Text_eq (s : List UInt8) : grid_Text s = some (textF s.length s) := by
  unfold grid_Text
  have key : ∀ (n : Nat) (s : List UInt8), s.length ≤ n → (ctl1 (iter (fun (a : (List UInt8)) => grid_Text_L1 a) s) fun (_ : Unit) => some true) = some (textF n s) := by
    intro n
    induction n with
    | zero =>
      intro s hs
      obtain rfl := List.eq_nil_of_length_eq_zero (Nat.le_zero.1 hs)
      have h1 : (fun (a : (List UInt8)) => grid_Text_L1 a) [] = some (.inr (.nrm ())) := by
        show grid_Text_L1 [] = _
        unfold grid_Text_L1; rfl
      rw [iter_stop h1]; rfl
    | succ n ih =>
      intro s hs
      rw [textF_s]
      by_cases hn : s = []
      · subst hn
        have h1 : (fun (a : (List UInt8)) => grid_Text_L1 a) [] = some (.inr (.nrm ())) := by
          show grid_Text_L1 [] = _
          unfold grid_Text_L1; rfl
        rw [iter_stop h1]; rfl
      · have hw := Lib.decodeL_width s
        have hle := Lib.decodeL_le s hn
        have hr := Lib.decodeL_rune s
        have hstep : grid_Text_L1 s = if ((Lib.decodeL s).1 = 65533 ∧ (Lib.decodeL s).2 = 1) ∨ badR (Lib.decodeL s).1 = true then some (.inr (.ext false)) else some (.inl (s.drop (Lib.decodeL s).2)) := by
          unfold grid_Text_L1 badR
          rw [if_pos (ndT hn), decode_eqL s hn, bnd2_some, charOK_wrap _ hr, flow_Char_eq]
          generalize (Lib.decodeL s).1 = r at *
          generalize (Lib.decodeL s).2 = w at *
          by_cases h1 : r = 65533 ∧ w = 1
          · obtain ⟨rfl, rfl⟩ := h1
            rw [if_pos (.inl ⟨rfl, rfl⟩)]; rfl
          · have e1 : ((decide ((r : Int) = 65533)) && (decide ((w : Int) = 1))) = false := by
              rw [← Bool.not_eq_true, Bool.and_eq_true, decide_eq_true_eq, decide_eq_true_eq]; omega
            by_cases h2 : r = 10
            · subst h2
              rw [if_pos (.inr (by rfl)), e1]; rfl
            · have e2 : (decide ((r : Int) = 10)) = false := decide_eq_false (by omega)
              rw [e1, e2, decide_eq_false h2]
              show (bnd1 (gd true (some (charOK (r : Int)))) fun (r3 : Bool) => _) = _
              rw [gd_true, bnd1_some, slc_from8 s w hle, bnd1_some]
              cases charOK (r : Int)
              · rw [if_pos (show (r = 65533 ∧ w = 1) ∨ (false || !false) = true from .inr rfl)]; rfl
              · rw [if_neg (show ¬ ((r = 65533 ∧ w = 1) ∨ (false || !true) = true) by rintro (h | h); exact h1 h; exact absurd h (by decide))]; rfl
        by_cases hb : ((Lib.decodeL s).1 = 65533 ∧ (Lib.decodeL s).2 = 1) ∨ badR (Lib.decodeL s).1 = true
        · rw [if_pos hb] at hstep
          rw [iter_stop (f := fun (a : (List UInt8)) => grid_Text_L1 a) hstep, if_neg hn, if_pos hb]; rfl
        · rw [if_neg hb] at hstep
          rw [iter_next (f := fun (a : (List UInt8)) => grid_Text_L1 a) hstep, if_neg hn, if_neg hb]
          exact ih _ (by rw [List.length_drop]; omega)
  exact key s.length s (Nat.le_refl _)
theorem runeAt_eq (s : List UInt8) (p : Nat) : runeAt s p = Lib.decodeL (s.drop p) := (Lib.decodeL_drop ⟨s.toArray⟩ p).symm
theorem ref_CellText_eq (s : List UInt8) (hs : s.length ≤ 9223372036854775807) : ref_CellText s = some (textF s.length s) := by
  unfold ref_CellText unicode_utf8_ValidString validS
  rw [if_pos hs, bnd1_some, ← text_rune s.length s (Nat.le_refl _)]
  cases Lib.validD s with
  | false => rfl
  | true =>
    rw [if_neg (by decide), Bool.true_and]
    have key : ∀ (n p : Nat), s.length - p ≤ n → (ctl1 (iter (fun (a : (Nat)) => ref_CellText_L1 s a) p) fun (_ : Unit) => some true) = some (runeF n (s.drop p)) := by
      intro n
      induction n with
      | zero =>
        intro p hp
        have h1 : (fun (a : (Nat)) => ref_CellText_L1 s a) p = some (.inr (.nrm ())) := by
          show ref_CellText_L1 s p = _
          unfold ref_CellText_L1; rw [if_neg (by rw [decide_eq_true_eq]; omega)]
        rw [iter_stop h1]; rfl
      | succ n ih =>
        intro p hp
        rw [runeF_s]
        by_cases hn : s.length ≤ p
        · have h1 : (fun (a : (Nat)) => ref_CellText_L1 s a) p = some (.inr (.nrm ())) := by
            show ref_CellText_L1 s p = _
            unfold ref_CellText_L1; rw [if_neg (by rw [decide_eq_true_eq]; omega)]
          rw [iter_stop h1, if_pos (List.drop_eq_nil_of_le hn)]; rfl
        · have hne : s.drop p ≠ [] := by
            intro e
            have := congrArg List.length e
            rw [List.length_drop, List.length_nil] at this
            omega
          have hw := Lib.decodeL_width (s.drop p)
          have hr := Lib.decodeL_rune (s.drop p)
          have hstep : ref_CellText_L1 s p = if badR (Lib.decodeL (s.drop p)).1 = true then some (.inr (.ext false)) else some (.inl (p + (Lib.decodeL (s.drop p)).2)) := by
            unfold ref_CellText_L1 badR
            rw [if_pos (by rw [decide_eq_true_eq]; omega), runeAt_eq, charOK_wrap _ hr, ref_Char_eq]
            generalize (Lib.decodeL (s.drop p)).1 = r at *
            generalize (Lib.decodeL (s.drop p)).2 = w at *
            by_cases h2 : r = 10
            · subst h2; rfl
            · rw [decide_eq_false h2, decide_eq_false (show ¬ ((r : Int) = 10) by omega)]
              show (bnd1 (gd true (some (charOK (r : Int)))) fun (r3 : Bool) => _) = _
              rw [gd_true, bnd1_some]
          rw [if_neg hne]
          by_cases hb : badR (Lib.decodeL (s.drop p)).1 = true
          · rw [if_pos hb] at hstep
            rw [iter_stop (f := fun (a : (Nat)) => ref_CellText_L1 s a) hstep, if_pos hb]; rfl
          · rw [if_neg hb] at hstep
            rw [iter_next (f := fun (a : (Nat)) => ref_CellText_L1 s a) hstep, if_neg hb, List.drop_drop]
            exact ih _ (by omega)
    have := key s.length 0 (by omega)
    rw [List.drop_zero] at this
    exact this
end Go.Proofs.YthoepnnckmfipaaGreatDoor.Al


namespace Go.Proofs.YthoepnnckmfipaaGreatDoor.Al
theorem cmp_eq (x y : Int) : cmp_Compare_int x y = some (if x < y then -1 else if y < x then 1 else 0) := by
  unfold cmp_Compare_int cmp_isNaN_int
  rw [decide_eq_true (rfl : x = x), decide_eq_true (rfl : y = y), bnd1_some, bnd1_some, if_neg (by decide), if_neg (by decide)]
  by_cases h1 : x < y
  · rw [if_pos (decide_eq_true h1), if_pos h1]
  · rw [if_neg (by simpa using h1), if_neg h1]
    by_cases h2 : y < x
    · rw [if_pos (decide_eq_true h2), if_pos h2]
    · rw [if_neg (by simpa using h2), if_neg h2]
theorem cmp_Or_eq (a b : Int) : cmp_Or_int [a, b] = some (if a ≠ 0 then a else b) := by
  unfold cmp_Or_int
  by_cases ha : a ≠ 0
  · have h1 : (fun (x : Int) => cmp_Or_int_L1 [a, b] x) 0 = some (.inr (.ext a)) := by
      show cmp_Or_int_L1 [a, b] 0 = _
      unfold cmp_Or_int_L1
      rw [if_pos (by simp), show idx [a, b] 0 = some a from rfl, bnd1_some, if_pos (ndT ha)]
    rw [iter_stop h1, if_pos ha]; rfl
  · have ha' : a = 0 := Classical.not_not.1 ha
    have h1 : (fun (x : Int) => cmp_Or_int_L1 [a, b] x) 0 = some (.inl 1) := by
      show cmp_Or_int_L1 [a, b] 0 = _
      unfold cmp_Or_int_L1
      rw [if_pos (by simp), show idx [a, b] 0 = some a from rfl, bnd1_some, if_neg (ndF ha')]; rfl
    by_cases hb : b ≠ 0
    · have h2 : (fun (x : Int) => cmp_Or_int_L1 [a, b] x) 1 = some (.inr (.ext b)) := by
        show cmp_Or_int_L1 [a, b] 1 = _
        unfold cmp_Or_int_L1
        rw [if_pos (by simp), show idx [a, b] 1 = some b from rfl, bnd1_some, if_pos (ndT hb)]
      rw [iter_next h1, iter_stop h2, if_neg ha]; rfl
    · have hb' : b = 0 := Classical.not_not.1 hb
      have h2 : (fun (x : Int) => cmp_Or_int_L1 [a, b] x) 1 = some (.inl 2) := by
        show cmp_Or_int_L1 [a, b] 1 = _
        unfold cmp_Or_int_L1
        rw [if_pos (by simp), show idx [a, b] 1 = some b from rfl, bnd1_some, if_neg (ndF hb')]; rfl
      have h3 : (fun (x : Int) => cmp_Or_int_L1 [a, b] x) 2 = some (.inr (.nrm ())) := by
        show cmp_Or_int_L1 [a, b] 2 = _
        unfold cmp_Or_int_L1
        rw [if_neg (by simp)]
      rw [iter_next h1, iter_next h2, iter_stop h3, if_neg ha, hb']; rfl
def ord2 (a b c d : Int) : Int := if a < b then -1 else if b < a then 1 else if c < d then -1 else if d < c then 1 else 0
theorem or2 (a b c d : Int) : (if (if a < b then -1 else if b < a then 1 else 0) ≠ (0 : Int) then (if a < b then -1 else if b < a then 1 else 0) else if c < d then -1 else if d < c then 1 else (0 : Int)) = ord2 a b c d := by
  unfold ord2
  by_cases h1 : a < b
  · simp [h1]
  · by_cases h2 : b < a
    · simp [h1, h2]
    · simp [h1, h2]
theorem ord2_ge (a b c d : Int) : 0 ≤ ord2 a b c d ↔ (b < a ∨ (b = a ∧ d ≤ c)) := by
  unfold ord2
  split
  · constructor <;> intro h <;> omega
  · split
    · constructor <;> intro h <;> omega
    · split
      · constructor <;> intro h <;> omega
      · split
        · constructor <;> intro h <;> omega
        · constructor <;> intro h <;> omega
theorem grid_order_eq (a b : GCell) : grid_order a b = some (ord2 a.Row b.Row a.Col b.Col) := by
  unfold grid_order
  rw [cmp_eq, cmp_eq, bnd1_some, bnd1_some, cmp_Or_eq, bnd1_some, or2]
theorem ref_In_dec (x a b : Int) : ref_In x a b = some (decide (a ≤ x ∧ x ≤ b)) := by
  rw [ref_In_eq]
  congr 1
  rw [Bool.eq_iff_iff]; simp
def inC (rows cols : Int) (c : GCell) : Prop := 0 ≤ c.Row ∧ c.Row < rows ∧ 0 ≤ c.Col ∧ c.Col < cols ∧ 0 ≤ c.Ref ∧ c.Ref ≤ 1073741824
instance (rows cols : Int) (c : GCell) : Decidable (inC rows cols c) := by unfold inC; infer_instance
def emptyC (c : GCell) : Bool := decide (c.Text = []) && decide (c.Ref = 0) && decide (c.Attrs = [])
def cellE (rows cols : Int) (none_ : Bool) (c : GCell) : Int :=
  if ¬ inC rows cols c then 2 else if textF c.Text.length c.Text = false then 23 else if attrErr c.Attrs false ≠ 0 then attrErr c.Attrs false else if (!none_ && emptyC c) = true then 4 else 0
def errC (rows cols : Int) (none_ : Bool) (l : List GCell) (k : Nat) : Option Int :=
  if cellE rows cols none_ l[k]! ≠ 0 then some (cellE rows cols none_ l[k]!) else if 0 < k ∧ 0 ≤ ord2 l[k - 1]!.Row l[k]!.Row l[k - 1]!.Col l[k]!.Col then some 5 else none
def cellsErr (rows cols : Int) (none_ : Bool) (l : List GCell) : Int := ((List.range l.length).findSome? (errC rows cols none_ l)).getD 0
theorem lenA_zero (l : List GAttr) : decide ((l.length : Int) = 0) = decide (l = []) := by
  rw [Bool.eq_iff_iff, decide_eq_true_eq, decide_eq_true_eq, ← List.length_eq_zero_iff]; omega
def okC (c : GCell) : Prop := okA c.Attrs ∧ c.Text.length ≤ 1073741824
theorem tail_order (l : List GCell) (k : Nat) (hk : k < l.length) (hm : l.length ≤ 9223372036854775806) :
    (bnd1 (gd ((decide (0 < (k : Int))) == true) (chk .i64 ((k : Int) - 1))) fun (x5 : Int) =>
      bnd1 (gd ((decide (0 < (k : Int))) == true) (idx l x5)) fun (x6 : GCell) =>
      bnd1 (gd ((decide (0 < (k : Int))) == true) (grid_order x6 l[k]!)) fun (r3 : Int) =>
      if ((decide (0 < (k : Int))) && (decide (0 ≤ r3))) then (some (.inr (.ext 5)) : Option (Int ⊕ (Ctl Unit Int))) else (
        bnd1 (chk .i64 ((k : Int) + 1)) fun (x7 : Int) => some (.inl x7))) = stepOf k (if 0 < k ∧ 0 ≤ ord2 l[k - 1]!.Row l[k]!.Row l[k - 1]!.Col l[k]!.Col then some 5 else none) := by
  by_cases h0 : 0 < k
  · rw [decide_eq_true (show (0 : Int) < k by omega), show ((true == true) : Bool) = true from rfl, gd_true, chk_pred h0 (by omega), bnd1_some, gd_true, idx_nat (by omega), bnd1_some, gd_true, grid_order_eq, bnd1_some]
    by_cases h1 : 0 ≤ ord2 l[k - 1]!.Row l[k]!.Row l[k - 1]!.Col l[k]!.Col
    · rw [if_pos (show (true && decide (0 ≤ ord2 l[k - 1]!.Row l[k]!.Row l[k - 1]!.Col l[k]!.Col)) = true by rw [decide_eq_true h1]; rfl), if_pos ⟨h0, h1⟩]; rfl
    · rw [if_neg (show ¬ (true && decide (0 ≤ ord2 l[k - 1]!.Row l[k]!.Row l[k - 1]!.Col l[k]!.Col)) = true by rw [decide_eq_false h1]; decide), if_neg (fun h => h1 h.2), chk_nat (by omega)]; rfl
  · obtain rfl : k = 0 := by omega
    rw [if_neg (show ¬ (0 < 0 ∧ _) from fun h => absurd h.1 (by decide))]; rfl
theorem grid_cells_eq (rows cols : Int) (nn : Bool) (l : List GCell) (hm : l.length ≤ 1073741824) (hl : ∀ c ∈ l, okC c) : grid_cells l rows cols nn = some (cellsErr rows cols nn l) := by
  unfold grid_cells
  rw [iter_find (n := l.length) (errC rows cols nn l) (fun k hk => by
    obtain ⟨ha, ht⟩ := hl _ (mem_at hk)
    have hto := tail_order l k hk (by omega)
    unfold grid_cells_L1 errC cellE
    rw [if_pos (by simpa using hk), idx_nat hk, bnd1_some]
    by_cases h1 : inC rows cols l[k]!
    · have h1' := h1
      unfold inC at h1'
      rw [if_neg (by simp only [Bool.or_eq_true, decide_eq_true_eq]; omega), if_neg (by simp only [Bool.or_eq_true, decide_eq_true_eq]; omega), grid_Text_eq, bnd1_some, attr_Check_eq _ ha.2 (by have := ha.1; omega), bnd1_some, hto]
      rw [if_neg (Classical.not_not.2 h1)]
      cases htx : textF l[k]!.Text.length l[k]!.Text with
      | false => rfl
      | true =>
        rw [if_neg (show ¬ ((!true) = true) by decide), if_neg (show ¬ (true = false) by decide)]
        by_cases h3 : attrErr l[k]!.Attrs false = 0
        · rw [if_neg (ndF h3), if_neg (Classical.not_not.2 h3)]
          have he : grid_empty l[k]! = some (emptyC l[k]!) := by unfold grid_empty emptyC; rw [lenA_zero]
          rw [he, bnd1_some]
          by_cases h4 : (!nn && emptyC l[k]!) = true
          · rw [if_pos (by rw [Bool.and_comm]; exact h4), if_pos h4]; rfl
          · rw [if_neg (by rw [Bool.and_comm]; exact h4), if_neg h4, if_neg (show ¬ ((0 : Int) ≠ 0) from fun h => h rfl)]
        · rw [if_pos (ndT h3), if_pos h3, if_pos h3]; rfl
    · rw [if_pos h1]
      unfold inC at h1
      by_cases h2 : ((((decide (l[k]!.Row < 0)) || (decide (rows ≤ l[k]!.Row))) || (decide (l[k]!.Col < 0))) || (decide (cols ≤ l[k]!.Col))) = true
      · rw [if_pos h2]; rfl
      · rw [if_neg h2, if_pos (by simp only [Bool.or_eq_true, decide_eq_true_eq] at h2 ⊢; omega)]; rfl) (by unfold grid_cells_L1; rw [if_neg (by simp)]), out_getD]
  rfl
theorem ref_tail_order (l : List GCell) (k : Nat) (hk : k < l.length) (hm : l.length ≤ 9223372036854775806) :
    (bnd1 (gd ((decide (0 < (k : Int))) == true) (chk .i64 ((k : Int) - 1))) fun (x7 : Int) =>
            bnd1 (gd ((decide (0 < (k : Int))) == true) (idx l x7)) fun (x8 : GCell) =>
            bnd1 (gd ((((decide (0 < (k : Int))) == true) && ((decide (l[k]!.Row < x8.Row)) == false)) && ((decide (l[k]!.Row = x8.Row)) == true)) (chk .i64 ((k : Int) - 1))) fun (x9 : Int) =>
            bnd1 (gd ((((decide (0 < (k : Int))) == true) && ((decide (l[k]!.Row < x8.Row)) == false)) && ((decide (l[k]!.Row = x8.Row)) == true)) (idx l x9)) fun (x10 : GCell) =>
            if ((decide (0 < (k : Int))) && ((decide (l[k]!.Row < x8.Row)) || ((decide (l[k]!.Row = x8.Row)) && (decide (l[k]!.Col ≤ x10.Col))))) then (some (.inr (.ext 5)) : Option (Int ⊕ (Ctl Unit Int))) else (
              bnd1 (chk .i64 ((k : Int) + 1)) fun (x11 : Int) => some (.inl x11))) = stepOf k (if 0 < k ∧ 0 ≤ ord2 l[k - 1]!.Row l[k]!.Row l[k - 1]!.Col l[k]!.Col then some 5 else none) := by
  have ho := ord2_ge l[k - 1]!.Row l[k]!.Row l[k - 1]!.Col l[k]!.Col
  by_cases h0 : 0 < k
  · rw [decide_eq_true (show (0 : Int) < k by omega), show ((true == true) : Bool) = true from rfl, gd_true, chk_pred h0 (by omega), bnd1_some, gd_true, idx_nat (show k - 1 < l.length by omega), bnd1_some]
    by_cases h1 : l[k]!.Row < l[k - 1]!.Row
    · rw [decide_eq_true h1, if_pos (show 0 < k ∧ 0 ≤ ord2 l[k - 1]!.Row l[k]!.Row l[k - 1]!.Col l[k]!.Col from ⟨h0, ho.2 (.inl h1)⟩)]; rfl
    · by_cases h2 : l[k]!.Row = l[k - 1]!.Row
      · rw [decide_eq_false h1, decide_eq_true h2, show (((true && (false == false)) && (true == true)) : Bool) = true from rfl, gd_true, bnd1_some, gd_true, idx_nat (show k - 1 < l.length by omega), bnd1_some]
        by_cases h3 : l[k]!.Col ≤ l[k - 1]!.Col
        · rw [decide_eq_true h3, if_pos (show 0 < k ∧ 0 ≤ ord2 l[k - 1]!.Row l[k]!.Row l[k - 1]!.Col l[k]!.Col from ⟨h0, ho.2 (.inr ⟨h2, h3⟩)⟩)]; rfl
        · rw [decide_eq_false h3, if_neg (show ¬ (0 < k ∧ 0 ≤ ord2 l[k - 1]!.Row l[k]!.Row l[k - 1]!.Col l[k]!.Col) from fun h => by have := ho.1 h.2; omega), chk_nat (by omega)]; rfl
      · rw [decide_eq_false h1, decide_eq_false h2, if_neg (show ¬ (0 < k ∧ 0 ≤ ord2 l[k - 1]!.Row l[k]!.Row l[k - 1]!.Col l[k]!.Col) from fun h => by have := ho.1 h.2; omega), chk_nat (by omega)]; rfl
  · obtain rfl : k = 0 := by omega
    rw [if_neg (show ¬ (0 < 0 ∧ _) from fun h => absurd h.1 (by decide))]; rfl
theorem ref_CellsError_eq (rows cols : Int) (nn : Bool) (l : List GCell) (hm : l.length ≤ 1073741824) (hl : ∀ c ∈ l, okC c) (hr : 0 ≤ rows ∧ rows ≤ 2147483647) (hcc : 0 ≤ cols ∧ cols ≤ 2147483647) : ref_CellsError l rows cols nn = some (cellsErr rows cols nn l) := by
  unfold ref_CellsError
  rw [iter_find (n := l.length) (errC rows cols nn l) (fun k hk => by
    obtain ⟨ha, ht⟩ := hl _ (mem_at hk)
    have hto := ref_tail_order l k hk (by omega)
    unfold ref_CellsError_L1 errC cellE
    rw [if_pos (by simpa using hk), idx_nat hk, bnd1_some, chk64 (by omega) (by omega), bnd1_some, ref_In_dec, bnd1_some, ref_In_dec, hto]
    by_cases h1 : inC rows cols l[k]!
    · have h1' := h1
      unfold inC at h1'
      rw [if_neg (Classical.not_not.2 h1), decide_eq_true (show 0 ≤ l[k]!.Row ∧ l[k]!.Row ≤ rows - 1 by omega), show ((!true) == false) = true from rfl, gd_true, chk64 (by omega) (by omega), bnd1_some, gd_true, ref_In_dec, bnd1_some, decide_eq_true (show 0 ≤ l[k]!.Col ∧ l[k]!.Col ≤ cols - 1 by omega),
        show (((!true) || (!true)) == false) = true from rfl, gd_true, bnd1_some, decide_eq_true (show 0 ≤ l[k]!.Ref ∧ l[k]!.Ref ≤ 1073741824 by omega), if_neg (by decide), ref_CellText_eq _ (by omega), bnd1_some, ref_AttrsError_eq _ _ ha.2 (by have := ha.1; omega), bnd1_some]
      cases htx : textF l[k]!.Text.length l[k]!.Text with
      | false => rfl
      | true =>
        rw [if_neg (show ¬ ((!true) = true) by decide), if_neg (show ¬ (true = false) by decide)]
        by_cases h3 : attrErr l[k]!.Attrs false = 0
        · rw [if_neg (ndF h3), if_neg (Classical.not_not.2 h3)]
          have he : ref_EmptyCell l[k]! = some (emptyC l[k]!) := by unfold ref_EmptyCell emptyC; rw [lenA_zero]
          rw [he]
          cases nn with
          | true => rfl
          | false =>
            show (bnd1 (gd true (some (emptyC l[k]!))) fun (r5 : Bool) => _) = _
            rw [gd_true, bnd1_some]
            cases emptyC l[k]! <;> rfl
        · rw [if_pos (ndT h3), if_pos h3, if_pos h3]; rfl
    · rw [if_pos h1]
      unfold inC at h1
      by_cases e1 : 0 ≤ l[k]!.Row ∧ l[k]!.Row ≤ rows - 1
      · rw [decide_eq_true e1, show ((!true) == false) = true from rfl, gd_true, chk64 (by omega) (by omega), bnd1_some, gd_true, ref_In_dec, bnd1_some]
        by_cases e2 : 0 ≤ l[k]!.Col ∧ l[k]!.Col ≤ cols - 1
        · rw [decide_eq_true e2, show (((!true) || (!true)) == false) = true from rfl, gd_true, bnd1_some, decide_eq_false (show ¬ (0 ≤ l[k]!.Ref ∧ l[k]!.Ref ≤ 1073741824) by omega)]; rfl
        · rw [decide_eq_false e2]; rfl
      · rw [decide_eq_false e1]; rfl) (by unfold ref_CellsError_L1; rw [if_neg (by simp)]), out_getD]
  rfl
end Go.Proofs.YthoepnnckmfipaaGreatDoor.Al


namespace Go.Proofs.YthoepnnckmfipaaGreatDoor.Al
theorem iter_findI {ρ : Type} {f : Int → Option (Int ⊕ Ctl Unit ρ)} {n : Nat} (g : Nat → Option ρ) (h1 : ∀ k : Nat, k < n → (∀ j, j < k → g j = none) → f k = stepOf k (g k))
    (h2 : f n = some (.inr (.nrm ()))) : iter f 0 = some (outOf ((List.range n).findSome? g)) := by
  have key : ∀ m k : Nat, k + m = n → (∀ j, j < k → g j = none) → iter f (k : Int) = some (outOf ((List.range' k m).findSome? g)) := by
    intro m
    induction m with
    | zero =>
      intro k hk _
      obtain rfl : k = n := by omega
      rw [iter_stop h2]; rfl
    | succ m ih =>
      intro k hk hj
      have hs := h1 k (by omega) hj
      rw [List.range'_succ, List.findSome?_cons]
      cases hg : g k with
      | some r => rw [hg] at hs; rw [iter_stop hs]; rfl
      | none =>
        rw [hg] at hs
        rw [iter_next hs]
        exact ih (k + 1) (by omega) (fun j hj' => by
          by_cases e : j = k
          · rw [e]; exact hg
          · exact hj j (by omega))
  have := key n 0 (by omega) (fun j hj => absurd hj (Nat.not_lt_zero _))
  rw [List.range_eq_range']
  exact this
def insR (rows cols : Int) (r : GRect) : Prop := 0 ≤ r.Row ∧ r.Row < rows ∧ 0 ≤ r.Col ∧ r.Col < cols ∧ 1 ≤ r.H ∧ r.H ≤ rows - r.Row ∧ 1 ≤ r.W ∧ r.W ≤ cols - r.Col
instance (rows cols : Int) (r : GRect) : Decidable (insR rows cols r) := by unfold insR; infer_instance
def mtR (a b : GRect) : Bool := decide (a.Row < b.Row + b.H ∧ b.Row < a.Row + a.H ∧ a.Col < b.Col + b.W ∧ b.Col < a.Col + a.W)
def okRC (rows cols : Int) : Prop := 0 ≤ rows ∧ rows ≤ 2147483647 ∧ 0 ≤ cols ∧ cols ≤ 2147483647
instance (rows cols : Int) : Decidable (okRC rows cols) := by unfold okRC; infer_instance
theorem inside_eq (r : GRect) (rows cols : Int) (h : okRC rows cols) : grid_inside r rows cols = some (decide (insR rows cols r)) := by
  obtain ⟨h1, h2, h3, h4⟩ := h
  unfold grid_inside
  by_cases c1 : 0 ≤ r.Row ∧ 0 ≤ r.Col ∧ 1 ≤ r.H ∧ 1 ≤ r.W ∧ r.Row < rows ∧ r.Col < cols
  · obtain ⟨a1, a2, a3, a4, a5, a6⟩ := c1
    rw [decide_eq_true a1, decide_eq_true a2, decide_eq_true a3, decide_eq_true a4, decide_eq_true a5, decide_eq_true a6, show ((((((true && true) && true) && true) && true) && true) == true) = true from rfl, gd_true, chk64 (by omega) (by omega), bnd1_some]
    by_cases c2 : r.H ≤ rows - r.Row
    · rw [decide_eq_true c2, show (((((((true && true) && true) && true) && true) && true) && true) == true) = true from rfl, gd_true, chk64 (by omega) (by omega), bnd1_some]
      by_cases c3 : r.W ≤ cols - r.Col
      · rw [decide_eq_true c3, decide_eq_true (show insR rows cols r from ⟨a1, a5, a2, a6, a3, c2, a4, c3⟩)]; rfl
      · rw [decide_eq_false c3, decide_eq_false (show ¬ insR rows cols r from fun h => c3 h.2.2.2.2.2.2.2)]; rfl
    · rw [decide_eq_false c2, decide_eq_false (show ¬ insR rows cols r from fun h => c2 h.2.2.2.2.2.1)]; rfl
  · have hf : ((((((decide (0 ≤ r.Row)) && (decide (0 ≤ r.Col))) && (decide (1 ≤ r.H))) && (decide (1 ≤ r.W))) && (decide (r.Row < rows))) && (decide (r.Col < cols))) = false := by
      rw [← Bool.not_eq_true]
      simp only [Bool.and_eq_true, decide_eq_true_eq]
      intro h; exact c1 (by omega)
    rw [hf, decide_eq_false (show ¬ insR rows cols r from fun h => c1 ⟨h.1, h.2.2.1, h.2.2.2.2.1, h.2.2.2.2.2.2.1, h.2.1, h.2.2.2.1⟩)]; rfl
theorem lies_eq (r : GRect) (rows cols : Int) (h : okRC rows cols) : ref_Lies r rows cols = some (decide (insR rows cols r)) := by
  obtain ⟨h1, h2, h3, h4⟩ := h
  unfold ref_Lies
  rw [chk64 (by omega) (by omega), bnd1_some, ref_In_dec, bnd1_some]
  by_cases a1 : 0 ≤ r.Row ∧ r.Row ≤ rows - 1
  · rw [decide_eq_true a1, show ((true == true) : Bool) = true from rfl, gd_true, chk64 (by omega) (by omega), bnd1_some, gd_true, ref_In_dec, bnd1_some]
    by_cases a2 : 0 ≤ r.Col ∧ r.Col ≤ cols - 1
    · rw [decide_eq_true a2, show ((true && true) == true) = true from rfl, gd_true, chk64 (by omega) (by omega), bnd1_some, gd_true, ref_In_dec, bnd1_some]
      by_cases a3 : 1 ≤ r.H ∧ r.H ≤ rows - r.Row
      · rw [decide_eq_true a3, show (((true && true) && true) == true) = true from rfl, gd_true, chk64 (by omega) (by omega), bnd1_some, gd_true, ref_In_dec, bnd1_some]
        by_cases a4 : 1 ≤ r.W ∧ r.W ≤ cols - r.Col
        · rw [decide_eq_true a4, decide_eq_true (show insR rows cols r from ⟨a1.1, by omega, a2.1, by omega, a3.1, a3.2, a4.1, a4.2⟩)]; rfl
        · rw [decide_eq_false a4, decide_eq_false (show ¬ insR rows cols r from fun h => a4 ⟨h.2.2.2.2.2.2.1, h.2.2.2.2.2.2.2⟩)]; rfl
      · rw [decide_eq_false a3, decide_eq_false (show ¬ insR rows cols r from fun h => a3 ⟨h.2.2.2.2.1, h.2.2.2.2.2.1⟩)]; rfl
    · rw [decide_eq_false a2, decide_eq_false (show ¬ insR rows cols r from fun h => a2 ⟨h.2.2.1, by have := h.2.2.2.1; omega⟩)]; rfl
  · rw [decide_eq_false a1, decide_eq_false (show ¬ insR rows cols r from fun h => a1 ⟨h.1, by have := h.2.1; omega⟩)]; rfl
theorem meets_eq {rows cols : Int} (h : okRC rows cols) {a b : GRect} (ha : insR rows cols a) (hb : insR rows cols b) : grid_meets a b = some (mtR a b) := by
  obtain ⟨h1, h2, h3, h4⟩ := h
  obtain ⟨a1, a2, a3, a4, a5, a6, a7, a8⟩ := ha
  obtain ⟨b1, b2, b3, b4, b5, b6, b7, b8⟩ := hb
  unfold grid_meets mtR
  rw [chk64 (by omega) (by omega), bnd1_some]
  by_cases c1 : a.Row < b.Row + b.H
  · rw [decide_eq_true c1, show ((true == true) : Bool) = true from rfl, gd_true, chk64 (by omega) (by omega), bnd1_some]
    by_cases c2 : b.Row < a.Row + a.H
    · rw [decide_eq_true c2, show ((true && true) == true) = true from rfl, gd_true, chk64 (by omega) (by omega), bnd1_some]
      by_cases c3 : a.Col < b.Col + b.W
      · rw [decide_eq_true c3, show (((true && true) && true) == true) = true from rfl, gd_true, chk64 (by omega) (by omega), bnd1_some]
        by_cases c4 : b.Col < a.Col + a.W
        · rw [decide_eq_true c4, decide_eq_true (show _ ∧ _ ∧ _ ∧ _ from ⟨c1, c2, c3, c4⟩)]; rfl
        · rw [decide_eq_false c4, decide_eq_false (show ¬ (a.Row < b.Row + b.H ∧ b.Row < a.Row + a.H ∧ a.Col < b.Col + b.W ∧ b.Col < a.Col + a.W) from fun h => c4 h.2.2.2)]; rfl
      · rw [decide_eq_false c3, decide_eq_false (show ¬ (a.Row < b.Row + b.H ∧ b.Row < a.Row + a.H ∧ a.Col < b.Col + b.W ∧ b.Col < a.Col + a.W) from fun h => c3 h.2.2.1)]; rfl
    · rw [decide_eq_false c2, decide_eq_false (show ¬ (a.Row < b.Row + b.H ∧ b.Row < a.Row + a.H ∧ a.Col < b.Col + b.W ∧ b.Col < a.Col + a.W) from fun h => c2 h.2.1)]; rfl
  · rw [decide_eq_false c1, decide_eq_false (show ¬ (a.Row < b.Row + b.H ∧ b.Row < a.Row + a.H ∧ a.Col < b.Col + b.W ∧ b.Col < a.Col + a.W) from fun h => c1 h.1)]; rfl
theorem share_eq {rows cols : Int} (h : okRC rows cols) {a b : GRect} (ha : insR rows cols a) (hb : insR rows cols b) : ref_Share a b = some (mtR b a) := by
  obtain ⟨h1, h2, h3, h4⟩ := h
  obtain ⟨a1, a2, a3, a4, a5, a6, a7, a8⟩ := ha
  obtain ⟨b1, b2, b3, b4, b5, b6, b7, b8⟩ := hb
  unfold ref_Share mtR
  rw [chk64 (by omega) (by omega), bnd1_some, chk64 (by omega) (by omega), bnd1_some]
  by_cases c1 : max a.Row b.Row < min (a.Row + a.H) (b.Row + b.H)
  · rw [decide_eq_true c1, show ((true == true) : Bool) = true from rfl, gd_true, chk64 (by omega) (by omega), bnd1_some, gd_true, chk64 (by omega) (by omega), bnd1_some]
    by_cases c2 : max a.Col b.Col < min (a.Col + a.W) (b.Col + b.W)
    · rw [decide_eq_true c2, decide_eq_true (show b.Row < a.Row + a.H ∧ a.Row < b.Row + b.H ∧ b.Col < a.Col + a.W ∧ a.Col < b.Col + b.W by omega)]; rfl
    · rw [decide_eq_false c2, decide_eq_false (show ¬ (b.Row < a.Row + a.H ∧ a.Row < b.Row + b.H ∧ b.Col < a.Col + a.W ∧ a.Col < b.Col + b.W) by omega)]; rfl
  · rw [decide_eq_false c1, decide_eq_false (show ¬ (b.Row < a.Row + a.H ∧ a.Row < b.Row + b.H ∧ b.Col < a.Col + a.W ∧ a.Col < b.Col + b.W) by omega)]; rfl
theorem takeBM {α : Type} [Inhabited α] {l : List α} {k j : Nat} (hj : j < k) (hk : k ≤ l.length) : (l.take k)[j]! = l[j]! := by
  rw [getElem!_pos (l.take k) j (by rw [List.length_take]; omega), getElem!_pos l j (by omega), List.getElem_take]
def findM (l : List GRect) (k : Nat) (w : GRect) : Option Nat := (List.range k).find? fun j => mtR l[j]! w
theorem contains_eq {rows cols : Int} (h : okRC rows cols) (l : List GRect) (k : Nat) (hk : k ≤ l.length) (hm : l.length ≤ 1073741824) (hl : ∀ j, j < k → insR rows cols l[j]!) {w : GRect} (hw : insR rows cols w) :
    slices_ContainsFunc_api_Rect_api_Rect__Check_f1 w (l.take k) = some (findM l k w).isSome := by
  unfold slices_ContainsFunc_api_Rect_api_Rect__Check_f1 slices_IndexFunc_api_Rect_api_Rect__Check_f1
  have hlen : (l.take k).length = k := by rw [List.length_take]; omega
  rw [iter_find (n := k) (fun j => if mtR l[j]! w then some (j : Int) else none) (fun j hj => by
    unfold slices_IndexFunc_api_Rect_api_Rect__Check_f1_L1 grid_Check_f1
    rw [if_pos (by rw [hlen, decide_eq_true_eq]; omega), idx_nat (by rw [hlen]; exact hj), bnd1_some, takeBM hj hk, meets_eq h (hl j hj) hw, bnd1_some, bnd1_some, chk_nat (by omega)]
    cases mtR l[j]! w <;> rfl) (by unfold slices_IndexFunc_api_Rect_api_Rect__Check_f1_L1; rw [if_neg (by rw [hlen]; simp)]), findSome_map, ctl_outOf]
  unfold findM
  cases (List.range k).find? fun j => mtR l[j]! w with
  | none => rfl
  | some j =>
    show (bnd1 (some (j : Int)) fun (r1 : Int) => some (decide (0 ≤ r1))) = _
    rw [bnd1_some, decide_eq_true (Int.natCast_nonneg j)]; rfl
def errM (rows cols : Int) (l : List GRect) (k : Nat) : Option Int :=
  if ¬ insR rows cols l[k]! then some 2 else if l[k]!.H = 1 ∧ l[k]!.W = 1 then some 4 else if 0 < k ∧ 0 ≤ ord2 l[k - 1]!.Row l[k]!.Row l[k - 1]!.Col l[k]!.Col then some 5 else if (findM l k l[k]!).isSome = true then some 21 else none
theorem errM_ins {rows cols : Int} {l : List GRect} {k : Nat} (h : errM rows cols l k = none) : insR rows cols l[k]! := by
  unfold errM at h
  by_cases hi : insR rows cols l[k]!
  · exact hi
  · rw [if_pos hi] at h; cases h
def gridErr (g : GGrid) : Int :=
  if ¬ okRC g.Rows g.Cols then 2 else if cellsErr g.Rows g.Cols false g.Cells ≠ 0 then cellsErr g.Rows g.Cols false g.Cells else ((List.range g.Merges.length).findSome? (errM g.Rows g.Cols g.Merges)).getD 0
def okGd (g : GGrid) : Prop := g.Cells.length ≤ 1048576 ∧ g.Merges.length ≤ 1048576 ∧ ∀ c ∈ g.Cells, okC c
theorem before_eq (a b : GRect) : grid_before a b = some (!decide (0 ≤ ord2 a.Row b.Row a.Col b.Col)) := by
  unfold grid_before
  congr 1
  rw [Bool.eq_iff_iff]
  have := ord2_ge a.Row b.Row a.Col b.Col
  simp only [Bool.or_eq_true, Bool.and_eq_true, decide_eq_true_eq, Bool.not_eq_true', decide_eq_false_iff_not, this]
  omega
theorem grid_Check_eq (g : GGrid) (h : okGd g) : grid_Check g = some (gridErr g) := by
  obtain ⟨hc, hm, hcs⟩ := h
  unfold grid_Check gridErr
  by_cases hr : okRC g.Rows g.Cols
  · have hr' := hr
    obtain ⟨r1, r2, r3, r4⟩ := hr'
    rw [if_neg (by simp only [Bool.or_eq_true, decide_eq_true_eq]; omega), grid_cells_eq _ _ _ _ (by omega) hcs, bnd1_some, if_neg (Classical.not_not.2 hr)]
    by_cases he : cellsErr g.Rows g.Cols false g.Cells = 0
    · rw [if_neg (ndF he), if_neg (Classical.not_not.2 he), iter_findI (n := g.Merges.length) (errM g.Rows g.Cols g.Merges) (fun k hk hj => by
        unfold grid_Check_L1
        rw [if_pos (by simpa using hk), idx_nat hk, bnd1_some, inside_eq _ _ _ hr, bnd1_some]
        unfold errM
        by_cases h1 : insR g.Rows g.Cols g.Merges[k]!
        · rw [decide_eq_true h1, if_neg (show ¬ ((!true) = true) by decide), if_neg (Classical.not_not.2 h1)]
          by_cases h2 : g.Merges[k]!.H = 1 ∧ g.Merges[k]!.W = 1
          · rw [if_pos (by rw [decide_eq_true h2.1, decide_eq_true h2.2]; rfl), if_pos h2]; rfl
          · rw [if_neg (by simp only [Bool.and_eq_true, decide_eq_true_eq]; exact h2), if_neg h2]
            have hcont := contains_eq hr g.Merges k (by omega) (by omega) (fun j hj' => errM_ins (hj j hj')) h1
            have hs : slc g.Merges 0 (k : Int) = some (g.Merges.take k) := by
              rw [slc_to g.Merges k (by omega) (by omega)]; simp
            have hfin : (bnd1 (slc g.Merges 0 (k : Int)) fun (l1 : List GRect) =>
                bnd1 (slices_ContainsFunc_api_Rect_api_Rect__Check_f1 g.Merges[k]! l1) fun (r3 : Bool) =>
                if r3 then (some (.inr (.ext 21)) : Option (Int ⊕ (Ctl Unit Int))) else (
                  bnd1 (chk .i64 ((k : Int) + 1)) fun (x7 : Int) => some (.inl x7))) = stepOf k (if (findM g.Merges k g.Merges[k]!).isSome = true then some 21 else none) := by
              rw [hs, bnd1_some, hcont, bnd1_some, chk_nat (by omega)]
              cases (findM g.Merges k g.Merges[k]!).isSome <;> rfl
            by_cases h0 : 0 < k
            · rw [decide_eq_true (show (0 : Int) < k by omega), show ((true == true) : Bool) = true from rfl, gd_true, chk_pred h0 (by omega), bnd1_some, gd_true, idx_nat (show k - 1 < g.Merges.length by omega), bnd1_some, gd_true, before_eq, bnd1_some]
              by_cases h3 : 0 ≤ ord2 g.Merges[k - 1]!.Row g.Merges[k]!.Row g.Merges[k - 1]!.Col g.Merges[k]!.Col
              · rw [decide_eq_true h3, if_pos (show 0 < k ∧ 0 ≤ ord2 g.Merges[k - 1]!.Row g.Merges[k]!.Row g.Merges[k - 1]!.Col g.Merges[k]!.Col from ⟨h0, h3⟩)]; rfl
              · rw [decide_eq_false h3, if_neg (show ¬ (0 < k ∧ 0 ≤ ord2 g.Merges[k - 1]!.Row g.Merges[k]!.Row g.Merges[k - 1]!.Col g.Merges[k]!.Col) from fun h => h3 h.2)]
                exact hfin
            · have e0 : k = 0 := by omega
              rw [if_neg (show ¬ (0 < k ∧ 0 ≤ ord2 g.Merges[k - 1]!.Row g.Merges[k]!.Row g.Merges[k - 1]!.Col g.Merges[k]!.Col) from fun h => h0 h.1), decide_eq_false (show ¬ (0 : Int) < k by omega)]
              exact hfin
        · rw [decide_eq_false h1, if_pos h1]; rfl) (by unfold grid_Check_L1; rw [if_neg (by simp)]), out_getD]
    · rw [if_pos (ndT he), if_pos he]
  · rw [if_pos hr, if_pos (by unfold okRC at hr; simp only [Bool.or_eq_true, decide_eq_true_eq]; omega)]
theorem ref_order_tail {X : Type} (l : List GRect) (k : Nat) (hk : k < l.length) (hm : l.length ≤ 9223372036854775806) (a b : Option X) :
    (bnd1 (gd ((decide (0 < (k : Int))) == true) (chk .i64 ((k : Int) - 1))) fun (x5 : Int) =>
        bnd1 (gd ((decide (0 < (k : Int))) == true) (idx l x5)) fun (x6 : GRect) =>
        bnd1 (gd ((((decide (0 < (k : Int))) == true) && ((decide (l[k]!.Row < x6.Row)) == false)) && ((decide (l[k]!.Row = x6.Row)) == true)) (chk .i64 ((k : Int) - 1))) fun (x7 : Int) =>
        bnd1 (gd ((((decide (0 < (k : Int))) == true) && ((decide (l[k]!.Row < x6.Row)) == false)) && ((decide (l[k]!.Row = x6.Row)) == true)) (idx l x7)) fun (x8 : GRect) =>
        if ((decide (0 < (k : Int))) && ((decide (l[k]!.Row < x6.Row)) || ((decide (l[k]!.Row = x6.Row)) && (decide (l[k]!.Col ≤ x8.Col))))) then a else b) =
      if 0 < k ∧ 0 ≤ ord2 l[k - 1]!.Row l[k]!.Row l[k - 1]!.Col l[k]!.Col then a else b := by
  have ho := ord2_ge l[k - 1]!.Row l[k]!.Row l[k - 1]!.Col l[k]!.Col
  by_cases h0 : 0 < k
  · rw [decide_eq_true (show (0 : Int) < k by omega), show ((true == true) : Bool) = true from rfl, gd_true, chk_pred h0 (by omega), bnd1_some, gd_true, idx_nat (show k - 1 < l.length by omega), bnd1_some]
    by_cases h1 : l[k]!.Row < l[k - 1]!.Row
    · rw [decide_eq_true h1, if_pos (show 0 < k ∧ 0 ≤ ord2 l[k - 1]!.Row l[k]!.Row l[k - 1]!.Col l[k]!.Col from ⟨h0, ho.2 (.inl h1)⟩)]; rfl
    · by_cases h2 : l[k]!.Row = l[k - 1]!.Row
      · rw [decide_eq_false h1, decide_eq_true h2, show (((true && (false == false)) && (true == true)) : Bool) = true from rfl, gd_true, bnd1_some, gd_true, idx_nat (show k - 1 < l.length by omega), bnd1_some]
        by_cases h3 : l[k]!.Col ≤ l[k - 1]!.Col
        · rw [decide_eq_true h3, if_pos (show 0 < k ∧ 0 ≤ ord2 l[k - 1]!.Row l[k]!.Row l[k - 1]!.Col l[k]!.Col from ⟨h0, ho.2 (.inr ⟨h2, h3⟩)⟩)]; rfl
        · rw [decide_eq_false h3, if_neg (show ¬ (0 < k ∧ 0 ≤ ord2 l[k - 1]!.Row l[k]!.Row l[k - 1]!.Col l[k]!.Col) from fun h => by have := ho.1 h.2; omega)]; rfl
      · rw [decide_eq_false h1, decide_eq_false h2, if_neg (show ¬ (0 < k ∧ 0 ≤ ord2 l[k - 1]!.Row l[k]!.Row l[k - 1]!.Col l[k]!.Col) from fun h => by have := ho.1 h.2; omega)]; rfl
  · rw [if_neg (show ¬ (0 < k ∧ 0 ≤ ord2 l[k - 1]!.Row l[k]!.Row l[k - 1]!.Col l[k]!.Col) from fun h => h0 h.1), decide_eq_false (show ¬ (0 : Int) < k by omega)]; rfl
theorem ref_GridError_eq (g : GGrid) (h : okGd g) : ref_GridError g = some (gridErr g) := by
  obtain ⟨hc, hm, hcs⟩ := h
  unfold ref_GridError gridErr
  rw [ref_In_dec, bnd1_some]
  by_cases hr : okRC g.Rows g.Cols
  · have hr' := hr
    obtain ⟨r1, r2, r3, r4⟩ := hr'
    rw [decide_eq_true (show 0 ≤ g.Rows ∧ g.Rows ≤ 2147483647 from ⟨r1, r2⟩), show ((!true) == false) = true from rfl, gd_true, ref_In_dec, bnd1_some, decide_eq_true (show 0 ≤ g.Cols ∧ g.Cols ≤ 2147483647 from ⟨r3, r4⟩), if_neg (by decide),
      ref_CellsError_eq _ _ _ _ (by omega) hcs ⟨r1, r2⟩ ⟨r3, r4⟩, bnd1_some, if_neg (Classical.not_not.2 hr)]
    by_cases he : cellsErr g.Rows g.Cols false g.Cells = 0
    · rw [if_neg (ndF he), if_neg (Classical.not_not.2 he), iter_findI (n := g.Merges.length) (errM g.Rows g.Cols g.Merges) (fun k hk hj => by
        unfold ref_GridError_L1
        rw [if_pos (by simpa using hk), idx_nat hk, bnd1_some, lies_eq _ _ _ hr, bnd1_some]
        unfold errM
        by_cases h1 : insR g.Rows g.Cols g.Merges[k]!
        · rw [decide_eq_true h1, if_neg (show ¬ ((!true) = true) by decide), if_neg (Classical.not_not.2 h1)]
          by_cases h2 : g.Merges[k]!.H = 1 ∧ g.Merges[k]!.W = 1
          · rw [if_pos (by rw [decide_eq_true h2.1, decide_eq_true h2.2]; rfl), if_pos h2]; rfl
          · rw [if_neg (by simp only [Bool.and_eq_true, decide_eq_true_eq]; exact h2), if_neg h2, ref_order_tail _ k hk (by omega)]
            by_cases h3 : 0 < k ∧ 0 ≤ ord2 g.Merges[k - 1]!.Row g.Merges[k]!.Row g.Merges[k - 1]!.Col g.Merges[k]!.Col
            · rw [if_pos h3, if_pos h3]; rfl
            · rw [if_neg h3, if_neg h3, iter_find (n := k) (fun j => if mtR g.Merges[j]! g.Merges[k]! then some (.inr (.ext 21)) else none) (fun j hjk => by
                unfold ref_GridError_L2
                rw [if_pos (by rw [decide_eq_true_eq]; omega), idx_nat (by omega), bnd1_some, share_eq hr h1 (errM_ins (hj j hjk)), bnd1_some, chk_nat (by omega)]
                cases mtR g.Merges[j]! g.Merges[k]! <;> rfl) (by unfold ref_GridError_L2; rw [if_neg (by rw [decide_eq_true_eq]; omega)]), findSome_map, ctl_outOf]
              unfold findM
              cases (List.range k).find? fun j => mtR g.Merges[j]! g.Merges[k]! with
              | none => rw [chk_nat (by omega)]; rfl
              | some j => rfl
        · rw [decide_eq_false h1, if_pos h1]; rfl) (by unfold ref_GridError_L1; rw [if_neg (by simp)]), out_getD]
    · rw [if_pos (ndT he), if_pos he]
  · rw [if_pos hr]
    unfold okRC at hr
    by_cases a : 0 ≤ g.Rows ∧ g.Rows ≤ 2147483647
    · rw [decide_eq_true a, show ((!true) == false) = true from rfl, gd_true, ref_In_dec, bnd1_some, decide_eq_false (show ¬ (0 ≤ g.Cols ∧ g.Cols ≤ 2147483647) by omega)]; rfl
    · rw [decide_eq_false a]; rfl
end Go.Proofs.YthoepnnckmfipaaGreatDoor.Al


namespace Go.Proofs.YthoepnnckmfipaaGreatDoor.Al
def lowCh (c : UInt8) : Bool := decide (97 ≤ c.toNat) && decide (c.toNat ≤ 122)
def lowAll (s : List UInt8) : Bool := (List.range s.length).all fun k => lowCh s[k]!
def placeOK (s : List UInt8) : Bool := decide (1 ≤ s.length) && decide (s.length ≤ 200) && !decide (s[s.length - 1]!.toNat = 97) && lowAll s
theorem place_loop (s : List UInt8) (hm : s.length ≤ 9223372036854775806) : iter (fun (a : Int) => ref_Place_L1 s a) 0 = some (outOf (if lowAll s then none else some false)) := by
  rw [iter_find (n := s.length) (fun k => if lowCh s[k]! then none else some false) (fun k hk => by
    unfold ref_Place_L1
    rw [if_pos (by simpa using hk), idx_nat hk, bnd1_some, chk_nat (by omega)]
    unfold lowCh
    generalize s[k]! = c
    by_cases h : 97 ≤ c.toNat ∧ c.toNat ≤ 122
    · rw [if_neg (by simp only [Bool.or_eq_true, decide_eq_true_eq]; omega), if_pos (by simp only [Bool.and_eq_true, decide_eq_true_eq]; exact h)]; rfl
    · rw [if_pos (by simp only [Bool.or_eq_true, decide_eq_true_eq]; omega), if_neg (by simp only [Bool.and_eq_true, decide_eq_true_eq]; exact h)]; rfl) (by unfold ref_Place_L1; rw [if_neg (by simp)]), find_const]
  rfl
theorem place_loops : replica_Place_L1 = ref_Place_L1 := by funext s x; rfl
theorem replica_Place_eq (s : List UInt8) (hm : s.length ≤ 9223372036854775806) : replica_Place s = some (placeOK s) := by
  unfold replica_Place placeOK
  rw [place_loops, place_loop s hm]
  by_cases h : 1 ≤ s.length ∧ s.length ≤ 200
  · have hne : s ≠ [] := List.length_pos_iff.1 h.1
    rw [decide_eq_false hne, decide_eq_false (show ¬ (200 : Int) < (s.length : Int) by omega), show ((false || false) == false) = true from rfl, gd_true, chk_pred h.1 (by omega), bnd1_some, gd_true, idx_nat (by omega), bnd1_some, decide_eq_true h.1, decide_eq_true h.2]
    by_cases h2 : s[s.length - 1]!.toNat = 97
    · rw [decide_eq_true h2, if_pos (by rw [decide_eq_true (show ((s[s.length - 1]!.toNat : Int) = 97) by omega)]; rfl)]; rfl
    · rw [decide_eq_false h2, if_neg (by rw [decide_eq_false (show ¬ ((s[s.length - 1]!.toNat : Int) = 97) by omega)]; decide)]
      cases lowAll s <;> rfl
  · have hc : ((decide (s = [])) || (decide (200 < (s.length : Int)))) = true := by
      rw [Bool.or_eq_true, decide_eq_true_eq, decide_eq_true_eq, ← List.length_eq_zero_iff]; omega
    have hd : (decide (1 ≤ s.length) && decide (s.length ≤ 200)) = false := by
      rw [← Bool.not_eq_true, Bool.and_eq_true, decide_eq_true_eq, decide_eq_true_eq]; exact h
    rw [hc, hd]; rfl
theorem ref_Place_eq (s : List UInt8) (hm : s.length ≤ 9223372036854775806) : ref_Place s = some (placeOK s) := by
  unfold ref_Place placeOK
  rw [place_loop s hm, ctl_outOf]
  cases lowAll s with
  | false => rw [Bool.and_false]; rfl
  | true =>
    rw [if_pos rfl, Bool.and_true]
    dsimp only
    by_cases h : 1 ≤ s.length ∧ s.length ≤ 200
    · rw [decide_eq_true (show (1 : Int) ≤ (s.length : Int) by omega), decide_eq_true (show (s.length : Int) ≤ 200 by omega), show ((true && true) == true) = true from rfl, gd_true, chk_pred h.1 (by omega), bnd1_some, gd_true, idx_nat (by omega), bnd1_some, decide_eq_true h.1, decide_eq_true h.2]
      by_cases h2 : s[s.length - 1]!.toNat = 97
      · rw [decide_eq_true h2, decide_eq_true (show ((s[s.length - 1]!.toNat : Int) = 97) by omega)]
      · rw [decide_eq_false h2, decide_eq_false (show ¬ ((s[s.length - 1]!.toNat : Int) = 97) by omega)]
    · have hc : ((decide (1 ≤ (s.length : Int))) && (decide ((s.length : Int) ≤ 200))) = false := by
        rw [← Bool.not_eq_true, Bool.and_eq_true, decide_eq_true_eq, decide_eq_true_eq]; omega
      have hd : (decide (1 ≤ s.length) && decide (s.length ≤ 200)) = false := by
        rw [← Bool.not_eq_true, Bool.and_eq_true, decide_eq_true_eq, decide_eq_true_eq]; exact h
      rw [hc, hd]; rfl
def rangeD (o : GDrawOp) : Prop := (1 ≤ o.Clock ∧ o.Clock ≤ 1073741824) ∧ (0 ≤ o.Site ∧ o.Site ≤ 1000) ∧ (1 ≤ o.Item ∧ o.Item ≤ 1073741824)
instance (o : GDrawOp) : Decidable (rangeD o) := by unfold rangeD; infer_instance
def drawE (o : GDrawOp) : Int :=
  if ¬ (o.Kind = 0 ∨ o.Kind = 1) then 8 else if ¬ rangeD o then 2
  else if o.Kind = 0 then (if o.Name ≠ [] ∨ o.Value ≠ [] then 4 else if ¬ (-1 ≤ o.Parent ∧ o.Parent ≤ 1073741824) then 2 else if placeOK o.Place = false then 9 else 0)
  else (if o.Parent ≠ 0 ∨ o.Place ≠ [] then 4 else if nameOK o.Name = false then 9 else if o.Value ≠ [] ∧ valOK o.Value = false then 23 else 0)
def errDr (l : List GDrawOp) (k : Nat) : Option Int :=
  if drawE l[k]! ≠ 0 then some (drawE l[k]!) else if 0 < k ∧ 0 ≤ ord2 l[k - 1]!.Clock l[k]!.Clock l[k - 1]!.Site l[k]!.Site then some 5 else none
def drawErr (l : List GDrawOp) : Int := ((List.range l.length).findSome? (errDr l)).getD 0
def okDr (o : GDrawOp) : Prop := o.Place.length ≤ 1073741824 ∧ o.Name.length ≤ 1073741824 ∧ o.Value.length ≤ 1073741824
theorem replica_op_eq (o : GDrawOp) (h : okDr o) : replica_op o = some (drawE o) := by
  obtain ⟨hp, hn, hv⟩ := h
  unfold replica_op drawE
  rw [replica_Place_eq _ (by omega), attr_Name_eq _ (by omega), attr_Value_eq _ (by omega)]
  by_cases k0 : o.Kind = 0
  · have k1 : ¬ o.Kind = 1 := by omega
    rw [if_neg (show ¬ ((!decide (o.Kind = 0)) && (!decide (o.Kind = 1))) = true by rw [decide_eq_true k0]; simp), if_neg (show ¬ ¬ (o.Kind = 0 ∨ o.Kind = 1) from fun h => h (.inl k0))]
    by_cases hr : rangeD o
    · have hr' := hr
      unfold rangeD at hr'
      rw [if_neg (by simp only [Bool.or_eq_true, decide_eq_true_eq]; omega), if_neg (Classical.not_not.2 hr), if_pos k0, decide_eq_true k0, decide_eq_false k1]
      by_cases c1 : o.Name ≠ [] ∨ o.Value ≠ []
      · have hc : (true && ((!decide (o.Name = [])) || (!decide (o.Value = [])))) = true := by
          rw [Bool.true_and, Bool.or_eq_true]
          rcases c1 with c | c
          · exact .inl (ndT c)
          · exact .inr (ndT c)
        rw [if_pos c1, hc]; rfl
      · have c2 : o.Name = [] ∧ o.Value = [] := ⟨Classical.byContradiction fun h => c1 (.inl h), Classical.byContradiction fun h => c1 (.inr h)⟩
        have hc : (true && ((!decide (o.Name = [])) || (!decide (o.Value = [])))) = false := by rw [decide_eq_true c2.1, decide_eq_true c2.2]; rfl
        rw [if_neg c1, hc]
        by_cases c3 : -1 ≤ o.Parent ∧ o.Parent ≤ 1073741824
        · rw [if_neg (Classical.not_not.2 c3)]
          have c4 : ((decide (o.Parent < (-1))) || (decide (1073741824 < o.Parent))) = false := by
            rw [← Bool.not_eq_true, Bool.or_eq_true, decide_eq_true_eq, decide_eq_true_eq]; omega
          rw [c4]
          cases placeOK o.Place with
          | false => rfl
          | true => rw [decide_eq_true c2.2]; rfl
        · rw [if_pos c3]
          have c4 : ((decide (o.Parent < (-1))) || (decide (1073741824 < o.Parent))) = true := by
            rw [Bool.or_eq_true, decide_eq_true_eq, decide_eq_true_eq]; omega
          rw [c4]; rfl
    · rw [if_pos (by unfold rangeD at hr; simp only [Bool.or_eq_true, decide_eq_true_eq]; omega), if_pos hr]
  · by_cases k1 : o.Kind = 1
    · rw [if_neg (show ¬ ((!decide (o.Kind = 0)) && (!decide (o.Kind = 1))) = true by rw [decide_eq_true k1, decide_eq_false k0]; decide), if_neg (show ¬ ¬ (o.Kind = 0 ∨ o.Kind = 1) from fun h => h (.inr k1))]
      by_cases hr : rangeD o
      · have hr' := hr
        unfold rangeD at hr'
        rw [if_neg (by simp only [Bool.or_eq_true, decide_eq_true_eq]; omega), if_neg (Classical.not_not.2 hr), if_neg k0, decide_eq_false k0, decide_eq_true k1]
        by_cases c1 : o.Parent ≠ 0 ∨ o.Place ≠ []
        · have hc : (true && ((!decide (o.Parent = 0)) || (!decide (o.Place = [])))) = true := by
            rw [Bool.true_and, Bool.or_eq_true]
            rcases c1 with c | c
            · exact .inl (ndT c)
            · exact .inr (ndT c)
          rw [if_pos c1, hc]; rfl
        · have c2 : o.Parent = 0 ∧ o.Place = [] := ⟨Classical.byContradiction fun h => c1 (.inl h), Classical.byContradiction fun h => c1 (.inr h)⟩
          have hc : (true && ((!decide (o.Parent = 0)) || (!decide (o.Place = [])))) = false := by rw [decide_eq_true c2.1, decide_eq_true c2.2]; rfl
          rw [if_neg c1, hc]
          cases nameOK o.Name with
          | false => rfl
          | true =>
            by_cases c3 : o.Value = []
            · rw [decide_eq_true c3, if_neg (show ¬ (true = false) by decide), if_neg (show ¬ (o.Value ≠ [] ∧ valOK o.Value = false) from fun h => h.1 c3)]; rfl
            · rw [decide_eq_false c3, if_neg (show ¬ (true = false) by decide)]
              cases hvv : valOK o.Value with
              | false => rw [if_pos (show o.Value ≠ [] ∧ false = false from ⟨c3, rfl⟩)]; rfl
              | true => rw [if_neg (show ¬ (o.Value ≠ [] ∧ true = false) from fun h => by cases h.2)]; rfl
      · rw [if_pos (by unfold rangeD at hr; simp only [Bool.or_eq_true, decide_eq_true_eq]; omega), if_pos hr]
    · rw [if_pos (show ((!decide (o.Kind = 0)) && (!decide (o.Kind = 1))) = true by rw [decide_eq_false k1, decide_eq_false k0]; rfl), if_pos (show ¬ (o.Kind = 0 ∨ o.Kind = 1) from fun h => h.elim k0 k1)]
theorem stamps_eq (a b : GDrawOp) : replica_stamps a b = some (ord2 a.Clock b.Clock a.Site b.Site) := by
  unfold replica_stamps
  rw [cmp_eq, cmp_eq, bnd1_some, bnd1_some, cmp_Or_eq, bnd1_some, or2]
theorem earlier_eq (a b : GDrawOp) : ref_Earlier a b = some (!decide (0 ≤ ord2 a.Clock b.Clock a.Site b.Site)) := by
  unfold ref_Earlier
  congr 1
  rw [Bool.eq_iff_iff]
  have := ord2_ge a.Clock b.Clock a.Site b.Site
  simp only [Bool.or_eq_true, Bool.and_eq_true, decide_eq_true_eq, Bool.not_eq_true', decide_eq_false_iff_not, this]
  omega
theorem replica_Check_eq (l : List GDrawOp) (hm : l.length ≤ 1073741824) (hl : ∀ o ∈ l, okDr o) : replica_Check l = some (drawErr l) := by
  unfold replica_Check
  rw [iter_find (n := l.length) (errDr l) (fun k hk => by
    unfold replica_Check_L1 errDr
    rw [if_pos (by simpa using hk), idx_nat hk, bnd1_some, replica_op_eq _ (hl _ (mem_at hk)), bnd1_some]
    by_cases e : drawE l[k]! = 0
    · rw [if_neg (ndF e), if_neg (Classical.not_not.2 e)]
      by_cases h0 : 0 < k
      · rw [decide_eq_true (show (0 : Int) < k by omega), show ((true == true) : Bool) = true from rfl, gd_true, chk_pred h0 (by omega), bnd1_some, gd_true, idx_nat (show k - 1 < l.length by omega), bnd1_some, gd_true, stamps_eq, bnd1_some]
        by_cases h3 : 0 ≤ ord2 l[k - 1]!.Clock l[k]!.Clock l[k - 1]!.Site l[k]!.Site
        · rw [decide_eq_true h3, if_pos (show 0 < k ∧ 0 ≤ ord2 l[k - 1]!.Clock l[k]!.Clock l[k - 1]!.Site l[k]!.Site from ⟨h0, h3⟩)]; rfl
        · rw [decide_eq_false h3, if_neg (show ¬ (0 < k ∧ 0 ≤ ord2 l[k - 1]!.Clock l[k]!.Clock l[k - 1]!.Site l[k]!.Site) from fun h => h3 h.2), chk_nat (by omega)]; rfl
      · rw [if_neg (show ¬ (0 < k ∧ 0 ≤ ord2 l[k - 1]!.Clock l[k]!.Clock l[k - 1]!.Site l[k]!.Site) from fun h => h0 h.1), decide_eq_false (show ¬ (0 : Int) < k by omega), chk_nat (by omega)]; rfl
    · rw [if_pos (ndT e), if_pos e]; rfl) (by unfold replica_Check_L1; rw [if_neg (by simp)]), out_getD]
  rfl
theorem ref_DrawError_eq (l : List GDrawOp) (hm : l.length ≤ 1073741824) (hl : ∀ o ∈ l, okDr o) : ref_DrawError l = some (drawErr l) := by
  unfold ref_DrawError
  rw [iter_find (n := l.length) (errDr l) (fun k hk => by
    obtain ⟨hp, hn, hv⟩ := hl _ (mem_at hk)
    have htail : (bnd1 (gd ((decide (0 < (k : Int))) == true) (chk .i64 ((k : Int) - 1))) fun (x5 : Int) =>
        bnd1 (gd ((decide (0 < (k : Int))) == true) (idx l x5)) fun (x6 : GDrawOp) =>
        bnd1 (gd ((decide (0 < (k : Int))) == true) (ref_Earlier x6 l[k]!)) fun (r4 : Bool) =>
        if ((decide (0 < (k : Int))) && (!r4)) then (some (.inr (.ext 5)) : Option (Int ⊕ (Ctl Unit Int))) else (
          bnd1 (chk .i64 ((k : Int) + 1)) fun (x7 : Int) => some (.inl x7))) = stepOf k (if 0 < k ∧ 0 ≤ ord2 l[k - 1]!.Clock l[k]!.Clock l[k - 1]!.Site l[k]!.Site then some 5 else none) := by
      by_cases h0 : 0 < k
      · rw [decide_eq_true (show (0 : Int) < k by omega), show ((true == true) : Bool) = true from rfl, gd_true, chk_pred h0 (by omega), bnd1_some, gd_true, idx_nat (show k - 1 < l.length by omega), bnd1_some, gd_true, earlier_eq, bnd1_some]
        by_cases h3 : 0 ≤ ord2 l[k - 1]!.Clock l[k]!.Clock l[k - 1]!.Site l[k]!.Site
        · rw [decide_eq_true h3, if_pos (show 0 < k ∧ 0 ≤ ord2 l[k - 1]!.Clock l[k]!.Clock l[k - 1]!.Site l[k]!.Site from ⟨h0, h3⟩)]; rfl
        · rw [decide_eq_false h3, if_neg (show ¬ (0 < k ∧ 0 ≤ ord2 l[k - 1]!.Clock l[k]!.Clock l[k - 1]!.Site l[k]!.Site) from fun h => h3 h.2), chk_nat (by omega)]; rfl
      · rw [if_neg (show ¬ (0 < k ∧ 0 ≤ ord2 l[k - 1]!.Clock l[k]!.Clock l[k - 1]!.Site l[k]!.Site) from fun h => h0 h.1), decide_eq_false (show ¬ (0 : Int) < k by omega), chk_nat (by omega)]; rfl
    unfold ref_DrawError_L1 errDr drawE
    rw [if_pos (by simpa using hk), idx_nat hk, bnd1_some, htail, ref_In_dec, bnd1_some, ref_In_dec, ref_In_dec, ref_In_dec, ref_Place_eq _ (by omega), ref_Name_eq _ (by omega), ref_Value_eq _ (by omega)]
    generalize l[k]! = o at hp hn hv ⊢
    by_cases kk : o.Kind = 0 ∨ o.Kind = 1
    · rw [if_neg (show ¬ ((!decide (o.Kind = 0)) && (!decide (o.Kind = 1))) = true by rcases kk with h | h <;> rw [decide_eq_true h] <;> simp), if_neg (Classical.not_not.2 kk)]
      by_cases hr : rangeD o
      · rw [if_neg (Classical.not_not.2 hr), decide_eq_true hr.1, show ((!true) == false) = true from rfl, gd_true, bnd1_some, decide_eq_true hr.2.1, show (((!true) || (!true)) == false) = true from rfl, gd_true, bnd1_some, decide_eq_true hr.2.2, if_neg (show ¬ (((!true) || (!true)) || (!true)) = true by decide)]
        by_cases k0 : o.Kind = 0
        · rw [if_pos (decide_eq_true k0), if_pos k0]
          by_cases c1 : o.Name ≠ [] ∨ o.Value ≠ []
          · have hc : ((!decide (o.Name = [])) || (!decide (o.Value = []))) = true := by
              rw [Bool.or_eq_true]
              rcases c1 with c | c
              · exact .inl (ndT c)
              · exact .inr (ndT c)
            rw [if_pos c1, if_pos hc]; rfl
          · have c2 : o.Name = [] ∧ o.Value = [] := ⟨Classical.byContradiction fun h => c1 (.inl h), Classical.byContradiction fun h => c1 (.inr h)⟩
            rw [if_neg c1, if_neg (show ¬ ((!decide (o.Name = [])) || (!decide (o.Value = []))) = true by rw [decide_eq_true c2.1, decide_eq_true c2.2]; decide), bnd1_some]
            by_cases c3 : -1 ≤ o.Parent ∧ o.Parent ≤ 1073741824
            · rw [if_neg (Classical.not_not.2 c3), decide_eq_true c3, if_neg (show ¬ ((!true) = true) by decide), bnd1_some]
              cases placeOK o.Place <;> rfl
            · rw [if_pos c3, decide_eq_false c3]; rfl
        · rw [if_neg (show ¬ decide (o.Kind = 0) = true by simpa using k0), if_neg k0]
          by_cases c1 : o.Parent ≠ 0 ∨ o.Place ≠ []
          · have hc : ((!decide (o.Parent = 0)) || (!decide (o.Place = []))) = true := by
              rw [Bool.or_eq_true]
              rcases c1 with c | c
              · exact .inl (ndT c)
              · exact .inr (ndT c)
            rw [if_pos c1, if_pos hc]; rfl
          · have c2 : o.Parent = 0 ∧ o.Place = [] := ⟨Classical.byContradiction fun h => c1 (.inl h), Classical.byContradiction fun h => c1 (.inr h)⟩
            rw [if_neg c1, if_neg (show ¬ ((!decide (o.Parent = 0)) || (!decide (o.Place = []))) = true by rw [decide_eq_true c2.1, decide_eq_true c2.2]; decide), bnd1_some]
            cases nameOK o.Name with
            | false => rfl
            | true =>
              by_cases c3 : o.Value = []
              · rw [decide_eq_true c3, if_neg (show ¬ (true = false) by decide), if_neg (show ¬ (o.Value ≠ [] ∧ valOK o.Value = false) from fun h => h.1 c3)]; rfl
              · rw [decide_eq_false c3, if_neg (show ¬ (true = false) by decide)]
                cases hvv : valOK o.Value with
                | false => rw [if_pos (show o.Value ≠ [] ∧ false = false from ⟨c3, rfl⟩)]; rfl
                | true => rw [if_neg (show ¬ (o.Value ≠ [] ∧ true = false) from fun h => by cases h.2)]; rfl
      · rw [if_pos hr]
        unfold rangeD at hr
        by_cases a1 : 1 ≤ o.Clock ∧ o.Clock ≤ 1073741824
        · rw [decide_eq_true a1, show ((!true) == false) = true from rfl, gd_true, bnd1_some]
          by_cases a2 : 0 ≤ o.Site ∧ o.Site ≤ 1000
          · rw [decide_eq_true a2, show (((!true) || (!true)) == false) = true from rfl, gd_true, bnd1_some, decide_eq_false (show ¬ (1 ≤ o.Item ∧ o.Item ≤ 1073741824) by omega)]; rfl
          · rw [decide_eq_false a2]; rfl
        · rw [decide_eq_false a1]; rfl
    · have hk2 : ((!decide (o.Kind = 0)) && (!decide (o.Kind = 1))) = true := by
        rw [decide_eq_false (fun h => kk (.inl h)), decide_eq_false (fun h => kk (.inr h))]; rfl
      rw [if_pos hk2, if_pos kk]; rfl) (by unfold ref_DrawError_L1; rw [if_neg (by simp)]), out_getD]
  rfl
end Go.Proofs.YthoepnnckmfipaaGreatDoor.Al


namespace Go.Proofs.YthoepnnckmfipaaGreatDoor.Al
theorem texts_same : ref_HasText = doc_Texts := by funext k; rfl
theorem lists_same : ref_HasList = doc_Lists := by funext k; rfl
theorem grids_same : ref_HasGrid = doc_Grids := by funext k; rfl
theorem draws_same : ref_HasDraw = doc_Draws := by funext k; rfl
structure okN2 (n : GNode) : Prop where
  ok : okN n
  ce : ∀ c ∈ n.Grid.Cells, okC c
  dr : ∀ o ∈ n.Draw, okDr o
theorem okN2.gd {n : GNode} (h : okN2 n) : okGd n.Grid := ⟨h.ok.gr.1, h.ok.gr.2.1, h.ce⟩
def kindE (kind : Int) (c : GCell) : Bool := ((decide (kind = 2)) && ((!decide (c.Text = [])) || (decide (0 < (c.Attrs.length : Int))))) || ((decide (kind = 6)) && (!decide (c.Ref = 0)))
def kindsErr (kind : Int) (l : List GCell) : Int := ((List.range l.length).findSome? fun k => if kindE kind l[k]! then some (4 : Int) else none).getD 0
theorem checkCells_eq (kind : Int) (l : List GCell) (hm : l.length ≤ 1073741824) : doc_CheckCells kind l = some (kindsErr kind l) := by
  unfold doc_CheckCells
  rw [iter_find (n := l.length) (fun k => if kindE kind l[k]! then some (4 : Int) else none) (fun k hk => by
    unfold doc_CheckCells_L1
    rw [if_pos (by simpa using hk), idx_nat hk, bnd1_some, chk_nat (by omega)]
    show (if kindE kind l[k]! = true then _ else _) = _
    cases kindE kind l[k]! <;> rfl) (by unfold doc_CheckCells_L1; rw [if_neg (by simp)]), out_getD]
  rfl
theorem cellKinds_eq (kind : Int) (l : List GCell) (hm : l.length ≤ 1073741824) : ref_CellKinds kind l = some (kindsErr kind l) := by
  unfold ref_CellKinds
  rw [iter_find (n := l.length) (fun k => if kindE kind l[k]! then some (4 : Int) else none) (fun k hk => by
    unfold ref_CellKinds_L1 kindE
    rw [if_pos (by simpa using hk), idx_nat hk, chk_nat (by omega)]
    generalize l[k]! = c
    by_cases h2 : kind = 2
    · have h6 : ¬ kind = 6 := by omega
      rw [decide_eq_true h2, decide_eq_false h6]
      rw [show ((true == true) : Bool) = true from rfl, gd_true, bnd1_some]
      generalize ((!decide (c.Text = [])) || (decide (0 < (c.Attrs.length : Int)))) = q
      cases q <;> rfl
    · by_cases h6 : kind = 6
      · rw [decide_eq_false h2, decide_eq_true h6]
        rw [show ((false == true) : Bool) = false from rfl, gd_false, bnd1_some]
        show (bnd1 (gd true (some c)) fun (x5 : GCell) => _) = _
        rw [gd_true, bnd1_some]
        generalize (!decide (c.Ref = 0)) = q
        cases q <;> rfl
      · rw [decide_eq_false h2, decide_eq_false h6]; rfl) (by unfold ref_CellKinds_L1; rw [if_neg (by simp)]), out_getD]
  rfl
def formB (t l g z d fl dr : Bool) : Bool := ((!(t || l) && fl) || (!g && !z)) || (!d && dr)
theorem form_impl (t l g z d fl dr : Bool) :
    (if (((!(t || l)) && fl) == false) then (
      if ((!g) == true) then (
        bnd1 (gd ((((!(t || l)) && fl) || ((!g) && (!z))) == false) (some d)) fun (r8 : Bool) =>
        some ((((!(t || l)) && fl) || ((!g) && (!z))) || ((!r8) && dr))
      ) else (
        bnd1 (gd ((((!(t || l)) && fl) || ((!g) && false)) == false) (some d)) fun (r9 : Bool) =>
        some ((((!(t || l)) && fl) || ((!g) && false)) || ((!r9) && dr))
      )
    ) else (
      bnd1 (gd ((((!(t || l)) && fl) || false) == false) (some d)) fun (r10 : Bool) =>
      some ((((!(t || l)) && fl) || false) || ((!r10) && dr))
    )) = some (formB t l g z d fl dr) := by
  cases t <;> cases l <;> cases g <;> cases z <;> cases d <;> cases fl <;> cases dr <;> rfl
theorem form_ref {X : Type} (t l g z d fl dr : Bool) (A B : Option X) :
    (bnd1 (gd ((fl && (!(t || l))) == false) (some z)) fun (r5 : Bool) =>
      bnd1 (gd (((fl && (!(t || l))) == false) && ((!r5) == true)) (some g)) fun (r6 : Bool) =>
      bnd1 (gd ((((fl && (!(t || l))) || ((!r5) && (!r6))) == false) && (dr == true)) (some d)) fun (r7 : Bool) =>
      if (((fl && (!(t || l))) || ((!r5) && (!r6))) || (dr && (!r7))) then A else B) = if formB t l g z d fl dr = true then A else B := by
  cases t <;> cases l <;> cases g <;> cases z <;> cases d <;> cases fl <;> cases dr <;> rfl
theorem lenC_zero {α : Type} (l : List α) : decide ((l.length : Int) = 0) = l.isEmpty := by
  cases l with
  | nil => rfl
  | cons a l => exact decide_eq_false (by simp only [List.length_cons]; omega)
theorem zeroGrid_eq (g : GGrid) : ref_zeroGrid g = some (decide (g = GGrid.mk 0 0 [] [])) := by
  unfold ref_zeroGrid
  congr 1
  obtain ⟨a, b, c, d⟩ := g
  rw [lenC_zero, lenC_zero, Bool.eq_iff_iff]
  simp [and_assoc]
theorem node_both (n : GNode) (h : okN2 n) : ∃ e, doc_CheckNode n = some e ∧ ref_NodeError n = some e := by
  have ha := h.ok.at_
  have hf := h.ok.fl
  have hg := h.ok.gr
  have hd := h.ok.dr
  have hfe : ∀ x ∈ n.Flow, okE x := fun x hx => ⟨by have := (h.ok.fa x hx).1; omega, (h.ok.fa x hx).2⟩
  unfold doc_CheckNode ref_NodeError
  rw [texts_same, lists_same, grids_same, draws_same, ref_In_dec, bnd1_some]
  by_cases c1 : 1 ≤ n.ID ∧ n.ID ≤ 1073741824
  · rw [if_neg (show ¬ ((decide (n.ID < 1)) || (decide (1073741824 < n.ID))) = true by simp only [Bool.or_eq_true, decide_eq_true_eq]; omega), decide_eq_true c1, if_neg (show ¬ ((!true) = true) by decide), ref_In_dec, bnd1_some]
    by_cases c2 : (0 ≤ n.Kind ∧ n.Kind ≤ 12) ∧ (n.ID = 1 ↔ n.Kind = 0)
    · obtain ⟨c2, c3⟩ := c2
      have e1 : (((decide (n.Kind < 0)) || (decide (13 ≤ n.Kind))) || (!((decide (n.ID = 1)) == (decide (n.Kind = 0))))) = false := by
        rw [decide_eq_false (show ¬ n.Kind < 0 by omega), decide_eq_false (show ¬ 13 ≤ n.Kind by omega)]
        by_cases q : n.ID = 1
        · rw [decide_eq_true q, decide_eq_true (c3.1 q)]; rfl
        · rw [decide_eq_false q, decide_eq_false (fun e => q (c3.2 e))]; rfl
      have e2 : (((!decide (0 ≤ n.Kind ∧ n.Kind ≤ 12)) || ((decide (n.ID = 1)) && (!decide (n.Kind = 0)))) || ((!decide (n.ID = 1)) && (decide (n.Kind = 0)))) = false := by
        rw [decide_eq_true c2]
        by_cases q : n.ID = 1
        · rw [decide_eq_true q, decide_eq_true (c3.1 q)]; rfl
        · rw [decide_eq_false q, decide_eq_false (fun e => q (c3.2 e))]; rfl
      rw [e1, e2, if_neg (show ¬ (false = true) by decide), if_neg (show ¬ (false = true) by decide), attr_Check_eq _ ha.2 (by have := ha.1; omega), bnd1_some, ref_AttrsError_eq _ _ ha.2 (by have := ha.1; omega), bnd1_some]
      by_cases c4 : attrErr n.Attrs false = 0
      · rw [if_neg (ndF c4), if_neg (ndF c4)]
        obtain ⟨t, ht⟩ : ∃ t, doc_Texts n.Kind = some t := ⟨_, rfl⟩
        obtain ⟨l, hl⟩ : ∃ t, doc_Lists n.Kind = some t := ⟨_, rfl⟩
        obtain ⟨g, hgk⟩ : ∃ t, doc_Grids n.Kind = some t := ⟨_, rfl⟩
        obtain ⟨d, hdk⟩ : ∃ t, doc_Draws n.Kind = some t := ⟨_, rfl⟩
        rw [ht, hl, hgk, hdk, bnd1_some, bnd1_some, grid_eq _ _ hg, zeroGrid_eq]
        have hll : ∃ l', gd (t == false) (some l) = some l' := by cases t <;> exact ⟨_, rfl⟩
        obtain ⟨l', hl'⟩ := hll
        rw [hl', bnd1_some, bnd1_some, bnd1_some, form_impl, bnd1_some, bnd1_some, form_ref]
        by_cases c5 : formB t l' g (decide (n.Grid = GGrid.mk 0 0 [] [])) d (decide (0 < (n.Flow.length : Int))) (decide (0 < (n.Draw.length : Int))) = true
        · rw [if_pos c5, if_pos c5]; exact ⟨_, rfl, rfl⟩
        · rw [if_neg c5, if_neg c5]
          by_cases c6 : (t || l') = true
          · obtain ⟨r, h1, h2⟩ := checks_same n.Flow t hfe (by omega)
            rw [if_pos c6, if_pos c6, h1, h2]; exact ⟨_, rfl, rfl⟩
          · rw [if_neg c6, if_neg c6]
            cases g with
            | true =>
              rw [if_pos rfl, grid_Check_eq _ h.gd, bnd1_some, bnd1_some, if_pos rfl, ref_GridError_eq _ h.gd, bnd1_some]
              by_cases c7 : gridErr n.Grid = 0
              · rw [if_neg (ndF c7), if_neg (ndF c7), checkCells_eq _ _ (by have := hg.1; omega), cellKinds_eq _ _ (by have := hg.1; omega)]; exact ⟨_, rfl, rfl⟩
              · rw [if_pos (ndT c7), if_pos (ndT c7)]; exact ⟨_, rfl, rfl⟩
            | false =>
              rw [if_neg (show ¬ (false = true) by decide), bnd1_some, if_neg (show ¬ (false = true) by decide), replica_Check_eq _ (by omega) h.dr, ref_DrawError_eq _ (by omega) h.dr]; exact ⟨_, rfl, rfl⟩
      · rw [if_pos (ndT c4), if_pos (ndT c4)]; exact ⟨_, rfl, rfl⟩
    · have e1 : (((decide (n.Kind < 0)) || (decide (13 ≤ n.Kind))) || (!((decide (n.ID = 1)) == (decide (n.Kind = 0))))) = true := by
        by_cases q1 : 0 ≤ n.Kind ∧ n.Kind ≤ 12
        · have q2 : ¬ (n.ID = 1 ↔ n.Kind = 0) := fun e => c2 ⟨q1, e⟩
          by_cases q : n.ID = 1
          · rw [decide_eq_true q, decide_eq_false (fun e => q2 ⟨fun _ => e, fun _ => q⟩), Bool.or_eq_true]; exact .inr rfl
          · rw [decide_eq_false q, decide_eq_true (Classical.byContradiction fun e => q2 ⟨fun x => absurd x q, fun x => absurd x e⟩), Bool.or_eq_true]; exact .inr rfl
        · simp only [Bool.or_eq_true, decide_eq_true_eq]; exact .inl (by omega)
      have e2 : (((!decide (0 ≤ n.Kind ∧ n.Kind ≤ 12)) || ((decide (n.ID = 1)) && (!decide (n.Kind = 0)))) || ((!decide (n.ID = 1)) && (decide (n.Kind = 0)))) = true := by
        by_cases q1 : 0 ≤ n.Kind ∧ n.Kind ≤ 12
        · have q2 : ¬ (n.ID = 1 ↔ n.Kind = 0) := fun e => c2 ⟨q1, e⟩
          rw [decide_eq_true q1]
          by_cases q : n.ID = 1
          · rw [decide_eq_true q, decide_eq_false (fun e => q2 ⟨fun _ => e, fun _ => q⟩)]; rfl
          · rw [decide_eq_false q, decide_eq_true (Classical.byContradiction fun e => q2 ⟨fun x => absurd x q, fun x => absurd x e⟩)]; rfl
        · rw [decide_eq_false q1]; rfl
      rw [e1, e2]; exact ⟨_, rfl, rfl⟩
  · rw [if_pos (show ((decide (n.ID < 1)) || (decide (1073741824 < n.ID))) = true by simp only [Bool.or_eq_true, decide_eq_true_eq]; omega), decide_eq_false c1]; exact ⟨_, rfl, rfl⟩
end Go.Proofs.YthoepnnckmfipaaGreatDoor.Al


namespace Go.Proofs.YthoepnnckmfipaaGreatDoor.Al
end Go.Proofs.YthoepnnckmfipaaGreatDoor.Al


namespace Go.Proofs.YthoepnnckmfipaaGreatDoor.Al
def okDoc2 (d : GDoc) : Prop := d.Nodes.length ≤ 1048576 ∧ ∀ n ∈ d.Nodes, okN2 n
theorem okDoc2_bulk {μ : GNode → Nat} {γ : GGrid → Nat} {ψ : GCell → Nat} {ρ : GRect → Nat} {δ : GDrawOp → Nat} {ν : GElem → Nat} {κ : GAttr → Nat}
    (hn : ∀ n, (n.Attrs.map κ).sum + (n.Flow.map ν).sum + γ n.Grid + (n.Draw.map δ).sum + 1 ≤ μ n) (hg : ∀ g, (g.Cells.map ψ).sum + (g.Merges.map ρ).sum + 1 ≤ γ g)
    (hc : ∀ c, c.Text.length + (c.Attrs.map κ).sum + 1 ≤ ψ c) (hr : ∀ r, 1 ≤ ρ r) (hd : ∀ o, o.Place.length + o.Name.length + o.Value.length + 1 ≤ δ o) (he : ∀ e, (e.Attrs.map κ).sum + 1 ≤ ν e) (ha : ∀ a, a.Name.length + a.Value.length + 1 ≤ κ a)
    {d : GDoc} (hb : (d.Nodes.map μ).sum ≤ 1048576) : okDoc2 d := by
  have h1 := okDoc_bulk hn hg (fun c => by have := hc c; omega) hr (fun o => by have := hd o; omega) he ha hb
  refine ⟨h1.1, fun n hm => ⟨h1.2 n hm, fun c hcm => ⟨(h1.2 n hm).gr.2.2 c hcm, ?_⟩, fun o hom => ?_⟩⟩
  · have h2 := mem_le_sum (μ := μ) hm
    have h3 := hn n
    have h4 := hg n.Grid
    have h5 := mem_le_sum (μ := ψ) hcm
    have := hc c
    omega
  · have h2 := mem_le_sum (μ := μ) hm
    have h3 := hn n
    have h5 := mem_le_sum (μ := δ) hom
    have := hd o
    exact ⟨by omega, by omega, by omega⟩
end Go.Proofs.YthoepnnckmfipaaGreatDoor.Al


namespace Go.Proofs.YthoepnnckmfipaaGreatDoor.Al
def splitG (l : List GRect) (k : Nat) : Option Int := if ¬ insR 2147483647 2147483647 l[k]! then some 2 else none
def mergeG (l : List GRect) (k : Nat) : Option Int := if ¬ insR 2147483647 2147483647 l[k]! then some 2 else if l[k]!.H = 1 ∧ l[k]!.W = 1 then some 4 else none
def splitErr (l : List GRect) : Option Int := (List.range l.length).findSome? (splitG l)
def mergeErr (l : List GRect) : Option Int := (List.range l.length).findSome? (mergeG l)
def rectsErr (e : GGridEdit) : Int := match splitErr e.Split with | some r => r | none => (mergeErr e.Merge).getD 0
def editErr (e : GGridEdit) : Int := if axErr e.Rows ≠ 0 then axErr e.Rows else if axErr e.Cols ≠ 0 then axErr e.Cols else
  if cellsErr 2147483647 2147483647 true e.Cells ≠ 0 then cellsErr 2147483647 2147483647 true e.Cells else rectsErr e
structure okEd (e : GGridEdit) : Prop where
  rows : e.Rows.length ≤ 1048576
  cols : e.Cols.length ≤ 1048576
  cells : e.Cells.length ≤ 1048576
  split : e.Split.length ≤ 1048576
  merge : e.Merge.length ≤ 1048576
  oc : ∀ c ∈ e.Cells, okC c
theorem okRC_max : okRC 2147483647 2147483647 := by decide
theorem findSome_mapO {α β ρ : Type} (l : List α) (G : α → Option β) (w : β → ρ) : (l.findSome? fun k => (G k).map w) = (l.findSome? G).map w := by
  induction l with
  | nil => rfl
  | cons a l ih =>
    rw [List.findSome?_cons, List.findSome?_cons]
    cases G a with
    | none => exact ih
    | some b => rfl
theorem edit_split (l : List GRect) (hm : l.length ≤ 1048576) : iter (fun (a : Int) => grid_CheckEdit_L3 0 l a) 0 = some (outOf ((splitErr l).map fun v => (.inr (.ext v) : Int ⊕ Ctl Unit Int))) := by
  unfold splitErr
  rw [← findSome_mapO]
  refine iter_find (f := fun (a : Int) => grid_CheckEdit_L3 0 l a) (n := l.length) (fun k => (splitG l k).map fun v => (.inr (.ext v) : Int ⊕ Ctl Unit Int)) (fun k hk => ?_) ?_
  · unfold grid_CheckEdit_L3 splitG
    rw [if_pos (by simpa using hk), idx_nat hk, bnd1_some, inside_eq _ _ _ okRC_max, bnd1_some]
    by_cases hi : insR 2147483647 2147483647 l[k]!
    · rw [if_neg (show ¬ (!decide (insR 2147483647 2147483647 l[k]!)) = true by rw [decide_eq_true hi]; decide), if_neg (show ¬ (((decide ((0 : Int) = 1)) && (decide (l[k]!.H = 1))) && (decide (l[k]!.W = 1))) = true by simp), if_neg (show ¬ ¬ insR 2147483647 2147483647 l[k]! from fun h => h hi), chk_nat (by omega), bnd1_some]; rfl
    · rw [if_pos (by rw [decide_eq_false hi]; rfl), if_pos hi]; rfl
  · show grid_CheckEdit_L3 0 l (l.length : Int) = _
    unfold grid_CheckEdit_L3
    rw [if_neg (by simp)]
theorem edit_merge (l : List GRect) (hm : l.length ≤ 1048576) : iter (fun (a : Int) => grid_CheckEdit_L3 1 l a) 0 = some (outOf ((mergeErr l).map fun v => (.inr (.ext v) : Int ⊕ Ctl Unit Int))) := by
  unfold mergeErr
  rw [← findSome_mapO]
  refine iter_find (f := fun (a : Int) => grid_CheckEdit_L3 1 l a) (n := l.length) (fun k => (mergeG l k).map fun v => (.inr (.ext v) : Int ⊕ Ctl Unit Int)) (fun k hk => ?_) ?_
  · unfold grid_CheckEdit_L3 mergeG
    rw [if_pos (by simpa using hk), idx_nat hk, bnd1_some, inside_eq _ _ _ okRC_max, bnd1_some]
    by_cases hi : insR 2147483647 2147483647 l[k]!
    · rw [if_neg (show ¬ (!decide (insR 2147483647 2147483647 l[k]!)) = true by rw [decide_eq_true hi]; decide), if_neg (show ¬ ¬ insR 2147483647 2147483647 l[k]! from fun h => h hi)]
      by_cases h1 : l[k]!.H = 1 ∧ l[k]!.W = 1
      · rw [if_pos (show (((decide ((1 : Int) = 1)) && (decide (l[k]!.H = 1))) && (decide (l[k]!.W = 1))) = true by rw [decide_eq_true h1.1, decide_eq_true h1.2]; rfl), if_pos h1]; rfl
      · rw [if_neg (show ¬ (((decide ((1 : Int) = 1)) && (decide (l[k]!.H = 1))) && (decide (l[k]!.W = 1))) = true by simp only [Bool.and_eq_true, decide_eq_true_eq]; rintro ⟨⟨_, a⟩, b⟩; exact h1 ⟨a, b⟩), if_neg h1, chk_nat (by omega), bnd1_some]; rfl
    · rw [if_pos (by rw [decide_eq_false hi]; rfl), if_pos hi]; rfl
  · show grid_CheckEdit_L3 1 l (l.length : Int) = _
    unfold grid_CheckEdit_L3
    rw [if_neg (by simp)]
theorem edit_rects (e : GGridEdit) (h : okEd e) : (ctl1 (iter (fun (a : Int) => grid_CheckEdit_L2 e a) 0) fun (_ : Unit) => some (0 : Int)) = some (rectsErr e) := by
  have hs := edit_split e.Split h.split
  have hm := edit_merge e.Merge h.merge
  have i0 : idx ([e.Split, e.Merge] : List (List GRect)) 0 = some e.Split := rfl
  have i1 : idx ([e.Split, e.Merge] : List (List GRect)) 1 = some e.Merge := rfl
  have s0 : grid_CheckEdit_L2 e 0 = match splitErr e.Split with | some r => some (.inr (.ext r)) | none => some (.inl 1) := by
    unfold grid_CheckEdit_L2
    rw [if_pos (by decide), i0, bnd1_some, hs]
    cases splitErr e.Split with
    | some r => rfl
    | none => rw [show outOf ((none : Option Int).map fun v => (.inr (.ext v) : Int ⊕ Ctl Unit Int)) = .nrm () from rfl, ctl1_nrm, chk64 (by decide) (by decide), bnd1_some]; rfl
  have s1 : grid_CheckEdit_L2 e 1 = match mergeErr e.Merge with | some r => some (.inr (.ext r)) | none => some (.inl 2) := by
    unfold grid_CheckEdit_L2
    rw [if_pos (by decide), i1, bnd1_some, hm]
    cases mergeErr e.Merge with
    | some r => rfl
    | none => rw [show outOf ((none : Option Int).map fun v => (.inr (.ext v) : Int ⊕ Ctl Unit Int)) = .nrm () from rfl, ctl1_nrm, chk64 (by decide) (by decide), bnd1_some]; rfl
  have s2 : grid_CheckEdit_L2 e 2 = some (.inr (.nrm ())) := by
    unfold grid_CheckEdit_L2
    rw [if_neg (by decide)]
  unfold rectsErr
  cases hsp : splitErr e.Split with
  | some r =>
    rw [hsp] at s0
    rw [iter_stop (f := fun (a : Int) => grid_CheckEdit_L2 e a) s0, ctl1_ext]
  | none =>
    rw [hsp] at s0
    rw [iter_next (f := fun (a : Int) => grid_CheckEdit_L2 e a) s0]
    cases hmg : mergeErr e.Merge with
    | some r =>
      rw [hmg] at s1
      rw [iter_stop (f := fun (a : Int) => grid_CheckEdit_L2 e a) s1, ctl1_ext]; rfl
    | none =>
      rw [hmg] at s1
      rw [iter_next (f := fun (a : Int) => grid_CheckEdit_L2 e a) s1, iter_stop (f := fun (a : Int) => grid_CheckEdit_L2 e a) s2, ctl1_nrm]; rfl
theorem grid_CheckEdit_eq (e : GGridEdit) (h : okEd e) : grid_CheckEdit e = some (editErr e) := by
  have h1 := h.rows
  have h2 := h.cols
  have h3 := h.cells
  have i0 : idx ([e.Rows, e.Cols] : List (List GAxisStep)) 0 = some e.Rows := rfl
  have i1 : idx ([e.Rows, e.Cols] : List (List GAxisStep)) 1 = some e.Cols := rfl
  have s0 : grid_CheckEdit_L1 e 0 = if axErr e.Rows ≠ 0 then some (.inr (.ext (axErr e.Rows))) else some (.inl 1) := by
    unfold grid_CheckEdit_L1
    rw [if_pos (by decide), i0, bnd1_some, axis_Check_eq _ (by omega), bnd1_some]
    by_cases hz : axErr e.Rows = 0
    · rw [if_neg (ndF hz), if_neg (by simpa using hz), chk64 (by decide) (by decide), bnd1_some]; rfl
    · rw [if_pos (ndT hz), if_pos hz]
  have s1 : grid_CheckEdit_L1 e 1 = if axErr e.Cols ≠ 0 then some (.inr (.ext (axErr e.Cols))) else some (.inl 2) := by
    unfold grid_CheckEdit_L1
    rw [if_pos (by decide), i1, bnd1_some, axis_Check_eq _ (by omega), bnd1_some]
    by_cases hz : axErr e.Cols = 0
    · rw [if_neg (ndF hz), if_neg (by simpa using hz), chk64 (by decide) (by decide), bnd1_some]; rfl
    · rw [if_pos (ndT hz), if_pos hz]
  have s2 : grid_CheckEdit_L1 e 2 = some (.inr (.nrm ())) := by
    unfold grid_CheckEdit_L1
    rw [if_neg (by decide)]
  unfold grid_CheckEdit editErr
  by_cases hr : axErr e.Rows = 0
  · rw [if_neg (by simpa using hr)] at s0
    rw [if_neg (show ¬ (axErr e.Rows ≠ 0) by simpa using hr), iter_next (f := fun (a : Int) => grid_CheckEdit_L1 e a) s0]
    by_cases hc : axErr e.Cols = 0
    · rw [if_neg (by simpa using hc)] at s1
      rw [if_neg (show ¬ (axErr e.Cols ≠ 0) by simpa using hc), iter_next (f := fun (a : Int) => grid_CheckEdit_L1 e a) s1, iter_stop (f := fun (a : Int) => grid_CheckEdit_L1 e a) s2, ctl1_nrm, grid_cells_eq _ _ _ _ (by omega) h.oc, bnd1_some]
      by_cases hz : cellsErr 2147483647 2147483647 true e.Cells = 0
      · rw [if_neg (ndF hz), if_neg (show ¬ (cellsErr 2147483647 2147483647 true e.Cells ≠ 0) by simpa using hz)]
        exact edit_rects e h
      · rw [if_pos (ndT hz), if_pos hz]
    · rw [if_pos hc] at s1
      rw [if_pos hc, iter_stop (f := fun (a : Int) => grid_CheckEdit_L1 e a) s1, ctl1_ext]
  · rw [if_pos hr] at s0
    rw [if_pos hr, iter_stop (f := fun (a : Int) => grid_CheckEdit_L1 e a) s0, ctl1_ext]
theorem ref_EditError_eq (e : GGridEdit) (h : okEd e) : ref_EditError e = some (editErr e) := by
  have h1 := h.rows
  have h2 := h.cols
  have h3 := h.cells
  have h4 := h.split
  have h5 := h.merge
  have l1 : iter (fun (a : Int) => ref_EditError_L1 e a) 0 = some (outOf (splitErr e.Split)) := by
    refine iter_find (f := fun (a : Int) => ref_EditError_L1 e a) (n := e.Split.length) (splitG e.Split) (fun k hk => ?_) ?_
    · unfold ref_EditError_L1 splitG
      rw [if_pos (by simpa using hk), idx_nat hk, bnd1_some, lies_eq _ _ _ okRC_max, bnd1_some]
      by_cases hi : insR 2147483647 2147483647 e.Split[k]!
      · rw [if_neg (show ¬ (!decide (insR 2147483647 2147483647 e.Split[k]!)) = true by rw [decide_eq_true hi]; decide), if_neg (show ¬ ¬ insR 2147483647 2147483647 e.Split[k]! from fun h => h hi), chk_nat (by omega), bnd1_some]; rfl
      · rw [if_pos (by rw [decide_eq_false hi]; rfl), if_pos hi]; rfl
    · show ref_EditError_L1 e (e.Split.length : Int) = _
      unfold ref_EditError_L1
      rw [if_neg (by simp)]
  have l2 : iter (fun (a : Int) => ref_EditError_L2 e a) 0 = some (outOf (mergeErr e.Merge)) := by
    refine iter_find (f := fun (a : Int) => ref_EditError_L2 e a) (n := e.Merge.length) (mergeG e.Merge) (fun k hk => ?_) ?_
    · unfold ref_EditError_L2 mergeG
      rw [if_pos (by simpa using hk), idx_nat hk, bnd1_some, lies_eq _ _ _ okRC_max, bnd1_some]
      by_cases hi : insR 2147483647 2147483647 e.Merge[k]!
      · rw [if_neg (show ¬ (!decide (insR 2147483647 2147483647 e.Merge[k]!)) = true by rw [decide_eq_true hi]; decide), if_neg (show ¬ ¬ insR 2147483647 2147483647 e.Merge[k]! from fun h => h hi)]
        by_cases h1 : e.Merge[k]!.H = 1 ∧ e.Merge[k]!.W = 1
        · rw [if_pos (show ((decide (e.Merge[k]!.H = 1)) && (decide (e.Merge[k]!.W = 1))) = true by rw [decide_eq_true h1.1, decide_eq_true h1.2]; rfl), if_pos h1]; rfl
        · rw [if_neg (show ¬ ((decide (e.Merge[k]!.H = 1)) && (decide (e.Merge[k]!.W = 1))) = true by rw [Bool.and_eq_true, decide_eq_true_eq, decide_eq_true_eq]; exact h1), if_neg h1, chk_nat (by omega), bnd1_some]; rfl
      · rw [if_pos (by rw [decide_eq_false hi]; rfl), if_pos hi]; rfl
    · show ref_EditError_L2 e (e.Merge.length : Int) = _
      unfold ref_EditError_L2
      rw [if_neg (by simp)]
  unfold ref_EditError editErr
  rw [ref_AxisError_eq _ (by omega), bnd1_some]
  by_cases hr : axErr e.Rows = 0
  · rw [if_neg (ndF hr), if_neg (show ¬ (axErr e.Rows ≠ 0) by simpa using hr), ref_AxisError_eq _ (by omega), bnd1_some]
    by_cases hc : axErr e.Cols = 0
    · rw [if_neg (ndF hc), if_neg (show ¬ (axErr e.Cols ≠ 0) by simpa using hc), ref_CellsError_eq _ _ _ _ (by omega) h.oc (by decide) (by decide), bnd1_some]
      by_cases hz : cellsErr 2147483647 2147483647 true e.Cells = 0
      · rw [if_neg (ndF hz), if_neg (show ¬ (cellsErr 2147483647 2147483647 true e.Cells ≠ 0) by simpa using hz), l1, ctl_outOf]
        unfold rectsErr
        cases splitErr e.Split with
        | some r => rfl
        | none =>
          dsimp only
          rw [l2, ctl_outOf]
          cases mergeErr e.Merge <;> rfl
      · rw [if_pos (ndT hz), if_pos hz]
    · rw [if_pos (ndT hc), if_pos hc]
  · rw [if_pos (ndT hr), if_pos hr]
def g0 : GGrid := GGrid.mk 2 1 [(GCell.mk 1 0 [120] 0 [])] []
def e0 : GGridEdit := GGridEdit.mk [(GAxisStep.mk 1 1), (GAxisStep.mk 0 2)] [] [] [] []
end Go.Proofs.YthoepnnckmfipaaGreatDoor.Al


namespace Go.Proofs.YthoepnnckmfipaaGreatDoor.Al
end Go.Proofs.YthoepnnckmfipaaGreatDoor.Al


namespace Go.Proofs.YthoepnnckmfipaaGreatDoor.Al
theorem okEd_bulk {η : GGridEdit → Nat} {σ : GAxisStep → Nat} {ψ : GCell → Nat} {ρ : GRect → Nat} {κ : GAttr → Nat}
    (hg : ∀ e, (e.Rows.map σ).sum + (e.Cols.map σ).sum + (e.Cells.map ψ).sum + (e.Split.map ρ).sum + (e.Merge.map ρ).sum + 1 ≤ η e) (hs : ∀ s, 1 ≤ σ s) (hc : ∀ c, c.Text.length + (c.Attrs.map κ).sum + 1 ≤ ψ c) (hr : ∀ r, 1 ≤ ρ r) (ha : ∀ a, a.Name.length + a.Value.length + 1 ≤ κ a)
    {e : GGridEdit} (hb : η e ≤ 1048576) : okEd e := by
  have h4 := hg e
  have h1 := len_le_sum (μ := σ) hs e.Rows
  have h2 := len_le_sum (μ := σ) hs e.Cols
  have h6 := len_le_sum (μ := ψ) (fun c => by have := hc c; omega) e.Cells
  have h7 := len_le_sum (μ := ρ) hr e.Split
  have h8 := len_le_sum (μ := ρ) hr e.Merge
  refine ⟨by omega, by omega, by omega, by omega, by omega, fun c hcm => ?_⟩
  have h9 := mem_le_sum (μ := ψ) hcm
  have := hc c
  exact ⟨okA_bulk ha (by omega), by omega⟩
end Go.Proofs.YthoepnnckmfipaaGreatDoor.Al


namespace Go.Proofs.YthoepnnckmfipaaGreatDoor.Al
def zN : GNode := GNode.mk 0 0 [] [] (GGrid.mk 0 0 [] []) []
def zGE : GGridEdit := GGridEdit.mk [] [] [] [] []
def tiA : List GAttr := onA [116, 105, 116, 108, 101]
def op0 : GOp := GOp.mk 1 2 zN tiA [] zGE []
theorem okN_zN : okN zN := ⟨okA_0, by decide, (fun e he => by cases he), okG_0, by decide⟩
theorem tiA_ok : attrErr tiA true = 0 ∧ okStr tiA := ⟨by decide, okStr_of (by decide)⟩
theorem check_op0 : edit_CheckOp op0 = some 0 := by
  have hu : edit_unused op0 = some false := by
    unfold edit_unused
    show bnd1 (chk .i64 0) _ = _
    rw [chk64 (by decide) (by decide), bnd1_some]
    show bnd1 (chk .i64 0) _ = _
    rw [chk64 (by decide) (by decide), bnd1_some]
    show bnd1 (chk .i64 0) _ = _
    rw [chk64 (by decide) (by decide), bnd1_some]
    show bnd1 (chk .i64 0) _ = _
    rw [chk64 (by decide) (by decide), bnd1_some, if_pos (by decide), if_pos (by decide)]
    show bnd1 (bnd1 (doc_SameNode zN zN) _) _ = _
    rw [node_eq zN zN okN_zN, bnd1_some, decide_eq_true rfl]; rfl
  unfold edit_CheckOp
  rw [if_neg (by decide), hu, bnd1_some, if_neg (by decide), if_neg (by decide), if_neg (by decide), if_pos (by decide)]
  show bnd1 (attr_CheckChange tiA) _ = _
  rw [attr_CheckChange_eq _ tiA_ok.2 (by decide), bnd1_some, tiA_ok.1]
theorem check_c0 : edit_Check [op0] = some 0 := by
  have s0 : edit_Check_L1 [op0] 0 = some (.inl 1) := by
    unfold edit_Check_L1
    rw [if_pos (by decide), show idx [op0] 0 = some op0 from rfl, bnd1_some, check_op0, bnd1_some, if_neg (by decide), chk64 (by decide) (by decide), bnd1_some]; rfl
  have s1 : edit_Check_L1 [op0] 1 = some (.inr (.nrm ())) := by
    unfold edit_Check_L1; rw [if_neg (by decide)]
  unfold edit_Check
  rw [iter_next (f := fun (a : Int) => edit_Check_L1 [op0] a) s0, iter_stop (f := fun (a : Int) => edit_Check_L1 [op0] a) s1, ctl1_nrm]
theorem copy_first : doc_Copy_o firstD = some firstD.Nodes := by
  have hok := ok_firstD
  have c1 : doc_CopyNode n1D = some n1D := copyNode_eq _ (hok.2 n1D (List.mem_cons_self ..))
  have c2 : doc_CopyNode n2D = some n2D := copyNode_eq _ (hok.2 n2D (List.mem_cons_of_mem _ (List.mem_cons_self ..)))
  have s0 : doc_Copy_o_L1 firstD 0 (GDoc.mk [zN, zN]) = some (.inl (1, GDoc.mk [n1D, zN])) := by
    unfold doc_Copy_o_L1
    rw [if_pos (by decide), show idx firstD.Nodes 0 = some n1D from rfl, bnd1_some, c1, bnd1_some, show idx (GDoc.mk [zN, zN]).Nodes 0 = some zN from rfl, bnd1_some, chk64 (by decide) (by decide), bnd1_some]; rfl
  have s1 : doc_Copy_o_L1 firstD 1 (GDoc.mk [n1D, zN]) = some (.inl (2, GDoc.mk [n1D, n2D])) := by
    unfold doc_Copy_o_L1
    rw [if_pos (by decide), show idx firstD.Nodes 1 = some n2D from rfl, bnd1_some, c2, bnd1_some, show idx (GDoc.mk [n1D, zN]).Nodes 1 = some zN from rfl, bnd1_some, chk64 (by decide) (by decide), bnd1_some]; rfl
  have s2 : doc_Copy_o_L1 firstD 2 (GDoc.mk [n1D, n2D]) = some (.inr (GDoc.mk [n1D, n2D])) := by
    unfold doc_Copy_o_L1; rw [if_neg (by decide)]
  have hm : mk 152 (firstD.Nodes.length : Int) zN = some [zN, zN] := by
    unfold mk; rw [if_pos (by decide)]; rfl
  unfold doc_Copy_o
  show bnd1 (mk 152 (firstD.Nodes.length : Int) zN) _ = _
  rw [hm, bnd1_some, iter_next (f := fun (a : Int × GDoc) => doc_Copy_o_L1 firstD a.1 a.2) s0, iter_next (f := fun (a : Int × GDoc) => doc_Copy_o_L1 firstD a.1 a.2) s1, iter_stop (f := fun (a : Int × GDoc) => doc_Copy_o_L1 firstD a.1 a.2) s2, bnd1_some]
  rfl
def n2T : GNode := GNode.mk 2 1 tiA [(GElem.mk 10 0 [])] (GGrid.mk 0 0 [] []) []
theorem one0 : edit_one firstD op0 = some (0, GDoc.mk [n1D, n2T]) := by
  have hr : attr_Raw [] tiA = some tiA := by
    rw [attr_Raw_eq _ _ (by decide)]
    have : bothL stpRaw [] tiA [] = tiA := by decide +kernel
    rw [this]
  have hi : doc_Index firstD 2 = some 1 := by
    unfold doc_Index
    rw [find2, bnd2_some, if_pos rfl]
  unfold edit_one
  rw [if_neg (by decide)]
  show bnd1 (doc_Index firstD 2) _ = _
  rw [hi, bnd1_some, if_neg (by decide), show idx firstD.Nodes 1 = some n2D from rfl, bnd1_some, if_pos (by decide)]
  show bnd1 (attr_Raw [] tiA) _ = _
  rw [hr, bnd1_some]; rfl
theorem apply0 : edit_Apply firstD [op0] = some (GDoc.mk [n1D, n2T], 0) := by
  have s0 : edit_Apply_L1 [op0] 0 firstD = some (.inl (1, GDoc.mk [n1D, n2T])) := by
    unfold edit_Apply_L1
    rw [if_pos (by decide), show idx [op0] 0 = some op0 from rfl, bnd1_some, one0, bnd2_some, if_neg (by decide), chk64 (by decide) (by decide), bnd1_some]; rfl
  have s1 : edit_Apply_L1 [op0] 1 (GDoc.mk [n1D, n2T]) = some (.inr (.nrm (GDoc.mk [n1D, n2T]))) := by
    unfold edit_Apply_L1; rw [if_neg (by decide)]
  unfold edit_Apply
  rw [check_first, bnd1_some, if_neg (by decide), check_c0, bnd1_some, if_neg (by decide), copy_first, bnd1_some]
  show ctl1 (iter (fun (a : Int × GDoc) => edit_Apply_L1 [op0] a.1 a.2) (0, firstD)) _ = _
  rw [iter_next (f := fun (a : Int × GDoc) => edit_Apply_L1 [op0] a.1 a.2) s0, iter_stop (f := fun (a : Int × GDoc) => edit_Apply_L1 [op0] a.1 a.2) s1, ctl1_nrm]
theorem law_edits_eq : law_edits = some true := by
  unfold law_edits
  rw [show doc_First = some firstD from rfl, bnd1_some, law_on_eq, bnd1_some]
  show bnd2 (edit_Apply firstD [op0]) _ = _
  rw [apply0, bnd2_some, law_docs_eq, bnd1_some]
  have hg : (((true && (decide ((0 : Int) = 0))) && (decide (((GDoc.mk [n1D, n2T]).Nodes.length : Int) = 2))) == true) = true := by decide
  rw [hg, gd_true, show idx (GDoc.mk [n1D, n2T]).Nodes 1 = some n2T from rfl, bnd1_some, gd_true]
  show bnd1 (ref_SameAttrs tiA tiA) _ = _
  rw [ref_SameAttrs_eq _ _ (by decide), bnd1_some, decide_eq_true rfl]; rfl
structure okOp (o : GOp) : Prop where
  nw : okN2 o.New
  at_ : okA o.Attrs
  st : OkD o.Steps
  gr : okEd o.Grid
  dl : o.Draw.length ≤ 1048576
  dr : ∀ d ∈ o.Draw, okDr d
def gridN (o : GOp) : Int := (o.Grid.Rows.length : Int) + (o.Grid.Cols.length : Int) + (o.Grid.Cells.length : Int) + (o.Grid.Split.length : Int) + (o.Grid.Merge.length : Int)
def unusedB (o : GOp) : Bool := (((((((decide (o.Kind = 0)) && (!decide (o.Node = 0))) || ((!decide (o.Kind = 0)) && (!decide (o.New = zN)))) || ((!decide (o.Kind = 1)) && (decide (0 < (o.Attrs.length : Int))))) || ((!decide (o.Kind = 2)) && (decide (0 < (o.Steps.length : Int))))) || ((!decide (o.Kind = 3)) && (decide (0 < gridN o)))) || ((!decide (o.Kind = 4)) && (decide (0 < (o.Draw.length : Int)))))
theorem unused_eq (o : GOp) (h : okOp o) : edit_unused o = some (unusedB o) := by
  have h1 := h.gr.rows
  have h2 := h.gr.cols
  have h3 := h.gr.cells
  have h4 := h.gr.split
  have h5 := h.gr.merge
  unfold edit_unused
  rw [chk64 (by omega) (by omega), bnd1_some, chk64 (by omega) (by omega), bnd1_some, chk64 (by omega) (by omega), bnd1_some, chk64 (by omega) (by omega), bnd1_some]
  show bnd1 _ _ = _
  unfold unusedB gridN
  by_cases k0 : o.Kind = 0
  · by_cases n0 : o.Node = 0
    · rw [if_pos (by rw [n0]; simp), if_neg (by simp [k0]), bnd1_some]
      congr 1
      simp [k0]
    · rw [if_neg (by simp [k0, n0]), bnd1_some]
      congr 1
      simp [k0, n0]
  · rw [if_pos (by simp [k0]), if_pos (by simp [k0])]
    show bnd1 (bnd1 (doc_SameNode o.New zN) _) _ = _
    rw [node_eq o.New zN h.nw.ok, bnd1_some, bnd1_some]
def usedL (o : GOp) : List Bool := [(!decide (o.New = zN)), (decide (0 < (o.Attrs.length : Int))), (decide (0 < (o.Steps.length : Int))), (decide (0 < gridN o)), (decide (0 < (o.Draw.length : Int)))]
def badB (o : GOp) : Bool := (List.range 5).any fun k => (usedL o)[k]! && (!decide ((k : Int) = o.Kind))
theorem used_loop (o : GOp) : iter (fun (a : Int) => ref_OpError_L1 o (decide (o.New = zN)) (gridN o) a) 0 = some (outOf (if badB o then some 4 else none)) := by
  have := iter_find (f := fun (a : Int) => ref_OpError_L1 o (decide (o.New = zN)) (gridN o) a) (n := 5) (fun k => if !((usedL o)[k]! && (!decide ((k : Int) = o.Kind))) then none else some (4 : Int)) (fun k hk => by
    show ref_OpError_L1 o _ _ (k : Int) = _
    unfold ref_OpError_L1
    rw [if_pos (by rw [decide_eq_true_eq]; omega)]
    show bnd1 (idx (usedL o) (k : Int)) _ = _
    rw [idx_nat (by show k < 5; exact hk), bnd1_some, chk_nat (by omega)]
    cases (usedL o)[k]! && (!decide ((k : Int) = o.Kind)) <;> rfl) (by
    show ref_OpError_L1 o _ _ (5 : Int) = _
    unfold ref_OpError_L1; rw [if_neg (by decide)])
  rw [this, find_const]
  congr 2
  unfold badB
  have e : ((List.range 5).all fun k => !((usedL o)[k]! && (!decide ((k : Int) = o.Kind)))) = !((List.range 5).any fun k => (usedL o)[k]! && (!decide ((k : Int) = o.Kind))) := by rw [List.not_any_eq_all_not]
  rw [e]
  cases (List.range 5).any fun k => (usedL o)[k]! && (!decide ((k : Int) = o.Kind)) <;> rfl
theorem bad_eq (o : GOp) : badB o = (((((!decide (o.New = zN)) && (!decide ((0 : Int) = o.Kind))) || ((decide (0 < (o.Attrs.length : Int))) && (!decide ((1 : Int) = o.Kind)))) || ((decide (0 < (o.Steps.length : Int))) && (!decide ((2 : Int) = o.Kind)))) || ((decide (0 < gridN o)) && (!decide ((3 : Int) = o.Kind))) || ((decide (0 < (o.Draw.length : Int))) && (!decide ((4 : Int) = o.Kind)))) := by
  show (((!decide (o.New = zN)) && (!decide ((0 : Int) = o.Kind))) || (((decide (0 < (o.Attrs.length : Int))) && (!decide ((1 : Int) = o.Kind))) || (((decide (0 < (o.Steps.length : Int))) && (!decide ((2 : Int) = o.Kind))) || (((decide (0 < gridN o)) && (!decide ((3 : Int) = o.Kind))) || (((decide (0 < (o.Draw.length : Int))) && (!decide ((4 : Int) = o.Kind))) || false))))) = _
  simp only [Bool.or_false, Bool.or_assoc]
theorem unused_bad (o : GOp) : unusedB o = (((decide (o.Kind = 0)) && (!decide (o.Node = 0))) || badB o) := by
  rw [bad_eq]
  unfold unusedB
  have e : ∀ k : Int, decide (k = o.Kind) = decide (o.Kind = k) := fun k => by rw [decide_eq_decide]; exact eq_comm
  rw [e 0, e 1, e 2, e 3, e 4]
  cases decide (o.Kind = 0) <;> cases decide (o.Kind = 1) <;> cases decide (o.Kind = 2) <;> cases decide (o.Kind = 3) <;> cases decide (o.Kind = 4) <;> cases decide (o.Node = 0) <;> cases decide (o.New = zN) <;>
    cases decide (0 < (o.Attrs.length : Int)) <;> cases decide (0 < (o.Steps.length : Int)) <;> cases decide (0 < gridN o) <;> cases decide (0 < (o.Draw.length : Int)) <;> rfl
theorem op_both (o : GOp) (h : okOp o) : ∃ e, edit_CheckOp o = some e ∧ ref_OpError o = some e := by
  have h1 := h.gr.rows
  have h2 := h.gr.cols
  have h3 := h.gr.cells
  have h4 := h.gr.split
  have h5 := h.gr.merge
  have h6 := h.dl
  unfold edit_CheckOp ref_OpError
  rw [ref_In_dec, bnd1_some]
  by_cases hk : 0 ≤ o.Kind ∧ o.Kind ≤ 4
  · rw [if_neg (show ¬ ((decide (o.Kind < 0)) || (decide (4 < o.Kind))) = true by rw [Bool.or_eq_true, decide_eq_true_eq, decide_eq_true_eq]; omega), if_neg (show ¬ (!decide (0 ≤ o.Kind ∧ o.Kind ≤ 4)) = true by rw [decide_eq_true hk]; decide), unused_eq o h, bnd1_some]
    show ∃ e, _ ∧ bnd1 (ref_SameNode o.New zN) _ = _
    rw [ref_node_eq o.New zN h.nw.ok, bnd1_some, chk64 (by omega) (by omega), bnd1_some, chk64 (by omega) (by omega), bnd1_some, chk64 (by omega) (by omega), bnd1_some, chk64 (by omega) (by omega), bnd1_some]
    show ∃ e, _ ∧ ctl1 (iter (fun (a : Int) => ref_OpError_L1 o (decide (o.New = zN)) (gridN o) a) 0) _ = _
    rw [used_loop, unused_bad, ctl_outOf]
    by_cases hb : badB o = true
    · rw [hb, if_pos (show (((decide (o.Kind = 0)) && (!decide (o.Node = 0))) || true) = true by simp), if_pos (show true = true from rfl)]
      exact ⟨_, rfl, rfl⟩
    · rw [Bool.not_eq_true] at hb
      rw [hb, if_neg (show ¬ (false = true) by decide)]
      dsimp only
      by_cases k0 : o.Kind = 0
      · rw [if_pos (decide_eq_true k0), if_pos (decide_eq_true k0)]
        by_cases n0 : o.Node = 0
        · rw [if_neg (show ¬ (((decide (o.Kind = 0)) && (!decide (o.Node = 0))) || false) = true by simp [n0]), if_neg (show ¬ (!decide (o.Node = 0)) = true by simp [n0])]
          obtain ⟨e, e1, e2⟩ := node_both o.New h.nw
          rw [e1, e2]
          exact ⟨e, rfl, rfl⟩
        · rw [if_pos (show (((decide (o.Kind = 0)) && (!decide (o.Node = 0))) || false) = true by simp [k0, n0]), if_pos (show (!decide (o.Node = 0)) = true by simp [n0])]
          exact ⟨_, rfl, rfl⟩
      · rw [if_neg (show ¬ (((decide (o.Kind = 0)) && (!decide (o.Node = 0))) || false) = true by simp [k0]), if_neg (show ¬ decide (o.Kind = 0) = true by rw [decide_eq_true_eq]; exact k0), if_neg (show ¬ decide (o.Kind = 0) = true by rw [decide_eq_true_eq]; exact k0), ref_In_dec, bnd1_some]
        by_cases hn : 1 ≤ o.Node ∧ o.Node ≤ 1073741824
        · rw [if_neg (show ¬ ((decide (o.Node < 1)) || (decide (1073741824 < o.Node))) = true by rw [Bool.or_eq_true, decide_eq_true_eq, decide_eq_true_eq]; omega), if_neg (show ¬ (!decide (1 ≤ o.Node ∧ o.Node ≤ 1073741824)) = true by rw [decide_eq_true hn]; decide)]
          by_cases k1 : o.Kind = 1
          · rw [if_pos (decide_eq_true k1), if_pos (decide_eq_true k1), attr_CheckChange_eq _ h.at_.2 (by have := h.at_.1; omega), ref_AttrsError_eq _ _ h.at_.2 (by have := h.at_.1; omega)]
            exact ⟨_, rfl, rfl⟩
          · rw [if_neg (show ¬ decide (o.Kind = 1) = true by rw [decide_eq_true_eq]; exact k1), if_neg (show ¬ decide (o.Kind = 1) = true by rw [decide_eq_true_eq]; exact k1)]
            by_cases k2 : o.Kind = 2
            · rw [if_pos (decide_eq_true k2), if_pos (decide_eq_true k2), delta_Check_eq _ h.st, ref_DeltaError_eq _ h.st]
              exact ⟨_, rfl, rfl⟩
            · rw [if_neg (show ¬ decide (o.Kind = 2) = true by rw [decide_eq_true_eq]; exact k2), if_neg (show ¬ decide (o.Kind = 2) = true by rw [decide_eq_true_eq]; exact k2)]
              by_cases k3 : o.Kind = 3
              · rw [if_pos (decide_eq_true k3), if_pos (decide_eq_true k3), grid_CheckEdit_eq _ h.gr, ref_EditError_eq _ h.gr]
                exact ⟨_, rfl, rfl⟩
              · rw [if_neg (show ¬ decide (o.Kind = 3) = true by rw [decide_eq_true_eq]; exact k3), if_neg (show ¬ decide (o.Kind = 3) = true by rw [decide_eq_true_eq]; exact k3), replica_Check_eq _ (by omega) h.dr, ref_DrawError_eq _ (by omega) h.dr]
                exact ⟨_, rfl, rfl⟩
        · rw [if_pos (show ((decide (o.Node < 1)) || (decide (1073741824 < o.Node))) = true by rw [Bool.or_eq_true, decide_eq_true_eq, decide_eq_true_eq]; omega), if_pos (show (!decide (1 ≤ o.Node ∧ o.Node ≤ 1073741824)) = true by rw [decide_eq_false hn]; rfl)]
          exact ⟨_, rfl, rfl⟩
  · rw [if_pos (show ((decide (o.Kind < 0)) || (decide (4 < o.Kind))) = true by rw [Bool.or_eq_true, decide_eq_true_eq, decide_eq_true_eq]; omega), if_pos (show (!decide (0 ≤ o.Kind ∧ o.Kind ≤ 4)) = true by rw [decide_eq_false hk]; rfl)]
    exact ⟨_, rfl, rfl⟩
end Go.Proofs.YthoepnnckmfipaaGreatDoor.Al


namespace Go.Proofs.YthoepnnckmfipaaGreatDoor.Al
noncomputable def opE (o : GOp) : Int := (edit_CheckOp o).getD 0
theorem opE_eq {o : GOp} (h : okOp o) : edit_CheckOp o = some (opE o) ∧ ref_OpError o = some (opE o) := by
  obtain ⟨e, e1, e2⟩ := op_both o h
  unfold opE
  rw [e1]
  exact ⟨rfl, e2⟩
noncomputable def errO (c : List GOp) (k : Nat) : Option Int := if opE c[k]! = 0 then none else some (opE c[k]!)
noncomputable def firstO (c : List GOp) (k : Nat) : Int := ((List.range k).findSome? (errO c)).getD 0
theorem firstO_succ (c : List GOp) (k : Nat) : firstO c (k + 1) = if firstO c k = 0 then opE c[k]! else firstO c k := by
  unfold firstO
  rw [List.range_succ, List.findSome?_append]
  have hv : ∀ v, (List.range k).findSome? (errO c) = some v → v ≠ 0 := by
    intro v hf
    obtain ⟨j, _, hj⟩ := List.exists_of_findSome?_eq_some hf
    unfold errO at hj
    split at hj
    · cases hj
    · rename_i h
      injection hj with hj
      rw [← hj]; exact h
  cases hf : (List.range k).findSome? (errO c) with
  | none =>
    rw [if_pos (show (none : Option Int).getD 0 = 0 from rfl)]
    show ([k].findSome? (errO c)).getD 0 = _
    rw [List.findSome?_cons]
    unfold errO
    by_cases h : opE c[k]! = 0
    · rw [if_pos h, h]; rfl
    · rw [if_neg h]; rfl
  | some v =>
    rw [if_neg (show ¬ (some v).getD 0 = 0 from hv v hf)]; rfl
theorem edit_Check_eq (c : List GOp) (hm : c.length ≤ 1048576) (h : ∀ o ∈ c, okOp o) : edit_Check c = some (firstO c c.length) := by
  unfold edit_Check
  rw [iter_find (f := fun (a : Int) => edit_Check_L1 c a) (n := c.length) (errO c) (fun k hk => by
    show edit_Check_L1 c (k : Int) = _
    unfold edit_Check_L1 errO
    rw [if_pos (by simpa using hk), idx_nat hk, bnd1_some, (opE_eq (h _ (mem_at hk))).1, bnd1_some]
    by_cases e : opE c[k]! = 0
    · rw [if_neg (ndF e), if_pos e, chk_nat (by omega), bnd1_some]; rfl
    · rw [if_pos (ndT e), if_neg e]; rfl) (by
    show edit_Check_L1 c (c.length : Int) = _
    unfold edit_Check_L1; rw [if_neg (by simp)])]
  unfold firstO
  cases (List.range c.length).findSome? (errO c) <;> rfl
theorem law_EditCheck_true (c : List GOp) (h0 : c.length ≤ 1048576 ∧ ∀ o ∈ c, okOp o) : law_EditCheckSays c = some true := by
  obtain ⟨hm, h⟩ := h0
  have key : ∃ r, iter (fun (a : Int × Int) => law_EditCheckSays_L1 c a.1 a.2) (0, 0) = some r ∧ r = .nrm (firstO c c.length) := by
    refine iter_hoare c.length (fun k st => st = (firstO c k, (k : Int))) _ ?_ ?_ rfl
    · rintro k st hk rfl
      refine .inl ⟨(firstO c (k + 1), ((k + 1 : Nat) : Int)), ?_, rfl⟩
      obtain ⟨e1, e2⟩ := opE_eq (h _ (mem_at hk))
      show law_EditCheckSays_L1 c (firstO c k) (k : Int) = _
      unfold law_EditCheckSays_L1
      rw [if_pos (by simpa using hk), idx_nat hk, bnd1_some, e2, bnd1_some, e1, bnd1_some, if_neg (by simp), firstO_succ]
      by_cases hf : firstO c k = 0
      · rw [if_pos (decide_eq_true hf), if_pos hf, ctl1_nrm, chk_nat (by omega), bnd1_some]
      · rw [if_neg (by rw [decide_eq_true_eq]; exact hf), if_neg hf, ctl1_nrm, chk_nat (by omega), bnd1_some]
    · rintro st rfl
      refine ⟨_, ?_, rfl⟩
      show law_EditCheckSays_L1 c (firstO c c.length) (c.length : Int) = _
      unfold law_EditCheckSays_L1
      rw [if_neg (by simp)]
  obtain ⟨r, g1, g2⟩ := key
  unfold law_EditCheckSays
  rw [law_edits_eq, bnd1_some, if_neg (by decide), g1, g2, ctl1_nrm, edit_Check_eq c hm h, bnd1_some, decide_eq_true rfl]
theorem okOps_bulk {π : GOp → Nat} {η : GGridEdit → Nat} {σ : GAxisStep → Nat} {τ : GStep → Nat} {μ : GNode → Nat} {γ : GGrid → Nat} {ψ : GCell → Nat} {ρ : GRect → Nat} {δ : GDrawOp → Nat} {ν : GElem → Nat} {κ : GAttr → Nat}
    (ho : ∀ o, μ o.New + (o.Attrs.map κ).sum + (o.Steps.map τ).sum + η o.Grid + (o.Draw.map δ).sum + 1 ≤ π o)
    (hed : ∀ e, (e.Rows.map σ).sum + (e.Cols.map σ).sum + (e.Cells.map ψ).sum + (e.Split.map ρ).sum + (e.Merge.map ρ).sum + 1 ≤ η e) (hs : ∀ s, 1 ≤ σ s) (hst : ∀ s, (s.Attrs.map κ).sum + (s.Elems.map ν).sum + 1 ≤ τ s)
    (hn : ∀ n, (n.Attrs.map κ).sum + (n.Flow.map ν).sum + γ n.Grid + (n.Draw.map δ).sum + 1 ≤ μ n) (hg : ∀ g, (g.Cells.map ψ).sum + (g.Merges.map ρ).sum + 1 ≤ γ g)
    (hc : ∀ c, c.Text.length + (c.Attrs.map κ).sum + 1 ≤ ψ c) (hr : ∀ r, 1 ≤ ρ r) (hd : ∀ o, o.Place.length + o.Name.length + o.Value.length + 1 ≤ δ o) (he : ∀ e, (e.Attrs.map κ).sum + 1 ≤ ν e) (ha : ∀ a, a.Name.length + a.Value.length + 1 ≤ κ a)
    {c : List GOp} (hb : (c.map π).sum ≤ 1048576) : c.length ≤ 1048576 ∧ ∀ o ∈ c, okOp o := by
  have h1 := len_le_sum (μ := π) (fun o => by have := ho o; omega) c
  refine ⟨by omega, fun o hom => ?_⟩
  have h2 := mem_le_sum (μ := π) hom
  have h3 := ho o
  have h4 := okDoc2_bulk hn hg hc hr hd he ha (d := GDoc.mk [o.New]) (by show μ o.New + 0 ≤ _; omega)
  have h5 := okD_bulk hst he ha o.Steps (by omega)
  have h6 := okEd_bulk hed hs hc hr ha (e := o.Grid) (by omega)
  have h7 := len_le_sum (μ := δ) (fun o => by have := hd o; omega) o.Draw
  refine ⟨h4.2 o.New (List.mem_cons_self ..), okA_bulk ha (by omega), h5, h6, by omega, fun d hdm => ?_⟩
  have h8 := mem_le_sum (μ := δ) hdm
  have := hd d
  exact ⟨by omega, by omega, by omega⟩
end Go.Proofs.YthoepnnckmfipaaGreatDoor.Al

