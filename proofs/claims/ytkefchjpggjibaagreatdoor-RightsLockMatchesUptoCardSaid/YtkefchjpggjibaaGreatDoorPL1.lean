/- Plain laws over the models, a part of them. -/
import Derived.Test.YtkefchjpggjibaaGreatDoorMod1
import Derived.Lib.Join
namespace Go.Proofs.YtkefchjpggjibaaGreatDoor.Al
@[simp] theorem bnd1_some {a α : Type} (x : a) (f : a → Option α) : bnd1 (some x) f = f x := rfl
@[simp] theorem bnd2_some {a b α : Type} (x : a) (y : b) (f : a → b → Option α) : bnd2 (some (x, y)) f = f x y := rfl
@[simp] theorem bnd3_some {a b c α : Type} (x : a) (y : b) (z : c) (f : a → b → c → Option α) : bnd3 (some (x, y, z)) f = f x y z := rfl
@[simp] theorem bnd4_some {a b c d α : Type} (x : a) (y : b) (z : c) (u : d) (f : a → b → c → d → Option α) : bnd4 (some (x, y, z, u)) f = f x y z u := rfl
@[simp] theorem ctl1_nrm {a α : Type} (x : a) (f : a → Option α) : ctl1 (some (.nrm x)) f = f x := rfl
@[simp] theorem ctl1_ext {a α : Type} (t : α) (f : a → Option α) : ctl1 (some (.ext t)) f = some t := rfl
@[simp] theorem ctl2_nrm {a b α : Type} (x : a) (y : b) (f : a → b → Option α) : ctl2 (some (.nrm (x, y))) f = f x y := rfl
@[simp] theorem ctl2_ext {a b α : Type} (t : α) (f : a → b → Option α) : ctl2 (some (.ext t)) f = some t := rfl
@[simp] theorem ctl3_nrm {a b c α : Type} (x : a) (y : b) (z : c) (f : a → b → c → Option α) : ctl3 (some (.nrm (x, y, z))) f = f x y z := rfl
@[simp] theorem ctl3_ext {a b c α : Type} (t : α) (f : a → b → c → Option α) : ctl3 (some (.ext t)) f = some t := rfl
@[simp] theorem gd_true {α : Type} [Inhabited α] (m : Option α) : gd true m = m := rfl
@[simp] theorem gd_false {α : Type} [Inhabited α] (m : Option α) : gd false m = some default := rfl
theorem idx_nat {α : Type} [Inhabited α] {l : List α} {k : Nat} (h : k < l.length) : idx l (k : Int) = some l[k]! := by
  unfold idx
  rw [if_pos (Int.natCast_nonneg k), Int.toNat_natCast, List.getElem?_eq_getElem h, getElem!_pos l k h]
theorem chk_nat {k : Nat} (h : k < 9223372036854775807) : chk .i64 ((k : Int) + 1) = some (((k + 1 : Nat)) : Int) := by
  rw [chk64 (by omega) (by omega)]; rfl
theorem chk_pred {k : Nat} (h : 0 < k) (h2 : k ≤ 9223372036854775807) : chk .i64 ((k : Int) - 1) = some ((k - 1 : Nat) : Int) := by
  rw [chk64 (by omega) (by omega)]; congr 1; omega
def stepOf {ρ : Type} (k : Nat) : Option ρ → Option (Int ⊕ Ctl Unit ρ)
  | none => some (.inl ((k + 1 : Nat) : Int))
  | some r => some (.inr (.ext r))
def outOf {ρ : Type} : Option ρ → Ctl Unit ρ
  | none => .nrm ()
  | some r => .ext r
theorem iter_find {ρ : Type} {f : Int → Option (Int ⊕ Ctl Unit ρ)} {n : Nat} (g : Nat → Option ρ) (h1 : ∀ k : Nat, k < n → f k = stepOf k (g k))
    (h2 : f n = some (.inr (.nrm ()))) : iter f 0 = some (outOf ((List.range n).findSome? g)) := by
  have key : ∀ m k : Nat, k + m = n → iter f (k : Int) = some (outOf ((List.range' k m).findSome? g)) := by
    intro m
    induction m with
    | zero =>
      intro k hk
      obtain rfl : k = n := by omega
      rw [iter_stop h2]; rfl
    | succ m ih =>
      intro k hk
      rw [List.range'_succ, List.findSome?_cons]
      have := h1 k (by omega)
      cases hg : g k with
      | none => rw [hg] at this; rw [iter_next this, ih (k + 1) (by omega)]
      | some r => rw [hg] at this; rw [iter_stop this]; rfl
  rw [List.range_eq_range']
  exact key n 0 (by omega)
theorem findSome_congr {α ρ : Type} {l : List α} {g h : α → Option ρ} (e : ∀ x ∈ l, g x = h x) : l.findSome? g = l.findSome? h := by
  induction l with
  | nil => rfl
  | cons a l ih => rw [List.findSome?_cons, List.findSome?_cons, e a (List.mem_cons_self ..), ih fun x hx => e x (List.mem_cons_of_mem _ hx)]
theorem find_all {α ρ : Type} [Inhabited α] (l : List α) (p : α → Bool) (r : ρ) : (List.range l.length).findSome? (fun k => if p l[k]! then none else some r) = if l.all p then none else some r := by
  induction l with
  | nil => rfl
  | cons a l ih =>
    rw [List.length_cons, List.range_succ_eq_map, List.findSome?_cons, List.findSome?_map]
    have hr : (List.range l.length).findSome? ((fun k => if p (a :: l)[k]! = true then none else some r) ∘ Nat.succ) = if l.all p = true then none else some r := by
      rw [← ih]; exact findSome_congr fun k _ => by simp
    rw [hr]
    by_cases hp : p a = true
    · simp [hp]
    · simp [hp]
theorem ctl_outOf {ρ : Type} (o : Option ρ) (f : Unit → Option ρ) : ctl1 (some (outOf o)) f = match o with | none => f () | some r => some r := by cases o <;> rfl
end Go.Proofs.YtkefchjpggjibaaGreatDoor.Al


namespace Go.Proofs.YtkefchjpggjibaaGreatDoor.Al
def chOK (c : UInt8) : Bool := (decide (97 ≤ c.toNat) && decide (c.toNat ≤ 122)) || (decide (48 ≤ c.toNat) && decide (c.toNat ≤ 57)) || decide (c.toNat = 46) || decide (c.toNat = 45)
def nameOK (s : List UInt8) : Bool := decide (1 ≤ s.length) && decide (s.length ≤ 24) && (decide (97 ≤ s[0]!.toNat) && decide (s[0]!.toNat ≤ 122)) && s.all chOK
def valCh (c : UInt8) : Bool := decide (32 ≤ c.toNat) && decide (c.toNat ≤ 126)
def valOK (s : List UInt8) : Bool := decide (1 ≤ s.length) && decide (s.length ≤ 200) && s.all valCh
theorem attr_Name_step (s : List UInt8) (k : Nat) (hk : k < s.length) (hm : s.length ≤ 9223372036854775807) : attr_Name_L1 s k = stepOf k (if chOK s[k]! then none else some false) := by
  unfold attr_Name_L1
  rw [if_pos (by simpa using hk), idx_nat hk, bnd1_some, chk_nat (by omega)]
  generalize s[k]! = c
  have e : (((((decide ((c.toNat : Int) < 97)) || (decide (122 < (c.toNat : Int)))) && ((decide ((c.toNat : Int) < 48)) || (decide (57 < (c.toNat : Int))))) && (!decide ((c.toNat : Int) = 46))) && (!decide ((c.toNat : Int) = 45))) = !chOK c := by
    unfold chOK
    rw [Bool.eq_iff_iff]
    simp only [Bool.or_eq_true, Bool.and_eq_true, decide_eq_true_eq, Bool.not_eq_true', decide_eq_false_iff_not, Bool.or_eq_false_iff, Bool.and_eq_false_imp]
    omega
  rw [e]
  cases chOK c <;> rfl
theorem attr_Name_eq (s : List UInt8) (hm : s.length ≤ 9223372036854775807) : attr_Name s = some (nameOK s) := by
  unfold attr_Name
  rw [iter_find (n := s.length) (fun k => if chOK s[k]! then none else some false) (fun k hk => attr_Name_step s k hk hm) (by unfold attr_Name_L1; rw [if_neg (by simp)]), find_all]
  unfold nameOK
  cases s with
  | nil => simp
  | cons c t =>
    have h0 : idx (c :: t) 0 = some c := rfl
    rw [h0]
    simp only [List.getElem!_cons_zero, decide_eq_false (List.cons_ne_nil c t), Bool.false_or]
    generalize (c :: t).all chOK = al
    generalize hl : (c :: t).length = L
    have hL : 1 ≤ L := by rw [← hl]; simp
    by_cases h1 : 24 < (L : Int)
    · have e1 : decide (L ≤ 24) = false := by simp; omega
      simp [h1, e1]
    · rw [decide_eq_false h1]
      simp only [Bool.false_or, beq_self_eq_true, gd_true, bnd1_some]
      have e1 : decide (L ≤ 24) = true := by simp; omega
      have e2 : decide (1 ≤ L) = true := by simp; omega
      rw [e1, e2]
      by_cases h2 : (c.toNat : Int) < 97
      · have e3 : decide (97 ≤ c.toNat) = false := by simp; omega
        simp [h2, e3]
      · rw [decide_eq_false h2]
        have e3 : decide (97 ≤ c.toNat) = true := by simp; omega
        simp only [beq_self_eq_true, gd_true, bnd1_some, Bool.false_or]
        by_cases h3 : 122 < (c.toNat : Int)
        · have e4 : decide (c.toNat ≤ 122) = false := by simp; omega
          simp [h3, e4]
        · have e4 : decide (c.toNat ≤ 122) = true := by simp; omega
          rw [if_neg (by simpa using h3), ctl_outOf, e3, e4]
          cases al <;> rfl
def refCh (k : Nat) (c : UInt8) : Bool := (decide (97 ≤ c.toNat) && decide (c.toNat ≤ 122)) || (decide (k ≠ 0) && chOK c)
theorem ref_Name_step (s : List UInt8) (k : Nat) (hk : k < s.length) (hm : s.length ≤ 9223372036854775807) :
    ref_Name_L1 s k = stepOf k (if refCh k s[k]! then none else some false) := by
  unfold ref_Name_L1
  rw [if_pos (by simpa using hk), idx_nat hk, bnd1_some, chk_nat (by omega)]
  generalize s[k]! = c
  have e : ((!((decide (97 ≤ (c.toNat : Int))) && (decide ((c.toNat : Int) ≤ 122)))) && ((decide ((k : Int) = 0)) || (((!decide ((c.toNat : Int) = 46)) && (!decide ((c.toNat : Int) = 45))) && ((decide ((c.toNat : Int) < 48)) || (decide (57 < (c.toNat : Int))))))) = !refCh k c := by
    unfold refCh chOK
    rw [Bool.eq_iff_iff]
    simp only [Bool.or_eq_true, Bool.and_eq_true, decide_eq_true_eq, Bool.not_eq_true', decide_eq_false_iff_not, Bool.or_eq_false_iff, Bool.and_eq_false_imp]
    omega
  rw [e]
  cases refCh k c <;> rfl
theorem all_iff {α : Type} [Inhabited α] (l : List α) (p : α → Bool) : l.all p = true ↔ ∀ k, k < l.length → p l[k]! = true := by
  rw [List.all_eq_true]
  constructor
  · intro h k hk; rw [getElem!_pos l k hk]; exact h _ (List.getElem_mem hk)
  · intro h x hx
    obtain ⟨k, hk, rfl⟩ := List.mem_iff_getElem.1 hx
    rw [← getElem!_pos l k hk]; exact h k hk
theorem find_const {ρ : Type} (n : Nat) (p : Nat → Bool) (r : ρ) : (List.range n).findSome? (fun k => if p k then none else some r) = if (List.range n).all p then none else some r := by
  generalize List.range n = l
  induction l with
  | nil => rfl
  | cons a l ih => rw [List.findSome?_cons, List.all_cons, ]; by_cases h : p a = true <;> simp [h, ih]
theorem ref_Name_eq (s : List UInt8) (hm : s.length ≤ 9223372036854775807) : ref_Name s = some (nameOK s) := by
  unfold ref_Name
  rw [iter_find (n := s.length) (fun k => if refCh k s[k]! then none else some false) (fun k hk => ref_Name_step s k hk hm) (by unfold ref_Name_L1; rw [if_neg (by simp)]), find_const, ctl_outOf]
  have key : ((List.range s.length).all fun k => refCh k s[k]!) = (decide (s = []) || ((decide (97 ≤ s[0]!.toNat) && decide (s[0]!.toNat ≤ 122)) && s.all chOK)) := by
    rw [Bool.eq_iff_iff, List.all_eq_true]
    simp only [List.mem_range, Bool.or_eq_true, decide_eq_true_eq, Bool.and_eq_true, all_iff]
    constructor
    · intro h
      cases hs : s with
      | nil => exact .inl rfl
      | cons c t =>
        rw [← hs]
        have hl : 0 < s.length := by rw [hs]; simp
        have h0 := h 0 hl
        simp only [refCh, Bool.or_eq_true, Bool.and_eq_true, decide_eq_true_eq] at h0
        refine .inr ⟨by omega, fun k hk => ?_⟩
        have := h k hk
        simp only [refCh, chOK, Bool.or_eq_true, Bool.and_eq_true, decide_eq_true_eq] at this ⊢
        omega
    · rintro (rfl | ⟨h1, h2⟩) k hk
      · cases hk
      · have := h2 k hk
        by_cases hk0 : k = 0
        · subst hk0; simp only [refCh, Bool.or_eq_true, Bool.and_eq_true, decide_eq_true_eq]; omega
        · simp only [refCh, Bool.or_eq_true, Bool.and_eq_true, decide_eq_true_eq]; exact .inr ⟨hk0, this⟩
  rw [key]
  unfold nameOK
  cases s with
  | nil => rfl
  | cons c t =>
    rw [decide_eq_false (List.cons_ne_nil c t), Bool.false_or]
    generalize (c :: t).all chOK = al
    generalize (decide (97 ≤ (c :: t)[0]!.toNat) && decide ((c :: t)[0]!.toNat ≤ 122)) = fc
    have e1 : decide (1 ≤ ((c :: t).length : Int)) = decide (1 ≤ (c :: t).length) := by simp; omega
    have e2 : decide (((c :: t).length : Int) ≤ 24) = decide ((c :: t).length ≤ 24) := by simp; omega
    rw [e1, e2]
    cases fc <;> cases al <;> simp
theorem attr_Value_eq (s : List UInt8) (hm : s.length ≤ 9223372036854775807) : attr_Value s = some (valOK s) := by
  unfold attr_Value valOK
  rw [iter_find (n := s.length) (fun k => if valCh s[k]! then none else some false) (fun k hk => by
    unfold attr_Value_L1
    rw [if_pos (by simpa using hk), idx_nat hk, bnd1_some, chk_nat (by omega)]
    generalize s[k]! = c
    have e : ((decide ((c.toNat : Int) < 32)) || (decide (126 < (c.toNat : Int)))) = !valCh c := by
      unfold valCh
      rw [Bool.eq_iff_iff]
      simp only [Bool.or_eq_true, Bool.and_eq_true, decide_eq_true_eq, Bool.not_eq_true', decide_eq_false_iff_not, Bool.and_eq_false_imp]
      omega
    rw [e]
    cases valCh c <;> rfl) (by unfold attr_Value_L1; rw [if_neg (by simp)]), find_all, ctl_outOf]
  generalize s.all valCh = al
  cases s with
  | nil => simp
  | cons c t =>
    rw [decide_eq_false (List.cons_ne_nil c t), Bool.false_or]
    generalize hl : (c :: t).length = L
    have hL : 1 ≤ L := by rw [← hl]; simp
    by_cases h1 : 200 < (L : Int)
    · have e1 : decide (L ≤ 200) = false := by simp; omega
      simp [h1, e1]
    · have e1 : decide (L ≤ 200) = true := by simp; omega
      have e2 : decide (1 ≤ L) = true := by simp; omega
      rw [if_neg (by simpa using h1), e1, e2]
      cases al <;> rfl
theorem sLt_cons (a b : UInt8) (x y : List UInt8) : sLt (a :: x) (b :: y) = (decide (a < b) || (a == b && sLt x y)) := rfl
theorem sLt_tri : ∀ (a b : List UInt8), (sLt a b || decide (a = b)) = !sLt b a
  | [], [] => rfl
  | [], _ :: _ => rfl
  | _ :: _, [] => rfl
  | a :: x, b :: y => by
    rw [sLt_cons, sLt_cons]
    have ih := sLt_tri x y
    by_cases h : a = b
    · subst h
      have h1 : ¬ a < a := fun h => by simp [UInt8.lt_iff_toNat_lt] at h
      simp only [decide_eq_false h1, beq_self_eq_true, Bool.true_and, Bool.false_or, List.cons.injEq, true_and]
      exact ih
    · have h2 : (a == b) = false := by simpa using h
      have h3 : (b == a) = false := by simpa using fun e : b = a => h e.symm
      have h4 : ¬ (a :: x = b :: y) := fun e => h (List.cons.inj e).1
      rw [h2, h3, decide_eq_false h4]
      simp only [Bool.false_and, Bool.or_false]
      have h5 : a.toNat ≠ b.toNat := fun e => h (UInt8.toNat_inj.1 e)
      by_cases hlt : a < b
      · have : ¬ b < a := by rw [UInt8.lt_iff_toNat_lt] at hlt ⊢; omega
        simp [hlt, this]
      · have : b < a := by rw [UInt8.lt_iff_toNat_lt] at hlt ⊢; omega
        simp [hlt, this]
def okStr (l : List GAttr) : Prop := ∀ a ∈ l, a.Name.length ≤ 9223372036854775807 ∧ a.Value.length ≤ 9223372036854775807
def errA (l : List GAttr) (ch : Bool) (k : Nat) : Option Int :=
  if nameOK l[k]!.Name = false then some 9 else if valOK l[k]!.Value = false ∧ ¬ (ch = true ∧ l[k]!.Value = []) then some 23 else if 0 < k ∧ sLt l[k - 1]!.Name l[k]!.Name = false then some 5 else none
def attrErr (l : List GAttr) (ch : Bool) : Int := ((List.range l.length).findSome? (errA l ch)).getD 0
theorem okStr.at {l : List GAttr} (h : okStr l) {k : Nat} (hk : k < l.length) : l[k]!.Name.length ≤ 9223372036854775807 ∧ l[k]!.Value.length ≤ 9223372036854775807 := by
  rw [getElem!_pos l k hk]; exact h _ (List.getElem_mem hk)
theorem attr_check_step (l : List GAttr) (ch : Bool) (h : okStr l) (hm : l.length ≤ 9223372036854775807) (k : Nat) (hk : k < l.length) : attr_check_L1 l ch k = stepOf k (errA l ch k) := by
  unfold attr_check_L1 errA
  obtain ⟨hn1, hn2⟩ := h.at hk
  rw [if_pos (by simpa using hk), idx_nat hk, bnd1_some]
  generalize l[k]! = x at hn1 hn2 ⊢
  rw [attr_Name_eq _ hn1, bnd1_some]
  cases nameOK x.Name
  · rfl
  rw [if_neg (by decide), if_neg (by decide), attr_Value_eq _ hn2, bnd1_some, chk_nat (by omega)]
  by_cases hv : valOK x.Value = false ∧ ¬ (ch = true ∧ x.Value = [])
  · rw [if_pos hv, if_pos (by simp [hv.1]; cases ch <;> simp_all)]; rfl
  rw [if_neg hv, if_neg (by intro e; simp at e; exact hv ⟨e.1, by rintro ⟨a, b⟩; simp [a, b] at e⟩)]
  by_cases hk0 : k = 0
  · subst hk0; rfl
  · have h0 : decide ((0 : Int) < (k : Int)) = true := by simp; omega
    rw [h0, chk_pred (by omega) (by omega)]
    simp only [beq_self_eq_true, gd_true, bnd1_some, Bool.true_and]
    rw [idx_nat (by omega), bnd1_some, sLt_tri]
    have : (0 < k ∧ sLt l[k - 1]!.Name x.Name = false) ↔ sLt l[k - 1]!.Name x.Name = false := by constructor; exact fun h => h.2; exact fun h => ⟨by omega, h⟩
    simp only [this]
    cases sLt l[k - 1]!.Name x.Name <;> rfl
theorem out_getD {o : Option Int} : (ctl1 (some (outOf o)) fun _ : Unit => some 0) = some (o.getD 0) := by cases o <;> rfl
theorem attr_check_eq (l : List GAttr) (ch : Bool) (h : okStr l) (hm : l.length ≤ 9223372036854775807) : attr_check l ch = some (attrErr l ch) := by
  unfold attr_check
  rw [iter_find (n := l.length) (errA l ch) (fun k hk => attr_check_step l ch h hm k hk) (by unfold attr_check_L1; rw [if_neg (by simp)]), out_getD]; rfl
theorem attr_Check_eq (l : List GAttr) (h : okStr l) (hm : l.length ≤ 9223372036854775807) : attr_Check l = some (attrErr l false) := by unfold attr_Check; rw [attr_check_eq l _ h hm]; rfl
theorem attr_CheckChange_eq (l : List GAttr) (h : okStr l) (hm : l.length ≤ 9223372036854775807) : attr_CheckChange l = some (attrErr l true) := by unfold attr_CheckChange; rw [attr_check_eq l _ h hm]; rfl
def getA (l : List GAttr) (name : List UInt8) : List UInt8 := ((List.range l.length).findSome? fun k => if l[k]!.Name = name then some l[k]!.Value else none).getD []
end Go.Proofs.YtkefchjpggjibaaGreatDoor.Al


namespace Go.Proofs.YtkefchjpggjibaaGreatDoor.Al
def nil2 : GAttr := ⟨[], []⟩
theorem attr_eq_iff (x y : GAttr) : x = y ↔ x.Name = y.Name ∧ x.Value = y.Value := by cases x; cases y; simp
theorem attr_Same_eq (a b : List GAttr) (hm : a.length ≤ 9223372036854775807) : attr_Same a b = some (decide (a = b)) := by
  unfold attr_Same
  by_cases hl : a.length = b.length
  · rw [if_neg (by simp [hl]), iter_find (n := a.length) (fun k => if decide (a[k]! = b[k]!) then none else some false) (fun k hk => by
      unfold attr_Same_L1
      rw [if_pos (by simpa using hk), idx_nat hk, idx_nat (by omega), bnd1_some, bnd1_some, chk_nat (by omega)]
      generalize a[k]! = x
      generalize b[k]! = y
      by_cases h : x = y
      · subst h; simp [stepOf]
      · have h' := h; rw [attr_eq_iff] at h'
        simp only [decide_eq_false h, Bool.and_true]
        by_cases h1 : x.Name = y.Name
        · have h2 : ¬ x.Value = y.Value := fun e => h' ⟨h1, e⟩
          simp [h1, h2, stepOf]
        · simp [h1, stepOf]) (by unfold attr_Same_L1; rw [if_neg (by simp)]), find_const, ctl_outOf]
    by_cases h : a = b
    · subst h; simp
    · rw [decide_eq_false h]
      have : ((List.range a.length).all fun k => decide (a[k]! = b[k]!)) = false := by
        rw [← Bool.not_eq_true, List.all_eq_true]
        intro hall
        apply h
        apply List.ext_getElem hl
        intro k h1 h2
        have := hall k (List.mem_range.2 h1)
        simp only [decide_eq_true_eq] at this
        rwa [getElem!_pos a k h1, getElem!_pos b k h2] at this
      rw [this]; rfl
  · rw [if_pos (by simp; omega), decide_eq_false (by rintro rfl; exact hl rfl)]
theorem ref_SameAttrs_eq (a b : List GAttr) (hm : a.length ≤ 9223372036854775807) : ref_SameAttrs a b = some (decide (a = b)) := by
  unfold ref_SameAttrs
  by_cases hl : a.length = b.length
  · rw [if_neg (by simp [hl]), iter_find (n := a.length) (fun k => if decide (a[k]! = b[k]!) then none else some false) (fun k hk => by
      unfold ref_SameAttrs_L1
      rw [if_pos (by simpa using hk), idx_nat hk, idx_nat (by omega), bnd1_some, bnd1_some, chk_nat (by omega)]
      generalize a[k]! = x
      generalize b[k]! = y
      by_cases h : x = y
      · subst h; simp [stepOf]
      · have h' := h; rw [attr_eq_iff] at h'
        simp only [decide_eq_false h, Bool.and_true]
        by_cases h1 : x.Name = y.Name
        · have h2 : ¬ x.Value = y.Value := fun e => h' ⟨h1, e⟩
          simp [h1, h2, stepOf]
        · simp [h1, stepOf]) (by unfold ref_SameAttrs_L1; rw [if_neg (by simp)]), find_const, ctl_outOf]
    by_cases h : a = b
    · subst h; simp
    · rw [decide_eq_false h]
      have : ((List.range a.length).all fun k => decide (a[k]! = b[k]!)) = false := by
        rw [← Bool.not_eq_true, List.all_eq_true]
        intro hall
        apply h
        apply List.ext_getElem hl
        intro k h1 h2
        have := hall k (List.mem_range.2 h1)
        simp only [decide_eq_true_eq] at this
        rwa [getElem!_pos a k h1, getElem!_pos b k h2] at this
      rw [this]; rfl
  · rw [if_pos (by simp; omega), decide_eq_false (by rintro rfl; exact hl rfl)]
end Go.Proofs.YtkefchjpggjibaaGreatDoor.Al


namespace Go.Proofs.YtkefchjpggjibaaGreatDoor.Al
end Go.Proofs.YtkefchjpggjibaaGreatDoor.Al


namespace Go.Proofs.YtkefchjpggjibaaGreatDoor.Al
def One (l : List GAttr) (n : List UInt8) (o : Option GAttr) : Prop := l = o.toList ∧ ∀ e, o = some e → e.Name = n
structure GOK (g : GAttr → GAttr → List GAttr) (G : Option GAttr → Option GAttr → Option GAttr) : Prop where
  l : ∀ x : GAttr, x.Name ≠ [] → One (g x nil2) x.Name (G (some x) none)
  r : ∀ y : GAttr, y.Name ≠ [] → One (g nil2 y) y.Name (G none (some y))
  b : ∀ x y : GAttr, x.Name = y.Name → x.Name ≠ [] → One (g x y) x.Name (G (some x) (some y))
  n : G none none = none
end Go.Proofs.YtkefchjpggjibaaGreatDoor.Al


namespace Go.Proofs.YtkefchjpggjibaaGreatDoor.Al
end Go.Proofs.YtkefchjpggjibaaGreatDoor.Al


namespace Go.Proofs.YtkefchjpggjibaaGreatDoor.Al
theorem iter_hoare {σ β : Type} {f : σ → Option (σ ⊕ β)} (n : Nat) (R : Nat → σ → Prop) (Q : β → Prop)
    (h1 : ∀ k s, k < n → R k s → (∃ s', f s = some (.inl s') ∧ R (k + 1) s') ∨ (∃ b, f s = some (.inr b) ∧ Q b))
    (h2 : ∀ s, R n s → ∃ b, f s = some (.inr b) ∧ Q b) {s : σ} (h0 : R 0 s) : ∃ b, iter f s = some b ∧ Q b := by
  have key : ∀ m k s, k + m = n → R k s → ∃ b, iter f s = some b ∧ Q b := by
    intro m
    induction m with
    | zero =>
      intro k s hk hR
      obtain rfl : k = n := by omega
      obtain ⟨b, hb, hq⟩ := h2 s hR
      exact ⟨b, iter_stop hb, hq⟩
    | succ m ih =>
      intro k s hk hR
      rcases h1 k s (by omega) hR with ⟨s', h3, h4⟩ | ⟨b, h3, h4⟩
      · obtain ⟨b, h5, h6⟩ := ih (k + 1) s' (by omega) h4
        exact ⟨b, by rw [iter_next h3, h5], h6⟩
      · exact ⟨b, iter_stop h3, h4⟩
  exact key n 0 s (by omega) h0
theorem drop_at {α : Type} [Inhabited α] {l : List α} {k : Nat} (h : k < l.length) : l.drop k = l[k]! :: l.drop (k + 1) := by
  rw [List.drop_eq_getElem_cons h, getElem!_pos l k h]
theorem take_at {α : Type} [Inhabited α] {l : List α} {k : Nat} (h : k < l.length) : l.take (k + 1) = l.take k ++ [l[k]!] := by
  rw [List.take_add_one, List.getElem?_eq_getElem h, getElem!_pos l k h]; rfl
theorem mem_at {α : Type} [Inhabited α] {l : List α} {k : Nat} (h : k < l.length) : l[k]! ∈ l := by
  rw [getElem!_pos l k h]; exact List.getElem_mem h
def oldN (s : GAxisStep) : Int := if s.Kind = 1 then 0 else s.N
def nowN (s : GAxisStep) : Int := if s.Kind = 2 then 0 else s.N
def oldLen (a : List GAxisStep) : Int := (a.map oldN).sum
def nowLen (a : List GAxisStep) : Int := (a.map nowN).sum
theorem find_first {ρ : Type} {n k : Nat} {g : Nat → Option ρ} {r : ρ} (hk : k < n) (h1 : ∀ j, j < k → g j = none) (h2 : g k = some r) : (List.range n).findSome? g = some r := by
  obtain ⟨m, rfl⟩ : ∃ m, n = k + (m + 1) := ⟨n - k - 1, by omega⟩
  rw [List.range_eq_range', ← List.range'_append (s := 0) (m := k) (n := m + 1) (step := 1), List.findSome?_append]
  have : (List.range' 0 k).findSome? g = none := by
    rw [List.findSome?_eq_none_iff]; intro x hx; exact h1 x (by simpa using hx)
  rw [this, Nat.one_mul, Nat.zero_add, List.range'_succ, List.findSome?_cons, h2]; rfl
theorem find_none {ρ : Type} {n : Nat} {g : Nat → Option ρ} (h1 : ∀ j, j < n → g j = none) : (List.range n).findSome? g = none := by
  rw [List.findSome?_eq_none_iff]; intro x hx; exact h1 x (by simpa using hx)
def Stp (s : GAxisStep) : Prop := 0 ≤ s.Kind ∧ s.Kind ≤ 2 ∧ 1 ≤ s.N ∧ s.N ≤ 2147483647
theorem ref_In_eq (x lo hi : Int) : ref_In x lo hi = some (decide (lo ≤ x) && decide (x ≤ hi)) := by
  unfold ref_In
  rfl
end Go.Proofs.YtkefchjpggjibaaGreatDoor.Al


namespace Go.Proofs.YtkefchjpggjibaaGreatDoor.Al
structure GoodA (a : List GAxisStep) : Prop where
  stp : ∀ s ∈ a, Stp s
  olds : oldLen a ≤ 2147483647
  nows : nowLen a ≤ 2147483647
theorem oldLen_cons (s : GAxisStep) (a : List GAxisStep) : oldLen (s :: a) = oldN s + oldLen a := by simp [oldLen]
theorem nowLen_cons (s : GAxisStep) (a : List GAxisStep) : nowLen (s :: a) = nowN s + nowLen a := by simp [nowLen]
theorem GoodA.len {a : List GAxisStep} (h : GoodA a) : (a.length : Int) ≤ 4294967294 := by
  have key : ∀ l : List GAxisStep, (∀ s ∈ l, Stp s) → (l.length : Int) ≤ oldLen l + nowLen l := by
    intro l
    induction l with
    | nil => intro _; simp [oldLen, nowLen]
    | cons s l ih =>
      intro h
      have h1 := ih fun x hx => h x (List.mem_cons_of_mem _ hx)
      have h2 := h s (List.mem_cons_self ..)
      rw [oldLen_cons, nowLen_cons, List.length_cons]
      unfold oldN nowN
      unfold Stp at h2
      split <;> split <;> omega
  have h1 := key a h.stp
  have h2 := h.olds
  have h3 := h.nows
  omega
def Run (a : List GAxisStep) (k : Nat) (f t : Int) : Prop := 0 ≤ f ∧ f + oldLen (a.drop k) ≤ 2147483647 ∧ 0 ≤ t ∧ t + nowLen (a.drop k) ≤ 2147483647
theorem GoodA.run {a : List GAxisStep} (h : GoodA a) : Run a 0 0 0 := by
  have h2 := h.olds
  have h3 := h.nows
  unfold Run
  rw [List.drop_zero]
  omega
def plo (p : Int) : List GAxisStep → Int × Int → Ctl Unit Int
  | [], _ => .nrm ()
  | s :: l, c => if s.Kind = 1 then plo p l (c.1, c.2 + s.N) else if p < c.1 + s.N then .ext (if s.Kind = 0 then c.2 + p - c.1 else -1) else plo p l (c.1 + s.N, if s.Kind = 0 then c.2 + s.N else c.2)
def ctlV : Ctl Unit Int → Int
  | .nrm _ => -1
  | .ext x => x
def sizeLen (a : List GAxisStep) : Int := (a.map (·.N)).sum
end Go.Proofs.YtkefchjpggjibaaGreatDoor.Al


namespace Go.Proofs.YtkefchjpggjibaaGreatDoor.Al
def charOK (c : Int) : Bool := decide (c = 9) || decide (c = 10) || (decide (32 ≤ c) && decide (c ≤ 126)) || (decide (160 ≤ c) && decide (c ≤ 55295)) || (decide (57344 ≤ c) && decide (c ≤ 1114111))
def elemErr (x : GElem) : Int :=
  if (x.Char = 0 ∧ x.Ref = 0) ∨ (x.Char ≠ 0 ∧ x.Ref ≠ 0) then 4 else if (x.Char ≠ 0 ∧ charOK x.Char = false) ∨ (x.Ref ≠ 0 ∧ ¬ (1 ≤ x.Ref ∧ x.Ref ≤ 1073741824)) then 2 else attrErr x.Attrs false
def okE (x : GElem) : Prop := x.Attrs.length ≤ 9223372036854775807 ∧ okStr x.Attrs
theorem flow_Char_eq (c : Int) : flow_Char c = some (charOK c) := by
  unfold flow_Char charOK
  congr 1
  rw [Bool.eq_iff_iff]
  simp only [Bool.or_eq_true, Bool.and_eq_true, decide_eq_true_eq]
  omega
theorem flow_elem_eq (x : GElem) (h : okE x) : flow_elem x = some (elemErr x) := by
  unfold flow_elem elemErr
  rw [flow_Char_eq, attr_Check_eq _ h.2 h.1]
  by_cases c : x.Char = 0
  · by_cases r : x.Ref = 0
    · simp [c, r]
    · by_cases q : 1 ≤ x.Ref ∧ x.Ref ≤ 1073741824
      · have q1 : ¬ x.Ref < 1 := by omega
        have q2 : ¬ 1073741824 < x.Ref := by omega
        simp [c, r, q, q1, q2]
      · have q1 : x.Ref < 1 ∨ 1073741824 < x.Ref := by omega
        simp [c, r, q, q1]
  · by_cases r : x.Ref = 0
    · cases hc : charOK x.Char <;> simp [c, r, hc]
    · simp [c, r]
def errE (f : List GElem) (k : Nat) : Option Int := if elemErr f[k]! = 0 then none else some (elemErr f[k]!)
def partErr (f : List GElem) : Int := ((List.range f.length).findSome? (errE f)).getD 0
theorem flow_CheckPart_eq (f : List GElem) (h : ∀ x ∈ f, okE x) (hm : f.length ≤ 9223372036854775807) : flow_CheckPart f = some (partErr f) := by
  unfold flow_CheckPart
  rw [iter_find (n := f.length) (errE f) (fun k hk => by
    unfold flow_CheckPart_L1 errE
    rw [if_pos (by simpa using hk), idx_nat hk, bnd1_some, chk_nat (by omega), flow_elem_eq _ (h _ (mem_at hk)), bnd1_some]
    by_cases e : elemErr f[k]! = 0
    · rw [if_neg (by simpa using e), if_pos e]; rfl
    · rw [if_pos (by simpa using e), if_neg e]; rfl) (by unfold flow_CheckPart_L1; rw [if_neg (by simp)]), out_getD]; rfl
theorem partErr_at {f : List GElem} (h : partErr f = 0) {k : Nat} (hk : k < f.length) : elemErr f[k]! = 0 := by
  unfold partErr at h
  cases hf : (List.range f.length).findSome? (errE f) with
  | some e =>
    rw [hf] at h
    have h : e = 0 := h
    subst h
    obtain ⟨j, _, hj⟩ := List.exists_of_findSome?_eq_some hf
    unfold errE at hj
    split at hj
    · cases hj
    · rename_i hn; exact absurd (Option.some.inj hj) hn
  | none =>
    rw [List.findSome?_eq_none_iff] at hf
    have := hf k (List.mem_range.2 hk)
    unfold errE at this
    split at this
    · rename_i hn; exact hn
    · cases this
def sHidden : List UInt8 := [104, 105, 100, 100, 101, 110]
def sOn : List UInt8 := [111, 110]
def sCut : List UInt8 := [99, 117, 116]
def sAdd : List UInt8 := [97, 100, 100]
def hid (x : GElem) (mode : Int) : Bool := decide (getA x.Attrs sHidden = sOn) || (decide (mode = 0) && !decide (getA x.Attrs sCut = [])) || (decide (mode = 1) && !decide (getA x.Attrs sAdd = []))
def seen (f : List GElem) (mode : Int) (k : Nat) : Bool := !hid f[k]! mode || (decide (k + 1 = f.length) && decide (f[k]!.Char = 10))
end Go.Proofs.YtkefchjpggjibaaGreatDoor.Al


namespace Go.Proofs.YtkefchjpggjibaaGreatDoor.Al
theorem ndT {p : Prop} [Decidable p] (h : ¬ p) : (!decide p) = true := by simp [h]
theorem ndF {p : Prop} [Decidable p] (h : p) : ¬ ((!decide p) = true) := by simp [h]
def okA (l : List GAttr) : Prop := l.length ≤ 1073741824 ∧ okStr l
theorem okA.e {x : GElem} (h : okA x.Attrs) : okE x := ⟨by have := h.1; omega, h.2⟩
structure OkSt (s : GStep) : Prop where
  at_ : okA s.Attrs
  el : s.Elems.length ≤ 1073741824
  ea : ∀ e ∈ s.Elems, okA e.Attrs
structure OkD (d : List GStep) : Prop where
  len : d.length ≤ 1099511627776
  st : ∀ s ∈ d, OkSt s
  sum : (d.map fun s => s.Elems.length).sum ≤ 1073741824
theorem okE_of {f : List GElem} (h : ∀ e ∈ f, okA e.Attrs) : ∀ e ∈ f, okE e := fun e he => (h e he).e
def stepErr (s : GStep) : Int :=
  if s.Kind = 1 then (if s.N ≠ 0 ∨ s.Attrs ≠ [] then 4 else if s.Elems = [] then 11 else partErr s.Elems)
  else if s.Kind = 0 ∨ s.Kind = 2 then (if s.Elems ≠ [] ∨ (s.Kind = 2 ∧ s.Attrs ≠ []) then 4 else if s.N < 1 ∨ 2147483647 < s.N then 2 else attrErr s.Attrs true)
  else 8
theorem len_pos {α : Type} [DecidableEq α] (l : List α) : decide (0 < (l.length : Int)) = !decide (l = []) := by
  by_cases h : l = []
  · subst h; rfl
  · have := List.length_pos_iff.2 h
    rw [decide_eq_false h, decide_eq_true (by omega)]; rfl
theorem len_zero {α : Type} [DecidableEq α] (l : List α) : decide ((l.length : Int) = 0) = decide (l = []) := by
  by_cases h : l = []
  · subst h; rfl
  · have := List.length_pos_iff.2 h
    rw [decide_eq_false h, decide_eq_false (by omega)]
theorem and_or_any : ∀ (b1 b2 r r' : Bool), b1 = false ∨ b2 = false → (b1 && (!b2 || r)) = (b1 && (!b2 || r')) := by decide
theorem delta_step_eq (s : GStep) (h : OkSt s) : delta_step s = some (stepErr s) := by
  have h1 := h.at_.1
  have h2 := h.el
  unfold delta_step stepErr
  rw [attr_CheckChange_eq _ h.at_.2 (by omega), flow_CheckPart_eq _ (okE_of h.ea) (by omega), len_pos, len_pos, len_zero]
  by_cases k1 : s.Kind = 1
  · have k0 : ¬ s.Kind = 0 := by omega
    have k2 : ¬ s.Kind = 2 := by omega
    simp only [k1, bnd1_some]
    by_cases n0 : s.N = 0 <;> by_cases a0 : s.Attrs = [] <;> by_cases e0 : s.Elems = [] <;> simp [n0, a0, e0]
  · by_cases k0 : s.Kind = 0
    · simp only [k0, bnd1_some]
      by_cases a0 : s.Attrs = [] <;> by_cases e0 : s.Elems = [] <;> by_cases n0 : s.N < 1 ∨ 2147483647 < s.N <;> simp [a0, e0, n0]
    · by_cases k2 : s.Kind = 2
      · simp only [k2, bnd1_some]
        by_cases a0 : s.Attrs = [] <;> by_cases e0 : s.Elems = [] <;> by_cases n0 : s.N < 1 ∨ 2147483647 < s.N <;> simp [a0, e0, n0]
      · simp [k0, k1, k2]
structure GoodS (s : GStep) : Prop where
  kind : (s.Kind = 0 ∧ s.Elems = [] ∧ 1 ≤ s.N ∧ s.N ≤ 2147483647 ∧ attrErr s.Attrs true = 0) ∨ (s.Kind = 2 ∧ s.Elems = [] ∧ s.Attrs = [] ∧ 1 ≤ s.N ∧ s.N ≤ 2147483647) ∨
    (s.Kind = 1 ∧ s.N = 0 ∧ s.Attrs = [] ∧ s.Elems ≠ [] ∧ partErr s.Elems = 0)
theorem goodS_of {s : GStep} (h : stepErr s = 0) : GoodS s := by
  constructor
  unfold stepErr at h
  by_cases k1 : s.Kind = 1
  · rw [if_pos k1] at h
    by_cases c1 : s.N ≠ 0 ∨ s.Attrs ≠ []
    · rw [if_pos c1] at h; cases h
    · rw [if_neg c1] at h
      by_cases c2 : s.Elems = []
      · rw [if_pos c2] at h; cases h
      · rw [if_neg c2] at h
        refine .inr (.inr ⟨k1, ?_, ?_, c2, h⟩)
        · exact Classical.byContradiction fun hn => c1 (.inl hn)
        · exact Classical.byContradiction fun hn => c1 (.inr hn)
  · rw [if_neg k1] at h
    by_cases k : s.Kind = 0 ∨ s.Kind = 2
    · rw [if_pos k] at h
      by_cases c1 : s.Elems ≠ [] ∨ (s.Kind = 2 ∧ s.Attrs ≠ [])
      · rw [if_pos c1] at h; cases h
      · rw [if_neg c1] at h
        by_cases c2 : s.N < 1 ∨ 2147483647 < s.N
        · rw [if_pos c2] at h; cases h
        · rw [if_neg c2] at h
          have he : s.Elems = [] := Classical.byContradiction fun hn => c1 (.inl hn)
          rcases k with k | k
          · exact .inl ⟨k, he, by omega, by omega, h⟩
          · exact .inr (.inl ⟨k, he, Classical.byContradiction fun hn => c1 (.inr ⟨k, hn⟩), by omega, by omega⟩)
    · rw [if_neg k] at h; cases h
def ordBad (p s : GStep) : Bool := (decide (p.Kind = s.Kind) && (!decide (s.Kind = 0) || decide (p.Attrs = s.Attrs))) || (decide (p.Kind = 2) && decide (s.Kind = 1))
def oldS (s : GStep) : Int := if s.Kind = 1 then 0 else s.N
def nowS (s : GStep) : Int := if s.Kind = 2 then 0 else if s.Kind = 1 then s.Elems.length else s.N
def oldD (d : List GStep) : Int := (d.map oldS).sum
def nowD (d : List GStep) : Int := (d.map nowS).sum
theorem oldD_at {d : List GStep} {k : Nat} (h : k < d.length) : oldD (d.take (k + 1)) = oldD (d.take k) + oldS d[k]! := by rw [take_at h]; simp [oldD]
theorem nowD_at {d : List GStep} {k : Nat} (h : k < d.length) : nowD (d.take (k + 1)) = nowD (d.take k) + nowS d[k]! := by rw [take_at h]; simp [nowD]
def errD (d : List GStep) (k : Nat) : Option Int := if stepErr d[k]! ≠ 0 then some (stepErr d[k]!) else if 0 < k ∧ ordBad d[k - 1]! d[k]! = true then some 5 else none
def delErr (d : List GStep) : Int := match (List.range d.length).findSome? (errD d) with
  | some e => e
  | none => if 2147483647 < oldD d ∨ 2147483647 < nowD d then 3 else 0
theorem iter_errs {f : Int × Int × Int → Option ((Int × Int × Int) ⊕ (Ctl (Int × Int) Int))} (n : Nat) (g : Nat → Option Int) (I : Nat → Int × Int → Prop)
    (h : ∀ (k : Nat) (a b : Int), k < n → (∀ j, j < k → g j = none) → I k (a, b) → (∃ e, g k = some e ∧ f (a, b, (k : Int)) = some (.inr (.ext e))) ∨ (g k = none ∧ ∃ a' b', f (a, b, (k : Int)) = some (.inl (a', b', ((k + 1 : Nat) : Int))) ∧ I (k + 1) (a', b')))
    (hend : ∀ (a b : Int), I n (a, b) → f (a, b, (n : Int)) = some (.inr (.nrm (a, b)))) {a0 b0 : Int} (h0 : I 0 (a0, b0)) :
    (∃ e, (List.range n).findSome? g = some e ∧ iter f (a0, b0, 0) = some (.ext e)) ∨ ((List.range n).findSome? g = none ∧ ∃ a b, I n (a, b) ∧ iter f (a0, b0, 0) = some (.nrm (a, b))) := by
  obtain ⟨b, hb, hq⟩ := iter_hoare (f := f) n (fun k s => s.2.2 = (k : Int) ∧ I k (s.1, s.2.1) ∧ ∀ j, j < k → g j = none)
    (fun b => (∃ e, (List.range n).findSome? g = some e ∧ b = .ext e) ∨ ((List.range n).findSome? g = none ∧ ∃ x y, I n (x, y) ∧ b = .nrm (x, y)))
    (fun k s hk hR => by
      obtain ⟨x, y, z⟩ := s
      obtain ⟨rfl, hI, hg⟩ := hR
      rcases h k x y hk hg hI with ⟨e, h1, h2⟩ | ⟨h1, a', b', h2, h3⟩
      · exact .inr ⟨_, h2, .inl ⟨e, find_first hk hg h1, rfl⟩⟩
      · refine .inl ⟨_, h2, rfl, h3, fun j hj => ?_⟩
        rcases Nat.lt_or_ge j k with h4 | h4
        · exact hg j h4
        · obtain rfl : j = k := by omega
          exact h1)
    (fun s hR => by
      obtain ⟨x, y, z⟩ := s
      obtain ⟨rfl, hI, hg⟩ := hR
      exact ⟨_, hend x y hI, .inr ⟨find_none hg, x, y, hI, rfl⟩⟩) (s := (a0, b0, 0)) ⟨rfl, h0, fun j hj => absurd hj (Nat.not_lt_zero _)⟩
  rcases hq with ⟨e, h1, rfl⟩ | ⟨h1, x, y, h2, rfl⟩
  · exact .inl ⟨e, h1, hb⟩
  · exact .inr ⟨h1, x, y, h2, hb⟩
theorem sizes {s : GStep} (h : GoodS s) (ho : OkSt s) : 0 ≤ oldS s ∧ oldS s ≤ 2147483647 ∧ 0 ≤ nowS s ∧ nowS s ≤ 2147483647 ∧ (s.Kind ≠ 2 → s.N + s.Elems.length = nowS s) ∧ (s.Kind ≠ 2 → delta_size s = some (nowS s)) := by
  have h2 := ho.el
  unfold oldS nowS delta_size
  rcases h.kind with ⟨k, e, n1, n2, _⟩ | ⟨k, e, _, n1, n2⟩ | ⟨k, n, _, _, _⟩
  · rw [e]; simp [k]; omega
  · rw [e]; simp [k]; omega
  · simp [k, n]; omega
theorem delta_Check_eq (d : List GStep) (h : OkD d) : delta_Check d = some (delErr d) := by
  have hm := h.len
  unfold delta_Check delErr
  rcases iter_errs (f := fun (a : Int × Int × Int) => delta_Check_L1 d a.1 a.2.1 a.2.2) d.length (errD d) (fun k c => 0 ≤ oldD (d.take k) ∧ 0 ≤ nowD (d.take k) ∧ c = (min (oldD (d.take k)) 2147483648, min (nowD (d.take k)) 2147483648))
    (fun k a b hk _ hI => by
      obtain ⟨p1, p2, hc⟩ := hI
      cases hc
      have hst := h.st _ (mem_at hk)
      show (∃ e, _ ∧ delta_Check_L1 d (min (oldD (d.take k)) 2147483648) (min (nowD (d.take k)) 2147483648) (k : Int) = _) ∨ (_ ∧ ∃ a' b', delta_Check_L1 d (min (oldD (d.take k)) 2147483648) (min (nowD (d.take k)) 2147483648) (k : Int) = _ ∧ _)
      unfold delta_Check_L1
      rw [if_pos (by simpa using hk), idx_nat hk, bnd1_some, delta_step_eq _ hst, bnd1_some]
      by_cases c1 : stepErr d[k]! ≠ 0
      · exact .inl ⟨_, by unfold errD; rw [if_pos c1], by rw [if_pos (by simpa using c1)]; rfl⟩
      rw [if_neg (by simpa using c1)]
      have hg := goodS_of (Classical.not_not.1 c1)
      obtain ⟨z1, z2, z3, z4, z5, z6⟩ := sizes hg hst
      have ord : ∀ (β : Type) (F : Unit → Option (Ctl β ((Int × Int × Int) ⊕ (Ctl (Int × Int) Int)))), (ctl1 (if (decide ((0 : Int) < (k : Int))) then (bnd1 (chk .i64 ((k : Int) - 1)) fun (x8 : Int) => bnd1 (idx d x8) fun (x9 : GStep) =>
          bnd1 (gd (((decide (x9.Kind = d[k]!.Kind)) == true) && ((!decide (d[k]!.Kind = 0)) == false)) (attr_Same x9.Attrs d[k]!.Attrs)) fun (r2 : Bool) =>
          if (((decide (x9.Kind = d[k]!.Kind)) && ((!decide (d[k]!.Kind = 0)) || r2)) || ((decide (x9.Kind = 2)) && (decide (d[k]!.Kind = 1)))) then (some (.ext (.ext (.inr (.ext 5))))) else (some (.nrm ()))) else (some (.nrm ()))) F) =
          if 0 < k ∧ ordBad d[k - 1]! d[k]! = true then some (.ext (.inr (.ext 5))) else F () := by
        intro β F
        by_cases hk0 : 0 < k
        · rw [if_pos (by simp; omega), chk_pred hk0 (by omega), bnd1_some, idx_nat (by omega), bnd1_some]
          have hp := (h.st _ (mem_at (l := d) (k := k - 1) (by omega))).at_.1
          have e : ∀ F2 : Bool → Option (Ctl Unit (Ctl β ((Int × Int × Int) ⊕ (Ctl (Int × Int) Int)))), (∀ r, (decide (d[k - 1]!.Kind = d[k]!.Kind) && ((!decide (d[k]!.Kind = 0)) || r)) = (decide (d[k - 1]!.Kind = d[k]!.Kind) && ((!decide (d[k]!.Kind = 0)) || decide (d[k - 1]!.Attrs = d[k]!.Attrs))) → F2 r = F2 (decide (d[k - 1]!.Attrs = d[k]!.Attrs))) →
              bnd1 (gd (((decide (d[k - 1]!.Kind = d[k]!.Kind)) == true) && ((!decide (d[k]!.Kind = 0)) == false)) (attr_Same d[k - 1]!.Attrs d[k]!.Attrs)) F2 = F2 (decide (d[k - 1]!.Attrs = d[k]!.Attrs)) := by
            intro F2 hF
            rw [attr_Same_eq _ _ (by omega)]
            by_cases q1 : d[k - 1]!.Kind = d[k]!.Kind <;> by_cases q2 : d[k]!.Kind = 0
            · rw [decide_eq_true q1, decide_eq_true q2]; rfl
            · rw [decide_eq_true q1, decide_eq_false q2]
              show F2 default = _
              exact hF _ (and_or_any _ _ _ _ (.inr (decide_eq_false q2)))
            · rw [decide_eq_false q1, decide_eq_true q2]
              show F2 default = _
              exact hF _ (and_or_any _ _ _ _ (.inl (decide_eq_false q1)))
            · rw [decide_eq_false q1, decide_eq_false q2]
              show F2 default = _
              exact hF _ (and_or_any _ _ _ _ (.inl (decide_eq_false q1)))
          rw [e _ (fun r hr => by rw [hr])]
          by_cases hb : ordBad d[k - 1]! d[k]! = true
          · rw [if_pos (c := (_ || _) = true) (by unfold ordBad at hb; exact hb), if_pos ⟨hk0, hb⟩]; rfl
          · rw [if_neg (c := (_ || _) = true) (by unfold ordBad at hb; exact hb), if_neg (fun hh => hb hh.2)]; rfl
        · rw [if_neg (by simp; omega), if_neg (fun hh => hk0 hh.1)]; rfl
      rw [ord]
      by_cases c2 : 0 < k ∧ ordBad d[k - 1]! d[k]! = true
      · exact .inl ⟨5, by unfold errD; rw [if_neg c1, if_pos c2], by rw [if_pos c2]; rfl⟩
      · rw [if_neg c2]
        refine .inr ⟨by unfold errD; rw [if_neg c1, if_neg c2], ?_⟩
        rw [oldD_at hk, nowD_at hk]
        clear ord c1 c2
        generalize oldD (d.take k) = o at p1 ⊢
        generalize nowD (d.take k) = w at p2 ⊢
        by_cases k1 : d[k]!.Kind = 1
        · have ho : oldS d[k]! = 0 := by unfold oldS; rw [if_pos k1]
          rw [if_neg (ndF k1), bnd1_some, if_pos (ndT (by omega)), z6 (by omega), bnd1_some, chk64 (by omega) (by omega), bnd1_some, ctl2_nrm, chk_nat (by omega), bnd1_some]
          exact ⟨_, _, rfl, by omega, by omega, by rw [ho]; congr 1 <;> omega⟩
        · have ho : oldS d[k]! = d[k]!.N := by unfold oldS; rw [if_neg k1]
          rw [if_pos (ndT k1), chk64 (by omega) (by omega), bnd1_some, bnd1_some]
          by_cases k2 : d[k]!.Kind = 2
          · have hw : nowS d[k]! = 0 := by unfold nowS; rw [if_pos k2]
            rw [if_neg (ndF k2), ctl2_nrm, chk_nat (by omega), bnd1_some]
            exact ⟨_, _, rfl, by omega, by omega, by rw [hw, ← ho]; congr 1 <;> omega⟩
          · rw [if_pos (ndT k2), z6 k2, bnd1_some, chk64 (by omega) (by omega), bnd1_some, ctl2_nrm, chk_nat (by omega), bnd1_some]
            exact ⟨_, _, rfl, by omega, by omega, by rw [← ho]; congr 1 <;> omega⟩)
    (fun a b hI => by
      show delta_Check_L1 d a b (d.length : Int) = _
      unfold delta_Check_L1
      rw [if_neg (by simp)]) (a0 := 0) (b0 := 0) ⟨by simp [oldD], by simp [nowD], by simp [oldD, nowD]; decide⟩ with ⟨e, h1, h2⟩ | ⟨h1, a, b, ⟨_, _, hc⟩, h2⟩
  · rw [h1, h2]; rfl
  · rw [h1, h2, ctl2_nrm]
    rw [List.take_length] at hc
    cases hc
    by_cases hx : 2147483647 < oldD d ∨ 2147483647 < nowD d
    · rw [if_pos (by simp; omega)]; simp only; rw [if_pos hx]
    · rw [if_neg (by simp; omega)]; simp only; rw [if_neg hx]
end Go.Proofs.YtkefchjpggjibaaGreatDoor.Al


namespace Go.Proofs.YtkefchjpggjibaaGreatDoor.Al
end Go.Proofs.YtkefchjpggjibaaGreatDoor.Al


namespace Go.Proofs.YtkefchjpggjibaaGreatDoor.Al
inductive Un where
  | a (e : GElem)
  | r (cut : Bool) (at_ : List GAttr)
def uOf : List (List GElem) → List Bool → List (List GAttr) → List Un
  | A :: As, c :: cs, t :: ts => A.map Un.a ++ Un.r c t :: uOf As cs ts
  | A :: _, _, _ => A.map Un.a
  | [], _, _ => []
structure WfA (x : Ref_Act) : Prop where
  adds : x.Adds.length = x.Cuts.length + 1
  attrs : x.Attrs.length = x.Cuts.length
def Ref_Act.us (x : Ref_Act) : List Un := uOf x.Adds x.Cuts x.Attrs
def Un.isR : Un → Bool
  | .a _ => false
  | .r _ _ => true
def cntR (us : List Un) : Nat := us.countP Un.isR
theorem uOf_cnt : ∀ (cs : List Bool) (As : List (List GElem)) (ts : List (List GAttr)), As.length = cs.length + 1 → ts.length = cs.length → cntR (uOf As cs ts) = cs.length
  | [], [A], [], _, _ => by
    have : ∀ l : List GElem, cntR (l.map Un.a) = 0 := fun l => by induction l with
      | nil => rfl
      | cons x l ih => simp [cntR, Un.isR]
    exact this A
  | [], [], _, h, _ => by simp at h
  | [], _ :: _ :: _, _, h, _ => by simp at h
  | [], _, _ :: _, _, h => by simp at h
  | c0 :: cs, A0 :: As, t0 :: ts, h1, h2 => by
    have ih := uOf_cnt cs As ts (by simpa using h1) (by simpa using h2)
    have : ∀ l : List GElem, (l.map Un.a).countP Un.isR = 0 := fun l => by induction l with
      | nil => rfl
      | cons x l ih => simp [Un.isR]
    simp only [cntR, uOf, List.countP_append, this, List.countP_cons, Un.isR, if_true, Nat.zero_add, List.length_cons] at ih ⊢
    omega
  | _ :: _, [], _, h, _ => by simp at h
  | _ :: _, _, [], _, h => by simp at h
theorem uOf_mem : ∀ (cs : List Bool) (As : List (List GElem)) (ts : List (List GAttr)), As.length = cs.length + 1 → ts.length = cs.length → ∀ A ∈ As, A.length ≤ (uOf As cs ts).length
  | [], [A], [], _, _ => by simp [uOf]
  | [], [], _, h, _ => by simp at h
  | [], _ :: _ :: _, _, h, _ => by simp at h
  | [], _, _ :: _, _, h => by simp at h
  | c0 :: cs, A0 :: As, t0 :: ts, h1, h2 => by
    have ih := uOf_mem cs As ts (by simpa using h1) (by simpa using h2)
    intro A hA
    simp only [uOf, List.length_append, List.length_map, List.length_cons]
    rcases List.mem_cons.1 hA with rfl | hA
    · omega
    · have := ih A hA; omega
  | _ :: _, [], _, h, _ => by simp at h
  | _ :: _, _, [], _, h => by simp at h
theorem cntR_le (us : List Un) : cntR us ≤ us.length := List.countP_le_length
theorem WfA.cnt {x : Ref_Act} (h : WfA x) : cntR x.us = x.Cuts.length := uOf_cnt _ _ _ h.adds h.attrs
theorem WfA.cuts_le {x : Ref_Act} (h : WfA x) : x.Cuts.length ≤ x.us.length := by rw [← h.cnt]; exact cntR_le _
theorem WfA.add_le {x : Ref_Act} (h : WfA x) {k : Nat} (hk : k < x.Adds.length) : x.Adds[k]!.length ≤ x.us.length := uOf_mem _ _ _ h.adds h.attrs _ (mem_at hk)
theorem app64 {α : Type} {o : List α} {x : α} (h : o.length + 1 ≤ 1099511627776) : app 64 o [x] = some (o ++ [x]) := by
  unfold app; rw [if_pos]; simp only [List.length_singleton]; omega
theorem app40 {α : Type} {o xs : List α} (h : o.length + xs.length ≤ 1099511627776) : app 40 o xs = some (o ++ xs) := by
  unfold app; rw [if_pos]; omega
theorem set_eq {α : Type} {l : List α} {k : Nat} {x : α} : l.set ((k : Int).toNat) x = l.set k x := by simp
def unitsS (s : GStep) : List Un := if s.Kind = 1 then s.Elems.map Un.a else List.replicate s.N.toNat (.r (decide (s.Kind = 2)) s.Attrs)
def unitsD (d : List GStep) : List Un := d.flatMap unitsS
def Ref_Act.from_ (x : Ref_Act) (k : Nat) : List Un := uOf (x.Adds.drop k) (x.Cuts.drop k) (x.Attrs.drop k)
theorem from_zero (x : Ref_Act) : x.from_ 0 = x.us := rfl
theorem from_at {x : Ref_Act} (h : WfA x) {k : Nat} (hk : k < x.Cuts.length) : x.from_ k = x.Adds[k]!.map Un.a ++ .r x.Cuts[k]! x.Attrs[k]! :: x.from_ (k + 1) := by
  unfold Ref_Act.from_
  have ha := h.adds
  have ht := h.attrs
  rw [drop_at (l := x.Adds) (by omega), drop_at (l := x.Cuts) hk, drop_at (l := x.Attrs) (by omega), uOf]
theorem from_end {x : Ref_Act} (h : WfA x) : x.from_ x.Cuts.length = x.Adds[x.Cuts.length]!.map Un.a := by
  unfold Ref_Act.from_
  have ha := h.adds
  rw [drop_at (l := x.Adds) (by omega), List.drop_length]
  cases x.Adds.drop (x.Cuts.length + 1) <;> rfl
end Go.Proofs.YtkefchjpggjibaaGreatDoor.Al


namespace Go.Proofs.YtkefchjpggjibaaGreatDoor.Al
end Go.Proofs.YtkefchjpggjibaaGreatDoor.Al


namespace Go.Proofs.YtkefchjpggjibaaGreatDoor.Al
structure DS where
  out : List GStep
  adds : List GElem
  cuts : Nat
def dFl (s : DS) : List GStep := (if 0 < s.adds.length then s.out ++ [⟨1, 0, [], s.adds⟩] else s.out) ++ (if 0 < s.cuts then [⟨2, s.cuts, [], []⟩] else [])
def bumpD (l : List GStep) (t : List GAttr) : List GStep :=
  if 0 < l.length ∧ l[l.length - 1]!.Kind = 0 ∧ l[l.length - 1]!.Attrs = t then l.set (l.length - 1) ⟨l[l.length - 1]!.Kind, l[l.length - 1]!.N + 1, l[l.length - 1]!.Attrs, l[l.length - 1]!.Elems⟩
  else l ++ [⟨0, 1, t, []⟩]
def dU (s : DS) : Un → DS
  | .a e => ⟨s.out, s.adds ++ [e], s.cuts⟩
  | .r true _ => ⟨s.out, s.adds, s.cuts + 1⟩
  | .r false t => ⟨bumpD (dFl s) t, [], 0⟩
def deltaOf (us : List Un) : List GStep := dFl (us.foldl dU ⟨[], [], 0⟩)
theorem dU_adds (A : List GElem) : ∀ s : DS, (A.map Un.a).foldl dU s = ⟨s.out, s.adds ++ A, s.cuts⟩ := by
  induction A with
  | nil => intro s; simp
  | cons e A ih => intro s; simp only [List.map_cons, List.foldl_cons]; rw [ih]; simp [dU]
structure DB (m : Nat) (s : DS) : Prop where
  len : s.out.length + s.adds.length + s.cuts ≤ m
  mem : ∀ x ∈ s.out, 0 ≤ x.N ∧ x.N ≤ m ∧ x.Elems.length ≤ m ∧ x.Attrs.length ≤ 1099511627776
def OkU (u : Un) : Prop := match u with | .a _ => True | .r _ t => t.length ≤ 1099511627776
theorem db_fl {m : Nat} {s : DS} (h : DB m s) : (dFl s).length ≤ m ∧ ∀ x ∈ dFl s, 0 ≤ x.N ∧ x.N ≤ m ∧ x.Elems.length ≤ m ∧ x.Attrs.length ≤ 1099511627776 := by
  have hl := h.len
  refine ⟨?_, fun x hx => ?_⟩
  · unfold dFl
    split <;> split <;> simp <;> omega
  · unfold dFl at hx
    rcases List.mem_append.1 hx with h1 | h1
    · split at h1
      · rcases List.mem_append.1 h1 with h2 | h2
        · exact h.mem x h2
        · have : x = ⟨1, 0, [], s.adds⟩ := by simpa using h2
          subst this
          simp; omega
      · exact h.mem x h1
    · split at h1
      · have : x = ⟨2, s.cuts, [], []⟩ := by simpa using h1
        subst this
        simp; omega
      · simp at h1
theorem db_step {m : Nat} {s : DS} (h : DB m s) {u : Un} (hu : OkU u) : DB (m + 1) (dU s u) := by
  have hl := h.len
  have hm : ∀ x : GStep, (0 ≤ x.N ∧ x.N ≤ m ∧ x.Elems.length ≤ m ∧ x.Attrs.length ≤ 1099511627776) → 0 ≤ x.N ∧ x.N ≤ ((m + 1 : Nat) : Int) ∧ x.Elems.length ≤ m + 1 ∧ x.Attrs.length ≤ 1099511627776 := fun x ⟨a, b, c, d⟩ => ⟨a, by omega, by omega, d⟩
  match u, hu with
  | .a e, _ => exact ⟨by simp [dU]; omega, fun x hx => hm x (h.mem x hx)⟩
  | .r true t, _ => exact ⟨by simp [dU]; omega, fun x hx => hm x (h.mem x hx)⟩
  | .r false t, ht =>
    obtain ⟨h1, h2⟩ := db_fl h
    show DB (m + 1) ⟨bumpD (dFl s) t, [], 0⟩
    unfold bumpD
    split
    · rename_i hc
      refine ⟨by simp; omega, fun x hx => ?_⟩
      rcases List.mem_or_eq_of_mem_set hx with h3 | h3
      · exact hm x (h2 x h3)
      · have h4 := h2 _ (mem_at (l := dFl s) (k := (dFl s).length - 1) (by omega))
        subst h3
        exact ⟨by simp only; omega, by simp only; omega, by simp only; omega, h4.2.2.2⟩
    · refine ⟨by simp; omega, fun x hx => ?_⟩
      rcases List.mem_append.1 hx with h3 | h3
      · exact hm x (h2 x h3)
      · have : x = ⟨0, 1, t, []⟩ := by simpa using h3
        subst this
        exact ⟨by simp, by simp only; omega, by simp, ht⟩
theorem db_steps {us : List Un} : ∀ {m : Nat} {s : DS}, DB m s → (∀ u ∈ us, OkU u) → DB (m + us.length) (us.foldl dU s) := by
  induction us with
  | nil => intro m s h _; exact h
  | cons u us ih =>
    intro m s h hu
    have := ih (db_step h (hu u (List.mem_cons_self ..))) fun v hv => hu v (List.mem_cons_of_mem _ hv)
    rw [List.foldl_cons, List.length_cons, show m + (us.length + 1) = m + 1 + us.length by omega]
    exact this
theorem from_sub (x : Ref_Act) (k : Nat) (h : WfA x) (hk : k ≤ x.Cuts.length) : ∃ p, x.us = p ++ x.from_ k := by
  induction k with
  | zero => exact ⟨[], rfl⟩
  | succ k ih =>
    obtain ⟨p, hp⟩ := ih (by omega)
    rw [from_at h (by omega)] at hp
    exact ⟨p ++ (x.Adds[k]!.map Un.a ++ [.r x.Cuts[k]! x.Attrs[k]!]), by rw [hp]; simp⟩
theorem idx_last {l : List GStep} (h : 0 < l.length) (hm : l.length ≤ 9223372036854775807) : chk .i64 ((l.length : Int) - 1) = some ((l.length - 1 : Nat) : Int) := by
  rw [chk64 (by omega) (by omega)]; congr 1; omega
theorem fl_eq (s : DS) (hb : s.out.length + 2 ≤ 1099511627776) {α : Type} (f : List GStep → Option α) :
    (bnd1 (if (decide (0 < (s.adds.length : Int))) then (bnd1 (app 64 s.out [(GStep.mk 1 0 [] s.adds)]) fun (out10 : List GStep) => some out10) else (some s.out)) fun (out6 : List GStep) =>
      bnd1 (if (decide (0 < (s.cuts : Int))) then (bnd1 (app 64 out6 [(GStep.mk 2 s.cuts [] [])]) fun (out9 : List GStep) => some out9) else (some out6)) f) = f (dFl s) := by
  unfold dFl
  by_cases h1 : 0 < s.adds.length
  · rw [if_pos (by rw [decide_eq_true_eq]; omega), app64 (by omega), if_pos h1]
    simp only [bnd1_some]
    by_cases h2 : 0 < s.cuts
    · rw [if_pos (by rw [decide_eq_true_eq]; omega), app64 (by rw [List.length_append, List.length_singleton]; omega), if_pos h2]; rfl
    · rw [if_neg (by rw [decide_eq_true_eq]; omega), if_neg h2, List.append_nil]; rfl
  · rw [if_neg (by rw [decide_eq_true_eq]; omega), if_neg h1]
    simp only [bnd1_some]
    by_cases h2 : 0 < s.cuts
    · rw [if_pos (by rw [decide_eq_true_eq]; omega), app64 (by omega), if_pos h2]; rfl
    · rw [if_neg (by rw [decide_eq_true_eq]; omega), if_neg h2, List.append_nil]; rfl
theorem okU_at {x : Ref_Act} (h : WfA x) (hu : ∀ u ∈ x.us, OkU u) {k : Nat} (hk : k < x.Cuts.length) : x.Attrs[k]!.length ≤ 1099511627776 := by
  obtain ⟨p, hp⟩ := from_sub x k h (by omega)
  rw [from_at h hk] at hp
  exact hu (.r x.Cuts[k]! x.Attrs[k]!) (by rw [hp]; simp)
theorem ref_DeltaOf_eq (x : Ref_Act) (h : WfA x) (hu : ∀ u ∈ x.us, OkU u) (hb : x.us.length ≤ 4294967296) : ref_DeltaOf x = some (deltaOf x.us) := by
  unfold ref_DeltaOf
  have hxc := h.cuts_le
  have hxa := h.adds
  have hxt := h.attrs
  have key : ∃ l, iter (fun (a : Int × Int × (List GStep) × (List GElem)) => ref_DeltaOf_L1 x a.1 a.2.1 a.2.2.1 a.2.2.2) (0, 0, [], []) = some l ∧ l = deltaOf x.us := by
    refine iter_hoare x.Cuts.length (fun k st => st.2.1 = (k : Int) ∧ ∃ s : DS, st.1 = (s.cuts : Int) ∧ st.2.2.1 = s.out ∧ st.2.2.2 = s.adds ∧ (∃ m, DB m s ∧ m + (x.from_ k).length = x.us.length) ∧ dFl ((x.from_ k).foldl dU s) = deltaOf x.us) _ ?_ ?_ ⟨rfl, ⟨[], [], 0⟩, rfl, rfl, rfl, ⟨0, ⟨by simp, by simp⟩, by rw [from_zero, Nat.zero_add]⟩, rfl⟩
    · rintro k ⟨cuts, i, out, adds⟩ hk ⟨rfl, s, h1, h2, h3, ⟨m, hdb, hm⟩, hT⟩
      dsimp only at h1 h2 h3
      subst h1; subst h2; subst h3
      rw [from_at h hk] at hT hm
      rw [List.foldl_append, List.foldl_cons, dU_adds] at hT
      simp only [List.length_append, List.length_map, List.length_cons] at hm
      have hA := h.add_le (k := k) (by omega)
      have hdb1 : DB (m + x.Adds[k]!.length) ⟨s.out, s.adds ++ x.Adds[k]!, s.cuts⟩ := by
        have := db_steps (us := x.Adds[k]!.map Un.a) hdb (fun u hu => by obtain ⟨e, _, rfl⟩ := List.mem_map.1 hu; trivial)
        rwa [dU_adds, List.length_map] at this
      have hlen := hdb.len
      refine .inl ?_
      show ∃ s', ref_DeltaOf_L1 x (s.cuts : Int) (k : Int) s.out s.adds = _ ∧ _
      unfold ref_DeltaOf_L1
      rw [if_pos (by simp; omega), idx_nat (l := x.Adds) (by omega), bnd1_some, app40 (by omega), bnd1_some]
      have hd : decide ((k : Int) < (x.Cuts.length : Int)) = true := by simpa using hk
      rw [hd, show (true == true) = true from rfl, gd_true, idx_nat (l := x.Cuts) hk, bnd1_some, Bool.true_and]
      cases hc : x.Cuts[k]! with
      | true =>
        rw [hc] at hT
        rw [if_pos rfl, chk_nat (by omega), bnd1_some, ctl3_nrm, chk_nat (by omega), bnd1_some]
        refine ⟨_, rfl, rfl, ⟨s.out, s.adds ++ x.Adds[k]!, s.cuts + 1⟩, rfl, rfl, rfl, ⟨m + x.Adds[k]!.length + 1, ?_, by omega⟩, hT⟩
        exact db_step (u := .r true x.Attrs[k]!) hdb1 (okU_at h hu hk)
      | false =>
        rw [hc] at hT
        rw [if_neg (by decide)]
        have hfl := fl_eq ⟨s.out, s.adds ++ x.Adds[k]!, s.cuts⟩ (by simp only; omega) (α := Ctl (Int × (List GStep) × (List GElem)) ((Int × Int × (List GStep) × (List GElem)) ⊕ (List GStep)))
        simp only at hfl
        rw [hfl, if_neg (by simp; omega)]
        obtain ⟨f1, f2⟩ := db_fl hdb1
        have hbump := db_step (u := .r false x.Attrs[k]!) hdb1 (okU_at h hu hk)
        change DB _ ⟨bumpD (dFl ⟨s.out, s.adds ++ x.Adds[k]!, s.cuts⟩) x.Attrs[k]!, [], 0⟩ at hbump
        change dFl (List.foldl dU ⟨bumpD (dFl ⟨s.out, s.adds ++ x.Adds[k]!, s.cuts⟩) x.Attrs[k]!, [], 0⟩ _) = _ at hT
        generalize hl : dFl ⟨s.out, s.adds ++ x.Adds[k]!, s.cuts⟩ = l at f1 f2 hbump hT
        clear hfl
        have hat : x.Attrs[k]!.length ≤ 1099511627776 := okU_at h hu hk
        have fin : ∀ l', l' = bumpD l x.Attrs[k]! → ∃ s', (ctl3 (some (Ctl.nrm ((0 : Int), l', ([] : List GElem)))) fun (cuts4 : Int) (out5 : List GStep) (adds4 : List GElem) => bnd1 (chk .i64 ((k : Int) + 1)) fun (i10 : Int) => some (Sum.inl (cuts4, i10, out5, adds4))) = some (Sum.inl s' : (Int × Int × (List GStep) × (List GElem)) ⊕ (List GStep)) ∧
            s'.2.1 = ((k + 1 : Nat) : Int) ∧ ∃ s : DS, s'.1 = (s.cuts : Int) ∧ s'.2.2.1 = s.out ∧ s'.2.2.2 = s.adds ∧ (∃ m, DB m s ∧ m + (x.from_ (k + 1)).length = x.us.length) ∧ dFl ((x.from_ (k + 1)).foldl dU s) = deltaOf x.us := by
          intro l' hl'
          subst hl'
          rw [ctl3_nrm, chk_nat (by omega), bnd1_some]
          exact ⟨_, rfl, rfl, ⟨bumpD l x.Attrs[k]!, [], 0⟩, rfl, rfl, rfl, ⟨_, hbump, by omega⟩, hT⟩
        by_cases hl0 : 0 < l.length
        · rw [idx_last hl0 (by omega), bnd1_some]
          have d0 : decide (0 ≤ (((l.length - 1 : Nat)) : Int)) = true := by simp
          rw [d0, show (true == true) = true from rfl, gd_true, idx_nat (l := l) (by omega), bnd1_some, Bool.true_and]
          have hmem := f2 _ (mem_at (l := l) (k := l.length - 1) (by omega))
          by_cases hk0 : l[l.length - 1]!.Kind = 0
          · have d1 : decide (l[l.length - 1]!.Kind = 0) = true := by simpa using hk0
            rw [d1, show (true == true) = true from rfl, gd_true, gd_true, bnd1_some, idx_nat (l := x.Attrs) (by omega), bnd1_some, gd_true, ref_SameAttrs_eq _ _ (by omega), bnd1_some, Bool.true_and]
            by_cases hs : l[l.length - 1]!.Attrs = x.Attrs[k]!
            · rw [if_pos (by simpa using hs), bnd1_some, chk64 (by omega) (by omega), bnd1_some]
              refine fin _ ?_
              unfold bumpD
              rw [if_pos ⟨hl0, hk0, hs⟩, set_eq]
            · rw [if_neg (by simpa using hs), bnd1_some, app64 (by omega), bnd1_some]
              refine fin _ ?_
              unfold bumpD
              rw [if_neg (fun h => hs h.2.2)]
          · have d1 : decide (l[l.length - 1]!.Kind = 0) = false := by simpa using hk0
            rw [d1, show (false == true) = false from rfl, gd_false, gd_false, bnd1_some, bnd1_some, gd_false, bnd1_some, Bool.false_and, if_neg (by decide), idx_nat (l := x.Attrs) (by omega), bnd1_some, app64 (by omega), bnd1_some]
            refine fin _ ?_
            unfold bumpD
            rw [if_neg (fun h => hk0 h.2.1)]
        · have hl0' : l = [] := List.eq_nil_of_length_eq_zero (by omega)
          subst hl0'
          have d0 : decide (0 ≤ (-1 : Int)) = false := by decide
          rw [show ((([] : List GStep).length : Int) - 1) = -1 from rfl, show chk .i64 (-1) = some (-1) from chk64 (by decide) (by decide), bnd1_some, d0]
          rw [show (false == true) = false from rfl, gd_false, bnd1_some, Bool.false_and, show (false == true) = false from rfl, gd_false, gd_false, bnd1_some, bnd1_some, gd_false, bnd1_some, Bool.false_and, if_neg (by decide), idx_nat (l := x.Attrs) (by omega), bnd1_some, app64 (by simp), bnd1_some]
          refine fin _ ?_
          unfold bumpD
          rw [if_neg (fun h => hl0 h.1)]
    · rintro ⟨cuts, i, out, adds⟩ ⟨rfl, s, h1, h2, h3, ⟨m, hdb, hm⟩, hT⟩
      dsimp only at h1 h2 h3
      subst h1; subst h2; subst h3
      rw [from_end h] at hT hm
      rw [dU_adds] at hT
      simp only [List.length_map] at hm
      have hlen := hdb.len
      refine ⟨_, ?_, hT⟩
      show ref_DeltaOf_L1 x (s.cuts : Int) (x.Cuts.length : Int) s.out s.adds = _
      unfold ref_DeltaOf_L1
      rw [if_pos (by simp), idx_nat (l := x.Adds) (by omega), bnd1_some, app40 (by omega), bnd1_some]
      have hd : decide (((x.Cuts.length : Nat) : Int) < (x.Cuts.length : Int)) = false := by simp
      rw [hd, show (false == true) = false from rfl, gd_false, bnd1_some, Bool.false_and, if_neg (by decide)]
      have hfl := fl_eq ⟨s.out, s.adds ++ x.Adds[x.Cuts.length]!, s.cuts⟩ (by simp only; omega) (α := Ctl (Int × (List GStep) × (List GElem)) ((Int × Int × (List GStep) × (List GElem)) ⊕ (List GStep)))
      simp only at hfl
      rw [hfl, if_pos (by simp)]
      rfl
  obtain ⟨l, e, hl⟩ := key
  rw [e, hl]; rfl
end Go.Proofs.YtkefchjpggjibaaGreatDoor.Al


namespace Go.Proofs.YtkefchjpggjibaaGreatDoor.Al
structure GoodD (d : List GStep) : Prop where
  st : ∀ s ∈ d, GoodS s
  ord : ∀ k, 0 < k → k < d.length → ordBad d[k - 1]! d[k]! = false
  olds : oldD d ≤ 2147483647
  nows : nowD d ≤ 2147483647
theorem oldD_cons (s : GStep) (d : List GStep) : oldD (s :: d) = oldS s + oldD d := by simp [oldD]
theorem nowD_cons (s : GStep) (d : List GStep) : nowD (s :: d) = nowS s + nowD d := by simp [nowD]
theorem app32 {l : List GAttr} (h : l.length ≤ 1073741824) : app 32 [] l = some l := by
  unfold app; rw [if_pos]; rfl; simp; omega
end Go.Proofs.YtkefchjpggjibaaGreatDoor.Al


namespace Go.Proofs.YtkefchjpggjibaaGreatDoor.Al
end Go.Proofs.YtkefchjpggjibaaGreatDoor.Al


namespace Go.Proofs.YtkefchjpggjibaaGreatDoor.Al
def bumpDn (l : List GStep) (t : List GAttr) (n : Int) : List GStep :=
  if 0 < l.length ∧ l[l.length - 1]!.Kind = 0 ∧ l[l.length - 1]!.Attrs = t then l.set (l.length - 1) ⟨l[l.length - 1]!.Kind, l[l.length - 1]!.N + n, l[l.length - 1]!.Attrs, l[l.length - 1]!.Elems⟩
  else l ++ [⟨0, n, t, []⟩]
theorem bumpDn_one (l : List GStep) (t : List GAttr) : bumpDn l t 1 = bumpD l t := rfl
theorem getS_app_last {l : List GStep} {s : GStep} : (l ++ [s])[l.length]! = s := by
  rw [getElem!_pos (l ++ [s]) l.length (by simp)]; simp
theorem getS_app {l : List GStep} {s : GStep} {k : Nat} (h : k < l.length) : (l ++ [s])[k]! = l[k]! := by
  rw [getElem!_pos (l ++ [s]) k (by simp; omega), getElem!_pos l k h, List.getElem_append_left h]
theorem bumpDn_bump (l : List GStep) (t : List GAttr) (m n : Int) : bumpDn (bumpDn l t m) t n = bumpDn l t (m + n) := by
  unfold bumpDn
  by_cases hc : 0 < l.length ∧ l[l.length - 1]!.Kind = 0 ∧ l[l.length - 1]!.Attrs = t
  · have hlt : l.length - 1 < l.length := by omega
    have hg : ∀ x : GStep, (l.set (l.length - 1) x)[l.length - 1]! = x := fun x => by rw [getElem!_pos _ _ (by simpa using hlt), List.getElem_set_self]
    rw [if_pos hc, if_pos hc, List.length_set, hg, if_pos ⟨hc.1, hc.2.1, hc.2.2⟩, List.set_set]
    simp only [Int.add_assoc]
  · rw [if_neg hc, if_neg hc]
    rw [show (l ++ [(⟨0, m, t, []⟩ : GStep)]).length - 1 = l.length by simp, getS_app_last, if_pos ⟨by simp, rfl, rfl⟩]
    simp
def keepP (s : DS) (n : Int) (t : List GAttr) : DS := if n = 0 then s else ⟨bumpDn (dFl s) t n, [], 0⟩
theorem dFl_nil (l : List GStep) : dFl ⟨l, [], 0⟩ = l := by simp [dFl]
theorem keepP_units (s : DS) (n : Int) (t : List GAttr) (h : 0 ≤ n) : keepP s n t = (List.replicate n.toNat (Un.r false t)).foldl dU s := by
  have hK : ∀ (j : Nat) (l : List GStep) (n : Int), (List.replicate j (Un.r false t)).foldl dU ⟨bumpDn l t n, [], 0⟩ = ⟨bumpDn l t (n + j), [], 0⟩ := by
    intro j
    induction j with
    | zero => intro l n; simp
    | succ j ih =>
      intro l n
      rw [List.replicate_succ, List.foldl_cons]
      simp only [dU, dFl_nil]
      rw [← bumpDn_one, bumpDn_bump, ih, show n + 1 + (j : Int) = n + ((j + 1 : Nat) : Int) by omega]
  unfold keepP
  by_cases hn : n = 0
  · subst hn; simp
  · rw [if_neg hn]
    obtain ⟨j, hj⟩ : ∃ j, n.toNat = j + 1 := ⟨n.toNat - 1, by omega⟩
    rw [hj, List.replicate_succ, List.foldl_cons]
    simp only [dU]
    rw [← bumpDn_one, hK, show (1 : Int) + j = n by omega]
def OkUn (u : Un) : Prop := match u with
  | .a e => elemErr e = 0 ∧ okA e.Attrs
  | .r c t => (c = false → attrErr t true = 0) ∧ okA t
def cntA (us : List Un) : Nat := us.countP fun u => !u.isR
def isNow : Un → Bool
  | .a _ => true
  | .r c _ => !c
def cntN (us : List Un) : Nat := us.countP isNow
theorem stepErr_add {A : List GElem} (h0 : A ≠ []) (h : ∀ e ∈ A, elemErr e = 0) : stepErr ⟨1, 0, [], A⟩ = 0 := by
  unfold stepErr
  rw [if_pos rfl, if_neg (by simp), if_neg h0]
  show partErr A = 0
  unfold partErr
  have : (List.range A.length).findSome? (errE A) = none := by
    rw [List.findSome?_eq_none_iff]
    intro k hk
    have hk := List.mem_range.1 hk
    unfold errE
    rw [if_pos (h _ (mem_at hk))]
  rw [this]; rfl
theorem stepErr_cut {n : Int} (h1 : 1 ≤ n) (h2 : n ≤ 2147483647) : stepErr ⟨2, n, [], []⟩ = 0 := by
  unfold stepErr
  rw [if_neg (by simp), if_pos (by simp), if_neg (by simp), if_neg (by simp only; omega)]
  show attrErr [] true = 0
  decide
theorem stepErr_keep {n : Int} {t : List GAttr} (h1 : 1 ≤ n) (h2 : n ≤ 2147483647) (h : attrErr t true = 0) : stepErr ⟨0, n, t, []⟩ = 0 := by
  unfold stepErr
  rw [if_neg (by simp), if_pos (by simp), if_neg (by simp), if_neg (by simp only; omega)]
  exact h
def Okk2 (a : Nat) (s : GStep) : Prop := ((s.Kind = 0 ∧ s.Elems = [] ∧ 1 ≤ s.N ∧ attrErr s.Attrs true = 0) ∨ (s.Kind = 2 ∧ s.Elems = [] ∧ s.Attrs = [] ∧ 1 ≤ s.N) ∨
    (s.Kind = 1 ∧ s.N = 0 ∧ s.Attrs = [] ∧ s.Elems ≠ [] ∧ ∀ e ∈ s.Elems, elemErr e = 0)) ∧ okA s.Attrs ∧ s.Elems.length ≤ a ∧ ∀ e ∈ s.Elems, okA e.Attrs
def AdjD (l : List GStep) : Prop := ∀ k, 0 < k → k < l.length → ordBad l[k - 1]! l[k]! = false
structure CD (m a r n : Nat) (s : DS) : Prop where
  ok : ∀ x ∈ s.out, Okk2 a x
  adj : AdjD s.out
  last : 0 < s.out.length → s.out[s.out.length - 1]!.Kind = 0
  add : ∀ e ∈ s.adds, elemErr e = 0 ∧ okA e.Attrs
  olds : oldD s.out + s.cuts = r
  nows : nowD s.out + s.adds.length = n
  len : s.out.length + s.adds.length + s.cuts ≤ m
  al : s.adds.length ≤ a
theorem cd_nil : CD 0 0 0 0 ⟨[], [], 0⟩ := ⟨by simp, fun k _ hk => by simp at hk, fun h => by simp at h, by simp, by simp [oldD], by simp [nowD], by simp, by simp⟩
theorem oldD_app (a b : List GStep) : oldD (a ++ b) = oldD a + oldD b := by simp [oldD]
theorem nowD_app (a b : List GStep) : nowD (a ++ b) = nowD a + nowD b := by simp [nowD]
theorem adjD_app {l : List GStep} {s : GStep} (h : AdjD l) (hs : 0 < l.length → ordBad l[l.length - 1]! s = false) : AdjD (l ++ [s]) := by
  intro k h0 hk
  simp only [List.length_append, List.length_singleton] at hk
  by_cases hkl : k < l.length
  · rw [getS_app (by omega), getS_app hkl]; exact h k h0 hkl
  · have : k = l.length := by omega
    subst this
    rw [getS_app (by omega), getS_app_last]
    exact hs h0
theorem Okk2.mono {a b : Nat} {s : GStep} (h : Okk2 a s) (hab : a ≤ b) : Okk2 b s := ⟨h.1, h.2.1, Nat.le_trans h.2.2.1 hab, h.2.2.2⟩
theorem okA_nil : okA [] := ⟨by simp, fun a ha => by simp at ha⟩
theorem cd_fl {m a r n : Nat} {s : DS} (h : CD m a r n s) : (∀ x ∈ dFl s, Okk2 a x) ∧ AdjD (dFl s) ∧ oldD (dFl s) = r ∧ nowD (dFl s) = n ∧ (dFl s).length ≤ m ∧ (dFl s).length ≤ s.out.length + 2 := by
  have hl := h.len
  have ho := h.olds
  have hn := h.nows
  have key : ∃ l, l = (if 0 < s.adds.length then s.out ++ [⟨1, 0, [], s.adds⟩] else s.out) ∧ (∀ x ∈ l, Okk2 a x) ∧ AdjD l ∧ oldD l = oldD s.out ∧ nowD l = nowD s.out + s.adds.length ∧ l.length ≤ s.out.length + s.adds.length ∧ l.length ≤ s.out.length + 1 ∧ (0 < l.length → l[l.length - 1]!.Kind ≠ 2) := by
    refine ⟨_, rfl, ?_⟩
    by_cases h0 : 0 < s.adds.length
    · rw [if_pos h0]
      have hne : s.adds ≠ [] := fun e => by rw [e] at h0; simp at h0
      refine ⟨fun x hx => ?_, adjD_app h.adj fun hl => ?_, by rw [oldD_app]; simp [oldD, oldS], by rw [nowD_app]; simp [nowD, nowS], by simp; omega, by simp, fun _ => ?_⟩
      · rcases List.mem_append.1 hx with h2 | h2
        · exact h.ok x h2
        · have : x = ⟨1, 0, [], s.adds⟩ := by simpa using h2
          subst this
          exact ⟨.inr (.inr ⟨rfl, rfl, rfl, hne, fun e he => (h.add e he).1⟩), okA_nil, h.al, fun e he => (h.add e he).2⟩
      · have e0 : ∀ p : GStep, p.Kind = 0 → ordBad p ⟨1, 0, [], s.adds⟩ = false := fun p hp => by unfold ordBad; rw [hp]; simp
        exact e0 _ (h.last hl)
      · rw [show (s.out ++ [(⟨1, 0, [], s.adds⟩ : GStep)]).length - 1 = s.out.length by simp, getS_app_last]; simp
    · rw [if_neg h0]
      exact ⟨h.ok, h.adj, rfl, by omega, by omega, by omega, fun hl => by rw [h.last hl]; decide⟩
  obtain ⟨l, hl', k1, k2, k3, k4, k5, k7, k6⟩ := key
  unfold dFl
  rw [← hl']
  by_cases h0 : 0 < s.cuts
  · rw [if_pos h0]
    refine ⟨fun x hx => ?_, adjD_app k2 fun hl => ?_, by rw [oldD_app, k3, ← ho]; simp [oldD, oldS], by rw [nowD_app, k4, ← hn]; simp [nowD, nowS], by simp; omega, by simp; omega⟩
    · rcases List.mem_append.1 hx with h2 | h2
      · exact k1 x h2
      · have : x = ⟨2, s.cuts, [], []⟩ := by simpa using h2
        subst this
        exact ⟨.inr (.inl ⟨rfl, rfl, rfl, by simp only; omega⟩), okA_nil, by simp, by simp⟩
    · have e0 : ∀ p : GStep, p.Kind ≠ 2 → ordBad p ⟨2, s.cuts, [], []⟩ = false := fun p hp => by unfold ordBad; simp [hp]
      exact e0 _ (k6 hl)
  · rw [if_neg h0, List.append_nil]
    exact ⟨k1, k2, by omega, by omega, by omega, by omega⟩
theorem oldD_set : ∀ {l : List GStep} {i : Nat} {s : GStep}, i < l.length → oldD (l.set i s) = oldD l - oldS l[i]! + oldS s ∧ nowD (l.set i s) = nowD l - nowS l[i]! + nowS s
  | x :: l, 0, s, _ => by
    rw [List.set_cons_zero, oldD_cons, oldD_cons, nowD_cons, nowD_cons]
    show _ = _ - oldS x + oldS s ∧ _ = _ - nowS x + nowS s
    omega
  | x :: l, i + 1, s, h => by
    obtain ⟨h1, h2⟩ := oldD_set (l := l) (i := i) (s := s) (by simpa using h)
    rw [List.set_cons_succ, oldD_cons, oldD_cons, nowD_cons, nowD_cons, h1, h2]
    show _ = _ - oldS l[i]! + oldS s ∧ _ = _ - nowS l[i]! + nowS s
    omega
theorem adjD_set {l : List GStep} {i : Nat} {s : GStep} (h : AdjD l) (hi : i < l.length) (hk : s.Kind = l[i]!.Kind) (ha : s.Attrs = l[i]!.Attrs) : AdjD (l.set i s) := by
  intro k h0 hlt
  rw [List.length_set] at hlt
  have e : ∀ j, j < l.length → (l.set i s)[j]!.Kind = l[j]!.Kind ∧ (l.set i s)[j]!.Attrs = l[j]!.Attrs := fun j hj => by
    rw [getElem!_pos (l.set i s) j (by simpa using hj), getElem!_pos l j hj, List.getElem_set]
    split
    · rename_i hij; subst hij; rw [hk, ha, getElem!_pos l i hj]; exact ⟨rfl, rfl⟩
    · exact ⟨rfl, rfl⟩
  have := h k h0 hlt
  unfold ordBad at this ⊢
  rw [(e _ (by omega)).1, (e _ (by omega)).2, (e k hlt).1, (e k hlt).2]
  exact this
theorem cd_bump {a : Nat} {l : List GStep} {t : List GAttr} {n : Int} (h1 : ∀ x ∈ l, Okk2 a x) (h2 : AdjD l) (hn : 1 ≤ n) (ht : attrErr t true = 0) (hta : okA t) : (∀ x ∈ bumpDn l t n, Okk2 a x) ∧ AdjD (bumpDn l t n) ∧ oldD (bumpDn l t n) = oldD l + n ∧
    nowD (bumpDn l t n) = nowD l + n ∧ (bumpDn l t n).length ≤ l.length + 1 ∧ 0 < (bumpDn l t n).length ∧ (bumpDn l t n)[(bumpDn l t n).length - 1]!.Kind = 0 := by
  unfold bumpDn
  split
  · rename_i hc
    have hlt : l.length - 1 < l.length := by omega
    have hm := h1 _ (mem_at hlt)
    have hk0 : (l[l.length - 1]!.Elems = [] ∧ 1 ≤ l[l.length - 1]!.N ∧ attrErr l[l.length - 1]!.Attrs true = 0) := by
      rcases hm.1 with ⟨k, e, n1, a1⟩ | ⟨k, _⟩ | ⟨k, _⟩
      · exact ⟨e, n1, a1⟩
      · rw [hc.2.1] at k; cases k
      · rw [hc.2.1] at k; cases k
    obtain ⟨e1, e2⟩ := oldD_set (l := l) (i := l.length - 1) (s := ⟨l[l.length - 1]!.Kind, l[l.length - 1]!.N + n, l[l.length - 1]!.Attrs, l[l.length - 1]!.Elems⟩) hlt
    refine ⟨fun x hx => ?_, adjD_set h2 hlt rfl rfl, ?_, ?_, by rw [List.length_set]; omega, by rw [List.length_set]; omega, ?_⟩
    · rcases List.mem_or_eq_of_mem_set hx with h3 | h3
      · exact h1 x h3
      · subst h3
        exact ⟨.inl ⟨hc.2.1, hk0.1, by simp only; omega, hk0.2.2⟩, hm.2.1, hm.2.2.1, hm.2.2.2⟩
    · rw [e1]; unfold oldS; simp only [hc.2.1]; simp; omega
    · rw [e2]; unfold nowS; simp only [hc.2.1]; simp; omega
    · rw [List.length_set, getElem!_pos _ _ (by simpa using hlt), List.getElem_set_self]; exact hc.2.1
  · rename_i hc
    refine ⟨fun x hx => ?_, adjD_app h2 fun hl => ?_, by rw [oldD_app]; simp [oldD, oldS], by rw [nowD_app]; simp [nowD, nowS], by simp, by simp, ?_⟩
    · rcases List.mem_append.1 hx with h3 | h3
      · exact h1 x h3
      · have : x = ⟨0, n, t, []⟩ := by simpa using h3
        subst this
        exact ⟨.inl ⟨rfl, rfl, hn, ht⟩, hta, by simp, by simp⟩
    · unfold ordBad
      generalize l[l.length - 1]! = p at hc ⊢
      by_cases h3 : p.Kind = 0
      · have h4 : ¬ p.Attrs = t := fun e => hc ⟨hl, h3, e⟩
        simp [h3, h4]
      · simp [h3]
    · rw [show (l ++ [(⟨0, n, t, []⟩ : GStep)]).length - 1 = l.length by simp, getS_app_last]
theorem cd_step {m a r n : Nat} {s : DS} (h : CD m a r n s) {u : Un} (hu : OkUn u) : CD (m + 1) (a + (if u.isR then 0 else 1)) (r + (if u.isR then 1 else 0)) (n + (if isNow u then 1 else 0)) (dU s u) := by
  have hl := h.len
  have ho := h.olds
  have hn := h.nows
  have ha := h.al
  match u, hu with
  | .a e, he =>
    have e1 : (if (Un.a e).isR = true then 0 else 1) = 1 := rfl
    have e2 : (if (Un.a e).isR = true then 1 else 0) = 0 := rfl
    have e3 : (if isNow (Un.a e) = true then 1 else 0) = 1 := rfl
    rw [e1, e2, e3]
    refine ⟨fun x hx => (h.ok x hx).mono (by omega), h.adj, h.last, fun y hy => ?_, ho, by simp [dU]; omega, by simp [dU]; omega, by simp [dU]; omega⟩
    rcases List.mem_append.1 hy with h1 | h1
    · exact h.add y h1
    · have : y = e := by simpa using h1
      subst this; exact he
  | .r true t, ht =>
    have e1 : (if (Un.r true t).isR = true then 0 else 1) = 0 := rfl
    have e2 : (if (Un.r true t).isR = true then 1 else 0) = 1 := rfl
    have e3 : (if isNow (Un.r true t) = true then 1 else 0) = 0 := rfl
    rw [e1, e2, e3]
    exact ⟨h.ok, h.adj, h.last, h.add, by simp [dU]; omega, hn, by simp [dU]; omega, ha⟩
  | .r false t, ht =>
    have e1 : (if (Un.r false t).isR = true then 0 else 1) = 0 := rfl
    have e2 : (if (Un.r false t).isR = true then 1 else 0) = 1 := rfl
    have e3 : (if isNow (Un.r false t) = true then 1 else 0) = 1 := rfl
    rw [e1, e2, e3]
    obtain ⟨k1, k2, k3, k4, k5, _⟩ := cd_fl h
    obtain ⟨j1, j2, j3, j4, j5, j6, j7⟩ := cd_bump (n := 1) k1 k2 (by omega) (ht.1 rfl) ht.2
    refine ⟨j1, j2, fun _ => j7, by simp [dU], ?_, ?_, ?_, by simp [dU]⟩
    · show oldD (bumpDn (dFl s) t 1) + ((0 : Nat) : Int) = _
      omega
    · show nowD (bumpDn (dFl s) t 1) + ((0 : Nat) : Int) = _
      omega
    · show (bumpDn (dFl s) t 1).length + 0 + 0 ≤ _
      omega
theorem cd_steps : ∀ {us : List Un} {m a r n : Nat} {s : DS}, CD m a r n s → (∀ u ∈ us, OkUn u) → CD (m + us.length) (a + cntA us) (r + cntR us) (n + cntN us) (us.foldl dU s)
  | [], _, _, _, _, _, h, _ => by simpa [cntA, cntR, cntN] using h
  | u :: us, m, a, r, n, s, h, hu => by
    have := cd_steps (us := us) (cd_step h (hu u (List.mem_cons_self ..))) fun v hv => hu v (List.mem_cons_of_mem _ hv)
    have e1 : cntA (u :: us) = (if u.isR then 0 else 1) + cntA us := by unfold cntA; rw [List.countP_cons]; cases u.isR <;> simp <;> omega
    have e2 : cntR (u :: us) = (if u.isR then 1 else 0) + cntR us := by unfold cntR; rw [List.countP_cons]; omega
    have e3 : cntN (u :: us) = (if isNow u then 1 else 0) + cntN us := by unfold cntN; rw [List.countP_cons]; omega
    rw [List.foldl_cons, e1, e2, e3, List.length_cons, show m + (us.length + 1) = m + 1 + us.length by omega, ← Nat.add_assoc, ← Nat.add_assoc, ← Nat.add_assoc]
    exact this
def D0 : DS := ⟨[], [], 0⟩
def dOn (us : List Un) : DS := us.foldl dU D0
theorem dOn_cd {us : List Un} (h : ∀ u ∈ us, OkUn u) : CD us.length (cntA us) (cntR us) (cntN us) (dOn us) := by
  have := cd_steps cd_nil h
  simp only [Nat.zero_add] at this
  exact this
theorem deltaOf_dOn (us : List Un) : deltaOf us = dFl (dOn us) := rfl
theorem cd_err {m a r n : Nat} {s : DS} (h : CD m a r n s) (hr : r ≤ 2147483647) (hn : n ≤ 2147483647) : delErr (dFl s) = 0 := by
  obtain ⟨k1, k2, k3, k4, k5, _⟩ := cd_fl h
  generalize dFl s = l at k1 k2 k3 k4 k5
  have hpos : ∀ l : List GStep, (∀ x ∈ l, Okk2 a x) → 0 ≤ oldD l ∧ 0 ≤ nowD l ∧ (∀ x ∈ l, x.N ≤ oldD l ∨ x.Kind = 1) := by
    intro l
    induction l with
    | nil => intro _; simp [oldD, nowD]
    | cons x l ih =>
      intro hx
      obtain ⟨i1, i2, i3⟩ := ih fun s hs => hx s (List.mem_cons_of_mem _ hs)
      have hxx := (hx x (List.mem_cons_self ..)).1
      rw [oldD_cons, nowD_cons]
      have hz : 0 ≤ oldS x ∧ 0 ≤ nowS x ∧ (x.N ≤ oldS x ∨ x.Kind = 1) := by
        unfold oldS nowS
        rcases hxx with ⟨k, e, n1, _⟩ | ⟨k, e, _, n1⟩ | ⟨k, n1, _⟩
        · rw [if_neg (by omega), if_neg (by omega), if_neg (by omega)]; omega
        · rw [if_neg (by omega), if_pos (by omega)]; omega
        · rw [if_pos k, if_neg (by omega), if_pos k]; omega
      refine ⟨by omega, by omega, fun y hy => ?_⟩
      rcases List.mem_cons.1 hy with rfl | hy
      · rcases hz.2.2 with h | h
        · exact .inl (by omega)
        · exact .inr h
      · rcases i3 y hy with h | h
        · exact .inl (by omega)
        · exact .inr h
  obtain ⟨p1, p2, p3⟩ := hpos l k1
  have herr : ∀ k, k < l.length → errD l k = none := by
    intro k hk
    have hx := k1 _ (mem_at hk)
    have hN := p3 _ (mem_at hk)
    have hz : stepErr l[k]! = 0 := by
      generalize l[k]! = x at hx hN
      obtain ⟨xk, xn, xa, xe⟩ := x
      rcases hx.1 with ⟨k, e, n1, a1⟩ | ⟨k, e, a1, n1⟩ | ⟨k, n1, a1, e1, e2⟩
      · dsimp only at k e n1 a1 hN; subst k; subst e
        exact stepErr_keep n1 (by omega) a1
      · dsimp only at k e n1 a1 hN; subst k; subst e; subst a1
        exact stepErr_cut n1 (by omega)
      · dsimp only at k n1 a1 e1 e2; subst k; subst n1; subst a1
        exact stepErr_add e1 e2
    unfold errD
    rw [if_neg (by simpa using hz), if_neg]
    rintro ⟨h0, h1⟩
    rw [k2 k h0 hk] at h1; cases h1
  unfold delErr
  rw [find_none herr]
  simp only
  rw [if_neg (by omega)]
end Go.Proofs.YtkefchjpggjibaaGreatDoor.Al


namespace Go.Proofs.YtkefchjpggjibaaGreatDoor.Al
def toW (s : DS) : Delta_Writer := ⟨s.out, s.adds, (s.cuts : Int)⟩
theorem len_pos2 {α : Type} {l : List α} : decide (0 < (l.length : Int)) = true ↔ 0 < l.length := by rw [decide_eq_true_eq]; omega
theorem flush_eq (s : DS) (hb : s.out.length + 2 ≤ 1099511627776) : delta_writer_flush (toW s) = some ⟨dFl s, [], 0⟩ := by
  unfold delta_writer_flush toW
  dsimp only
  unfold dFl
  by_cases h1 : 0 < s.adds.length
  · rw [if_pos (len_pos2.2 h1), app64 (by omega), if_pos h1]
    simp only [bnd1_some]
    by_cases h2 : 0 < s.cuts
    · rw [if_pos (by rw [decide_eq_true_eq]; omega), app64 (by rw [List.length_append, List.length_singleton]; omega), if_pos h2]; rfl
    · rw [if_neg (by rw [decide_eq_true_eq]; omega), if_neg h2, List.append_nil]; rfl
  · rw [if_neg (fun h => h1 (len_pos2.1 h)), if_neg h1]
    simp only [bnd1_some]
    by_cases h2 : 0 < s.cuts
    · rw [if_pos (by rw [decide_eq_true_eq]; omega), app64 (by omega), if_pos h2]; rfl
    · rw [if_neg (by rw [decide_eq_true_eq]; omega), if_neg h2, List.append_nil]; rfl
theorem cd_N {a : Nat} : ∀ {l : List GStep}, (∀ x ∈ l, Okk2 a x) → 0 ≤ oldD l ∧ 0 ≤ nowD l ∧ (∀ x ∈ l, 0 ≤ x.N ∧ x.N ≤ oldD l)
  | [], _ => by simp [oldD, nowD]
  | x :: l, hx => by
    obtain ⟨i1, i2, i3⟩ := cd_N (l := l) fun s hs => hx s (List.mem_cons_of_mem _ hs)
    have hxx := (hx x (List.mem_cons_self ..)).1
    rw [oldD_cons, nowD_cons]
    have hz : 0 ≤ oldS x ∧ 0 ≤ nowS x ∧ 0 ≤ x.N ∧ x.N ≤ oldS x := by
      unfold oldS nowS
      rcases hxx with ⟨k, e, n1, _⟩ | ⟨k, e, _, n1⟩ | ⟨k, n1, _⟩
      · rw [if_neg (by omega), if_neg (by omega), if_neg (by omega)]; omega
      · rw [if_neg (by omega), if_pos (by omega)]; omega
      · rw [if_pos k, if_neg (by omega), if_pos k]; omega
    refine ⟨by omega, by omega, fun y hy => ?_⟩
    rcases List.mem_cons.1 hy with rfl | hy
    · omega
    · have := i3 y hy; omega
theorem keep_eq {m a r n : Nat} {s : DS} (h : CD m a r n s) (hb : s.out.length + 4 ≤ 1099511627776) (hr : r ≤ 4000000000000000000) (k : Int) (t : List GAttr) (h0 : 0 ≤ k) (hk : k ≤ 4000000000000000000) (ht : t.length ≤ 1073741824) :
    delta_writer_keep (toW s) k t = some (toW (keepP s k t)) := by
  unfold delta_writer_keep keepP
  by_cases hk0 : k = 0
  · rw [if_pos (by rw [decide_eq_true_eq]; exact hk0), if_pos hk0]
  rw [if_neg (by rw [decide_eq_true_eq]; exact hk0), if_neg hk0, flush_eq s (by omega), bnd1_some]
  obtain ⟨k1, k2, k3, k4, k5, k6⟩ := cd_fl h
  obtain ⟨p1, p2, p3⟩ := cd_N k1
  dsimp only
  generalize dFl s = l at k1 k2 k3 k4 k5 k6 p1 p2 p3
  unfold bumpDn
  by_cases hl0 : 0 < l.length
  · rw [idx_last hl0 (by omega), bnd1_some]
    have d0 : decide (0 ≤ (((l.length - 1 : Nat)) : Int)) = true := by simp
    have hx := k1 _ (mem_at (l := l) (k := l.length - 1) (by omega))
    have hN := p3 _ (mem_at (l := l) (k := l.length - 1) (by omega))
    rw [d0, show (true == true) = true from rfl, gd_true, idx_nat (l := l) (by omega), bnd1_some, Bool.true_and]
    by_cases hK : l[l.length - 1]!.Kind = 0
    · rw [decide_eq_true hK, show (true == true) = true from rfl, gd_true, bnd1_some, gd_true, attr_Same_eq _ _ (by have := hx.2.1.1; omega), bnd1_some, Bool.true_and]
      by_cases hs : l[l.length - 1]!.Attrs = t
      · rw [if_pos (by rw [decide_eq_true_eq]; exact hs), bnd1_some, chk64 (by omega) (by omega), bnd1_some, set_eq, if_pos ⟨hl0, hK, hs⟩]; rfl
      · rw [if_neg (by rw [decide_eq_true_eq]; exact hs), app32 ht, bnd1_some, app64 (by omega), bnd1_some, if_neg (fun h => hs h.2.2)]; rfl
    · rw [decide_eq_false hK, show (false == true) = false from rfl, gd_false, bnd1_some, gd_false, bnd1_some, Bool.false_and, if_neg (by decide), app32 ht, bnd1_some, app64 (by omega), bnd1_some, if_neg (fun h => hK h.2.1)]; rfl
  · have hl0' : l = [] := List.eq_nil_of_length_eq_zero (by omega)
    subst hl0'
    rw [show ((([] : List GStep).length : Int) - 1) = -1 from rfl, show chk .i64 (-1) = some (-1) from chk64 (by decide) (by decide), bnd1_some,
      show decide (0 ≤ (-1 : Int)) = false by decide, show (false == true) = false from rfl, gd_false, bnd1_some, Bool.false_and, show (false == true) = false from rfl, gd_false, bnd1_some, gd_false, bnd1_some, Bool.false_and, if_neg (by decide),
      app32 ht, bnd1_some, app64 (by simp), bnd1_some, if_neg (by simp)]; rfl
def esum (l : List GStep) : Nat := (l.map fun x => x.Elems.length).sum
theorem esum_app (a b : List GStep) : esum (a ++ b) = esum a + esum b := by simp [esum]
theorem esum_fl (s : DS) : esum (dFl s) = esum s.out + s.adds.length := by
  unfold dFl
  rw [esum_app]
  have h2 : esum (if 0 < s.cuts then [(⟨2, s.cuts, [], []⟩ : GStep)] else []) = 0 := by split <;> rfl
  rw [h2]
  by_cases h1 : 0 < s.adds.length
  · rw [if_pos h1, esum_app]; simp [esum]
  · rw [if_neg h1]; omega
theorem esum_set : ∀ {l : List GStep} {i : Nat} {s : GStep}, i < l.length → s.Elems = l[i]!.Elems → esum (l.set i s) = esum l
  | x :: l, 0, s, _, h => by
    have h' : s.Elems = x.Elems := h
    simp [esum, h']
  | x :: l, i + 1, s, hi, h => by
    have := esum_set (l := l) (i := i) (s := s) (by simpa using hi) h
    rw [List.set_cons_succ]
    simp only [esum, List.map_cons, List.sum_cons] at this ⊢
    omega
theorem esum_bump (l : List GStep) (t : List GAttr) (n : Int) : esum (bumpDn l t n) = esum l := by
  unfold bumpDn
  split
  · rename_i hc; exact esum_set (by omega) rfl
  · rw [esum_app]; simp [esum]
theorem esum_steps : ∀ (us : List Un) (s : DS), esum (us.foldl dU s).out + (us.foldl dU s).adds.length = esum s.out + s.adds.length + cntA us
  | [], s => by simp [cntA]
  | u :: us, s => by
    have ih := esum_steps us (dU s u)
    have e1 : cntA (u :: us) = (if u.isR then 0 else 1) + cntA us := by unfold cntA; rw [List.countP_cons]; cases u.isR <;> simp <;> omega
    rw [List.foldl_cons, ih, e1]
    match u with
    | .a e => simp [dU, Un.isR]; omega
    | .r true t => simp [dU, Un.isR]
    | .r false t =>
      have : esum (dU s (.r false t)).out = esum s.out + s.adds.length := by
        show esum (bumpD (dFl s) t) = _
        rw [← bumpDn_one, esum_bump, esum_fl]
      simp only [Un.isR, if_true]
      rw [this]; simp [dU]
theorem dOn_esum (us : List Un) : esum (dFl (dOn us)) = cntA us := by
  rw [esum_fl]
  have := esum_steps us D0
  unfold dOn
  rw [this]; simp [D0, esum]
theorem dOn_okD {us : List Un} (h : ∀ u ∈ us, OkUn u) (hm : (dFl (dOn us)).length ≤ 1099511627776) (ha : cntA us ≤ 1073741824) : OkD (dFl (dOn us)) := by
  obtain ⟨k1, _⟩ := cd_fl (dOn_cd h)
  exact ⟨hm, fun x hx => ⟨(k1 x hx).2.1, by have := (k1 x hx).2.2.1; omega, (k1 x hx).2.2.2⟩, by have := dOn_esum us; unfold esum at this; omega⟩
theorem done_eq {us : List Un} (h : ∀ u ∈ us, OkUn u) (hm : (dOn us).out.length + 2 ≤ 1099511627776) (ha : cntA us ≤ 1073741824) :
    delta_writer_done (toW (dOn us)) = some (if delErr (deltaOf us) ≠ 0 then ([], 3, ⟨deltaOf us, [], 0⟩) else (deltaOf us, 0, ⟨deltaOf us, [], 0⟩)) := by
  obtain ⟨k1, k2, k3, k4, k5, k6⟩ := cd_fl (dOn_cd h)
  unfold delta_writer_done
  rw [flush_eq _ hm, bnd1_some]
  dsimp only
  rw [delta_Check_eq _ (dOn_okD h (by omega) ha), bnd1_some, ← deltaOf_dOn]
  by_cases he : delErr (deltaOf us) ≠ 0
  · rw [if_pos (ndT he), if_pos he]
  · have he := Classical.not_not.1 he
    rw [if_neg (ndF he), if_neg (by simpa using he)]
theorem dOn_keep (us : List Un) (n : Int) (t : List GAttr) (h : 0 ≤ n) : keepP (dOn us) n t = dOn (us ++ List.replicate n.toNat (.r false t)) := by
  rw [keepP_units _ _ _ h]; unfold dOn; rw [List.foldl_append]
end Go.Proofs.YtkefchjpggjibaaGreatDoor.Al


namespace Go.Proofs.YtkefchjpggjibaaGreatDoor.Al
theorem ref_SameElem_eq (x y : GElem) (h : x.Attrs.length ≤ 1073741824) : ref_SameElem x y = some (decide (x = y)) := by
  unfold ref_SameElem
  rw [ref_SameAttrs_eq _ _ (by omega)]
  obtain ⟨x1, x2, x3⟩ := x
  obtain ⟨y1, y2, y3⟩ := y
  by_cases h1 : x1 = y1 <;> by_cases h2 : x2 = y2 <;> by_cases h3 : x3 = y3 <;> simp [h1, h2, h3, default]
theorem all_eq_of {α : Type} [Inhabited α] [DecidableEq α] {a b : List α} (hl : a.length = b.length) (h : ((List.range a.length).all fun k => decide (a[k]! = b[k]!)) = true) : a = b := by
  apply List.ext_getElem hl
  intro k h1 h2
  have := List.all_eq_true.1 h k (List.mem_range.2 h1)
  simp only [decide_eq_true_eq] at this
  rwa [getElem!_pos a k h1, getElem!_pos b k h2] at this
theorem all_refl {α : Type} [Inhabited α] [DecidableEq α] (a : List α) : ((List.range a.length).all fun k => decide (a[k]! = a[k]!)) = true := by
  rw [List.all_eq_true]; intro k _; rw [decide_eq_true rfl]
theorem ref_SameFlow_eq (a b : List GElem) (hm : a.length ≤ 9223372036854775806) (h : ∀ e ∈ a, e.Attrs.length ≤ 1073741824) : ref_SameFlow a b = some (decide (a = b)) := by
  unfold ref_SameFlow
  by_cases hl : a.length = b.length
  · rw [if_neg (by simp [hl]), iter_find (n := a.length) (fun k => if decide (a[k]! = b[k]!) then none else some false) (fun k hk => by
      unfold ref_SameFlow_L1
      rw [if_pos (by simpa using hk), idx_nat hk, idx_nat (by omega), bnd1_some, bnd1_some, ref_SameElem_eq _ _ (h _ (mem_at hk)), bnd1_some, chk_nat (by omega)]
      generalize a[k]! = x
      generalize b[k]! = y
      by_cases h : x = y <;> simp [h, stepOf]) (by unfold ref_SameFlow_L1; rw [if_neg (by simp)]), find_const, ctl_outOf]
    by_cases h : a = b
    · subst h; rw [all_refl, decide_eq_true rfl]; rfl
    · rw [decide_eq_false h]
      have : ((List.range a.length).all fun k => decide (a[k]! = b[k]!)) = false := by
        rw [← Bool.not_eq_true]; exact fun hh => h (all_eq_of hl hh)
      rw [this]; rfl
  · rw [if_pos (by simp; omega), decide_eq_false (by rintro rfl; exact hl rfl)]
theorem ref_SameDelta_eq (a b : List GStep) (hm : a.length ≤ 9223372036854775806) (h : ∀ s ∈ a, OkSt s) : ref_SameDelta a b = some (decide (a = b)) := by
  unfold ref_SameDelta
  by_cases hl : a.length = b.length
  · rw [if_neg (by simp [hl]), iter_find (n := a.length) (fun k => if decide (a[k]! = b[k]!) then none else some false) (fun k hk => by
      unfold ref_SameDelta_L1
      have hs := h _ (mem_at hk)
      rw [if_pos (by simpa using hk), idx_nat hk, idx_nat (by omega), bnd1_some, bnd1_some, ref_SameAttrs_eq _ _ (by have := hs.at_.1; omega), ref_SameFlow_eq _ _ (by have := hs.el; omega) (fun e he => (hs.ea e he).1), chk_nat (by omega)]
      generalize a[k]! = x
      generalize b[k]! = y
      obtain ⟨x1, x2, x3, x4⟩ := x
      obtain ⟨y1, y2, y3, y4⟩ := y
      by_cases h1 : x1 = y1 <;> by_cases h2 : x2 = y2 <;> by_cases h3 : x3 = y3 <;> by_cases h4 : x4 = y4 <;> simp [h1, h2, h3, h4, stepOf, default]) (by unfold ref_SameDelta_L1; rw [if_neg (by simp)]), find_const, ctl_outOf]
    by_cases h : a = b
    · subst h; rw [all_refl, decide_eq_true rfl]; rfl
    · rw [decide_eq_false h]
      have : ((List.range a.length).all fun k => decide (a[k]! = b[k]!)) = false := by
        rw [← Bool.not_eq_true]; exact fun hh => h (all_eq_of hl hh)
      rw [this]; rfl
  · rw [if_pos (by simp; omega), decide_eq_false (by rintro rfl; exact hl rfl)]
def OkU2 (us : List Un) : Prop := ∀ u ∈ us, match u with | .a e => elemErr e = 0 ∧ e.Attrs.length ≤ 1048576 | .r c t => (c = false → attrErr t true = 0) ∧ t.length ≤ 1048576
end Go.Proofs.YtkefchjpggjibaaGreatDoor.Al


namespace Go.Proofs.YtkefchjpggjibaaGreatDoor.Al
end Go.Proofs.YtkefchjpggjibaaGreatDoor.Al


namespace Go.Proofs.YtkefchjpggjibaaGreatDoor.Al
structure SmD (d : List GStep) : Prop where
  at_ : ∀ s ∈ d, s.Attrs.length ≤ 1048576
  ea : ∀ s ∈ d, ∀ e ∈ s.Elems, e.Attrs.length ≤ 1048576
  sum : (d.map fun s => s.Elems.length).sum ≤ 1048576
  len : d.length ≤ 1048576
theorem cntN_le (us : List Un) : cntN us ≤ us.length := List.countP_le_length
theorem dOn_out_len {us : List Un} (h : ∀ u ∈ us, OkUn u) : (dOn us).out.length + (dOn us).adds.length + (dOn us).cuts ≤ us.length := (dOn_cd h).len
theorem okU_un {us : List Un} (h : ∀ u ∈ us, OkUn u) : ∀ u ∈ us, OkU u := by
  intro u hu
  have := h u hu
  match u, this with
  | .a _, _ => trivial
  | .r _ t, ht => have := ht.2.1
                  show t.length ≤ _; omega
end Go.Proofs.YtkefchjpggjibaaGreatDoor.Al


namespace Go.Proofs.YtkefchjpggjibaaGreatDoor.Al
def OkU3 (us : List Un) : Prop := ∀ u ∈ us, match u with | .a e => elemErr e = 0 ∧ e.Attrs.length ≤ 1048576 | .r c t => (c = false → attrErr t true = 0) ∧ (c = true → t = []) ∧ t.length ≤ 1048576
theorem OkU3.two {us : List Un} (h : OkU3 us) : OkU2 us := by
  intro u hu
  have := h u hu
  match u, this with
  | .a e, he => exact he
  | .r c t, ht => exact ⟨ht.1, ht.2.2⟩
def szS (s : GStep) : Int := if s.Kind = 1 then s.Elems.length else s.N
structure RdD (p : Delta_Reader) : Prop where
  stp : ∀ s ∈ p.steps, GoodS s ∧ OkSt s
  u0 : 0 ≤ p.used
  fit : ∀ s rest, p.steps = s :: rest → p.used < szS s
theorem attrErr_nil : attrErr [] true = 0 := by decide
end Go.Proofs.YtkefchjpggjibaaGreatDoor.Al


namespace Go.Proofs.YtkefchjpggjibaaGreatDoor.Al
end Go.Proofs.YtkefchjpggjibaaGreatDoor.Al


namespace Go.Proofs.YtkefchjpggjibaaGreatDoor.Al
end Go.Proofs.YtkefchjpggjibaaGreatDoor.Al


namespace Go.Proofs.YtkefchjpggjibaaGreatDoor.Al
def wFl (w : Axis_Writer) : List GAxisStep := (if 0 < w.add then w.out ++ [⟨1, w.add⟩] else w.out) ++ (if 0 < w.cut then [⟨2, w.cut⟩] else [])
def Adj (l : List GAxisStep) : Prop := ∀ k, k + 1 < l.length → l[k]!.Kind ≠ l[k + 1]!.Kind ∧ ¬ (l[k]!.Kind = 2 ∧ l[k + 1]!.Kind = 1)
def Okk (s : GAxisStep) : Prop := 0 ≤ s.Kind ∧ s.Kind ≤ 2 ∧ 1 ≤ s.N
structure WB (m : Int) (w : Axis_Writer) : Prop where
  a0 : 0 ≤ w.add
  c0 : 0 ≤ w.cut
  ok : ∀ s ∈ w.out, Okk s
  sum : sizeLen w.out + w.add + w.cut = m
  adj : Adj w.out
  last : 0 < w.out.length → w.out[w.out.length - 1]!.Kind = 0
end Go.Proofs.YtkefchjpggjibaaGreatDoor.Al


namespace Go.Proofs.YtkefchjpggjibaaGreatDoor.Al
structure RdOK (p : Axis_Reader) : Prop where
  stp : ∀ s ∈ p.steps, Stp s
  u0 : 0 ≤ p.used
  fit : ∀ s rest, p.steps = s :: rest → p.used < s.N
theorem cntR_app (a b : List Un) : cntR (a ++ b) = cntR a + cntR b := by simp [cntR]
end Go.Proofs.YtkefchjpggjibaaGreatDoor.Al


namespace Go.Proofs.YtkefchjpggjibaaGreatDoor.Al
end Go.Proofs.YtkefchjpggjibaaGreatDoor.Al


namespace Go.Proofs.YtkefchjpggjibaaGreatDoor.Al
theorem keepW {X : List Un} (hX : ∀ u ∈ X, OkUn u) (hl : X.length ≤ 100000000000) (k : Int) (t : List GAttr) (h0 : 0 ≤ k) (hk : k ≤ 100000000000) (ht : t.length ≤ 1073741824) :
    delta_writer_keep (toW (dOn X)) k t = some (toW (dOn (X ++ List.replicate k.toNat (.r false t)))) := by
  have h1 := dOn_out_len hX
  have h2 : cntR X ≤ X.length := List.countP_le_length
  rw [keep_eq (dOn_cd hX) (by omega) (by omega) k t h0 (by omega) ht, dOn_keep X k t h0]
theorem OkU3.app {a b : List Un} (h : OkU3 (a ++ b)) : OkU3 b := fun u hu => h u (List.mem_append_right _ hu)
end Go.Proofs.YtkefchjpggjibaaGreatDoor.Al


namespace Go.Proofs.YtkefchjpggjibaaGreatDoor.Al
end Go.Proofs.YtkefchjpggjibaaGreatDoor.Al


namespace Go.Proofs.YtkefchjpggjibaaGreatDoor.Al
structure IT (d : List GStep) (k : Nat) (X : List Un) : Prop where
  ok : ∀ u ∈ X, OkUn u
  out : (dOn X).out.length ≤ 3 * k
  cut : (dOn X).cuts ≤ 2147483647
  rows : cntR X ≤ 2147483647 * k
  adds : cntA X + ((d.drop k).map fun s => s.Elems.length).sum = (d.map fun s => s.Elems.length).sum
structure IL (l : List GStep) (n : Int) : Prop where
  ok : ∀ u ∈ unitsD l, OkUn u
  nn : ∀ s ∈ l, 0 ≤ s.N
  rows : (cntR (unitsD l) : Int) = n
  adds : cntA (unitsD l) = (l.map fun s => s.Elems.length).sum
theorem cntAR (us : List Un) : cntA us + cntR us = us.length := by
  induction us with
  | nil => rfl
  | cons u us ih =>
    have e1 : cntA (u :: us) = (if u.isR then 0 else 1) + cntA us := by unfold cntA; rw [List.countP_cons]; cases u.isR <;> simp <;> omega
    have e2 : cntR (u :: us) = (if u.isR then 1 else 0) + cntR us := by unfold cntR; rw [List.countP_cons]; omega
    rw [e1, e2, List.length_cons]
    cases u.isR <;> simp <;> omega
theorem cuts_le {X : List Un} (h : ∀ u ∈ X, OkUn u) : (dOn X).cuts ≤ cntR X := by
  have h1 := (dOn_cd h).olds
  have h2 := (cd_N (dOn_cd h).ok).1
  omega
end Go.Proofs.YtkefchjpggjibaaGreatDoor.Al


namespace Go.Proofs.YtkefchjpggjibaaGreatDoor.Al
structure AxI (d : List GStep) (k : Nat) (w : Axis_Writer) : Prop where
  len : (wFl w).length ≤ k
  olds : oldLen (wFl w) = oldD (d.take k)
  nows : nowLen (wFl w) = nowD (d.take k)
  zero : k = 0 → w.add = 0 ∧ w.cut = 0
  keep : 0 < k → d[k - 1]!.Kind = 0 → w.add = 0 ∧ w.cut = 0
  addd : 0 < k → d[k - 1]!.Kind = 1 → w.cut = 0
end Go.Proofs.YtkefchjpggjibaaGreatDoor.Al


namespace Go.Proofs.YtkefchjpggjibaaGreatDoor.Al
end Go.Proofs.YtkefchjpggjibaaGreatDoor.Al


namespace Go.Proofs.YtkefchjpggjibaaGreatDoor.Al
def PR (W : Int → Int) (lo hi : Int) (c : Int × Int) : Prop :=
  (c = (0, 0) ∧ ∀ r, lo ≤ r → r < hi → W r < 0) ∨ ∃ r0 r1, lo ≤ r0 ∧ r0 ≤ r1 ∧ r1 < hi ∧ 0 ≤ W r0 ∧ 0 ≤ W r1 ∧ (∀ r, lo ≤ r → r < hi → 0 ≤ W r → r0 ≤ r ∧ r ≤ r1) ∧ c = (W r0, W r1 + 1)
theorem PR.congr {W V : Int → Int} {lo hi : Int} {c : Int × Int} (h : PR W lo hi c) (e : ∀ r, lo ≤ r → W r = V r) : PR V lo hi c := by
  rcases h with ⟨rfl, a⟩ | ⟨r0, r1, a1, a2, a3, a4, a5, a6, rfl⟩
  · exact .inl ⟨rfl, fun r h1 h2 => by rw [← e r h1]; exact a r h1 h2⟩
  · rw [e r0 a1, e r1 (by omega)]
    exact .inr ⟨r0, r1, a1, a2, a3, by rw [← e r0 a1]; exact a4, by rw [← e r1 (by omega)]; exact a5, fun r h1 h2 h3 => a6 r h1 h2 (by rw [e r h1]; exact h3), rfl⟩
theorem PR.wide {W : Int → Int} {lo h1 h2 : Int} {c : Int × Int} (h : PR W lo h1 c) (e : ∀ r, lo ≤ r → h1 ≤ r → r < h2 → W r < 0) (hl : h1 ≤ h2) : PR W lo h2 c := by
  rcases h with ⟨rfl, a⟩ | ⟨r0, r1, a1, a2, a3, a4, a5, a6, rfl⟩
  · refine .inl ⟨rfl, fun r b1 b2 => ?_⟩
    rcases Int.lt_or_le r h1 with b | b
    · exact a r b1 b
    · exact e r b1 b b2
  · refine .inr ⟨r0, r1, a1, a2, by omega, a4, a5, fun r b1 b2 b3 => ?_, rfl⟩
    rcases Int.lt_or_le r h1 with b | b
    · exact a6 r b1 b b3
    · have := e r b1 b b2; omega
theorem PR.more {W : Int → Int} {lo h1 h2 m : Int} {c : Int × Int} (h : PR W lo h1 c) (hm : m = max lo h1) (hl : m < h2) (e : ∀ r, m ≤ r → r < h2 → 0 ≤ W r) : PR W lo h2 (if c.2 = 0 then W m else c.1, W (h2 - 1) + 1) := by
  have e1 := e m (by omega) hl
  have e2 := e (h2 - 1) (by omega) (by omega)
  rcases h with ⟨rfl, a⟩ | ⟨r0, r1, a1, a2, a3, a4, a5, a6, rfl⟩
  · refine .inr ⟨m, h2 - 1, by omega, by omega, by omega, e1, e2, fun r b1 b2 b3 => ?_, by simp⟩
    rcases Int.lt_or_le r h1 with b | b
    · have := a r b1 b; omega
    · omega
  · refine .inr ⟨r0, h2 - 1, a1, by omega, by omega, a4, e2, fun r b1 b2 b3 => ?_, ?_⟩
    · rcases Int.lt_or_le r h1 with b | b
      · have := a6 r b1 b b3; omega
      · omega
    · have : ¬ (W r1 + 1 = 0) := by omega
      simp [this]
end Go.Proofs.YtkefchjpggjibaaGreatDoor.Al


namespace Go.Proofs.YtkefchjpggjibaaGreatDoor.Al
theorem mk24 {n : Nat} (h : n ≤ 4294967296) {z : List GAttr} : mk 24 (n : Int) z = some (List.replicate n z) := by
  unfold mk
  rw [if_pos (by omega), Int.toNat_natCast]
abbrev plW (A : List GAxisStep) (r : Int) : Int := ctlV (plo r A (0, 0))
def addS (out : List GSpan) (c : Int × Int) : List GSpan :=
  if c.1 = c.2 then out else if 0 < out.length ∧ out[out.length - 1]!.To = c.1 then out.set (out.length - 1) ⟨out[out.length - 1]!.From, c.2⟩ else out ++ [⟨c.1, c.2⟩]
structure ImI (A : List GAxisStep) (l : List GSpan) (k : Nat) (out : List GSpan) : Prop where
  len : out.length ≤ k
  last : 0 < out.length → 0 < k ∧ ∃ r1, 0 ≤ r1 ∧ r1 < l[k - 1]!.To ∧ 0 ≤ plW A r1 ∧ out[out.length - 1]!.To = plW A r1 + 1
end Go.Proofs.YtkefchjpggjibaaGreatDoor.Al


namespace Go.Proofs.YtkefchjpggjibaaGreatDoor.Al
end Go.Proofs.YtkefchjpggjibaaGreatDoor.Al


namespace Go.Proofs.YtkefchjpggjibaaGreatDoor.Al
end Go.Proofs.YtkefchjpggjibaaGreatDoor.Al


namespace Go.Proofs.YtkefchjpggjibaaGreatDoor.Al
theorem set_mid {α : Type} (a b y : α) (r : List α) : ∀ (f j : Nat), (List.replicate f a ++ (List.replicate j b ++ y :: r)).set (f + j) b = List.replicate f a ++ (List.replicate (j + 1) b ++ r)
  | 0, 0 => by simp
  | 0, j + 1 => by
    have := set_mid a b y r 0 j
    simp only [List.replicate_zero, List.nil_append, Nat.zero_add] at this ⊢
    rw [List.replicate_succ, List.cons_append, List.set_cons_succ, this, List.replicate_succ (n := j + 1), List.cons_append]
  | f + 1, j => by
    have := set_mid a b y r f j
    rw [List.replicate_succ, List.cons_append, show f + 1 + j = f + j + 1 by omega, List.set_cons_succ, this, List.cons_append]
theorem uOf_pre (c : Bool) (t : List GAttr) (As : List (List GElem)) (cs : List Bool) (ts : List (List GAttr)) : ∀ f : Nat, uOf (List.replicate f [] ++ As) (List.replicate f c ++ cs) (List.replicate f t ++ ts) = List.replicate f (.r c t) ++ uOf As cs ts
  | 0 => by simp
  | f + 1 => by
    rw [List.replicate_succ, List.replicate_succ, List.replicate_succ, List.cons_append, List.cons_append, List.cons_append, uOf, uOf_pre c t As cs ts f, List.replicate_succ]
    rfl
theorem uOf_head (A : List GElem) (As : List (List GElem)) (cs : List Bool) (ts : List (List GAttr)) : uOf (A :: As) cs ts = A.map Un.a ++ uOf ([] :: As) cs ts := by
  cases cs with
  | nil => simp [uOf]
  | cons c cs =>
    cases ts with
    | nil => simp [uOf]
    | cons t ts => simp [uOf]
theorem uOf_reps (F M K : Nat) (E : List GElem) (c : Bool) (t : List GAttr) :
    uOf (List.replicate F [] ++ E :: List.replicate (M + K) []) (List.replicate F false ++ (List.replicate M c ++ List.replicate K false)) (List.replicate F [] ++ (List.replicate M t ++ List.replicate K [])) =
    List.replicate F (.r false []) ++ (E.map Un.a ++ (List.replicate M (.r c t) ++ List.replicate K (.r false []))) := by
  rw [uOf_pre, uOf_head, ← List.replicate_succ, show M + K + 1 = M + (K + 1) by omega, ← List.replicate_append_replicate, uOf_pre]
  have := uOf_pre false [] [[]] [] [] K
  rw [List.append_nil, List.append_nil, ← List.replicate_succ'] at this
  rw [this]
  simp [uOf]
def repU (F M K : Nat) (E : List GElem) (c : Bool) (t : List GAttr) : List Un := List.replicate F (.r false []) ++ (E.map Un.a ++ (List.replicate M (.r c t) ++ List.replicate K (.r false [])))
def repA (F M K : Nat) (E : List GElem) (c : Bool) (t : List GAttr) : Ref_Act :=
  ⟨List.replicate F [] ++ E :: List.replicate (M + K) [], List.replicate F false ++ (List.replicate M c ++ List.replicate K false), List.replicate F [] ++ (List.replicate M t ++ List.replicate K [])⟩
theorem repA_wf (F M K : Nat) (E : List GElem) (c : Bool) (t : List GAttr) : WfA (repA F M K E c t) := ⟨by simp [repA]; omega, by simp [repA]⟩
theorem repA_us (F M K : Nat) (E : List GElem) (c : Bool) (t : List GAttr) : (repA F M K E c t).us = repU F M K E c t := uOf_reps ..
theorem repU_len (F M K : Nat) (E : List GElem) (c : Bool) (t : List GAttr) : (repU F M K E c t).length = F + (E.length + (M + K)) := by simp [repU]
theorem repU_cnt (F M K : Nat) (E : List GElem) (c : Bool) (t : List GAttr) : cntR (repU F M K E c t) = F + M + K ∧ cntA (repU F M K E c t) = E.length := by
  have e1 : ∀ l : List GElem, cntR (l.map Un.a) = 0 := by
    intro l
    induction l with
    | nil => rfl
    | cons x l ih => unfold cntR at ih ⊢; rw [List.map_cons, List.countP_cons, ih]; rfl
  have e2 : ∀ (n : Nat) (c : Bool) (t : List GAttr), cntR (List.replicate n (Un.r c t)) = n := by
    intro n c t
    induction n with
    | zero => rfl
    | succ n ih => unfold cntR at ih ⊢; rw [List.replicate_succ, List.countP_cons, ih]; rfl
  have h1 : cntR (repU F M K E c t) = F + M + K := by
    unfold repU
    rw [cntR_app, cntR_app, cntR_app, e1, e2, e2, e2]; omega
  have h2 := cntAR (repU F M K E c t)
  rw [repU_len, h1] at h2
  exact ⟨h1, by omega⟩
theorem repU_ok (F M K : Nat) {E : List GElem} {c : Bool} {t : List GAttr} (hE : partErr E = 0) (hEa : ∀ e ∈ E, okA e.Attrs) (ht : c = false → attrErr t true = 0) (hta : okA t) : ∀ u ∈ repU F M K E c t, OkUn u := by
  have e2 : ∀ (n : Nat), ∀ u ∈ List.replicate n (Un.r false []), OkUn u := by
    intro n u hu
    have := List.eq_of_mem_replicate hu
    subst this
    exact ⟨fun _ => attrErr_nil, okA_nil⟩
  intro u hu
  unfold repU at hu
  rcases List.mem_append.1 hu with h | h
  · exact e2 _ u h
  · rcases List.mem_append.1 h with h | h
    · obtain ⟨e, h3, rfl⟩ := List.mem_map.1 h
      obtain ⟨j, hj, rfl⟩ := List.mem_iff_getElem.1 h3
      have h4 := partErr_at hE hj
      rw [getElem!_pos E j hj] at h4
      exact ⟨h4, hEa _ h3⟩
    · rcases List.mem_append.1 h with h | h
      · have := List.eq_of_mem_replicate h
        subst this
        exact ⟨ht, hta⟩
      · exact e2 _ u h
def wOut (X : List Un) : List GStep × Int := if delErr (deltaOf X) ≠ 0 then ([], 3) else (deltaOf X, 0)
def BadR (n f t : Int) : Prop := n < 0 ∨ 2147483647 < n ∨ f < 0 ∨ t < f ∨ n < t
instance (n f t : Int) : Decidable (BadR n f t) := by unfold BadR; infer_instance
theorem bounds_eq (n f t : Int) : delta_bounds n f t = some (if BadR n f t then 2 else 0) := by
  unfold delta_bounds
  by_cases h : BadR n f t
  · rw [if_pos h, if_pos (by unfold BadR at h; simp only [Bool.or_eq_true, decide_eq_true_eq]; omega)]
  · rw [if_neg h, if_neg (by unfold BadR at h; simp only [Bool.or_eq_true, decide_eq_true_eq]; omega)]
theorem toW0 : Delta_Writer.mk [] [] 0 = toW (dOn []) := rfl
theorem restyle_eq (F M K : Nat) (t0 : List GAttr) (hb : F + M + K ≤ 2147483647) (hta : okA t0) (n f t : Int) (hn : n = ((F + M + K : Nat) : Int)) (hf : f = (F : Int)) (ht : t = ((F + M : Nat) : Int)) :
    delta_Restyle n f t t0 = some (if attrErr t0 true ≠ 0 then ([], attrErr t0 true) else wOut (repU F M K [] false t0)) := by
  unfold delta_Restyle
  rw [bounds_eq, if_neg (show ¬ BadR n f t by unfold BadR; omega), bnd1_some, if_neg (by decide), attr_CheckChange_eq _ hta.2 (by have := hta.1; omega), bnd1_some]
  by_cases e1 : attrErr t0 true ≠ 0
  · rw [if_pos (ndT e1), if_pos e1]
  have e1 := Classical.not_not.1 e1
  have ok1 : ∀ u ∈ List.replicate F (Un.r false []), OkUn u := fun u hu => by
    have := List.eq_of_mem_replicate hu
    subst this
    exact ⟨fun _ => attrErr_nil, okA_nil⟩
  have hU := repU_ok F M K (E := []) (c := false) (t := t0) (by decide) (by simp) (fun _ => e1) hta
  have ok2 : ∀ u ∈ List.replicate F (Un.r false []) ++ List.replicate M (Un.r false t0), OkUn u := fun u hu => by
    refine hU u ?_
    unfold repU
    rw [List.map_nil, List.nil_append, ← List.append_assoc]
    exact List.mem_append_left _ hu
  rw [if_neg (ndF e1), if_neg (show ¬ (attrErr t0 true ≠ 0) by simpa using e1), toW0, keepW (by simp) (by simp) f [] (by omega) (by omega) (by simp), bnd1_some, List.nil_append, show f.toNat = F by omega]
  rw [chk64 (by omega) (by omega), bnd1_some, keepW ok1 (by simp; omega) (t - f) t0 (by omega) (by omega) (by have := hta.1; omega), bnd1_some, show (t - f).toNat = M by omega]
  rw [chk64 (by omega) (by omega), bnd1_some, keepW ok2 (by simp; omega) (n - t) [] (by omega) (by omega) (by simp), bnd1_some, show (n - t).toNat = K by omega]
  have hX : List.replicate F (Un.r false []) ++ List.replicate M (Un.r false t0) ++ List.replicate K (Un.r false []) = repU F M K [] false t0 := by simp [repU]
  rw [hX]
  have hl := dOn_out_len hU
  rw [repU_len, List.length_nil] at hl
  have hc := repU_cnt F M K [] false t0
  rw [List.length_nil] at hc
  rw [done_eq hU (by omega) (by omega)]
  unfold wOut
  split <;> rfl
theorem doc_few {F M K : Nat} {E : List GElem} {c : Bool} {t : List GAttr} (hU : ∀ u ∈ repU F M K E c t, OkUn u) (hb : F + M + K ≤ 300) (hE : E.length ≤ 1048576) {β : Type} (G : Bool → Option β) :
    (bnd1 (ref_DeltaOf (repA F M K E c t)) fun (r9 : List GStep) => bnd1 (ref_SameDelta (deltaOf (repU F M K E c t)) r9) G) = G true := by
  have hl := repU_len F M K E c t
  have hc := repU_cnt F M K E c t
  rw [ref_DeltaOf_eq _ (repA_wf ..) (by rw [repA_us]; exact okU_un hU) (by rw [repA_us]; omega), bnd1_some, repA_us]
  have hol := (cd_fl (dOn_cd hU)).2.2.2.2.1
  have hkd := dOn_okD hU (by omega) (by omega)
  rw [deltaOf_dOn, ref_SameDelta_eq _ _ (by omega) hkd.st, bnd1_some, decide_eq_true rfl]
theorem rep_at {α : Type} [Inhabited α] (a b : α) (F j r : Nat) : F + j < (List.replicate F a ++ (List.replicate j b ++ List.replicate (r + 1) a)).length := by simp
theorem mk24e {n : Nat} (h : n ≤ 4294967296) {z : List GElem} : mk 24 (n : Int) z = some (List.replicate n z) := by
  unfold mk
  rw [if_pos (by omega), Int.toNat_natCast]
theorem mk1b {n : Nat} (h : n ≤ 4294967296) {z : Bool} : mk 1 (n : Int) z = some (List.replicate n z) := by
  unfold mk
  rw [if_pos (by omega), Int.toNat_natCast]
end Go.Proofs.YtkefchjpggjibaaGreatDoor.Al


namespace Go.Proofs.YtkefchjpggjibaaGreatDoor.Al
def joinC (l : List (List UInt8)) : List UInt8 := Lib.join l [44]
def totC (l : List (List UInt8)) : Nat := (l.map fun s => s.length + 1).sum
theorem joinC_nil : joinC [] = [] := rfl
theorem joinC_snoc (l : List (List UInt8)) (u : List UInt8) : joinC (l ++ [u]) = (if l = [] then u else joinC l ++ [44] ++ u) := by
  unfold joinC
  cases l with
  | nil => simp [Lib.join_one]
  | cons x r =>
    rw [if_neg (by simp), List.cons_append, Lib.join_cons, Lib.join_cons]
    simp [Lib.joinTail]
theorem joinC_cons (x : List UInt8) (r : List (List UInt8)) : joinC (x :: r) = x ++ Lib.joinTail [44] r := Lib.join_cons x r [44]
theorem joinTail_len (r : List (List UInt8)) : (Lib.joinTail [44] r).length = totC r := by
  induction r with
  | nil => rfl
  | cons x r ih =>
    have : Lib.joinTail [44] (x :: r) = [44] ++ x ++ Lib.joinTail [44] r := by simp [Lib.joinTail]
    rw [this, List.length_append, List.length_append, ih]
    simp [totC]; omega
theorem joinC_len (l : List (List UInt8)) : (joinC l).length ≤ totC l := by
  cases l with
  | nil => simp [joinC_nil]
  | cons x r => rw [joinC_cons, List.length_append, joinTail_len]; simp [totC]
theorem totC_take (l : List (List UInt8)) (k : Nat) : totC (l.take k) ≤ totC l := by
  have : totC l = totC (l.take k) + totC (l.drop k) := by
    unfold totC
    rw [← List.sum_append, ← List.map_append, List.take_append_drop]
  omega
theorem totC_mem {l : List (List UInt8)} {s : List UInt8} (h : s ∈ l) : s.length + 1 ≤ totC l := by
  induction l with
  | nil => cases h
  | cons x r ih =>
    have e : totC (x :: r) = x.length + 1 + totC r := by simp [totC]
    rcases List.mem_cons.1 h with rfl | h
    · omega
    · have := ih h; omega
theorem totC_length (l : List (List UInt8)) : l.length ≤ totC l := by
  induction l with
  | nil => simp
  | cons x r ih =>
    have e : totC (x :: r) = x.length + 1 + totC r := by simp [totC]
    simp; omega
theorem joinTail_all (r : List (List UInt8)) (h : ∀ s ∈ r, s.all valCh = true) : (Lib.joinTail [44] r).all valCh = true := by
  induction r with
  | nil => rfl
  | cons x r ih =>
    have : Lib.joinTail [44] (x :: r) = [44] ++ x ++ Lib.joinTail [44] r := by simp [Lib.joinTail]
    rw [this, List.all_append, List.all_append, h x (List.mem_cons_self ..), ih fun s hs => h s (List.mem_cons_of_mem _ hs)]
    rfl
theorem ch_val {c : UInt8} (h : chOK c = true) : valCh c = true := by
  unfold chOK at h
  unfold valCh
  simp only [Bool.or_eq_true, Bool.and_eq_true, decide_eq_true_eq] at h ⊢
  omega
theorem name_val {s : List UInt8} (h : nameOK s = true) : s.all valCh = true ∧ s ≠ [] := by
  unfold nameOK at h
  simp only [Bool.and_eq_true, decide_eq_true_eq] at h
  refine ⟨List.all_eq_true.2 fun c hc => ch_val (List.all_eq_true.1 h.2 c hc), ?_⟩
  rintro rfl
  simp at h
def lockA (J : List UInt8) : List GAttr := [GAttr.mk [108, 111, 99, 107] J]
theorem lock_err {l : List (List UInt8)} (h : l.all nameOK = true) : attrErr (lockA (joinC l)) true = if 200 < (joinC l).length then 23 else 0 := by
  have hn : nameOK [108, 111, 99, 107] = true := by decide
  have hv : (joinC l).all valCh = true ∧ (joinC l = [] ∨ 1 ≤ (joinC l).length) := by
    cases l with
    | nil => exact ⟨rfl, .inl rfl⟩
    | cons x r =>
      have hx := name_val (List.all_eq_true.1 h x (List.mem_cons_self ..))
      rw [joinC_cons]
      refine ⟨by rw [List.all_append, hx.1, joinTail_all r fun s hs => (name_val (List.all_eq_true.1 h s (List.mem_cons_of_mem _ hs))).1]; rfl, .inr ?_⟩
      rw [List.length_append]
      have := List.length_pos_iff.2 hx.2
      omega
  unfold attrErr errA lockA
  simp only [List.length_singleton, List.range_one, List.findSome?_cons, List.findSome?_nil]
  rw [show ([GAttr.mk [108, 111, 99, 107] (joinC l)] : List GAttr)[0]! = GAttr.mk [108, 111, 99, 107] (joinC l) from rfl]
  dsimp only
  rw [if_neg (by rw [hn]; decide)]
  have hval : valOK (joinC l) = (decide (1 ≤ (joinC l).length) && decide ((joinC l).length ≤ 200)) := by unfold valOK; rw [hv.1, Bool.and_true]
  by_cases hb : 200 < (joinC l).length
  · rw [if_pos hb, if_pos ⟨by rw [hval]; simp; omega, by rintro ⟨_, h0⟩; rw [h0] at hb; simp at hb⟩]; rfl
  · rw [if_neg hb, if_neg (by
      rintro ⟨h1, h2⟩
      rcases hv.2 with h3 | h3
      · exact h2 (by simp [h3])
      · rw [hval] at h1; simp at h1; omega), if_neg (by simp)]; rfl
theorem lock_okA (J : List UInt8) (h : J.length ≤ 1073741824) : okA (lockA J) := by
  refine ⟨by simp [lockA], fun a ha => ?_⟩
  simp only [lockA, List.mem_singleton] at ha
  subst ha
  exact ⟨by simp, by dsimp only; omega⟩
theorem names_find (l : List (List UInt8)) {β : Type} (b : β) : (List.range l.length).findSome? (fun k => if nameOK l[k]! then none else some b) = if l.all nameOK then none else some b := by
  by_cases h : l.all nameOK = true
  · rw [if_pos h, List.findSome?_eq_none_iff]
    intro k hk
    rw [if_pos]
    rw [getElem!_pos l k (List.mem_range.1 hk)]
    exact List.all_eq_true.1 h _ (List.getElem_mem _)
  · rw [if_neg h]
    simp only [Bool.not_eq_true] at h
    obtain ⟨x, hx, hxn⟩ := List.all_eq_false.1 h
    obtain ⟨k, hk, rfl⟩ := List.getElem_of_mem hx
    cases hf : (List.range l.length).findSome? (fun k => if nameOK l[k]! then none else some b) with
    | none =>
      rw [List.findSome?_eq_none_iff] at hf
      have := hf k (List.mem_range.2 hk)
      rw [getElem!_pos l k hk, if_neg (by simpa using hxn)] at this
      cases this
    | some y =>
      obtain ⟨j, _, hj⟩ := List.exists_of_findSome?_eq_some hf
      split at hj
      · cases hj
      · cases hj; rfl
theorem rights_Lock_eq (n f t : Int) (l : List (List UInt8)) (hb : totC l ≤ 1048576) : rights_Lock n f t l = if l.all nameOK then delta_Restyle n f t (lockA (joinC l)) else some ([], 9) := by
  unfold rights_Lock
  have hl := totC_length l
  rw [iter_find (n := l.length) (fun k => if nameOK l[k]! then none else some (([] : List GStep), (9 : Int))) (fun k hk => by
    unfold rights_Lock_L1
    have hm := totC_mem (List.getElem_mem hk)
    rw [if_pos (by simpa using hk), idx_nat hk, bnd1_some, getElem!_pos l k hk, attr_Name_eq _ (by omega), bnd1_some]
    cases nameOK l[k]
    · rfl
    · rw [if_neg (by decide), chk_nat (by omega)]; rfl) (by unfold rights_Lock_L1; rw [if_neg (by simp)]), names_find]
  by_cases h : l.all nameOK = true
  · rw [if_pos h, if_pos h]
    show (bnd1 (strings_Join l [44]) fun (r1 : List UInt8) => bnd2 (delta_Restyle n f t (lockA r1)) fun (r2 : List GStep) (r3 : Int) => some (r2, r3)) = _
    have hj : strings_Join l [44] = some (joinC l) := by
      unfold strings_Join joinS
      have := joinC_len l
      rw [if_pos ⟨by omega, by show (joinC l).length ≤ _; omega⟩]; rfl
    rw [hj, bnd1_some]
    cases delta_Restyle n f t (lockA (joinC l)) with
    | none => rfl
    | some p => obtain ⟨a, b⟩ := p; rfl
  · rw [if_neg h, if_neg h]; rfl
theorem lock_loop (l : List (List UInt8)) (hb : totC l ≤ 1048576) : iter (fun (a : (List UInt8) × Int × Int) => law_RightsLockMatches_L1 l a.1 a.2.1 a.2.2) ([], 0, 0) = some (joinC l, if l.all nameOK then 0 else 9) := by
  have hl := totC_length l
  have key : ∃ r, iter (fun (a : (List UInt8) × Int × Int) => law_RightsLockMatches_L1 l a.1 a.2.1 a.2.2) ([], 0, 0) = some r ∧ r = (joinC l, if l.all nameOK then (0 : Int) else 9) := by
    refine iter_hoare l.length (fun k st => st = (joinC (l.take k), (if (l.take k).all nameOK then (0 : Int) else 9), ((k : Nat) : Int))) _ ?_ ?_ (by simp [joinC_nil])
    · rintro k st hk rfl
      refine .inl ⟨_, ?_, rfl⟩
      show law_RightsLockMatches_L1 l _ _ _ = _
      unfold law_RightsLockMatches_L1
      have hm := totC_mem (List.getElem_mem hk)
      have ht := totC_take l k
      have hj := joinC_len (l.take k)
      rw [if_pos (by simpa using hk), idx_nat hk, getElem!_pos l k hk]
      have htk : l.take (k + 1) = l.take k ++ [l[k]] := by rw [List.take_add_one, List.getElem?_eq_getElem hk]; rfl
      have hf : (bnd1 (gd ((decide ((if (l.take k).all nameOK = true then (0 : Int) else 9) = 0)) == true) (some l[k])) fun (x11 : List UInt8) => bnd1 (gd ((decide ((if (l.take k).all nameOK = true then (0 : Int) else 9) = 0)) == true) (ref_Name x11)) fun (r7 : Bool) =>
          bnd1 (if ((decide ((if (l.take k).all nameOK = true then (0 : Int) else 9) = 0)) && (!r7)) then some (9 : Int) else some (if (l.take k).all nameOK = true then (0 : Int) else 9)) fun (f7 : Int) => some f7) = some (if (l.take (k + 1)).all nameOK then (0 : Int) else 9) := by
        rw [htk, List.all_append]
        by_cases hall : (l.take k).all nameOK = true
        · rw [if_pos hall, hall]
          simp only [decide_true, beq_self_eq_true, gd_true, bnd1_some, Bool.true_and]
          rw [ref_Name_eq _ (by omega), bnd1_some]
          cases h : nameOK l[k] <;> simp [h]
        · simp only [Bool.not_eq_true] at hall
          rw [hall]
          simp [gd]
      have hs : (bnd1 (if (decide ((0 : Int) < (k : Int))) then (bnd1 (catM (joinC (l.take k)) [44]) fun (s7 : List UInt8) => some s7) else some (joinC (l.take k))) fun (s5 : List UInt8) => bnd1 (some l[k]) fun (x12 : List UInt8) => catM s5 x12) = some (joinC (l.take (k + 1))) := by
        rw [htk, joinC_snoc]
        by_cases h0 : k = 0
        · subst h0
          simp [joinC_nil, catM]
          omega
        · rw [if_pos (by simp; omega), if_neg (by
            intro h
            have h9 : (List.take k l).length = k := by rw [List.length_take]; omega
            rw [h] at h9
            exact h0 h9.symm)]
          unfold catM
          rw [if_pos (by simp; omega), bnd1_some, bnd1_some, bnd1_some, if_pos (by simp; omega)]
      revert hf hs
      generalize (if (l.take k).all nameOK = true then (0 : Int) else 9) = F
      generalize (if (l.take (k + 1)).all nameOK = true then (0 : Int) else 9) = F2
      intro hf hs
      have e1 : ∀ {β : Type} (G : Int → Option β), (bnd1 (gd ((decide (F = 0)) == true) (some l[k])) fun (x11 : List UInt8) => bnd1 (gd ((decide (F = 0)) == true) (ref_Name x11)) fun (r7 : Bool) =>
          bnd1 (if ((decide (F = 0)) && (!r7)) then some (9 : Int) else some F) G) = G F2 := by
        intro β G
        have hbnd : ∀ {α γ δ : Type} (o : Option α) (g : α → Option γ) (h : γ → Option δ), bnd1 (bnd1 o g) h = bnd1 o fun a => bnd1 (g a) h := by
          intro α γ δ o g h; cases o <;> rfl
        have := congrArg (fun o => bnd1 o G) hf
        simp only [bnd1_some] at this
        rw [← this, hbnd]
        congr 1; funext x; rw [hbnd]; congr 1; funext r; rw [hbnd]; rfl
      rw [e1]
      have e2 : ∀ {β : Type} (G : List UInt8 → Option β), (bnd1 (if (decide ((0 : Int) < (k : Int))) then (bnd1 (catM (joinC (l.take k)) [44]) fun (s7 : List UInt8) => some s7) else some (joinC (l.take k))) fun (s5 : List UInt8) => bnd1 (some l[k]) fun (x12 : List UInt8) => bnd1 (catM s5 x12) G) = G (joinC (l.take (k + 1))) := by
        intro β G
        have hbnd : ∀ {α γ δ : Type} (o : Option α) (g : α → Option γ) (h : γ → Option δ), bnd1 (bnd1 o g) h = bnd1 o fun a => bnd1 (g a) h := by
          intro α γ δ o g h; cases o <;> rfl
        have := congrArg (fun o => bnd1 o G) hs
        simp only [bnd1_some] at this
        rw [← this, hbnd]
        rfl
      rw [e2, chk_nat (by omega), bnd1_some]
    · rintro st rfl
      refine ⟨_, ?_, rfl⟩
      show law_RightsLockMatches_L1 l _ _ _ = _
      unfold law_RightsLockMatches_L1
      rw [if_neg (by simp), List.take_length]
  obtain ⟨r, h1, h2⟩ := key
  rw [h1, h2]
theorem lock_set (F M K : Nat) (t0 : List GAttr) (s4 : List UInt8) (ht : t0 = lockA s4) (hb : F + M + K ≤ 300) :
    iter (fun (a : Int × Ref_Act) => law_RightsLockMatches_L2 ((F + M : Nat) : Int) s4 a.1 a.2) ((F : Int), (Ref_Act.mk (List.replicate (F + M + K + 1) []) (List.replicate (F + M + K) false) (List.replicate (F + M + K) []))) = some (repA F M K [] false t0) := by
  subst ht
  have key : ∃ r, iter (fun (a : Int × Ref_Act) => law_RightsLockMatches_L2 ((F + M : Nat) : Int) s4 a.1 a.2) ((F : Int), (Ref_Act.mk (List.replicate (F + M + K + 1) []) (List.replicate (F + M + K) false) (List.replicate (F + M + K) []))) = some r ∧ r = repA F M K [] false (lockA s4) := by
    refine iter_hoare M (fun k st => st = (((F + k : Nat) : Int), ⟨List.replicate (F + M + K + 1) [], List.replicate (F + M + K) false, List.replicate F [] ++ (List.replicate k (lockA s4) ++ List.replicate (M - k + K) [])⟩)) _ ?_ ?_ ?_
    · rintro k st hk rfl
      refine .inl ⟨_, ?_, rfl⟩
      show law_RightsLockMatches_L2 ((F + M : Nat) : Int) s4 ((F + k : Nat) : Int) _ = _
      unfold law_RightsLockMatches_L2
      rw [if_pos (by rw [decide_eq_true_eq]; omega), show M - k + K = (M - (k + 1) + K) + 1 by omega, idx_nat (rep_at ..), bnd1_some, chk_nat (by omega), bnd1_some, Int.toNat_natCast]
      show some (Sum.inl (((F + k + 1 : Nat) : Int), Ref_Act.mk _ _ (List.set _ (F + k) (lockA s4)))) = _
      rw [List.replicate_succ (n := M - (k + 1) + K), set_mid]
      rfl
    · rintro st rfl
      refine ⟨_, ?_, rfl⟩
      show law_RightsLockMatches_L2 ((F + M : Nat) : Int) s4 ((F + M : Nat) : Int) _ = _
      unfold law_RightsLockMatches_L2
      rw [if_neg (by simp), show M - M + K = K by omega]
      unfold repA
      rw [show F + M + K = F + (M + K) by omega, show F + (M + K) + 1 = F + (M + K + 1) by omega, ← List.replicate_append_replicate (n := F) (m := M + K + 1), List.replicate_succ (n := M + K), ← List.replicate_append_replicate (n := F) (m := M + K), ← List.replicate_append_replicate (n := M) (m := K) (a := false)]
    · rw [show M - 0 + K = M + K by omega, show F + 0 = F by omega, List.replicate_zero, List.nil_append, List.replicate_append_replicate, show F + (M + K) = F + M + K by omega]
  obtain ⟨r, h1, h2⟩ := key
  rw [h1, h2]
theorem law_RightsLock_true (n f t : Int) (l : List (List UInt8)) (hb : totC l ≤ 1048576) : law_RightsLockMatches n f t l = some true := by
  unfold law_RightsLockMatches
  have hj := joinC_len l
  rw [show law_mays = some true from rfl, bnd1_some, if_neg (by decide), rights_Lock_eq n f t l hb, lock_loop l hb]
  by_cases hall : l.all nameOK = true
  · rw [if_pos hall, if_pos hall]
    by_cases hbad : BadR n f t
    · have e2 : delta_Restyle n f t (lockA (joinC l)) = some ([], 2) := by unfold delta_Restyle; rw [bounds_eq, if_pos hbad]; rfl
      rw [e2, bnd2_some, bnd2_some]
      simp only [decide_true, beq_self_eq_true, gd_true, Bool.true_and]
      rw [ref_In_eq, bnd1_some, if_pos (by unfold BadR at hbad; simp only [Bool.or_eq_true, Bool.not_eq_true', Bool.and_eq_false_iff, decide_eq_true_eq, decide_eq_false_iff_not]; omega), bnd1_some]
      rfl
    obtain ⟨F, M, K, hn, hf, ht, hb3⟩ : ∃ F M K : Nat, n = ((F + M + K : Nat) : Int) ∧ f = (F : Int) ∧ t = ((F + M : Nat) : Int) ∧ F + M + K ≤ 2147483647 := by
      unfold BadR at hbad
      exact ⟨f.toNat, (t - f).toNat, (n - t).toNat, by omega, by omega, by omega, by omega⟩
    have hta := lock_okA (joinC l) (by omega)
    rw [restyle_eq F M K (lockA (joinC l)) hb3 hta n f t hn hf ht, lock_err hall]
    by_cases h2 : 200 < (joinC l).length
    · rw [if_pos h2, if_pos (by decide), bnd2_some, bnd2_some]
      simp only [decide_true, beq_self_eq_true, gd_true, Bool.true_and]
      rw [ref_In_eq, bnd1_some, if_neg (by simp only [Bool.or_eq_true, Bool.not_eq_true', Bool.and_eq_false_iff, decide_eq_true_eq, decide_eq_false_iff_not]; omega), bnd1_some, if_pos (by simp; omega), bnd1_some]
      rfl
    · rw [if_neg h2, if_neg (by decide)]
      have hte : attrErr (lockA (joinC l)) true = 0 := by rw [lock_err hall, if_neg h2]
      have hU := repU_ok F M K (E := []) (c := false) (t := lockA (joinC l)) (by decide) (by simp) (fun _ => hte) hta
      have hw : wOut (repU F M K [] false (lockA (joinC l))) = (deltaOf (repU F M K [] false (lockA (joinC l))), 0) := by
        have hc := repU_cnt F M K [] false (lockA (joinC l))
        have h4 := cntAR (repU F M K [] false (lockA (joinC l)))
        have h5 := cntN_le (repU F M K [] false (lockA (joinC l)))
        have hl := repU_len F M K [] false (lockA (joinC l))
        rw [List.length_nil] at hc hl
        have he : delErr (deltaOf (repU F M K [] false (lockA (joinC l)))) = 0 := cd_err (dOn_cd hU) (by omega) (by omega)
        unfold wOut
        rw [if_neg (by simpa using he)]
      rw [hw, bnd2_some, bnd2_some]
      simp only [decide_true, beq_self_eq_true, gd_true, Bool.true_and]
      rw [ref_In_eq, bnd1_some, if_neg (by simp only [Bool.or_eq_true, Bool.not_eq_true', Bool.and_eq_false_iff, decide_eq_true_eq, decide_eq_false_iff_not]; omega), bnd1_some]
      simp only [decide_true, Bool.true_and]
      rw [if_neg (by simp; omega), bnd1_some, if_neg (by decide)]
      by_cases few : 300 < n
      · rw [if_pos (by simpa using few)]
      · rw [if_neg (by simpa using few)]
        subst hn; subst hf; subst ht
        have hb4 : F + M + K ≤ 300 := by omega
        rw [chk_nat (by omega), bnd1_some, mk24e (by omega), bnd1_some, mk1b (by omega), bnd1_some, mk24 (by omega), bnd1_some, lock_set F M K _ _ rfl hb4, bnd1_some]
        simp only [if_true]
        rw [doc_few hU hb4 (by simp)]
        rfl
  · rw [if_neg hall, if_neg hall, bnd2_some, bnd2_some]
    simp [gd]
end Go.Proofs.YtkefchjpggjibaaGreatDoor.Al

