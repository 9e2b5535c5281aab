/- Plain laws over the models, a part of them. -/
import Derived.Test.YtdeglnbioiicaaaMod1
namespace Go.Proofs.Ytdeglnbioiicaaa.Al
@[simp] theorem bnd1_some {a α : Type} (x : a) (f : a → Option α) : bnd1 (some x) f = f x := rfl
@[simp] theorem bnd2_some {a b α : Type} (x : a) (y : b) (f : a → b → Option α) : bnd2 (some (x, y)) f = f x y := rfl
@[simp] theorem bnd3_some {a b c α : Type} (x : a) (y : b) (z : c) (f : a → b → c → Option α) : bnd3 (some (x, y, z)) f = f x y z := rfl
@[simp] theorem bnd4_some {a b c d α : Type} (x : a) (y : b) (z : c) (u : d) (f : a → b → c → d → Option α) : bnd4 (some (x, y, z, u)) f = f x y z u := rfl
@[simp] theorem ctl1_nrm {a α : Type} (x : a) (f : a → Option α) : ctl1 (some (.nrm x)) f = f x := rfl
@[simp] theorem ctl1_ext {a α : Type} (t : α) (f : a → Option α) : ctl1 (some (.ext t)) f = some t := rfl
@[simp] theorem ctl2_nrm {a b α : Type} (x : a) (y : b) (f : a → b → Option α) : ctl2 (some (.nrm (x, y))) f = f x y := rfl
@[simp] theorem ctl2_ext {a b α : Type} (t : α) (f : a → b → Option α) : ctl2 (some (.ext t)) f = some t := rfl
@[simp] theorem ctl3_nrm {a b c α : Type} (x : a) (y : b) (z : c) (f : a → b → c → Option α) : ctl3 (some (.nrm (x, y, z))) f = f x y z := rfl
@[simp] theorem ctl3_ext {a b c α : Type} (t : α) (f : a → b → c → Option α) : ctl3 (some (.ext t)) f = some t := rfl
@[simp] theorem gd_true {α : Type} [Inhabited α] (m : Option α) : gd true m = m := rfl
@[simp] theorem gd_false {α : Type} [Inhabited α] (m : Option α) : gd false m = some default := rfl
theorem idx_nat {α : Type} [Inhabited α] {l : List α} {k : Nat} (h : k < l.length) : idx l (k : Int) = some l[k]! := by
  unfold idx
  rw [if_pos (Int.natCast_nonneg k), Int.toNat_natCast, List.getElem?_eq_getElem h, getElem!_pos l k h]
theorem chk_nat {k : Nat} (h : k < 9223372036854775807) : chk .i64 ((k : Int) + 1) = some (((k + 1 : Nat)) : Int) := by
  rw [chk64 (by omega) (by omega)]; rfl
theorem chk_pred {k : Nat} (h : 0 < k) (h2 : k ≤ 9223372036854775807) : chk .i64 ((k : Int) - 1) = some ((k - 1 : Nat) : Int) := by
  rw [chk64 (by omega) (by omega)]; congr 1; omega
def stepOf {ρ : Type} (k : Nat) : Option ρ → Option (Int ⊕ Ctl Unit ρ)
  | none => some (.inl ((k + 1 : Nat) : Int))
  | some r => some (.inr (.ext r))
def outOf {ρ : Type} : Option ρ → Ctl Unit ρ
  | none => .nrm ()
  | some r => .ext r
theorem iter_find {ρ : Type} {f : Int → Option (Int ⊕ Ctl Unit ρ)} {n : Nat} (g : Nat → Option ρ) (h1 : ∀ k : Nat, k < n → f k = stepOf k (g k))
    (h2 : f n = some (.inr (.nrm ()))) : iter f 0 = some (outOf ((List.range n).findSome? g)) := by
  have key : ∀ m k : Nat, k + m = n → iter f (k : Int) = some (outOf ((List.range' k m).findSome? g)) := by
    intro m
    induction m with
    | zero =>
      intro k hk
      obtain rfl : k = n := by omega
      rw [iter_stop h2]; rfl
    | succ m ih =>
      intro k hk
      rw [List.range'_succ, List.findSome?_cons]
      have := h1 k (by omega)
      cases hg : g k with
      | none => rw [hg] at this; rw [iter_next this, ih (k + 1) (by omega)]
      | some r => rw [hg] at this; rw [iter_stop this]; rfl
  rw [List.range_eq_range']
  exact key n 0 (by omega)
theorem findSome_congr {α ρ : Type} {l : List α} {g h : α → Option ρ} (e : ∀ x ∈ l, g x = h x) : l.findSome? g = l.findSome? h := by
  induction l with
  | nil => rfl
  | cons a l ih => rw [List.findSome?_cons, List.findSome?_cons, e a (List.mem_cons_self ..), ih fun x hx => e x (List.mem_cons_of_mem _ hx)]
theorem find_all {α ρ : Type} [Inhabited α] (l : List α) (p : α → Bool) (r : ρ) : (List.range l.length).findSome? (fun k => if p l[k]! then none else some r) = if l.all p then none else some r := by
  induction l with
  | nil => rfl
  | cons a l ih =>
    rw [List.length_cons, List.range_succ_eq_map, List.findSome?_cons, List.findSome?_map]
    have hr : (List.range l.length).findSome? ((fun k => if p (a :: l)[k]! = true then none else some r) ∘ Nat.succ) = if l.all p = true then none else some r := by
      rw [← ih]; exact findSome_congr fun k _ => by simp
    rw [hr]
    by_cases hp : p a = true
    · simp [hp]
    · simp [hp]
theorem ctl_outOf {ρ : Type} (o : Option ρ) (f : Unit → Option ρ) : ctl1 (some (outOf o)) f = match o with | none => f () | some r => some r := by cases o <;> rfl
end Go.Proofs.Ytdeglnbioiicaaa.Al


namespace Go.Proofs.Ytdeglnbioiicaaa.Al
def chOK (c : UInt8) : Bool := (decide (97 ≤ c.toNat) && decide (c.toNat ≤ 122)) || (decide (48 ≤ c.toNat) && decide (c.toNat ≤ 57)) || decide (c.toNat = 46) || decide (c.toNat = 45)
def nameOK (s : List UInt8) : Bool := decide (1 ≤ s.length) && decide (s.length ≤ 24) && (decide (97 ≤ s[0]!.toNat) && decide (s[0]!.toNat ≤ 122)) && s.all chOK
def valCh (c : UInt8) : Bool := decide (32 ≤ c.toNat) && decide (c.toNat ≤ 126)
def valOK (s : List UInt8) : Bool := decide (1 ≤ s.length) && decide (s.length ≤ 200) && s.all valCh
theorem attr_Name_step (s : List UInt8) (k : Nat) (hk : k < s.length) (hm : s.length ≤ 9223372036854775807) : attr_Name_L1 s k = stepOf k (if chOK s[k]! then none else some false) := by
  unfold attr_Name_L1
  rw [if_pos (by simpa using hk), idx_nat hk, bnd1_some, chk_nat (by omega)]
  generalize s[k]! = c
  have e : (((((decide ((c.toNat : Int) < 97)) || (decide (122 < (c.toNat : Int)))) && ((decide ((c.toNat : Int) < 48)) || (decide (57 < (c.toNat : Int))))) && (!decide ((c.toNat : Int) = 46))) && (!decide ((c.toNat : Int) = 45))) = !chOK c := by
    unfold chOK
    rw [Bool.eq_iff_iff]
    simp only [Bool.or_eq_true, Bool.and_eq_true, decide_eq_true_eq, Bool.not_eq_true', decide_eq_false_iff_not, Bool.or_eq_false_iff, Bool.and_eq_false_imp]
    omega
  rw [e]
  cases chOK c <;> rfl
theorem attr_Name_eq (s : List UInt8) (hm : s.length ≤ 9223372036854775807) : attr_Name s = some (nameOK s) := by
  unfold attr_Name
  rw [iter_find (n := s.length) (fun k => if chOK s[k]! then none else some false) (fun k hk => attr_Name_step s k hk hm) (by unfold attr_Name_L1; rw [if_neg (by simp)]), find_all]
  unfold nameOK
  cases s with
  | nil => simp
  | cons c t =>
    have h0 : idx (c :: t) 0 = some c := rfl
    rw [h0]
    simp only [List.getElem!_cons_zero, decide_eq_false (List.cons_ne_nil c t), Bool.false_or]
    generalize (c :: t).all chOK = al
    generalize hl : (c :: t).length = L
    have hL : 1 ≤ L := by rw [← hl]; simp
    by_cases h1 : 24 < (L : Int)
    · have e1 : decide (L ≤ 24) = false := by simp; omega
      simp [h1, e1]
    · rw [decide_eq_false h1]
      simp only [Bool.false_or, beq_self_eq_true, gd_true, bnd1_some]
      have e1 : decide (L ≤ 24) = true := by simp; omega
      have e2 : decide (1 ≤ L) = true := by simp; omega
      rw [e1, e2]
      by_cases h2 : (c.toNat : Int) < 97
      · have e3 : decide (97 ≤ c.toNat) = false := by simp; omega
        simp [h2, e3]
      · rw [decide_eq_false h2]
        have e3 : decide (97 ≤ c.toNat) = true := by simp; omega
        simp only [beq_self_eq_true, gd_true, bnd1_some, Bool.false_or]
        by_cases h3 : 122 < (c.toNat : Int)
        · have e4 : decide (c.toNat ≤ 122) = false := by simp; omega
          simp [h3, e4]
        · have e4 : decide (c.toNat ≤ 122) = true := by simp; omega
          rw [if_neg (by simpa using h3), ctl_outOf, e3, e4]
          cases al <;> rfl
def refCh (k : Nat) (c : UInt8) : Bool := (decide (97 ≤ c.toNat) && decide (c.toNat ≤ 122)) || (decide (k ≠ 0) && chOK c)
theorem ref_Name_step (s : List UInt8) (k : Nat) (hk : k < s.length) (hm : s.length ≤ 9223372036854775807) :
    ref_Name_L1 s k = stepOf k (if refCh k s[k]! then none else some false) := by
  unfold ref_Name_L1
  rw [if_pos (by simpa using hk), idx_nat hk, bnd1_some, chk_nat (by omega)]
  generalize s[k]! = c
  have e : ((!((decide (97 ≤ (c.toNat : Int))) && (decide ((c.toNat : Int) ≤ 122)))) && ((decide ((k : Int) = 0)) || (((!decide ((c.toNat : Int) = 46)) && (!decide ((c.toNat : Int) = 45))) && ((decide ((c.toNat : Int) < 48)) || (decide (57 < (c.toNat : Int))))))) = !refCh k c := by
    unfold refCh chOK
    rw [Bool.eq_iff_iff]
    simp only [Bool.or_eq_true, Bool.and_eq_true, decide_eq_true_eq, Bool.not_eq_true', decide_eq_false_iff_not, Bool.or_eq_false_iff, Bool.and_eq_false_imp]
    omega
  rw [e]
  cases refCh k c <;> rfl
theorem all_iff {α : Type} [Inhabited α] (l : List α) (p : α → Bool) : l.all p = true ↔ ∀ k, k < l.length → p l[k]! = true := by
  rw [List.all_eq_true]
  constructor
  · intro h k hk; rw [getElem!_pos l k hk]; exact h _ (List.getElem_mem hk)
  · intro h x hx
    obtain ⟨k, hk, rfl⟩ := List.mem_iff_getElem.1 hx
    rw [← getElem!_pos l k hk]; exact h k hk
theorem find_const {ρ : Type} (n : Nat) (p : Nat → Bool) (r : ρ) : (List.range n).findSome? (fun k => if p k then none else some r) = if (List.range n).all p then none else some r := by
  generalize List.range n = l
  induction l with
  | nil => rfl
  | cons a l ih => rw [List.findSome?_cons, List.all_cons, ]; by_cases h : p a = true <;> simp [h, ih]
theorem ref_Name_eq (s : List UInt8) (hm : s.length ≤ 9223372036854775807) : ref_Name s = some (nameOK s) := by
  unfold ref_Name
  rw [iter_find (n := s.length) (fun k => if refCh k s[k]! then none else some false) (fun k hk => ref_Name_step s k hk hm) (by unfold ref_Name_L1; rw [if_neg (by simp)]), find_const, ctl_outOf]
  have key : ((List.range s.length).all fun k => refCh k s[k]!) = (decide (s = []) || ((decide (97 ≤ s[0]!.toNat) && decide (s[0]!.toNat ≤ 122)) && s.all chOK)) := by
    rw [Bool.eq_iff_iff, List.all_eq_true]
    simp only [List.mem_range, Bool.or_eq_true, decide_eq_true_eq, Bool.and_eq_true, all_iff]
    constructor
    · intro h
      cases hs : s with
      | nil => exact .inl rfl
      | cons c t =>
        rw [← hs]
        have hl : 0 < s.length := by rw [hs]; simp
        have h0 := h 0 hl
        simp only [refCh, Bool.or_eq_true, Bool.and_eq_true, decide_eq_true_eq] at h0
        refine .inr ⟨by omega, fun k hk => ?_⟩
        have := h k hk
        simp only [refCh, chOK, Bool.or_eq_true, Bool.and_eq_true, decide_eq_true_eq] at this ⊢
        omega
    · rintro (rfl | ⟨h1, h2⟩) k hk
      · cases hk
      · have := h2 k hk
        by_cases hk0 : k = 0
        · subst hk0; simp only [refCh, Bool.or_eq_true, Bool.and_eq_true, decide_eq_true_eq]; omega
        · simp only [refCh, Bool.or_eq_true, Bool.and_eq_true, decide_eq_true_eq]; exact .inr ⟨hk0, this⟩
  rw [key]
  unfold nameOK
  cases s with
  | nil => rfl
  | cons c t =>
    rw [decide_eq_false (List.cons_ne_nil c t), Bool.false_or]
    generalize (c :: t).all chOK = al
    generalize (decide (97 ≤ (c :: t)[0]!.toNat) && decide ((c :: t)[0]!.toNat ≤ 122)) = fc
    have e1 : decide (1 ≤ ((c :: t).length : Int)) = decide (1 ≤ (c :: t).length) := by simp; omega
    have e2 : decide (((c :: t).length : Int) ≤ 24) = decide ((c :: t).length ≤ 24) := by simp; omega
    rw [e1, e2]
    cases fc <;> cases al <;> simp
theorem attr_Value_eq (s : List UInt8) (hm : s.length ≤ 9223372036854775807) : attr_Value s = some (valOK s) := by
  unfold attr_Value valOK
  rw [iter_find (n := s.length) (fun k => if valCh s[k]! then none else some false) (fun k hk => by
    unfold attr_Value_L1
    rw [if_pos (by simpa using hk), idx_nat hk, bnd1_some, chk_nat (by omega)]
    generalize s[k]! = c
    have e : ((decide ((c.toNat : Int) < 32)) || (decide (126 < (c.toNat : Int)))) = !valCh c := by
      unfold valCh
      rw [Bool.eq_iff_iff]
      simp only [Bool.or_eq_true, Bool.and_eq_true, decide_eq_true_eq, Bool.not_eq_true', decide_eq_false_iff_not, Bool.and_eq_false_imp]
      omega
    rw [e]
    cases valCh c <;> rfl) (by unfold attr_Value_L1; rw [if_neg (by simp)]), find_all, ctl_outOf]
  generalize s.all valCh = al
  cases s with
  | nil => simp
  | cons c t =>
    rw [decide_eq_false (List.cons_ne_nil c t), Bool.false_or]
    generalize hl : (c :: t).length = L
    have hL : 1 ≤ L := by rw [← hl]; simp
    by_cases h1 : 200 < (L : Int)
    · have e1 : decide (L ≤ 200) = false := by simp; omega
      simp [h1, e1]
    · have e1 : decide (L ≤ 200) = true := by simp; omega
      have e2 : decide (1 ≤ L) = true := by simp; omega
      rw [if_neg (by simpa using h1), e1, e2]
      cases al <;> rfl
theorem ref_Value_eq (s : List UInt8) (hm : s.length ≤ 9223372036854775807) : ref_Value s = some (valOK s) := by
  unfold ref_Value valOK
  rw [iter_find (n := s.length) (fun k => if valCh s[k]! then none else some false) (fun k hk => by
    unfold ref_Value_L1
    rw [if_pos (by simpa using hk), idx_nat hk, bnd1_some, chk_nat (by omega)]
    generalize s[k]! = c
    have e : ((decide ((c.toNat : Int) < 32)) || (decide (126 < (c.toNat : Int)))) = !valCh c := by
      unfold valCh
      rw [Bool.eq_iff_iff]
      simp only [Bool.or_eq_true, Bool.and_eq_true, decide_eq_true_eq, Bool.not_eq_true', decide_eq_false_iff_not, Bool.and_eq_false_imp]
      omega
    rw [e]
    cases valCh c <;> rfl) (by unfold ref_Value_L1; rw [if_neg (by simp)]), find_all, ctl_outOf]
  generalize s.all valCh = al
  have e1 : decide (1 ≤ (s.length : Int)) = decide (1 ≤ s.length) := by simp; omega
  have e2 : decide ((s.length : Int) ≤ 200) = decide (s.length ≤ 200) := by simp; omega
  rw [e1, e2]
  cases al <;> simp
theorem sLt_cons (a b : UInt8) (x y : List UInt8) : sLt (a :: x) (b :: y) = (decide (a < b) || (a == b && sLt x y)) := rfl
theorem sLt_tri : ∀ (a b : List UInt8), (sLt a b || decide (a = b)) = !sLt b a
  | [], [] => rfl
  | [], _ :: _ => rfl
  | _ :: _, [] => rfl
  | a :: x, b :: y => by
    rw [sLt_cons, sLt_cons]
    have ih := sLt_tri x y
    by_cases h : a = b
    · subst h
      have h1 : ¬ a < a := fun h => by simp [UInt8.lt_iff_toNat_lt] at h
      simp only [decide_eq_false h1, beq_self_eq_true, Bool.true_and, Bool.false_or, List.cons.injEq, true_and]
      exact ih
    · have h2 : (a == b) = false := by simpa using h
      have h3 : (b == a) = false := by simpa using fun e : b = a => h e.symm
      have h4 : ¬ (a :: x = b :: y) := fun e => h (List.cons.inj e).1
      rw [h2, h3, decide_eq_false h4]
      simp only [Bool.false_and, Bool.or_false]
      have h5 : a.toNat ≠ b.toNat := fun e => h (UInt8.toNat_inj.1 e)
      by_cases hlt : a < b
      · have : ¬ b < a := by rw [UInt8.lt_iff_toNat_lt] at hlt ⊢; omega
        simp [hlt, this]
      · have : b < a := by rw [UInt8.lt_iff_toNat_lt] at hlt ⊢; omega
        simp [hlt, this]
def okStr (l : List GAttr) : Prop := ∀ a ∈ l, a.Name.length ≤ 9223372036854775807 ∧ a.Value.length ≤ 9223372036854775807
def errA (l : List GAttr) (ch : Bool) (k : Nat) : Option Int :=
  if nameOK l[k]!.Name = false then some 9 else if valOK l[k]!.Value = false ∧ ¬ (ch = true ∧ l[k]!.Value = []) then some 23 else if 0 < k ∧ sLt l[k - 1]!.Name l[k]!.Name = false then some 5 else none
def attrErr (l : List GAttr) (ch : Bool) : Int := ((List.range l.length).findSome? (errA l ch)).getD 0
theorem okStr.at {l : List GAttr} (h : okStr l) {k : Nat} (hk : k < l.length) : l[k]!.Name.length ≤ 9223372036854775807 ∧ l[k]!.Value.length ≤ 9223372036854775807 := by
  rw [getElem!_pos l k hk]; exact h _ (List.getElem_mem hk)
theorem attr_check_step (l : List GAttr) (ch : Bool) (h : okStr l) (hm : l.length ≤ 9223372036854775807) (k : Nat) (hk : k < l.length) : attr_check_L1 l ch k = stepOf k (errA l ch k) := by
  unfold attr_check_L1 errA
  obtain ⟨hn1, hn2⟩ := h.at hk
  rw [if_pos (by simpa using hk), idx_nat hk, bnd1_some]
  generalize l[k]! = x at hn1 hn2 ⊢
  rw [attr_Name_eq _ hn1, bnd1_some]
  cases nameOK x.Name
  · rfl
  rw [if_neg (by decide), if_neg (by decide), attr_Value_eq _ hn2, bnd1_some, chk_nat (by omega)]
  by_cases hv : valOK x.Value = false ∧ ¬ (ch = true ∧ x.Value = [])
  · rw [if_pos hv, if_pos (by simp [hv.1]; cases ch <;> simp_all)]; rfl
  rw [if_neg hv, if_neg (by intro e; simp at e; exact hv ⟨e.1, by rintro ⟨a, b⟩; simp [a, b] at e⟩)]
  by_cases hk0 : k = 0
  · subst hk0; rfl
  · have h0 : decide ((0 : Int) < (k : Int)) = true := by simp; omega
    rw [h0, chk_pred (by omega) (by omega)]
    simp only [beq_self_eq_true, gd_true, bnd1_some, Bool.true_and]
    rw [idx_nat (by omega), bnd1_some, sLt_tri]
    have : (0 < k ∧ sLt l[k - 1]!.Name x.Name = false) ↔ sLt l[k - 1]!.Name x.Name = false := by constructor; exact fun h => h.2; exact fun h => ⟨by omega, h⟩
    simp only [this]
    cases sLt l[k - 1]!.Name x.Name <;> rfl
theorem ref_AttrsError_step (l : List GAttr) (ch : Bool) (h : okStr l) (hm : l.length ≤ 9223372036854775807) (k : Nat) (hk : k < l.length) : ref_AttrsError_L1 l ch k = stepOf k (errA l ch k) := by
  unfold ref_AttrsError_L1 errA
  obtain ⟨hn1, hn2⟩ := h.at hk
  rw [if_pos (by simpa using hk), idx_nat hk, bnd1_some]
  generalize l[k]! = x at hn1 hn2 ⊢
  rw [ref_Name_eq _ hn1, bnd1_some]
  cases nameOK x.Name
  · rfl
  rw [if_neg (by decide), if_neg (by decide), ref_Value_eq _ hn2, bnd1_some, chk_nat (by omega)]
  by_cases hv : valOK x.Value = false ∧ ¬ (ch = true ∧ x.Value = [])
  · rw [if_pos hv, if_pos (by simp [hv.1]; cases ch <;> simp_all)]; rfl
  rw [if_neg hv, if_neg (by intro e; simp at e; exact hv ⟨e.1, by rintro ⟨a, b⟩; simp [a, b] at e⟩)]
  by_cases hk0 : k = 0
  · subst hk0; rfl
  · have h0 : decide ((0 : Int) < (k : Int)) = true := by simp; omega
    rw [h0, chk_pred (by omega) (by omega)]
    simp only [beq_self_eq_true, gd_true, bnd1_some, Bool.true_and]
    rw [idx_nat (by omega), bnd1_some]
    have : (0 < k ∧ sLt l[k - 1]!.Name x.Name = false) ↔ sLt l[k - 1]!.Name x.Name = false := by constructor; exact fun h => h.2; exact fun h => ⟨by omega, h⟩
    simp only [this]
    cases sLt l[k - 1]!.Name x.Name <;> rfl
theorem out_getD {o : Option Int} : (ctl1 (some (outOf o)) fun _ : Unit => some 0) = some (o.getD 0) := by cases o <;> rfl
theorem attr_check_eq (l : List GAttr) (ch : Bool) (h : okStr l) (hm : l.length ≤ 9223372036854775807) : attr_check l ch = some (attrErr l ch) := by
  unfold attr_check
  rw [iter_find (n := l.length) (errA l ch) (fun k hk => attr_check_step l ch h hm k hk) (by unfold attr_check_L1; rw [if_neg (by simp)]), out_getD]; rfl
theorem ref_AttrsError_eq (l : List GAttr) (ch : Bool) (h : okStr l) (hm : l.length ≤ 9223372036854775807) : ref_AttrsError l ch = some (attrErr l ch) := by
  unfold ref_AttrsError
  rw [iter_find (n := l.length) (errA l ch) (fun k hk => ref_AttrsError_step l ch h hm k hk) (by unfold ref_AttrsError_L1; rw [if_neg (by simp)]), out_getD]; rfl
theorem attr_Check_eq (l : List GAttr) (h : okStr l) (hm : l.length ≤ 9223372036854775807) : attr_Check l = some (attrErr l false) := by unfold attr_Check; rw [attr_check_eq l _ h hm]; rfl
theorem attr_CheckChange_eq (l : List GAttr) (h : okStr l) (hm : l.length ≤ 9223372036854775807) : attr_CheckChange l = some (attrErr l true) := by unfold attr_CheckChange; rw [attr_check_eq l _ h hm]; rfl
def getA (l : List GAttr) (name : List UInt8) : List UInt8 := ((List.range l.length).findSome? fun k => if l[k]!.Name = name then some l[k]!.Value else none).getD []
end Go.Proofs.Ytdeglnbioiicaaa.Al


namespace Go.Proofs.Ytdeglnbioiicaaa.Al
def nil2 : GAttr := ⟨[], []⟩
def bothL (stp : GAttr → GAttr → List GAttr → List GAttr) : List GAttr → List GAttr → List GAttr → List GAttr
  | [], [], c => c
  | x :: a, [], c => bothL stp a [] (stp x nil2 c)
  | [], y :: b, c => bothL stp [] b (stp nil2 y c)
  | x :: a, y :: b, c => if sLt x.Name y.Name then bothL stp a (y :: b) (stp x nil2 c) else if sLt y.Name x.Name then bothL stp (x :: a) b (stp nil2 y c) else bothL stp a b (stp x y c)
  termination_by a b => a.length + b.length
def bothStep (stp : GAttr → GAttr → List GAttr → List GAttr) (a b : List GAttr) (i j : Nat) (o : List GAttr) : Option ((Int × Int × List GAttr) ⊕ Ctl Unit (List GAttr)) :=
  if i < a.length ∨ j < b.length then
    if j = b.length ∨ (i < a.length ∧ sLt a[i]!.Name b[j]!.Name = true) then some (.inl (((i + 1 : Nat) : Int), (j : Int), stp a[i]! nil2 o))
    else if i = a.length ∨ sLt b[j]!.Name a[i]!.Name = true then some (.inl ((i : Int), ((j + 1 : Nat) : Int), stp nil2 b[j]! o))
    else some (.inl (((i + 1 : Nat) : Int), ((j + 1 : Nat) : Int), stp a[i]! b[j]! o))
  else some (.inr (.ext o))
theorem drop_cons {l : List GAttr} {i : Nat} (h : i < l.length) : l.drop i = l[i]! :: l.drop (i + 1) := by
  rw [List.drop_eq_getElem_cons h, getElem!_pos l i h]
theorem both_iter {f : (Int × Int × List GAttr) → Option ((Int × Int × List GAttr) ⊕ Ctl Unit (List GAttr))} (stp : GAttr → GAttr → List GAttr → List GAttr) (a b c : List GAttr) (B : Nat) (hstp : ∀ x y o, (stp x y o).length ≤ o.length + 1)
    (hf : ∀ (i j : Nat) (o : List GAttr), i ≤ a.length → j ≤ b.length → o.length + (a.length - i) + (b.length - j) ≤ B → f (i, j, o) = bothStep stp a b i j o) (hB : c.length + a.length + b.length ≤ B) : iter f (0, 0, c) = some (.ext (bothL stp a b c)) := by
  have key : ∀ (m i j : Nat) (o : List GAttr), i ≤ a.length → j ≤ b.length → (a.length - i) + (b.length - j) = m → o.length + m ≤ B → iter f ((i : Int), (j : Int), o) = some (.ext (bothL stp (a.drop i) (b.drop j) o)) := by
    intro m
    induction m using Nat.strongRecOn with
    | _ m ih =>
      intro i j o hi hj hm ho
      have hs := hf i j o hi hj (by omega)
      unfold bothStep at hs
      by_cases hia : i < a.length
      · rw [drop_cons hia]
        by_cases hjb : j < b.length
        · rw [drop_cons hjb]
          rw [if_pos (.inl hia)] at hs
          by_cases h1 : sLt a[i]!.Name b[j]!.Name = true
          · rw [if_pos (.inr ⟨hia, h1⟩)] at hs
            rw [iter_next hs, bothL, if_pos h1, ← drop_cons hjb]
            exact ih (m - 1) (by omega) (i + 1) j _ (by omega) hj (by omega) (by have := hstp a[i]! nil2 o; omega)
          · rw [if_neg (by rintro (h | h); omega; exact h1 h.2)] at hs
            by_cases h2 : sLt b[j]!.Name a[i]!.Name = true
            · rw [if_pos (.inr h2)] at hs
              rw [iter_next hs, bothL, if_neg h1, if_pos h2, ← drop_cons hia]
              exact ih (m - 1) (by omega) i (j + 1) _ hi (by omega) (by omega) (by have := hstp nil2 b[j]! o; omega)
            · rw [if_neg (by rintro (h | h); omega; exact h2 h)] at hs
              rw [iter_next hs, bothL, if_neg h1, if_neg h2]
              exact ih (m - 2) (by omega) (i + 1) (j + 1) _ (by omega) (by omega) (by omega) (by have := hstp a[i]! b[j]! o; omega)
        · have hjl : j = b.length := by omega
          rw [if_pos (.inl hia), if_pos (.inl hjl)] at hs
          have hd : b.drop j = [] := by rw [hjl]; simp
          rw [iter_next hs, hd, bothL, ← hd]
          exact ih (m - 1) (by omega) (i + 1) j _ (by omega) hj (by omega) (by have := hstp a[i]! nil2 o; omega)
      · have hil : i = a.length := by omega
        have hd : a.drop i = [] := by rw [hil]; simp
        by_cases hjb : j < b.length
        · rw [if_pos (.inr hjb), if_neg (by rintro (h | h); omega; omega), if_pos (.inl hil)] at hs
          rw [drop_cons hjb, iter_next hs, hd, bothL, ← hd]
          exact ih (m - 1) (by omega) i (j + 1) _ hi (by omega) (by omega) (by have := hstp nil2 b[j]! o; omega)
        · have hjl : j = b.length := by omega
          rw [if_neg (by omega)] at hs
          have hd2 : b.drop j = [] := by rw [hjl]; simp
          rw [iter_stop hs, hd, hd2, bothL]
  exact key _ 0 0 c (Nat.zero_le _) (Nat.zero_le _) rfl (by omega)
theorem app1 {o : List GAttr} {x : GAttr} (h : o.length + 1 ≤ 4398046511104) : app 32 o [x] = some (o ++ [x]) := by
  unfold app; rw [if_pos (by simp; omega)]
def stpRaw (x y : GAttr) (o : List GAttr) : List GAttr := if y.Name = [] then o ++ [x] else if y.Value = [] then o else o ++ [y]
theorem stpRaw_len (x y o) : (stpRaw x y o).length ≤ o.length + 1 := by unfold stpRaw; split; simp; split <;> simp
theorem attr_Raw_f1_eq (c : List GAttr) (x y : GAttr) (h : c.length + 1 ≤ 4398046511104) : attr_Raw_f1 c x y = some (stpRaw x y c) := by
  unfold attr_Raw_f1 stpRaw
  rw [app1 h, app1 h]
  by_cases h1 : y.Name = [] <;> by_cases h2 : y.Value = [] <;> simp [h1, h2]
theorem attr_eq_iff (x y : GAttr) : x = y ↔ x.Name = y.Name ∧ x.Value = y.Value := by cases x; cases y; simp
theorem attr_both__Raw_f1_step (a b : List GAttr) (i j : Nat) (o : List GAttr) (hab : a.length + b.length ≤ 4398046511104) (hi : i ≤ a.length) (hj : j ≤ b.length) (ho : o.length + (a.length - i) + (b.length - j) ≤ 4398046511104) : attr_both__Raw_f1_L1 a b i j o = bothStep stpRaw a b i j o := by
  unfold attr_both__Raw_f1_L1 bothStep
  by_cases hia : i < a.length
  · rw [if_pos (by simp; omega), if_pos (.inl hia), idx_nat hia]
    have e1 : decide ((i : Int) < (a.length : Int)) = true := by simp; omega
    have e2 : decide ((i : Int) = (a.length : Int)) = false := by simp; omega
    rw [e1, e2]
    by_cases hjb : j < b.length
    · have e3 : decide ((j : Int) = (b.length : Int)) = false := by simp; omega
      rw [e3, idx_nat hjb]
      simp only [beq_self_eq_true, Bool.true_and, Bool.and_self, gd_true, bnd1_some, Bool.false_or]
      rw [attr_Raw_f1_eq _ _ _ (by omega), attr_Raw_f1_eq _ _ _ (by omega), attr_Raw_f1_eq _ _ _ (by omega)]
      simp only [bnd1_some]
      rw [chk_nat (by omega), chk_nat (by omega)]
      simp only [bnd1_some]
      have hne : ¬ j = b.length := by omega
      have hni : ¬ i = a.length := by omega
      simp only [hne, hni, hia, true_and, false_or]; rfl
    · have hjl : j = b.length := by omega
      have e3 : decide ((j : Int) = (b.length : Int)) = true := by simp; omega
      rw [e3]
      have e4 : ((true == false) && (true == true)) = false := rfl
      rw [e4]
      simp only [gd_false, bnd1_some, Bool.true_or]
      rw [if_pos trivial, if_pos (.inl hjl), attr_Raw_f1_eq _ _ _ (by omega), bnd1_some, chk_nat (by omega), bnd1_some]; rfl
  · have hil : i = a.length := by omega
    have e1 : decide ((i : Int) < (a.length : Int)) = false := by simp; omega
    have e2 : decide ((i : Int) = (a.length : Int)) = true := by simp; omega
    rw [e1, e2]
    by_cases hjb : j < b.length
    · have e3 : decide ((j : Int) = (b.length : Int)) = false := by simp; omega
      have e5 : decide ((j : Int) < (b.length : Int)) = true := by simp; omega
      have hne : ¬ j = b.length := by omega
      rw [e3, e5, if_pos (by rfl), if_pos (.inr hjb), idx_nat hjb]
      have e4 : ((false == false) && (false == true)) = false := rfl
      have e6 : ((true == false)) = false := rfl
      rw [e4, e6]
      simp only [gd_false, bnd1_some, Bool.false_or, Bool.false_and, Bool.true_or, if_true, Bool.false_eq_true, if_false]
      have hx : ¬ (j = b.length ∨ i < a.length ∧ sLt a[i]!.Name b[j]!.Name = true) := by
        intro h; rcases h with h | h
        · exact hne h
        · exact hia h.1
      rw [if_neg hx, if_pos (.inl hil), attr_Raw_f1_eq _ _ _ (by omega), bnd1_some, chk_nat (by omega), bnd1_some]; rfl
    · have e5 : decide ((j : Int) < (b.length : Int)) = false := by simp; omega
      rw [e5, if_neg (by decide), if_neg (by omega)]
theorem attr_both__Raw_f1_eq (c a b : List GAttr) (h : c.length + a.length + b.length ≤ 4398046511104) : attr_both__Raw_f1 c a b = some (bothL stpRaw a b c) := by
  unfold attr_both__Raw_f1
  rw [both_iter stpRaw a b c 4398046511104 stpRaw_len (fun i j o h1 h2 h3 => attr_both__Raw_f1_step a b i j o (by omega) h1 h2 h3) h]; rfl
theorem attr_Raw_eq (a b : List GAttr) (h : a.length + b.length ≤ 4398046511104) : attr_Raw a b = some (bothL stpRaw a b []) := by
  unfold attr_Raw; rw [attr_both__Raw_f1_eq [] a b (by simpa using h)]; rfl
theorem attr_Same_eq (a b : List GAttr) (hm : a.length ≤ 9223372036854775807) : attr_Same a b = some (decide (a = b)) := by
  unfold attr_Same
  by_cases hl : a.length = b.length
  · rw [if_neg (by simp [hl]), iter_find (n := a.length) (fun k => if decide (a[k]! = b[k]!) then none else some false) (fun k hk => by
      unfold attr_Same_L1
      rw [if_pos (by simpa using hk), idx_nat hk, idx_nat (by omega), bnd1_some, bnd1_some, chk_nat (by omega)]
      generalize a[k]! = x
      generalize b[k]! = y
      by_cases h : x = y
      · subst h; simp [stepOf]
      · have h' := h; rw [attr_eq_iff] at h'
        simp only [decide_eq_false h, Bool.and_true]
        by_cases h1 : x.Name = y.Name
        · have h2 : ¬ x.Value = y.Value := fun e => h' ⟨h1, e⟩
          simp [h1, h2, stepOf]
        · simp [h1, stepOf]) (by unfold attr_Same_L1; rw [if_neg (by simp)]), find_const, ctl_outOf]
    by_cases h : a = b
    · subst h; simp
    · rw [decide_eq_false h]
      have : ((List.range a.length).all fun k => decide (a[k]! = b[k]!)) = false := by
        rw [← Bool.not_eq_true, List.all_eq_true]
        intro hall
        apply h
        apply List.ext_getElem hl
        intro k h1 h2
        have := hall k (List.mem_range.2 h1)
        simp only [decide_eq_true_eq] at this
        rwa [getElem!_pos a k h1, getElem!_pos b k h2] at this
      rw [this]; rfl
  · rw [if_pos (by simp; omega), decide_eq_false (by rintro rfl; exact hl rfl)]
theorem ref_SameAttrs_eq (a b : List GAttr) (hm : a.length ≤ 9223372036854775807) : ref_SameAttrs a b = some (decide (a = b)) := by
  unfold ref_SameAttrs
  by_cases hl : a.length = b.length
  · rw [if_neg (by simp [hl]), iter_find (n := a.length) (fun k => if decide (a[k]! = b[k]!) then none else some false) (fun k hk => by
      unfold ref_SameAttrs_L1
      rw [if_pos (by simpa using hk), idx_nat hk, idx_nat (by omega), bnd1_some, bnd1_some, chk_nat (by omega)]
      generalize a[k]! = x
      generalize b[k]! = y
      by_cases h : x = y
      · subst h; simp [stepOf]
      · have h' := h; rw [attr_eq_iff] at h'
        simp only [decide_eq_false h, Bool.and_true]
        by_cases h1 : x.Name = y.Name
        · have h2 : ¬ x.Value = y.Value := fun e => h' ⟨h1, e⟩
          simp [h1, h2, stepOf]
        · simp [h1, stepOf]) (by unfold ref_SameAttrs_L1; rw [if_neg (by simp)]), find_const, ctl_outOf]
    by_cases h : a = b
    · subst h; simp
    · rw [decide_eq_false h]
      have : ((List.range a.length).all fun k => decide (a[k]! = b[k]!)) = false := by
        rw [← Bool.not_eq_true, List.all_eq_true]
        intro hall
        apply h
        apply List.ext_getElem hl
        intro k h1 h2
        have := hall k (List.mem_range.2 h1)
        simp only [decide_eq_true_eq] at this
        rwa [getElem!_pos a k h1, getElem!_pos b k h2] at this
      rw [this]; rfl
  · rw [if_pos (by simp; omega), decide_eq_false (by rintro rfl; exact hl rfl)]
theorem okStr_of {l : List GAttr} (h : l.all (fun a => decide (a.Name.length ≤ 100) && decide (a.Value.length ≤ 1000)) = true) : okStr l := by
  intro a ha
  have := List.all_eq_true.1 h a ha
  simp only [Bool.and_eq_true, decide_eq_true_eq] at this
  omega
end Go.Proofs.Ytdeglnbioiicaaa.Al


namespace Go.Proofs.Ytdeglnbioiicaaa.Al
end Go.Proofs.Ytdeglnbioiicaaa.Al


namespace Go.Proofs.Ytdeglnbioiicaaa.Al
def One (l : List GAttr) (n : List UInt8) (o : Option GAttr) : Prop := l = o.toList ∧ ∀ e, o = some e → e.Name = n
structure GOK (g : GAttr → GAttr → List GAttr) (G : Option GAttr → Option GAttr → Option GAttr) : Prop where
  l : ∀ x : GAttr, x.Name ≠ [] → One (g x nil2) x.Name (G (some x) none)
  r : ∀ y : GAttr, y.Name ≠ [] → One (g nil2 y) y.Name (G none (some y))
  b : ∀ x y : GAttr, x.Name = y.Name → x.Name ≠ [] → One (g x y) x.Name (G (some x) (some y))
  n : G none none = none
end Go.Proofs.Ytdeglnbioiicaaa.Al


namespace Go.Proofs.Ytdeglnbioiicaaa.Al
end Go.Proofs.Ytdeglnbioiicaaa.Al


namespace Go.Proofs.Ytdeglnbioiicaaa.Al
theorem iter_hoare {σ β : Type} {f : σ → Option (σ ⊕ β)} (n : Nat) (R : Nat → σ → Prop) (Q : β → Prop)
    (h1 : ∀ k s, k < n → R k s → (∃ s', f s = some (.inl s') ∧ R (k + 1) s') ∨ (∃ b, f s = some (.inr b) ∧ Q b))
    (h2 : ∀ s, R n s → ∃ b, f s = some (.inr b) ∧ Q b) {s : σ} (h0 : R 0 s) : ∃ b, iter f s = some b ∧ Q b := by
  have key : ∀ m k s, k + m = n → R k s → ∃ b, iter f s = some b ∧ Q b := by
    intro m
    induction m with
    | zero =>
      intro k s hk hR
      obtain rfl : k = n := by omega
      obtain ⟨b, hb, hq⟩ := h2 s hR
      exact ⟨b, iter_stop hb, hq⟩
    | succ m ih =>
      intro k s hk hR
      rcases h1 k s (by omega) hR with ⟨s', h3, h4⟩ | ⟨b, h3, h4⟩
      · obtain ⟨b, h5, h6⟩ := ih (k + 1) s' (by omega) h4
        exact ⟨b, by rw [iter_next h3, h5], h6⟩
      · exact ⟨b, iter_stop h3, h4⟩
  exact key n 0 s (by omega) h0
theorem drop_at {α : Type} [Inhabited α] {l : List α} {k : Nat} (h : k < l.length) : l.drop k = l[k]! :: l.drop (k + 1) := by
  rw [List.drop_eq_getElem_cons h, getElem!_pos l k h]
theorem take_at {α : Type} [Inhabited α] {l : List α} {k : Nat} (h : k < l.length) : l.take (k + 1) = l.take k ++ [l[k]!] := by
  rw [List.take_add_one, List.getElem?_eq_getElem h, getElem!_pos l k h]; rfl
theorem mem_at {α : Type} [Inhabited α] {l : List α} {k : Nat} (h : k < l.length) : l[k]! ∈ l := by
  rw [getElem!_pos l k h]; exact List.getElem_mem h
def oldN (s : GAxisStep) : Int := if s.Kind = 1 then 0 else s.N
def nowN (s : GAxisStep) : Int := if s.Kind = 2 then 0 else s.N
def oldLen (a : List GAxisStep) : Int := (a.map oldN).sum
def nowLen (a : List GAxisStep) : Int := (a.map nowN).sum
theorem oldLen_at {a : List GAxisStep} {k : Nat} (h : k < a.length) : oldLen (a.take (k + 1)) = oldLen (a.take k) + oldN a[k]! := by
  unfold oldLen; rw [take_at h]; simp
theorem nowLen_at {a : List GAxisStep} {k : Nat} (h : k < a.length) : nowLen (a.take (k + 1)) = nowLen (a.take k) + nowN a[k]! := by
  unfold nowLen; rw [take_at h]; simp
def errS (a : List GAxisStep) (k : Nat) : Option Int :=
  if a[k]!.Kind < 0 ∨ 2 < a[k]!.Kind then some 8 else if a[k]!.N < 1 ∨ 2147483647 < a[k]!.N then some 2
  else if 0 < k ∧ (a[k - 1]!.Kind = a[k]!.Kind ∨ (a[k - 1]!.Kind = 2 ∧ a[k]!.Kind = 1)) then some 5 else none
def axErr (a : List GAxisStep) : Int :=
  match (List.range a.length).findSome? (errS a) with
  | some e => e
  | none => if 2147483647 < oldLen a ∨ 2147483647 < nowLen a then 3 else 0
theorem find_first {ρ : Type} {n k : Nat} {g : Nat → Option ρ} {r : ρ} (hk : k < n) (h1 : ∀ j, j < k → g j = none) (h2 : g k = some r) : (List.range n).findSome? g = some r := by
  obtain ⟨m, rfl⟩ : ∃ m, n = k + (m + 1) := ⟨n - k - 1, by omega⟩
  rw [List.range_eq_range', ← List.range'_append (s := 0) (m := k) (n := m + 1) (step := 1), List.findSome?_append]
  have : (List.range' 0 k).findSome? g = none := by
    rw [List.findSome?_eq_none_iff]; intro x hx; exact h1 x (by simpa using hx)
  rw [this, Nat.one_mul, Nat.zero_add, List.range'_succ, List.findSome?_cons, h2]; rfl
theorem find_none {ρ : Type} {n : Nat} {g : Nat → Option ρ} (h1 : ∀ j, j < n → g j = none) : (List.range n).findSome? g = none := by
  rw [List.findSome?_eq_none_iff]; intro x hx; exact h1 x (by simpa using hx)
def Stp (s : GAxisStep) : Prop := 0 ≤ s.Kind ∧ s.Kind ≤ 2 ∧ 1 ≤ s.N ∧ s.N ≤ 2147483647
theorem stp_of {a : List GAxisStep} {k : Nat} (h : errS a k = none) : Stp a[k]! := by
  unfold errS at h
  unfold Stp
  split at h
  · cases h
  · split at h
    · cases h
    · omega
theorem good_take {a : List GAxisStep} {k : Nat} (hk : k ≤ a.length) (h : ∀ j, j < k → Stp a[j]!) : 0 ≤ oldLen (a.take k) ∧ oldLen (a.take k) ≤ k * 2147483647 ∧ 0 ≤ nowLen (a.take k) ∧ nowLen (a.take k) ≤ k * 2147483647 := by
  induction k with
  | zero => simp [oldLen, nowLen]
  | succ k ih =>
    have := ih (by omega) (fun j hj => h j (by omega))
    have hs := h k (by omega)
    rw [oldLen_at (by omega), nowLen_at (by omega)]
    unfold oldN nowN
    unfold Stp at hs
    omega
theorem axErr_none {a : List GAxisStep} (h1 : ∀ j, j < a.length → errS a j = none) : axErr a = if 2147483647 < oldLen a ∨ 2147483647 < nowLen a then 3 else 0 := by
  unfold axErr; rw [find_none h1]
theorem chk_ok {x : Int} (h1 : -9223372036854775808 ≤ x) (h2 : x ≤ 9223372036854775807) : chk .i64 x = some x := chk64 h1 h2
theorem axis_Check_eq (a : List GAxisStep) (hm : a.length ≤ 9223372036854775807) : axis_Check a = some (axErr a) := by
  unfold axis_Check
  obtain ⟨b, hb, hq⟩ := iter_hoare (f := fun (x : Int × Int × Int) => axis_Check_L1 a x.1 x.2.1 x.2.2) a.length
    (fun k s => s = (min (oldLen (a.take k)) 2147483648, min (nowLen (a.take k)) 2147483648, (k : Int)) ∧ ∀ j, j < k → errS a j = none)
    (fun b => b = match (List.range a.length).findSome? (errS a) with | some e => .ext e | none => .nrm (min (oldLen a) 2147483648, min (nowLen a) 2147483648))
    (fun k s hk hR => by
      obtain ⟨rfl, hg⟩ := hR
      have hlen := good_take (a := a) (k := k) (by omega) (fun j hj => stp_of (hg j hj))
      unfold axis_Check_L1
      simp only
      rw [if_pos (by simpa using hk), idx_nat hk, bnd1_some, chk_nat (by omega)]
      cases he : errS a k with
      | some r =>
        right
        rw [find_first hk hg he]
        refine ⟨_, ?_, rfl⟩
        unfold errS at he
        by_cases c1 : a[k]!.Kind < 0 ∨ 2 < a[k]!.Kind
        · rw [if_pos c1] at he; cases he
          rw [if_pos (by simpa using c1)]; rfl
        rw [if_neg c1] at he
        rw [if_neg (by simpa using c1)]
        by_cases c2 : a[k]!.N < 1 ∨ 2147483647 < a[k]!.N
        · rw [if_pos c2] at he; cases he
          rw [if_pos (by simpa using c2)]; rfl
        rw [if_neg c2] at he
        rw [if_neg (by simpa using c2)]
        by_cases c3 : 0 < k ∧ (a[k - 1]!.Kind = a[k]!.Kind ∨ (a[k - 1]!.Kind = 2 ∧ a[k]!.Kind = 1))
        · rw [if_pos c3] at he; cases he
          have h0 : decide ((0 : Int) < (k : Int)) = true := by simp; omega
          rw [h0, chk_pred c3.1 (by omega)]
          simp only [beq_self_eq_true, gd_true, bnd1_some, Bool.true_and]
          rw [idx_nat (by omega), bnd1_some, if_pos (by simpa using c3.2)]; rfl
        · rw [if_neg c3] at he; cases he
      | none =>
        left
        have hs := stp_of he
        have h0 := he
        unfold errS at he
        by_cases c1 : a[k]!.Kind < 0 ∨ 2 < a[k]!.Kind
        · rw [if_pos c1] at he; cases he
        rw [if_neg c1] at he
        rw [if_neg (by simpa using c1)]
        by_cases c2 : a[k]!.N < 1 ∨ 2147483647 < a[k]!.N
        · rw [if_pos c2] at he; cases he
        rw [if_neg c2] at he
        rw [if_neg (by simpa using c2)]
        by_cases c3 : 0 < k ∧ (a[k - 1]!.Kind = a[k]!.Kind ∨ (a[k - 1]!.Kind = 2 ∧ a[k]!.Kind = 1))
        · rw [if_pos c3] at he; cases he
        clear he
        have e3 : k = 0 ∨ (0 < k ∧ ¬ (a[k - 1]!.Kind = a[k]!.Kind ∨ (a[k - 1]!.Kind = 2 ∧ a[k]!.Kind = 1))) := by
          by_cases h0 : k = 0
          · exact .inl h0
          · exact .inr ⟨by omega, fun h => c3 ⟨by omega, h⟩⟩
        have hR' : ∀ j, j < k + 1 → errS a j = none := fun j hj => by
          rcases Nat.lt_or_ge j k with h | h
          · exact hg j h
          · obtain rfl : j = k := by omega
            exact h0
        have fin : (ctl2 (bnd1 (if (!decide (a[k]!.Kind = 1)) = true then (bnd1 (chk .i64 (min (oldLen (a.take k)) 2147483648 + a[k]!.N)) fun (x9 : Int) => some (min x9 2147483648)) else some (min (oldLen (a.take k)) 2147483648)) fun (before6 : Int) =>
            if (!decide (a[k]!.Kind = 2)) = true then (bnd1 (chk .i64 (min (nowLen (a.take k)) 2147483648 + a[k]!.N)) fun (x8 : Int) => some (.nrm (before6, min x8 2147483648))) else some (.nrm (before6, min (nowLen (a.take k)) 2147483648)))
            fun (before5 : Int) (after5 : Int) => bnd1 (some (((k + 1 : Nat)) : Int)) fun (x4 : Int) => some (Sum.inl (before5, after5, x4)) : Option ((Int × Int × Int) ⊕ (Ctl (Int × Int) Int))) =
            some (.inl (min (oldLen (a.take (k + 1))) 2147483648, min (nowLen (a.take (k + 1))) 2147483648, ((k + 1 : Nat) : Int))) := by
          unfold Stp at hs
          rw [oldLen_at hk, nowLen_at hk]
          clear c1 c2 c3 e3 hR' h0
          generalize a[k]! = x at hs ⊢
          generalize oldLen (a.take k) = o at hlen ⊢
          generalize nowLen (a.take k) = w at hlen ⊢
          rw [chk_ok (by omega) (by omega), chk_ok (by omega) (by omega)]
          unfold oldN nowN
          by_cases d1 : x.Kind = 1
          · have d2 : ¬ x.Kind = 2 := by omega
            simp [d1]; omega
          · by_cases d2 : x.Kind = 2
            · simp [d2]; omega
            · simp [d1, d2]; omega
        rcases e3 with rfl | ⟨hp, e3⟩
        · exact ⟨_, fin, rfl, hR'⟩
        · have h1 : decide ((0 : Int) < (k : Int)) = true := by simp; omega
          rw [h1, chk_pred (by omega) (by omega)]
          simp only [beq_self_eq_true, gd_true, bnd1_some, Bool.true_and]
          rw [idx_nat (by omega), bnd1_some, if_neg (by simpa using e3)]
          exact ⟨_, fin, rfl, hR'⟩)
    (fun s hR => by
      obtain ⟨rfl, hg⟩ := hR
      rw [find_none hg, List.take_length]
      unfold axis_Check_L1
      exact ⟨_, by rw [if_neg (by simp)], rfl⟩)
    (s := (0, 0, 0)) ⟨by simp [oldLen, nowLen]; decide, fun j hj => absurd hj (Nat.not_lt_zero _)⟩
  rw [hb, hq]
  unfold axErr
  cases (List.range a.length).findSome? (errS a) with
  | some e => rfl
  | none =>
    show (if (decide (2147483647 < min (oldLen a) 2147483648) || decide (2147483647 < min (nowLen a) 2147483648)) = true then some 3 else some 0) = _
    by_cases h : 2147483647 < oldLen a ∨ 2147483647 < nowLen a
    · rw [if_pos (by simp; omega), if_pos h]
    · rw [if_neg (by simp; omega), if_neg h]
theorem ref_In_eq (x lo hi : Int) : ref_In x lo hi = some (decide (lo ≤ x) && decide (x ≤ hi)) := by
  unfold ref_In
  rfl
end Go.Proofs.Ytdeglnbioiicaaa.Al


namespace Go.Proofs.Ytdeglnbioiicaaa.Al
theorem iter_walk {α σ β γ : Type} [Inhabited α] {f : σ → Option (σ ⊕ β)} (l : List α) (mk : γ → Nat → σ) (sp : List α → γ → β) (I : Nat → γ → Prop)
    (h1 : ∀ k c, k < l.length → I k c → (∃ c', f (mk c k) = some (.inl (mk c' (k + 1))) ∧ I (k + 1) c' ∧ sp (l[k]! :: l.drop (k + 1)) c = sp (l.drop (k + 1)) c') ∨ f (mk c k) = some (.inr (sp (l[k]! :: l.drop (k + 1)) c)))
    (h2 : ∀ c, I l.length c → f (mk c l.length) = some (.inr (sp [] c))) (c : γ) (h0 : I 0 c) (s : σ) (hs : s = mk c 0) : iter f s = some (sp l c) := by
  subst hs
  have key : ∀ m k c, k + m = l.length → I k c → iter f (mk c k) = some (sp (l.drop k) c) := by
    intro m
    induction m with
    | zero =>
      intro k c hk hI
      obtain rfl : k = l.length := by omega
      rw [List.drop_length]
      exact iter_stop (h2 c hI)
    | succ m ih =>
      intro k c hk hI
      rw [drop_at (by omega)]
      rcases h1 k c (by omega) hI with ⟨c', h3, h4, h5⟩ | h3
      · rw [iter_next h3, ih (k + 1) c' (by omega) h4, h5]
      · exact iter_stop h3
  have := key l.length 0 c (by omega) h0
  rwa [List.drop_zero] at this
structure GoodA (a : List GAxisStep) : Prop where
  stp : ∀ s ∈ a, Stp s
  olds : oldLen a ≤ 2147483647
  nows : nowLen a ≤ 2147483647
theorem errS_ne0 {a : List GAxisStep} {k : Nat} {r : Int} (h : errS a k = some r) : r ≠ 0 := by
  unfold errS at h
  split at h
  · cases h; decide
  · split at h
    · cases h; decide
    · split at h
      · cases h; decide
      · cases h
theorem errS_all {a : List GAxisStep} (h : axErr a = 0) : ∀ j, j < a.length → errS a j = none := by
  cases hf : (List.range a.length).findSome? (errS a) with
  | some e =>
    unfold axErr at h
    rw [hf] at h
    simp only at h
    subst h
    obtain ⟨x, _, hx⟩ := List.exists_of_findSome?_eq_some hf
    exact absurd rfl (errS_ne0 hx)
  | none =>
    rw [List.findSome?_eq_none_iff] at hf
    exact fun j hj => hf j (List.mem_range.2 hj)
theorem goodA_of {a : List GAxisStep} (h : axErr a = 0) : GoodA a := by
  have hn := errS_all h
  rw [axErr_none hn] at h
  have hs : ∀ s ∈ a, Stp s := fun s hs => by
    obtain ⟨k, hk, rfl⟩ := List.mem_iff_getElem.1 hs
    rw [← getElem!_pos a k hk]
    exact stp_of (hn k hk)
  by_cases hc : 2147483647 < oldLen a ∨ 2147483647 < nowLen a
  · rw [if_pos hc] at h; cases h
  · exact ⟨hs, by omega, by omega⟩
theorem oldLen_cons (s : GAxisStep) (a : List GAxisStep) : oldLen (s :: a) = oldN s + oldLen a := by simp [oldLen]
theorem nowLen_cons (s : GAxisStep) (a : List GAxisStep) : nowLen (s :: a) = nowN s + nowLen a := by simp [nowLen]
theorem stp_at {a : List GAxisStep} (h : ∀ s ∈ a, Stp s) {k : Nat} (hk : k < a.length) : Stp a[k]! := h _ (mem_at hk)
theorem lens_pos {a : List GAxisStep} (h : ∀ s ∈ a, Stp s) : 0 ≤ oldLen a ∧ 0 ≤ nowLen a := by
  induction a with
  | nil => simp [oldLen, nowLen]
  | cons s a ih =>
    have h1 := ih fun x hx => h x (List.mem_cons_of_mem _ hx)
    have h2 := h s (List.mem_cons_self ..)
    rw [oldLen_cons, nowLen_cons]
    unfold oldN nowN
    unfold Stp at h2
    split <;> split <;> omega
theorem GoodA.len {a : List GAxisStep} (h : GoodA a) : (a.length : Int) ≤ 4294967294 := by
  have key : ∀ l : List GAxisStep, (∀ s ∈ l, Stp s) → (l.length : Int) ≤ oldLen l + nowLen l := by
    intro l
    induction l with
    | nil => intro _; simp [oldLen, nowLen]
    | cons s l ih =>
      intro h
      have h1 := ih fun x hx => h x (List.mem_cons_of_mem _ hx)
      have h2 := h s (List.mem_cons_self ..)
      rw [oldLen_cons, nowLen_cons, List.length_cons]
      unfold oldN nowN
      unfold Stp at h2
      split <;> split <;> omega
  have h1 := key a h.stp
  have h2 := h.olds
  have h3 := h.nows
  omega
def Run (a : List GAxisStep) (k : Nat) (f t : Int) : Prop := 0 ≤ f ∧ f + oldLen (a.drop k) ≤ 2147483647 ∧ 0 ≤ t ∧ t + nowLen (a.drop k) ≤ 2147483647
theorem GoodA.run {a : List GAxisStep} (h : GoodA a) : Run a 0 0 0 := by
  have h2 := h.olds
  have h3 := h.nows
  unfold Run
  rw [List.drop_zero]
  omega
theorem Run.nx {a : List GAxisStep} (h : GoodA a) {k : Nat} (hk : k < a.length) {f t : Int} (hr : Run a k f t) : 0 ≤ f ∧ f + oldN a[k]! ≤ 2147483647 ∧ f ≤ 2147483647 ∧ 0 ≤ t ∧ t + nowN a[k]! ≤ 2147483647 ∧ t ≤ 2147483647 ∧
    ∀ f' t', f ≤ f' → f' ≤ f + oldN a[k]! → t ≤ t' → t' ≤ t + nowN a[k]! → Run a (k + 1) f' t' := by
  have hd := lens_pos (a := a.drop (k + 1)) (fun s hs => h.stp s (List.mem_of_mem_drop hs))
  have hs := stp_at h.stp hk
  unfold Run at hr
  rw [drop_at hk, oldLen_cons, nowLen_cons] at hr
  have h0 : 0 ≤ oldN a[k]! ∧ 0 ≤ nowN a[k]! := by unfold Stp at hs; unfold oldN nowN; split <;> split <;> omega
  refine ⟨by omega, by omega, by omega, by omega, by omega, by omega, fun f' t' a1 a2 a3 a4 => ?_⟩
  unfold Run
  omega
theorem axis_lengths_eq (a : List GAxisStep) (hg : GoodA a) : axis_lengths a = some (oldLen a, nowLen a) := by
  unfold axis_lengths
  rw [iter_walk (f := fun (a_1 : Int × Int × Int) => axis_lengths_L1 a a_1.1 a_1.2.1 a_1.2.2) a (fun (c : Int × Int) k => (c.1, c.2, (k : Int))) (fun l (c : Int × Int) => (c.1 + oldLen l, c.2 + nowLen l)) (fun k c => Run a k c.1 c.2)
    (fun k c hk hI => by
      left
      have hs := stp_at hg.stp hk
      have hnx := hI.nx hg hk
      have hgl := hg.len
      unfold axis_lengths_L1
      simp only
      rw [if_pos (by simpa using hk), idx_nat hk, bnd1_some, chk_nat (by omega)]
      simp only [oldLen_cons, nowLen_cons]
      obtain ⟨o, w⟩ := c
      simp only at hnx ⊢
      generalize a[k]! = x at hs hnx ⊢
      obtain ⟨q1, q2, q3, q4, q5, q6, q7⟩ := hnx
      have h0 : 0 ≤ oldN x ∧ 0 ≤ nowN x := by unfold Stp at hs; unfold oldN nowN; split <;> split <;> omega
      unfold Stp at hs
      rw [chk_ok (by omega) (by omega), chk_ok (by omega) (by omega)]
      refine ⟨(o + oldN x, w + nowN x), ?_, q7 _ _ (by omega) (by omega) (by omega) (by omega), ?_⟩
      · unfold oldN nowN
        by_cases d1 : x.Kind = 1
        · simp [d1]
        · by_cases d2 : x.Kind = 2 <;> simp [d1, d2]
      · simp only; rw [Int.add_assoc, Int.add_assoc])
    (fun c hI => by unfold axis_lengths_L1; rw [if_neg (by simp)]; simp [oldLen, nowLen]) (0, 0) hg.run (0, 0, 0) rfl]
  simp
def plo (p : Int) : List GAxisStep → Int × Int → Ctl Unit Int
  | [], _ => .nrm ()
  | s :: l, c => if s.Kind = 1 then plo p l (c.1, c.2 + s.N) else if p < c.1 + s.N then .ext (if s.Kind = 0 then c.2 + p - c.1 else -1) else plo p l (c.1 + s.N, if s.Kind = 0 then c.2 + s.N else c.2)
theorem plo_cons (p : Int) (s : GAxisStep) (l : List GAxisStep) (c : Int × Int) : plo p (s :: l) c = if s.Kind = 1 then plo p l (c.1, c.2 + s.N) else if p < c.1 + s.N then .ext (if s.Kind = 0 then c.2 + p - c.1 else -1) else plo p l (c.1 + s.N, if s.Kind = 0 then c.2 + s.N else c.2) := rfl
def ctlV : Ctl Unit Int → Int
  | .nrm _ => -1
  | .ext x => x
theorem app8 {o : List Int} {x : Int} (h : o.length + 1 ≤ 1099511627776) : app 8 o [x] = some (o ++ [x]) := by
  unfold app; rw [if_pos (by simp; omega)]
def sizeLen (a : List GAxisStep) : Int := (a.map (·.N)).sum
theorem sizeLen_cons (s : GAxisStep) (a : List GAxisStep) : sizeLen (s :: a) = s.N + sizeLen a := by simp [sizeLen]
def units (a : List GAxisStep) : List Int := a.flatMap fun s => List.replicate s.N.toNat s.Kind
theorem units_cons (s : GAxisStep) (a : List GAxisStep) : units (s :: a) = List.replicate s.N.toNat s.Kind ++ units a := rfl
theorem size_pos {a : List GAxisStep} (h : ∀ s ∈ a, Stp s) : 0 ≤ sizeLen a ∧ ((units a).length : Int) = sizeLen a ∧ (a.length : Int) ≤ sizeLen a := by
  induction a with
  | nil => simp [units, sizeLen]
  | cons s a ih =>
    have h1 := ih fun x hx => h x (List.mem_cons_of_mem _ hx)
    have h2 := h s (List.mem_cons_self ..)
    unfold Stp at h2
    rw [sizeLen_cons, units_cons, List.length_append, List.length_replicate, List.length_cons]
    omega
theorem sizeLen_at {a : List GAxisStep} {k : Nat} (h : k < a.length) : sizeLen (a.drop k) = a[k]!.N + sizeLen (a.drop (k + 1)) := by rw [drop_at h, sizeLen_cons]
theorem ref_Units_L2_eq (x : GAxisStep) (out : List Int) (hx : Stp x) (hb : (out.length : Int) + x.N ≤ 1099511627776) : iter (fun (a : Int × (List Int)) => ref_Units_L2 x a.1 a.2) (0, out) = some (out ++ List.replicate x.N.toNat x.Kind) := by
  unfold Stp at hx
  obtain ⟨b, hb1, hq⟩ := iter_hoare (f := fun (a : Int × (List Int)) => ref_Units_L2 x a.1 a.2) x.N.toNat (fun k s => s = ((k : Int), out ++ List.replicate k x.Kind)) (fun b => b = out ++ List.replicate x.N.toNat x.Kind)
    (fun k s hk hR => by
      subst hR
      left
      unfold ref_Units_L2
      simp only
      rw [if_pos (by simp; omega), app8 (by simp; omega), bnd1_some, chk_nat (by omega), bnd1_some]
      exact ⟨_, rfl, by rw [List.append_assoc, ← List.replicate_succ']⟩)
    (fun s hR => by
      subst hR
      unfold ref_Units_L2
      exact ⟨_, by rw [if_neg (by simp; omega)], rfl⟩) (s := (0, out)) (by simp)
  rw [hb1, hq]
theorem ref_Units_eq (a : List GAxisStep) (h : ∀ s ∈ a, Stp s) (hm : sizeLen a ≤ 1073741824) : ref_Units a = some (units a) := by
  have hsz := size_pos h
  unfold ref_Units
  rw [iter_walk (f := fun (a_1 : Int × List Int) => ref_Units_L1 a a_1.1 a_1.2) a (fun (c : List Int) k => ((k : Int), c)) (fun l c => c ++ units l) (fun k c => (c.length : Int) + sizeLen (a.drop k) ≤ 1073741824)
    (fun k c hk hI => by
      left
      have hs := stp_at h hk
      unfold ref_Units_L1
      simp only
      rw [sizeLen_at hk] at hI
      have hd := size_pos (a := a.drop (k + 1)) (fun s hs => h s (List.mem_of_mem_drop hs))
      rw [if_pos (by simpa using hk), idx_nat hk, bnd1_some, chk_nat (by omega), ref_Units_L2_eq _ _ hs (by omega), bnd1_some, bnd1_some]
      refine ⟨_, rfl, ?_, ?_⟩
      · unfold Stp at hs
        rw [List.length_append, List.length_replicate]
        omega
      · simp only [units_cons, List.append_assoc])
    (fun c hI => by unfold ref_Units_L1; rw [if_neg (by simp)]; simp [units]) [] (by simpa using hm) (0, []) rfl]
  simp
def rowsL : List Int → Int → List Int
  | [], _ => []
  | u :: us, o => if u = 0 then o :: rowsL us (o + 1) else if u = 1 then -1 :: rowsL us o else rowsL us (o + 1)
def aheadL : List Int → Int → List Int
  | [], _ => []
  | u :: us, o => if u = 0 then o :: aheadL us (o + 1) else if u = 1 then o :: aheadL us o else aheadL us (o + 1)
theorem rows_len (us : List Int) (o : Int) : (rowsL us o).length ≤ us.length ∧ (aheadL us o).length = (rowsL us o).length := by
  induction us generalizing o with
  | nil => simp [rowsL, aheadL]
  | cons u us ih =>
    have h1 := ih o
    have h2 := ih (o + 1)
    unfold rowsL aheadL
    split
    · simp only [List.length_cons]; omega
    · split <;> simp only [List.length_cons] <;> omega
theorem ref_Olds_eq (us : List Int) (hm : us.length ≤ 1099511627776) : ref_Olds us = some (rowsL us 0, aheadL us 0) := by
  unfold ref_Olds
  rw [iter_walk (f := fun (a_1 : Int × Int × List Int × List Int) => ref_Olds_L1 us a_1.1 a_1.2.1 a_1.2.2.1 a_1.2.2.2) us (fun (c : Int × List Int × List Int) k => (c.1, (k : Int), c.2.1, c.2.2)) (fun l c => (c.2.1 ++ rowsL l c.1, c.2.2 ++ aheadL l c.1)) (fun k c => 0 ≤ c.1 ∧ c.1 ≤ k ∧ c.2.1.length ≤ k ∧ c.2.2.length ≤ k)
    (fun k c hk hI => by
      left
      obtain ⟨o, ro, ah⟩ := c
      unfold ref_Olds_L1
      simp only at hI ⊢
      rw [if_pos (by simpa using hk), idx_nat hk, bnd1_some, chk_nat (by omega), chk_ok (x := o + 1) (by omega) (by omega)]
      generalize us[k]! = u
      by_cases d0 : u = 0
      · subst d0
        rw [app8 (by omega), app8 (by omega)]
        refine ⟨(o + 1, ro ++ [o], ah ++ [o]), by simp, by simp; omega, by simp [rowsL, aheadL]⟩
      · by_cases d1 : u = 1
        · subst d1
          rw [app8 (o := ro) (x := -1) (by omega), app8 (o := ah) (by omega)]
          refine ⟨(o, ro ++ [-1], ah ++ [o]), by simp, by simp; omega, by simp [rowsL, aheadL]⟩
        · refine ⟨(o + 1, ro, ah), by simp [d0, d1], by simp; omega, by simp [rowsL, aheadL, d0, d1]⟩)
    (fun c hI => by unfold ref_Olds_L1; rw [if_neg (by simp)]; simp [rowsL, aheadL]) (0, [], []) (by simp) (0, 0, [], []) rfl]
  simp
def who (r : Int) : List Int → Int → Ctl Unit Int
  | [], _ => .nrm ()
  | x :: xs, i => if x = r then .ext i else who r xs (i + 1)
theorem who_iter (r : Int) (l : List Int) (hm : l.length ≤ 1099511627776) : iter (fun (a : Int) => ref_Where_L1 r l a) 0 = some (who r l 0) := by
  obtain ⟨b, hb, hq⟩ := iter_hoare (f := fun (a : Int) => ref_Where_L1 r l a) l.length (fun k s => s = (k : Int) ∧ who r (l.drop k) (k : Int) = who r l 0) (fun b => b = who r l 0)
    (fun k s hk hR => by
      obtain ⟨rfl, hw⟩ := hR
      unfold ref_Where_L1
      rw [drop_at hk, who] at hw
      rw [if_pos (by simpa using hk), idx_nat hk, bnd1_some, chk_nat (by omega)]
      generalize l[k]! = x at hw ⊢
      by_cases d : x = r
      · right; rw [if_pos d] at hw; exact ⟨_, by simp [d], hw⟩
      · left; rw [if_neg d] at hw; exact ⟨_, by rw [if_neg (by simpa using d)]; rfl, rfl, hw⟩)
    (fun s hR => by
      obtain ⟨rfl, hw⟩ := hR
      rw [List.drop_length, who] at hw
      unfold ref_Where_L1
      exact ⟨_, by rw [if_neg (by simp)], hw⟩) (s := 0) (by simp)
  rw [hb, hq]
theorem ref_Where_eq (us : List Int) (r : Int) (hm : us.length ≤ 1099511627776) : ref_Where us r = some (ctlV (who r (rowsL us 0) 0)) := by
  unfold ref_Where
  have := rows_len us 0
  rw [ref_Olds_eq us hm, bnd2_some, who_iter r _ (by omega)]
  cases who r (rowsL us 0) 0 <;> rfl
end Go.Proofs.Ytdeglnbioiicaaa.Al


namespace Go.Proofs.Ytdeglnbioiicaaa.Al
def charOK (c : Int) : Bool := decide (c = 9) || decide (c = 10) || (decide (32 ≤ c) && decide (c ≤ 126)) || (decide (160 ≤ c) && decide (c ≤ 55295)) || (decide (57344 ≤ c) && decide (c ≤ 1114111))
def elemErr (x : GElem) : Int :=
  if (x.Char = 0 ∧ x.Ref = 0) ∨ (x.Char ≠ 0 ∧ x.Ref ≠ 0) then 4 else if (x.Char ≠ 0 ∧ charOK x.Char = false) ∨ (x.Ref ≠ 0 ∧ ¬ (1 ≤ x.Ref ∧ x.Ref ≤ 1073741824)) then 2 else attrErr x.Attrs false
def okE (x : GElem) : Prop := x.Attrs.length ≤ 9223372036854775807 ∧ okStr x.Attrs
theorem flow_Char_eq (c : Int) : flow_Char c = some (charOK c) := by
  unfold flow_Char charOK
  congr 1
  rw [Bool.eq_iff_iff]
  simp only [Bool.or_eq_true, Bool.and_eq_true, decide_eq_true_eq]
  omega
theorem ref_Char_eq (c : Int) : ref_Char c = some (charOK c) := by
  unfold ref_Char charOK
  rw [ref_In_eq, ref_In_eq, ref_In_eq]
  generalize decide (c = 9) = a1
  generalize decide (c = 10) = a2
  generalize (decide (32 ≤ c) && decide (c ≤ 126)) = a3
  generalize (decide (160 ≤ c) && decide (c ≤ 55295)) = a4
  generalize (decide (57344 ≤ c) && decide (c ≤ 1114111)) = a5
  cases a1 <;> cases a2 <;> cases a3 <;> cases a4 <;> cases a5 <;> rfl
theorem flow_elem_eq (x : GElem) (h : okE x) : flow_elem x = some (elemErr x) := by
  unfold flow_elem elemErr
  rw [flow_Char_eq, attr_Check_eq _ h.2 h.1]
  by_cases c : x.Char = 0
  · by_cases r : x.Ref = 0
    · simp [c, r]
    · by_cases q : 1 ≤ x.Ref ∧ x.Ref ≤ 1073741824
      · have q1 : ¬ x.Ref < 1 := by omega
        have q2 : ¬ 1073741824 < x.Ref := by omega
        simp [c, r, q, q1, q2]
      · have q1 : x.Ref < 1 ∨ 1073741824 < x.Ref := by omega
        simp [c, r, q, q1]
  · by_cases r : x.Ref = 0
    · cases hc : charOK x.Char <;> simp [c, r, hc]
    · simp [c, r]
theorem ref_ElemError_eq (x : GElem) (h : okE x) : ref_ElemError x = some (elemErr x) := by
  unfold ref_ElemError elemErr
  rw [ref_Char_eq, ref_AttrsError_eq _ _ h.2 h.1, ref_In_eq]
  by_cases c : x.Char = 0
  · by_cases r : x.Ref = 0
    · simp [c, r]
    · by_cases q : 1 ≤ x.Ref ∧ x.Ref ≤ 1073741824
      · simp [c, r, q]
      · have q1 : (decide (1 ≤ x.Ref) && decide (x.Ref ≤ 1073741824)) = false := by rw [← Bool.not_eq_true]; simpa using q
        simp [c, r, q, q1]
  · by_cases r : x.Ref = 0
    · cases hc : charOK x.Char <;> simp [c, r, hc]
    · simp [c, r]
def errE (f : List GElem) (k : Nat) : Option Int := if elemErr f[k]! = 0 then none else some (elemErr f[k]!)
def partErr (f : List GElem) : Int := ((List.range f.length).findSome? (errE f)).getD 0
theorem flow_CheckPart_eq (f : List GElem) (h : ∀ x ∈ f, okE x) (hm : f.length ≤ 9223372036854775807) : flow_CheckPart f = some (partErr f) := by
  unfold flow_CheckPart
  rw [iter_find (n := f.length) (errE f) (fun k hk => by
    unfold flow_CheckPart_L1 errE
    rw [if_pos (by simpa using hk), idx_nat hk, bnd1_some, chk_nat (by omega), flow_elem_eq _ (h _ (mem_at hk)), bnd1_some]
    by_cases e : elemErr f[k]! = 0
    · rw [if_neg (by simpa using e), if_pos e]; rfl
    · rw [if_pos (by simpa using e), if_neg e]; rfl) (by unfold flow_CheckPart_L1; rw [if_neg (by simp)]), out_getD]; rfl
theorem ref_PartError_eq (f : List GElem) (h : ∀ x ∈ f, okE x) (hm : f.length ≤ 9223372036854775807) : ref_PartError f = some (partErr f) := by
  unfold ref_PartError
  rw [iter_find (n := f.length) (errE f) (fun k hk => by
    unfold ref_PartError_L1 errE
    rw [if_pos (by simpa using hk), idx_nat hk, bnd1_some, chk_nat (by omega), ref_ElemError_eq _ (h _ (mem_at hk)), bnd1_some]
    by_cases e : elemErr f[k]! = 0
    · rw [if_neg (by simpa using e), if_pos e]; rfl
    · rw [if_pos (by simpa using e), if_neg e]; rfl) (by unfold ref_PartError_L1; rw [if_neg (by simp)]), out_getD]; rfl
def sHidden : List UInt8 := [104, 105, 100, 100, 101, 110]
def sOn : List UInt8 := [111, 110]
def sCut : List UInt8 := [99, 117, 116]
def sAdd : List UInt8 := [97, 100, 100]
def hid (x : GElem) (mode : Int) : Bool := decide (getA x.Attrs sHidden = sOn) || (decide (mode = 0) && !decide (getA x.Attrs sCut = [])) || (decide (mode = 1) && !decide (getA x.Attrs sAdd = []))
theorem app16 {o : List GSpan} {x : GSpan} (h : o.length + 1 ≤ 1099511627776) : app 16 o [x] = some (o ++ [x]) := by
  unfold app; rw [if_pos (by simp; omega)]
end Go.Proofs.Ytdeglnbioiicaaa.Al


namespace Go.Proofs.Ytdeglnbioiicaaa.Al
theorem ndT {p : Prop} [Decidable p] (h : ¬ p) : (!decide p) = true := by simp [h]
theorem ndF {p : Prop} [Decidable p] (h : p) : ¬ ((!decide p) = true) := by simp [h]
def okA (l : List GAttr) : Prop := l.length ≤ 1073741824 ∧ okStr l
theorem okA.e {x : GElem} (h : okA x.Attrs) : okE x := ⟨by have := h.1; omega, h.2⟩
structure OkSt (s : GStep) : Prop where
  at_ : okA s.Attrs
  el : s.Elems.length ≤ 1073741824
  ea : ∀ e ∈ s.Elems, okA e.Attrs
structure OkD (d : List GStep) : Prop where
  len : d.length ≤ 1099511627776
  st : ∀ s ∈ d, OkSt s
  sum : (d.map fun s => s.Elems.length).sum ≤ 1073741824
theorem okE_of {f : List GElem} (h : ∀ e ∈ f, okA e.Attrs) : ∀ e ∈ f, okE e := fun e he => (h e he).e
def stepErr (s : GStep) : Int :=
  if s.Kind = 1 then (if s.N ≠ 0 ∨ s.Attrs ≠ [] then 4 else if s.Elems = [] then 11 else partErr s.Elems)
  else if s.Kind = 0 ∨ s.Kind = 2 then (if s.Elems ≠ [] ∨ (s.Kind = 2 ∧ s.Attrs ≠ []) then 4 else if s.N < 1 ∨ 2147483647 < s.N then 2 else attrErr s.Attrs true)
  else 8
theorem len_pos {α : Type} [DecidableEq α] (l : List α) : decide (0 < (l.length : Int)) = !decide (l = []) := by
  by_cases h : l = []
  · subst h; rfl
  · have := List.length_pos_iff.2 h
    rw [decide_eq_false h, decide_eq_true (by omega)]; rfl
theorem len_zero {α : Type} [DecidableEq α] (l : List α) : decide ((l.length : Int) = 0) = decide (l = []) := by
  by_cases h : l = []
  · subst h; rfl
  · have := List.length_pos_iff.2 h
    rw [decide_eq_false h, decide_eq_false (by omega)]
theorem and_or_any : ∀ (b1 b2 r r' : Bool), b1 = false ∨ b2 = false → (b1 && (!b2 || r)) = (b1 && (!b2 || r')) := by decide
theorem delta_step_eq (s : GStep) (h : OkSt s) : delta_step s = some (stepErr s) := by
  have h1 := h.at_.1
  have h2 := h.el
  unfold delta_step stepErr
  rw [attr_CheckChange_eq _ h.at_.2 (by omega), flow_CheckPart_eq _ (okE_of h.ea) (by omega), len_pos, len_pos, len_zero]
  by_cases k1 : s.Kind = 1
  · have k0 : ¬ s.Kind = 0 := by omega
    have k2 : ¬ s.Kind = 2 := by omega
    simp only [k1, bnd1_some]
    by_cases n0 : s.N = 0 <;> by_cases a0 : s.Attrs = [] <;> by_cases e0 : s.Elems = [] <;> simp [n0, a0, e0]
  · by_cases k0 : s.Kind = 0
    · simp only [k0, bnd1_some]
      by_cases a0 : s.Attrs = [] <;> by_cases e0 : s.Elems = [] <;> by_cases n0 : s.N < 1 ∨ 2147483647 < s.N <;> simp [a0, e0, n0]
    · by_cases k2 : s.Kind = 2
      · simp only [k2, bnd1_some]
        by_cases a0 : s.Attrs = [] <;> by_cases e0 : s.Elems = [] <;> by_cases n0 : s.N < 1 ∨ 2147483647 < s.N <;> simp [a0, e0, n0]
      · simp [k0, k1, k2]
theorem ref_StepError_eq (s : GStep) (h : OkSt s) : ref_StepError s = some (stepErr s) := by
  have h1 := h.at_.1
  have h2 := h.el
  unfold ref_StepError stepErr
  rw [ref_AttrsError_eq _ _ h.at_.2 (by omega), ref_PartError_eq _ (okE_of h.ea) (by omega), ref_In_eq, ref_In_eq, len_pos, len_pos, len_zero]
  by_cases k1 : s.Kind = 1
  · simp only [k1, bnd1_some]
    by_cases n0 : s.N = 0 <;> by_cases a0 : s.Attrs = [] <;> by_cases e0 : s.Elems = [] <;> simp [n0, a0, e0]
  · have q2 : (!(decide (1 ≤ s.N) && decide (s.N ≤ 2147483647))) = decide (s.N < 1 ∨ 2147483647 < s.N) := by
      rw [Bool.eq_iff_iff]; simp only [Bool.not_eq_true', Bool.and_eq_false_imp, decide_eq_true_eq, decide_eq_false_iff_not]; omega
    simp only [bnd1_some]
    rw [q2]
    by_cases k0 : s.Kind = 0
    · simp only [k0]
      by_cases a0 : s.Attrs = [] <;> by_cases e0 : s.Elems = [] <;> by_cases n0 : s.N < 1 ∨ 2147483647 < s.N <;> simp [a0, e0, n0]
    · by_cases k2 : s.Kind = 2
      · simp only [k2]
        by_cases a0 : s.Attrs = [] <;> by_cases e0 : s.Elems = [] <;> by_cases n0 : s.N < 1 ∨ 2147483647 < s.N <;> simp [a0, e0, n0]
      · have : (!(decide (0 ≤ s.Kind) && decide (s.Kind ≤ 2))) = true := by
          rw [Bool.not_eq_true', Bool.and_eq_false_imp]; simp only [decide_eq_true_eq, decide_eq_false_iff_not]; omega
        rw [this]; simp [k0, k1, k2]
structure GoodS (s : GStep) : Prop where
  kind : (s.Kind = 0 ∧ s.Elems = [] ∧ 1 ≤ s.N ∧ s.N ≤ 2147483647 ∧ attrErr s.Attrs true = 0) ∨ (s.Kind = 2 ∧ s.Elems = [] ∧ s.Attrs = [] ∧ 1 ≤ s.N ∧ s.N ≤ 2147483647) ∨
    (s.Kind = 1 ∧ s.N = 0 ∧ s.Attrs = [] ∧ s.Elems ≠ [] ∧ partErr s.Elems = 0)
theorem goodS_of {s : GStep} (h : stepErr s = 0) : GoodS s := by
  constructor
  unfold stepErr at h
  by_cases k1 : s.Kind = 1
  · rw [if_pos k1] at h
    by_cases c1 : s.N ≠ 0 ∨ s.Attrs ≠ []
    · rw [if_pos c1] at h; cases h
    · rw [if_neg c1] at h
      by_cases c2 : s.Elems = []
      · rw [if_pos c2] at h; cases h
      · rw [if_neg c2] at h
        refine .inr (.inr ⟨k1, ?_, ?_, c2, h⟩)
        · exact Classical.byContradiction fun hn => c1 (.inl hn)
        · exact Classical.byContradiction fun hn => c1 (.inr hn)
  · rw [if_neg k1] at h
    by_cases k : s.Kind = 0 ∨ s.Kind = 2
    · rw [if_pos k] at h
      by_cases c1 : s.Elems ≠ [] ∨ (s.Kind = 2 ∧ s.Attrs ≠ [])
      · rw [if_pos c1] at h; cases h
      · rw [if_neg c1] at h
        by_cases c2 : s.N < 1 ∨ 2147483647 < s.N
        · rw [if_pos c2] at h; cases h
        · rw [if_neg c2] at h
          have he : s.Elems = [] := Classical.byContradiction fun hn => c1 (.inl hn)
          rcases k with k | k
          · exact .inl ⟨k, he, by omega, by omega, h⟩
          · exact .inr (.inl ⟨k, he, Classical.byContradiction fun hn => c1 (.inr ⟨k, hn⟩), by omega, by omega⟩)
    · rw [if_neg k] at h; cases h
def ordBad (p s : GStep) : Bool := (decide (p.Kind = s.Kind) && (!decide (s.Kind = 0) || decide (p.Attrs = s.Attrs))) || (decide (p.Kind = 2) && decide (s.Kind = 1))
def oldS (s : GStep) : Int := if s.Kind = 1 then 0 else s.N
def nowS (s : GStep) : Int := if s.Kind = 2 then 0 else if s.Kind = 1 then s.Elems.length else s.N
def oldD (d : List GStep) : Int := (d.map oldS).sum
def nowD (d : List GStep) : Int := (d.map nowS).sum
theorem oldD_at {d : List GStep} {k : Nat} (h : k < d.length) : oldD (d.take (k + 1)) = oldD (d.take k) + oldS d[k]! := by rw [take_at h]; simp [oldD]
theorem nowD_at {d : List GStep} {k : Nat} (h : k < d.length) : nowD (d.take (k + 1)) = nowD (d.take k) + nowS d[k]! := by rw [take_at h]; simp [nowD]
def errD (d : List GStep) (k : Nat) : Option Int := if stepErr d[k]! ≠ 0 then some (stepErr d[k]!) else if 0 < k ∧ ordBad d[k - 1]! d[k]! = true then some 5 else none
def delErr (d : List GStep) : Int := match (List.range d.length).findSome? (errD d) with
  | some e => e
  | none => if 2147483647 < oldD d ∨ 2147483647 < nowD d then 3 else 0
theorem iter_errs {f : Int × Int × Int → Option ((Int × Int × Int) ⊕ (Ctl (Int × Int) Int))} (n : Nat) (g : Nat → Option Int) (I : Nat → Int × Int → Prop)
    (h : ∀ (k : Nat) (a b : Int), k < n → (∀ j, j < k → g j = none) → I k (a, b) → (∃ e, g k = some e ∧ f (a, b, (k : Int)) = some (.inr (.ext e))) ∨ (g k = none ∧ ∃ a' b', f (a, b, (k : Int)) = some (.inl (a', b', ((k + 1 : Nat) : Int))) ∧ I (k + 1) (a', b')))
    (hend : ∀ (a b : Int), I n (a, b) → f (a, b, (n : Int)) = some (.inr (.nrm (a, b)))) {a0 b0 : Int} (h0 : I 0 (a0, b0)) :
    (∃ e, (List.range n).findSome? g = some e ∧ iter f (a0, b0, 0) = some (.ext e)) ∨ ((List.range n).findSome? g = none ∧ ∃ a b, I n (a, b) ∧ iter f (a0, b0, 0) = some (.nrm (a, b))) := by
  obtain ⟨b, hb, hq⟩ := iter_hoare (f := f) n (fun k s => s.2.2 = (k : Int) ∧ I k (s.1, s.2.1) ∧ ∀ j, j < k → g j = none)
    (fun b => (∃ e, (List.range n).findSome? g = some e ∧ b = .ext e) ∨ ((List.range n).findSome? g = none ∧ ∃ x y, I n (x, y) ∧ b = .nrm (x, y)))
    (fun k s hk hR => by
      obtain ⟨x, y, z⟩ := s
      obtain ⟨rfl, hI, hg⟩ := hR
      rcases h k x y hk hg hI with ⟨e, h1, h2⟩ | ⟨h1, a', b', h2, h3⟩
      · exact .inr ⟨_, h2, .inl ⟨e, find_first hk hg h1, rfl⟩⟩
      · refine .inl ⟨_, h2, rfl, h3, fun j hj => ?_⟩
        rcases Nat.lt_or_ge j k with h4 | h4
        · exact hg j h4
        · obtain rfl : j = k := by omega
          exact h1)
    (fun s hR => by
      obtain ⟨x, y, z⟩ := s
      obtain ⟨rfl, hI, hg⟩ := hR
      exact ⟨_, hend x y hI, .inr ⟨find_none hg, x, y, hI, rfl⟩⟩) (s := (a0, b0, 0)) ⟨rfl, h0, fun j hj => absurd hj (Nat.not_lt_zero _)⟩
  rcases hq with ⟨e, h1, rfl⟩ | ⟨h1, x, y, h2, rfl⟩
  · exact .inl ⟨e, h1, hb⟩
  · exact .inr ⟨h1, x, y, h2, hb⟩
theorem sizes {s : GStep} (h : GoodS s) (ho : OkSt s) : 0 ≤ oldS s ∧ oldS s ≤ 2147483647 ∧ 0 ≤ nowS s ∧ nowS s ≤ 2147483647 ∧ (s.Kind ≠ 2 → s.N + s.Elems.length = nowS s) ∧ (s.Kind ≠ 2 → delta_size s = some (nowS s)) := by
  have h2 := ho.el
  unfold oldS nowS delta_size
  rcases h.kind with ⟨k, e, n1, n2, _⟩ | ⟨k, e, _, n1, n2⟩ | ⟨k, n, _, _, _⟩
  · rw [e]; simp [k]; omega
  · rw [e]; simp [k]; omega
  · simp [k, n]; omega
theorem good_errD {d : List GStep} {k : Nat} (h : errD d k = none) : stepErr d[k]! = 0 ∧ (0 < k → ordBad d[k - 1]! d[k]! = false) := by
  unfold errD at h
  by_cases c : stepErr d[k]! ≠ 0
  · rw [if_pos c] at h; cases h
  · rw [if_neg c] at h
    refine ⟨Classical.not_not.1 c, fun hk => ?_⟩
    cases ho : ordBad d[k - 1]! d[k]! with
    | false => rfl
    | true => rw [if_pos ⟨hk, ho⟩] at h; cases h
theorem delta_Check_eq (d : List GStep) (h : OkD d) : delta_Check d = some (delErr d) := by
  have hm := h.len
  unfold delta_Check delErr
  rcases iter_errs (f := fun (a : Int × Int × Int) => delta_Check_L1 d a.1 a.2.1 a.2.2) d.length (errD d) (fun k c => 0 ≤ oldD (d.take k) ∧ 0 ≤ nowD (d.take k) ∧ c = (min (oldD (d.take k)) 2147483648, min (nowD (d.take k)) 2147483648))
    (fun k a b hk _ hI => by
      obtain ⟨p1, p2, hc⟩ := hI
      cases hc
      have hst := h.st _ (mem_at hk)
      show (∃ e, _ ∧ delta_Check_L1 d (min (oldD (d.take k)) 2147483648) (min (nowD (d.take k)) 2147483648) (k : Int) = _) ∨ (_ ∧ ∃ a' b', delta_Check_L1 d (min (oldD (d.take k)) 2147483648) (min (nowD (d.take k)) 2147483648) (k : Int) = _ ∧ _)
      unfold delta_Check_L1
      rw [if_pos (by simpa using hk), idx_nat hk, bnd1_some, delta_step_eq _ hst, bnd1_some]
      by_cases c1 : stepErr d[k]! ≠ 0
      · exact .inl ⟨_, by unfold errD; rw [if_pos c1], by rw [if_pos (by simpa using c1)]; rfl⟩
      rw [if_neg (by simpa using c1)]
      have hg := goodS_of (Classical.not_not.1 c1)
      obtain ⟨z1, z2, z3, z4, z5, z6⟩ := sizes hg hst
      have ord : ∀ (β : Type) (F : Unit → Option (Ctl β ((Int × Int × Int) ⊕ (Ctl (Int × Int) Int)))), (ctl1 (if (decide ((0 : Int) < (k : Int))) then (bnd1 (chk .i64 ((k : Int) - 1)) fun (x8 : Int) => bnd1 (idx d x8) fun (x9 : GStep) =>
          bnd1 (gd (((decide (x9.Kind = d[k]!.Kind)) == true) && ((!decide (d[k]!.Kind = 0)) == false)) (attr_Same x9.Attrs d[k]!.Attrs)) fun (r2 : Bool) =>
          if (((decide (x9.Kind = d[k]!.Kind)) && ((!decide (d[k]!.Kind = 0)) || r2)) || ((decide (x9.Kind = 2)) && (decide (d[k]!.Kind = 1)))) then (some (.ext (.ext (.inr (.ext 5))))) else (some (.nrm ()))) else (some (.nrm ()))) F) =
          if 0 < k ∧ ordBad d[k - 1]! d[k]! = true then some (.ext (.inr (.ext 5))) else F () := by
        intro β F
        by_cases hk0 : 0 < k
        · rw [if_pos (by simp; omega), chk_pred hk0 (by omega), bnd1_some, idx_nat (by omega), bnd1_some]
          have hp := (h.st _ (mem_at (l := d) (k := k - 1) (by omega))).at_.1
          have e : ∀ F2 : Bool → Option (Ctl Unit (Ctl β ((Int × Int × Int) ⊕ (Ctl (Int × Int) Int)))), (∀ r, (decide (d[k - 1]!.Kind = d[k]!.Kind) && ((!decide (d[k]!.Kind = 0)) || r)) = (decide (d[k - 1]!.Kind = d[k]!.Kind) && ((!decide (d[k]!.Kind = 0)) || decide (d[k - 1]!.Attrs = d[k]!.Attrs))) → F2 r = F2 (decide (d[k - 1]!.Attrs = d[k]!.Attrs))) →
              bnd1 (gd (((decide (d[k - 1]!.Kind = d[k]!.Kind)) == true) && ((!decide (d[k]!.Kind = 0)) == false)) (attr_Same d[k - 1]!.Attrs d[k]!.Attrs)) F2 = F2 (decide (d[k - 1]!.Attrs = d[k]!.Attrs)) := by
            intro F2 hF
            rw [attr_Same_eq _ _ (by omega)]
            by_cases q1 : d[k - 1]!.Kind = d[k]!.Kind <;> by_cases q2 : d[k]!.Kind = 0
            · rw [decide_eq_true q1, decide_eq_true q2]; rfl
            · rw [decide_eq_true q1, decide_eq_false q2]
              show F2 default = _
              exact hF _ (and_or_any _ _ _ _ (.inr (decide_eq_false q2)))
            · rw [decide_eq_false q1, decide_eq_true q2]
              show F2 default = _
              exact hF _ (and_or_any _ _ _ _ (.inl (decide_eq_false q1)))
            · rw [decide_eq_false q1, decide_eq_false q2]
              show F2 default = _
              exact hF _ (and_or_any _ _ _ _ (.inl (decide_eq_false q1)))
          rw [e _ (fun r hr => by rw [hr])]
          by_cases hb : ordBad d[k - 1]! d[k]! = true
          · rw [if_pos (c := (_ || _) = true) (by unfold ordBad at hb; exact hb), if_pos ⟨hk0, hb⟩]; rfl
          · rw [if_neg (c := (_ || _) = true) (by unfold ordBad at hb; exact hb), if_neg (fun hh => hb hh.2)]; rfl
        · rw [if_neg (by simp; omega), if_neg (fun hh => hk0 hh.1)]; rfl
      rw [ord]
      by_cases c2 : 0 < k ∧ ordBad d[k - 1]! d[k]! = true
      · exact .inl ⟨5, by unfold errD; rw [if_neg c1, if_pos c2], by rw [if_pos c2]; rfl⟩
      · rw [if_neg c2]
        refine .inr ⟨by unfold errD; rw [if_neg c1, if_neg c2], ?_⟩
        rw [oldD_at hk, nowD_at hk]
        clear ord c1 c2
        generalize oldD (d.take k) = o at p1 ⊢
        generalize nowD (d.take k) = w at p2 ⊢
        by_cases k1 : d[k]!.Kind = 1
        · have ho : oldS d[k]! = 0 := by unfold oldS; rw [if_pos k1]
          rw [if_neg (ndF k1), bnd1_some, if_pos (ndT (by omega)), z6 (by omega), bnd1_some, chk64 (by omega) (by omega), bnd1_some, ctl2_nrm, chk_nat (by omega), bnd1_some]
          exact ⟨_, _, rfl, by omega, by omega, by rw [ho]; congr 1 <;> omega⟩
        · have ho : oldS d[k]! = d[k]!.N := by unfold oldS; rw [if_neg k1]
          rw [if_pos (ndT k1), chk64 (by omega) (by omega), bnd1_some, bnd1_some]
          by_cases k2 : d[k]!.Kind = 2
          · have hw : nowS d[k]! = 0 := by unfold nowS; rw [if_pos k2]
            rw [if_neg (ndF k2), ctl2_nrm, chk_nat (by omega), bnd1_some]
            exact ⟨_, _, rfl, by omega, by omega, by rw [hw, ← ho]; congr 1 <;> omega⟩
          · rw [if_pos (ndT k2), z6 k2, bnd1_some, chk64 (by omega) (by omega), bnd1_some, ctl2_nrm, chk_nat (by omega), bnd1_some]
            exact ⟨_, _, rfl, by omega, by omega, by rw [← ho]; congr 1 <;> omega⟩)
    (fun a b hI => by
      show delta_Check_L1 d a b (d.length : Int) = _
      unfold delta_Check_L1
      rw [if_neg (by simp)]) (a0 := 0) (b0 := 0) ⟨by simp [oldD], by simp [nowD], by simp [oldD, nowD]; decide⟩ with ⟨e, h1, h2⟩ | ⟨h1, a, b, ⟨_, _, hc⟩, h2⟩
  · rw [h1, h2]; rfl
  · rw [h1, h2, ctl2_nrm]
    rw [List.take_length] at hc
    cases hc
    by_cases hx : 2147483647 < oldD d ∨ 2147483647 < nowD d
    · rw [if_pos (by simp; omega)]; simp only; rw [if_pos hx]
    · rw [if_neg (by simp; omega)]; simp only; rw [if_neg hx]
end Go.Proofs.Ytdeglnbioiicaaa.Al


namespace Go.Proofs.Ytdeglnbioiicaaa.Al
theorem ref_ord (p s : GStep) (hp : p.Kind = 0 ∨ p.Kind = 1 ∨ p.Kind = 2) (hl : p.Attrs.length ≤ 1073741824) (hs : s.Kind = 0 ∨ s.Kind = 1 ∨ s.Kind = 2) {γ : Type} (A B : Option γ) :
    (if (decide (s.Kind = 1)) then (if (!decide (p.Kind = 0)) then A else B) else (if (decide (s.Kind = 2)) then (if (decide (p.Kind = 2)) then A else B) else
      (bnd1 (gd ((decide (p.Kind = 0)) == true) (ref_SameAttrs p.Attrs s.Attrs)) fun (r1 : Bool) => if ((decide (p.Kind = 0)) && r1) then A else B))) = if ordBad p s = true then A else B := by
  rw [ref_SameAttrs_eq _ _ (by omega)]
  unfold ordBad
  rcases hs with k | k | k <;> rcases hp with j | j | j <;> simp [k, j, default]
theorem kind3 {s : GStep} (h : GoodS s) : s.Kind = 0 ∨ s.Kind = 1 ∨ s.Kind = 2 := by
  rcases h.kind with ⟨k, _⟩ | ⟨k, _⟩ | ⟨k, _⟩
  · exact .inl k
  · exact .inr (.inr k)
  · exact .inr (.inl k)
theorem ref_DeltaError_eq (d : List GStep) (h : OkD d) : ref_DeltaError d = some (delErr d) := by
  have hm := h.len
  unfold ref_DeltaError delErr
  rcases iter_errs (f := fun (a : Int × Int × Int) => ref_DeltaError_L1 d a.1 a.2.1 a.2.2) d.length (errD d)
    (fun k c => 0 ≤ oldD (d.take k) ∧ 0 ≤ nowD (d.take k) ∧ (oldD (d.take k) ≤ 2147483647 → c.1 = oldD (d.take k)) ∧ (2147483647 < oldD (d.take k) → 2147483647 < c.1) ∧ 0 ≤ c.1 ∧ c.1 ≤ 4294967296 ∧
      (nowD (d.take k) ≤ 2147483647 → c.2 = nowD (d.take k)) ∧ (2147483647 < nowD (d.take k) → 2147483647 < c.2) ∧ 0 ≤ c.2 ∧ c.2 ≤ 4294967296)
    (fun k a b hk hpre hI => by
      obtain ⟨p1, p2, q1, q2, q3, q4, q5, q6, q7, q8⟩ := hI
      dsimp only at q1 q2 q3 q4 q5 q6 q7 q8
      have hst := h.st _ (mem_at hk)
      show (∃ e, _ ∧ ref_DeltaError_L1 d a b (k : Int) = _) ∨ (_ ∧ ∃ a' b', ref_DeltaError_L1 d a b (k : Int) = _ ∧ _)
      unfold ref_DeltaError_L1
      rw [if_pos (by simpa using hk), idx_nat hk, bnd1_some, ref_StepError_eq _ hst, bnd1_some]
      by_cases c1 : stepErr d[k]! ≠ 0
      · exact .inl ⟨_, by unfold errD; rw [if_pos c1], by rw [if_pos (ndT c1)]; rfl⟩
      rw [if_neg (ndF (Classical.not_not.1 c1))]
      have hg := goodS_of (Classical.not_not.1 c1)
      obtain ⟨z1, z2, z3, z4, z5, z6⟩ := sizes hg hst
      have ord : ∀ (β : Type) (F : Unit → Option (Ctl β ((Int × Int × Int) ⊕ (Ctl (Int × Int) Int)))), (ctl1 (if (decide ((0 : Int) < (k : Int))) then (bnd1 (chk .i64 ((k : Int) - 1)) fun (x7 : Int) => bnd1 (idx d x7) fun (x8 : GStep) =>
            if (decide (d[k]!.Kind = 1)) then (
              if (!decide (x8.Kind = 0)) then (
                some (.ext (.ext (.inr (.ext 5))))
              ) else (
                some (.nrm ())
              )
            ) else (
              if (decide (d[k]!.Kind = 2)) then (
                if (decide (x8.Kind = 2)) then (
                  some (.ext (.ext (.inr (.ext 5))))
                ) else (
                  some (.nrm ())
                )
              ) else (
                bnd1 (gd ((decide (x8.Kind = 0)) == true) (ref_SameAttrs x8.Attrs d[k]!.Attrs)) fun (r1 : Bool) =>
                if ((decide (x8.Kind = 0)) && r1) then (
                  some (.ext (.ext (.inr (.ext 5))))
                ) else (
                  some (.nrm ())
                )
              )
            )) else (some (.nrm ()))) F) =
          if 0 < k ∧ ordBad d[k - 1]! d[k]! = true then some (.ext (.inr (.ext 5))) else F () := by
        intro β F
        by_cases hk0 : 0 < k
        · rw [if_pos (by rw [decide_eq_true_eq]; omega), chk_pred hk0 (by omega), bnd1_some, idx_nat (by omega), bnd1_some]
          have hp := (h.st _ (mem_at (l := d) (k := k - 1) (by omega))).at_.1
          have hpg := kind3 (goodS_of (good_errD (hpre (k - 1) (by omega))).1)
          rw [ref_ord _ _ hpg hp (kind3 hg)]
          by_cases hb : ordBad d[k - 1]! d[k]! = true
          · rw [if_pos hb, if_pos ⟨hk0, hb⟩]; rfl
          · rw [if_neg hb, if_neg (fun hh => hb hh.2)]; rfl
        · rw [if_neg (by rw [decide_eq_true_eq]; omega), if_neg (fun hh => hk0 hh.1)]; rfl
      rw [ord]
      by_cases c2 : 0 < k ∧ ordBad d[k - 1]! d[k]! = true
      · exact .inl ⟨5, by unfold errD; rw [if_neg c1, if_pos c2], by rw [if_pos c2]; rfl⟩
      · rw [if_neg c2]
        refine .inr ⟨by unfold errD; rw [if_neg c1, if_neg c2], ?_⟩
        rw [oldD_at hk, nowD_at hk]
        clear ord c1 c2
        generalize oldD (d.take k) = o at p1 q1 q2 ⊢
        generalize nowD (d.take k) = w at p2 q5 q6 ⊢
        have hold : ∃ o', (if ((!decide (d[k]!.Kind = 1)) && (decide (a < 2147483648))) then (bnd1 (chk .i64 (a + d[k]!.N)) fun (old7 : Int) => some old7) else some a) = some o' ∧ (o + oldS d[k]! ≤ 2147483647 → o' = o + oldS d[k]!) ∧ (2147483647 < o + oldS d[k]! → 2147483647 < o') ∧ 0 ≤ o' ∧ o' ≤ 4294967296 := by
          by_cases k1 : d[k]!.Kind = 1
          · have ho : oldS d[k]! = 0 := by unfold oldS; rw [if_pos k1]
            rw [if_neg (by rw [Bool.and_eq_true]; exact fun h => ndF k1 h.1)]
            exact ⟨a, rfl, by omega, by omega, by omega, by omega⟩
          · have ho : oldS d[k]! = d[k]!.N := by unfold oldS; rw [if_neg k1]
            by_cases ha : a < 2147483648
            · rw [if_pos (by rw [Bool.and_eq_true]; exact ⟨ndT k1, decide_eq_true ha⟩), chk64 (by omega) (by omega), bnd1_some]
              exact ⟨_, rfl, by omega, by omega, by omega, by omega⟩
            · rw [if_neg (by rw [Bool.and_eq_true]; exact fun h => ha (of_decide_eq_true h.2))]
              exact ⟨a, rfl, by omega, by omega, by omega, by omega⟩
        obtain ⟨o', e1, r1, r2, r3, r4⟩ := hold
        rw [e1, bnd1_some]
        by_cases k2 : d[k]!.Kind = 2
        · have hw : nowS d[k]! = 0 := by unfold nowS; rw [if_pos k2]
          rw [if_neg (by rw [Bool.and_eq_true]; exact fun h => ndF k2 h.1), ctl2_nrm, chk_nat (by omega), bnd1_some]
          exact ⟨_, _, rfl, by omega, by omega, r1, r2, r3, r4, by dsimp only; omega, by dsimp only; omega, by dsimp only; omega, by dsimp only; omega⟩
        · have hN := z5 k2
          by_cases hb : b < 2147483648
          · rw [if_pos (by rw [Bool.and_eq_true]; exact ⟨ndT k2, decide_eq_true hb⟩), chk64 (by omega) (by omega), bnd1_some, chk64 (by omega) (by omega), bnd1_some, ctl2_nrm, chk_nat (by omega), bnd1_some]
            exact ⟨_, _, rfl, by omega, by omega, r1, r2, r3, r4, by dsimp only; omega, by dsimp only; omega, by dsimp only; omega, by dsimp only; omega⟩
          · rw [if_neg (by rw [Bool.and_eq_true]; exact fun h => hb (of_decide_eq_true h.2)), ctl2_nrm, chk_nat (by omega), bnd1_some]
            exact ⟨_, _, rfl, by omega, by omega, r1, r2, r3, r4, by dsimp only; omega, by dsimp only; omega, by dsimp only; omega, by dsimp only; omega⟩)
    (fun a b hI => by
      show ref_DeltaError_L1 d a b (d.length : Int) = _
      unfold ref_DeltaError_L1
      rw [if_neg (by simp)]) (a0 := 0) (b0 := 0) ⟨by simp [oldD], by simp [nowD], by simp [oldD], by simp [oldD], by simp, by simp, by simp [nowD], by simp [nowD], by simp, by simp⟩ with ⟨e, h1, h2⟩ | ⟨h1, a, b, hI, h2⟩
  · rw [h1, h2]; rfl
  · rw [h1, h2, ctl2_nrm]
    rw [List.take_length] at hI
    dsimp only at hI
    by_cases hx : 2147483647 < oldD d ∨ 2147483647 < nowD d
    · rw [if_pos (by simp; omega)]; simp only; rw [if_pos hx]
    · rw [if_neg (by simp; omega)]; simp only; rw [if_neg hx]
end Go.Proofs.Ytdeglnbioiicaaa.Al


namespace Go.Proofs.Ytdeglnbioiicaaa.Al
inductive Un where
  | a (e : GElem)
  | r (cut : Bool) (at_ : List GAttr)
def uOf : List (List GElem) → List Bool → List (List GAttr) → List Un
  | A :: As, c :: cs, t :: ts => A.map Un.a ++ Un.r c t :: uOf As cs ts
  | A :: _, _, _ => A.map Un.a
  | [], _, _ => []
structure WfA (x : Ref_Act) : Prop where
  adds : x.Adds.length = x.Cuts.length + 1
  attrs : x.Attrs.length = x.Cuts.length
def Ref_Act.us (x : Ref_Act) : List Un := uOf x.Adds x.Cuts x.Attrs
def Un.isR : Un → Bool
  | .a _ => false
  | .r _ _ => true
def cntR (us : List Un) : Nat := us.countP Un.isR
theorem uOf_row : ∀ (cs : List Bool) (As : List (List GElem)) (ts : List (List GAttr)) (c : Bool) (t : List GAttr), As.length = cs.length + 1 → ts.length = cs.length →
    uOf (As ++ [[]]) (cs ++ [c]) (ts ++ [t]) = uOf As cs ts ++ [.r c t]
  | [], [A], [], c, t, _, _ => by simp [uOf]
  | [], [], _, _, _, h, _ => by simp at h
  | [], _ :: _ :: _, _, _, _, h, _ => by simp at h
  | [], _, _ :: _, _, _, _, h => by simp at h
  | c0 :: cs, A :: As, t0 :: ts, c, t, h1, h2 => by
    have ih := uOf_row cs As ts c t (by simpa using h1) (by simpa using h2)
    simp only [List.cons_append, uOf, ih, List.append_assoc]
  | _ :: _, [], _, _, _, h, _ => by simp at h
  | _ :: _, _, [], _, _, _, h => by simp at h
theorem uOf_add : ∀ (cs : List Bool) (As : List (List GElem)) (ts : List (List GAttr)) (A es : List GElem), As.length = cs.length + 1 → ts.length = cs.length → As[cs.length]? = some A →
    uOf (As.set cs.length (A ++ es)) cs ts = uOf As cs ts ++ es.map Un.a
  | [], [A0], [], A, es, _, _, h => by
    simp at h; subst h
    simp [uOf]
  | [], [], _, _, _, h, _, _ => by simp at h
  | [], _ :: _ :: _, _, _, _, h, _, _ => by simp at h
  | [], _, _ :: _, _, _, _, h, _ => by simp at h
  | c0 :: cs, A0 :: As, t0 :: ts, A, es, h1, h2, h3 => by
    have ih := uOf_add cs As ts A es (by simpa using h1) (by simpa using h2) (by simpa using h3)
    simp only [List.length_cons, List.set_cons_succ, uOf, ih, List.append_assoc, List.cons_append]
  | _ :: _, [], _, _, _, h, _, _ => by simp at h
  | _ :: _, _, [], _, _, _, h, _ => by simp at h
theorem uOf_cnt : ∀ (cs : List Bool) (As : List (List GElem)) (ts : List (List GAttr)), As.length = cs.length + 1 → ts.length = cs.length → cntR (uOf As cs ts) = cs.length
  | [], [A], [], _, _ => by
    have : ∀ l : List GElem, cntR (l.map Un.a) = 0 := fun l => by induction l with
      | nil => rfl
      | cons x l ih => simp [cntR, Un.isR]
    exact this A
  | [], [], _, h, _ => by simp at h
  | [], _ :: _ :: _, _, h, _ => by simp at h
  | [], _, _ :: _, _, h => by simp at h
  | c0 :: cs, A0 :: As, t0 :: ts, h1, h2 => by
    have ih := uOf_cnt cs As ts (by simpa using h1) (by simpa using h2)
    have : ∀ l : List GElem, (l.map Un.a).countP Un.isR = 0 := fun l => by induction l with
      | nil => rfl
      | cons x l ih => simp [Un.isR]
    simp only [cntR, uOf, List.countP_append, this, List.countP_cons, Un.isR, if_true, Nat.zero_add, List.length_cons] at ih ⊢
    omega
  | _ :: _, [], _, h, _ => by simp at h
  | _ :: _, _, [], _, h => by simp at h
theorem uOf_mem : ∀ (cs : List Bool) (As : List (List GElem)) (ts : List (List GAttr)), As.length = cs.length + 1 → ts.length = cs.length → ∀ A ∈ As, A.length ≤ (uOf As cs ts).length
  | [], [A], [], _, _ => by simp [uOf]
  | [], [], _, h, _ => by simp at h
  | [], _ :: _ :: _, _, h, _ => by simp at h
  | [], _, _ :: _, _, h => by simp at h
  | c0 :: cs, A0 :: As, t0 :: ts, h1, h2 => by
    have ih := uOf_mem cs As ts (by simpa using h1) (by simpa using h2)
    intro A hA
    simp only [uOf, List.length_append, List.length_map, List.length_cons]
    rcases List.mem_cons.1 hA with rfl | hA
    · omega
    · have := ih A hA; omega
  | _ :: _, [], _, h, _ => by simp at h
  | _ :: _, _, [], _, h => by simp at h
theorem cntR_le (us : List Un) : cntR us ≤ us.length := List.countP_le_length
theorem WfA.cnt {x : Ref_Act} (h : WfA x) : cntR x.us = x.Cuts.length := uOf_cnt _ _ _ h.adds h.attrs
theorem WfA.cuts_le {x : Ref_Act} (h : WfA x) : x.Cuts.length ≤ x.us.length := by rw [← h.cnt]; exact cntR_le _
theorem WfA.add_le {x : Ref_Act} (h : WfA x) {k : Nat} (hk : k < x.Adds.length) : x.Adds[k]!.length ≤ x.us.length := uOf_mem _ _ _ h.adds h.attrs _ (mem_at hk)
theorem wfA_nil : WfA ⟨[[]], [], []⟩ := ⟨rfl, rfl⟩
theorem us_nil : (⟨[[]], [], []⟩ : Ref_Act).us = [] := rfl
theorem push_row {x : Ref_Act} (h : WfA x) (c : Bool) (t : List GAttr) : WfA ⟨x.Adds ++ [[]], x.Cuts ++ [c], x.Attrs ++ [t]⟩ ∧ (⟨x.Adds ++ [[]], x.Cuts ++ [c], x.Attrs ++ [t]⟩ : Ref_Act).us = x.us ++ [.r c t] :=
  ⟨⟨by simp [h.adds], by simp [h.attrs]⟩, uOf_row _ _ _ _ _ h.adds h.attrs⟩
theorem push_add {x : Ref_Act} (h : WfA x) (es : List GElem) : WfA ⟨x.Adds.set x.Cuts.length (x.Adds[x.Cuts.length]! ++ es), x.Cuts, x.Attrs⟩ ∧ (⟨x.Adds.set x.Cuts.length (x.Adds[x.Cuts.length]! ++ es), x.Cuts, x.Attrs⟩ : Ref_Act).us = x.us ++ es.map Un.a := by
  refine ⟨⟨by simp [h.adds], h.attrs⟩, uOf_add _ _ _ _ _ h.adds h.attrs ?_⟩
  have : x.Cuts.length < x.Adds.length := by rw [h.adds]; omega
  rw [List.getElem?_eq_getElem this, getElem!_pos x.Adds _ this]
theorem last_add {x : Ref_Act} (h : WfA x) (hb : x.Cuts.length ≤ 9223372036854775806) : chk .i64 ((x.Adds.length : Int) - 1) = some ((x.Cuts.length : Nat) : Int) := by
  rw [h.adds, chk64 (by omega) (by omega)]; congr 1; omega
theorem app24 {α : Type} {o : List α} {x : α} (h : o.length + 1 ≤ 1099511627776) : app 24 o [x] = some (o ++ [x]) := by
  unfold app; rw [if_pos]; simp only [List.length_singleton]; omega
theorem app1c {α : Type} {o : List α} {x : α} (h : o.length + 1 ≤ 1099511627776) : app 1 o [x] = some (o ++ [x]) := by
  unfold app; rw [if_pos]; simp only [List.length_singleton]; omega
theorem app64 {α : Type} {o : List α} {x : α} (h : o.length + 1 ≤ 1099511627776) : app 64 o [x] = some (o ++ [x]) := by
  unfold app; rw [if_pos]; simp only [List.length_singleton]; omega
theorem app40 {α : Type} {o xs : List α} (h : o.length + xs.length ≤ 1099511627776) : app 40 o xs = some (o ++ xs) := by
  unfold app; rw [if_pos]; omega
theorem app16s {o : List GAxisStep} {x : GAxisStep} (h : o.length + 1 ≤ 1099511627776) : app 16 o [x] = some (o ++ [x]) := by
  unfold app; rw [if_pos]; simp only [List.length_singleton]; omega
theorem set_eq {α : Type} {l : List α} {k : Nat} {x : α} : l.set ((k : Int).toNat) x = l.set k x := by simp
def unitsS (s : GStep) : List Un := if s.Kind = 1 then s.Elems.map Un.a else List.replicate s.N.toNat (.r (decide (s.Kind = 2)) s.Attrs)
def unitsD (d : List GStep) : List Un := d.flatMap unitsS
theorem unitsD_cons (s : GStep) (d : List GStep) : unitsD (s :: d) = unitsS s ++ unitsD d := rfl
theorem unitsD_at {d : List GStep} {k : Nat} (h : k < d.length) : unitsD (d.take (k + 1)) = unitsD (d.take k) ++ unitsS d[k]! := by
  rw [take_at h]; simp [unitsD]
theorem unitsD_le (d : List GStep) (k : Nat) : (unitsD (d.take k)).length ≤ (unitsD d).length := by
  have : unitsD d = unitsD (d.take k) ++ unitsD (d.drop k) := by
    conv => lhs; rw [← List.take_append_drop k d]
    unfold unitsD; rw [List.flatMap_append]
  rw [this, List.length_append]; omega
theorem ref_ActOf_L2_eq (s : GStep) (x : Ref_Act) (h : WfA x) (hn : 0 ≤ s.N) (hb : x.us.length + s.N.toNat ≤ 4294967296) :
    ∃ o, iter (fun (a : Int × Ref_Act) => ref_ActOf_L2 s a.1 a.2) (0, x) = some o ∧ ∃ y, o = .ext y ∧ WfA y ∧ y.us = x.us ++ List.replicate s.N.toNat (.r (decide (s.Kind = 2)) s.Attrs) := by
  refine iter_hoare s.N.toNat (fun k st => st.1 = (k : Int) ∧ WfA st.2 ∧ st.2.us = x.us ++ List.replicate k (.r (decide (s.Kind = 2)) s.Attrs)) _ ?_ ?_ ⟨rfl, h, by simp⟩
  · rintro k ⟨i, y⟩ hk ⟨rfl, hy, hu⟩
    dsimp only at hy hu
    refine .inl ⟨(((k + 1 : Nat) : Int), ⟨y.Adds ++ [[]], y.Cuts ++ [decide (s.Kind = 2)], y.Attrs ++ [s.Attrs]⟩), ?_, rfl, (push_row hy _ _).1, (push_row hy _ _).2.trans (by rw [hu, List.append_assoc, ← List.replicate_succ'])⟩
    have hl : y.us.length = x.us.length + k := by rw [hu]; simp
    have hc := hy.cuts_le
    have ha := hy.adds
    have ht := hy.attrs
    show ref_ActOf_L2 s (k : Int) y = _
    unfold ref_ActOf_L2
    rw [if_pos (by simp; omega), app24 (by omega), bnd1_some, app1c (by omega), bnd1_some, app24 (by omega), bnd1_some, chk_nat (by omega), bnd1_some]
  · rintro ⟨i, y⟩ ⟨rfl, hy, hu⟩
    dsimp only at hy hu
    refine ⟨_, ?_, y, rfl, hy, hu⟩
    show ref_ActOf_L2 s (s.N.toNat : Int) y = _
    unfold ref_ActOf_L2
    rw [if_neg (by simp; omega)]
theorem ref_ActOf_eq (d : List GStep) (hn : ∀ s ∈ d, 0 ≤ s.N) (hm : d.length ≤ 4294967296) (hb : (unitsD d).length ≤ 4294967296) : ∃ x, ref_ActOf d = some x ∧ WfA x ∧ x.us = unitsD d := by
  unfold ref_ActOf
  have key : ∃ x, iter (fun (a : Int × Ref_Act) => ref_ActOf_L1 d a.1 a.2) (0, ⟨[[]], [], []⟩) = some x ∧ (WfA x ∧ x.us = unitsD d) := by
    refine iter_hoare d.length (fun k st => st.1 = (k : Int) ∧ WfA st.2 ∧ st.2.us = unitsD (d.take k)) _ ?_ ?_ ⟨rfl, wfA_nil, us_nil⟩
    · rintro k ⟨i, y⟩ hk ⟨rfl, hy, hu⟩
      dsimp only at hy hu
      have hl : y.us.length + (unitsS d[k]!).length ≤ 4294967296 := by
        have := unitsD_le d (k + 1)
        rw [unitsD_at hk, List.length_append] at this
        rw [hu]; omega
      have hc := hy.cuts_le
      have ha := hy.adds
      refine .inl ?_
      show ∃ s', ref_ActOf_L1 d (k : Int) y = _ ∧ _
      unfold ref_ActOf_L1
      rw [if_pos (by simpa using hk), idx_nat hk]
      simp only [bnd1_some]
      by_cases hK : d[k]!.Kind = 1
      · have hS : unitsS d[k]! = d[k]!.Elems.map Un.a := by unfold unitsS; rw [if_pos hK]
        rw [hS, List.length_map] at hl
        have hlt : y.Cuts.length < y.Adds.length := by omega
        have hA := hy.add_le hlt
        rw [if_pos (by simpa using hK), last_add hy (by omega), bnd1_some, idx_nat hlt, bnd1_some, app40 (by rw [List.length_nil]; omega), bnd1_some, List.nil_append, app40 (by omega), bnd1_some, bnd1_some, chk_nat (by omega), bnd1_some, set_eq]
        exact ⟨_, rfl, rfl, (push_add hy _).1, (push_add hy _).2.trans (by rw [unitsD_at hk, hu, hS])⟩
      · have hS : unitsS d[k]! = List.replicate d[k]!.N.toNat (.r (decide (d[k]!.Kind = 2)) d[k]!.Attrs) := by unfold unitsS; rw [if_neg hK]
        rw [hS, List.length_replicate] at hl
        obtain ⟨o, h1, z, h2, h3, h4⟩ := ref_ActOf_L2_eq d[k]! y hy (hn _ (mem_at hk)) hl
        subst h2
        rw [if_neg (by simpa using hK), h1, ctl1_ext, bnd1_some, chk_nat (by omega), bnd1_some]
        exact ⟨_, rfl, rfl, h3, by rw [unitsD_at hk, ← hu, hS]; exact h4⟩
    · rintro ⟨i, y⟩ ⟨rfl, hy, hu⟩
      dsimp only at hy hu
      refine ⟨y, ?_, hy, by rw [hu, List.take_length]⟩
      show ref_ActOf_L1 d (d.length : Int) y = _
      unfold ref_ActOf_L1
      rw [if_neg (by simp)]
  obtain ⟨x, h1, h2⟩ := key
  exact ⟨x, by rw [h1]; rfl, h2⟩
def Ref_Act.from_ (x : Ref_Act) (k : Nat) : List Un := uOf (x.Adds.drop k) (x.Cuts.drop k) (x.Attrs.drop k)
theorem from_zero (x : Ref_Act) : x.from_ 0 = x.us := rfl
theorem from_at {x : Ref_Act} (h : WfA x) {k : Nat} (hk : k < x.Cuts.length) : x.from_ k = x.Adds[k]!.map Un.a ++ .r x.Cuts[k]! x.Attrs[k]! :: x.from_ (k + 1) := by
  unfold Ref_Act.from_
  have ha := h.adds
  have ht := h.attrs
  rw [drop_at (l := x.Adds) (by omega), drop_at (l := x.Cuts) hk, drop_at (l := x.Attrs) (by omega), uOf]
theorem from_end {x : Ref_Act} (h : WfA x) : x.from_ x.Cuts.length = x.Adds[x.Cuts.length]!.map Un.a := by
  unfold Ref_Act.from_
  have ha := h.adds
  rw [drop_at (l := x.Adds) (by omega), List.drop_length]
  cases x.Adds.drop (x.Cuts.length + 1) <;> rfl
end Go.Proofs.Ytdeglnbioiicaaa.Al


namespace Go.Proofs.Ytdeglnbioiicaaa.Al
end Go.Proofs.Ytdeglnbioiicaaa.Al


namespace Go.Proofs.Ytdeglnbioiicaaa.Al
structure DS where
  out : List GStep
  adds : List GElem
  cuts : Nat
def dFl (s : DS) : List GStep := (if 0 < s.adds.length then s.out ++ [⟨1, 0, [], s.adds⟩] else s.out) ++ (if 0 < s.cuts then [⟨2, s.cuts, [], []⟩] else [])
def bumpD (l : List GStep) (t : List GAttr) : List GStep :=
  if 0 < l.length ∧ l[l.length - 1]!.Kind = 0 ∧ l[l.length - 1]!.Attrs = t then l.set (l.length - 1) ⟨l[l.length - 1]!.Kind, l[l.length - 1]!.N + 1, l[l.length - 1]!.Attrs, l[l.length - 1]!.Elems⟩
  else l ++ [⟨0, 1, t, []⟩]
def dU (s : DS) : Un → DS
  | .a e => ⟨s.out, s.adds ++ [e], s.cuts⟩
  | .r true _ => ⟨s.out, s.adds, s.cuts + 1⟩
  | .r false t => ⟨bumpD (dFl s) t, [], 0⟩
def deltaOf (us : List Un) : List GStep := dFl (us.foldl dU ⟨[], [], 0⟩)
theorem dU_adds (A : List GElem) : ∀ s : DS, (A.map Un.a).foldl dU s = ⟨s.out, s.adds ++ A, s.cuts⟩ := by
  induction A with
  | nil => intro s; simp
  | cons e A ih => intro s; simp only [List.map_cons, List.foldl_cons]; rw [ih]; simp [dU]
structure DB (m : Nat) (s : DS) : Prop where
  len : s.out.length + s.adds.length + s.cuts ≤ m
  mem : ∀ x ∈ s.out, 0 ≤ x.N ∧ x.N ≤ m ∧ x.Elems.length ≤ m ∧ x.Attrs.length ≤ 1099511627776
def OkU (u : Un) : Prop := match u with | .a _ => True | .r _ t => t.length ≤ 1099511627776
theorem db_fl {m : Nat} {s : DS} (h : DB m s) : (dFl s).length ≤ m ∧ ∀ x ∈ dFl s, 0 ≤ x.N ∧ x.N ≤ m ∧ x.Elems.length ≤ m ∧ x.Attrs.length ≤ 1099511627776 := by
  have hl := h.len
  refine ⟨?_, fun x hx => ?_⟩
  · unfold dFl
    split <;> split <;> simp <;> omega
  · unfold dFl at hx
    rcases List.mem_append.1 hx with h1 | h1
    · split at h1
      · rcases List.mem_append.1 h1 with h2 | h2
        · exact h.mem x h2
        · have : x = ⟨1, 0, [], s.adds⟩ := by simpa using h2
          subst this
          simp; omega
      · exact h.mem x h1
    · split at h1
      · have : x = ⟨2, s.cuts, [], []⟩ := by simpa using h1
        subst this
        simp; omega
      · simp at h1
theorem db_step {m : Nat} {s : DS} (h : DB m s) {u : Un} (hu : OkU u) : DB (m + 1) (dU s u) := by
  have hl := h.len
  have hm : ∀ x : GStep, (0 ≤ x.N ∧ x.N ≤ m ∧ x.Elems.length ≤ m ∧ x.Attrs.length ≤ 1099511627776) → 0 ≤ x.N ∧ x.N ≤ ((m + 1 : Nat) : Int) ∧ x.Elems.length ≤ m + 1 ∧ x.Attrs.length ≤ 1099511627776 := fun x ⟨a, b, c, d⟩ => ⟨a, by omega, by omega, d⟩
  match u, hu with
  | .a e, _ => exact ⟨by simp [dU]; omega, fun x hx => hm x (h.mem x hx)⟩
  | .r true t, _ => exact ⟨by simp [dU]; omega, fun x hx => hm x (h.mem x hx)⟩
  | .r false t, ht =>
    obtain ⟨h1, h2⟩ := db_fl h
    show DB (m + 1) ⟨bumpD (dFl s) t, [], 0⟩
    unfold bumpD
    split
    · rename_i hc
      refine ⟨by simp; omega, fun x hx => ?_⟩
      rcases List.mem_or_eq_of_mem_set hx with h3 | h3
      · exact hm x (h2 x h3)
      · have h4 := h2 _ (mem_at (l := dFl s) (k := (dFl s).length - 1) (by omega))
        subst h3
        exact ⟨by simp only; omega, by simp only; omega, by simp only; omega, h4.2.2.2⟩
    · refine ⟨by simp; omega, fun x hx => ?_⟩
      rcases List.mem_append.1 hx with h3 | h3
      · exact hm x (h2 x h3)
      · have : x = ⟨0, 1, t, []⟩ := by simpa using h3
        subst this
        exact ⟨by simp, by simp only; omega, by simp, ht⟩
theorem db_steps {us : List Un} : ∀ {m : Nat} {s : DS}, DB m s → (∀ u ∈ us, OkU u) → DB (m + us.length) (us.foldl dU s) := by
  induction us with
  | nil => intro m s h _; exact h
  | cons u us ih =>
    intro m s h hu
    have := ih (db_step h (hu u (List.mem_cons_self ..))) fun v hv => hu v (List.mem_cons_of_mem _ hv)
    rw [List.foldl_cons, List.length_cons, show m + (us.length + 1) = m + 1 + us.length by omega]
    exact this
theorem from_sub (x : Ref_Act) (k : Nat) (h : WfA x) (hk : k ≤ x.Cuts.length) : ∃ p, x.us = p ++ x.from_ k := by
  induction k with
  | zero => exact ⟨[], rfl⟩
  | succ k ih =>
    obtain ⟨p, hp⟩ := ih (by omega)
    rw [from_at h (by omega)] at hp
    exact ⟨p ++ (x.Adds[k]!.map Un.a ++ [.r x.Cuts[k]! x.Attrs[k]!]), by rw [hp]; simp⟩
theorem idx_last {l : List GStep} (h : 0 < l.length) (hm : l.length ≤ 9223372036854775807) : chk .i64 ((l.length : Int) - 1) = some ((l.length - 1 : Nat) : Int) := by
  rw [chk64 (by omega) (by omega)]; congr 1; omega
theorem fl_eq (s : DS) (hb : s.out.length + 2 ≤ 1099511627776) {α : Type} (f : List GStep → Option α) :
    (bnd1 (if (decide (0 < (s.adds.length : Int))) then (bnd1 (app 64 s.out [(GStep.mk 1 0 [] s.adds)]) fun (out10 : List GStep) => some out10) else (some s.out)) fun (out6 : List GStep) =>
      bnd1 (if (decide (0 < (s.cuts : Int))) then (bnd1 (app 64 out6 [(GStep.mk 2 s.cuts [] [])]) fun (out9 : List GStep) => some out9) else (some out6)) f) = f (dFl s) := by
  unfold dFl
  by_cases h1 : 0 < s.adds.length
  · rw [if_pos (by rw [decide_eq_true_eq]; omega), app64 (by omega), if_pos h1]
    simp only [bnd1_some]
    by_cases h2 : 0 < s.cuts
    · rw [if_pos (by rw [decide_eq_true_eq]; omega), app64 (by rw [List.length_append, List.length_singleton]; omega), if_pos h2]; rfl
    · rw [if_neg (by rw [decide_eq_true_eq]; omega), if_neg h2, List.append_nil]; rfl
  · rw [if_neg (by rw [decide_eq_true_eq]; omega), if_neg h1]
    simp only [bnd1_some]
    by_cases h2 : 0 < s.cuts
    · rw [if_pos (by rw [decide_eq_true_eq]; omega), app64 (by omega), if_pos h2]; rfl
    · rw [if_neg (by rw [decide_eq_true_eq]; omega), if_neg h2, List.append_nil]; rfl
theorem okU_at {x : Ref_Act} (h : WfA x) (hu : ∀ u ∈ x.us, OkU u) {k : Nat} (hk : k < x.Cuts.length) : x.Attrs[k]!.length ≤ 1099511627776 := by
  obtain ⟨p, hp⟩ := from_sub x k h (by omega)
  rw [from_at h hk] at hp
  exact hu (.r x.Cuts[k]! x.Attrs[k]!) (by rw [hp]; simp)
theorem ref_DeltaOf_eq (x : Ref_Act) (h : WfA x) (hu : ∀ u ∈ x.us, OkU u) (hb : x.us.length ≤ 4294967296) : ref_DeltaOf x = some (deltaOf x.us) := by
  unfold ref_DeltaOf
  have hxc := h.cuts_le
  have hxa := h.adds
  have hxt := h.attrs
  have key : ∃ l, iter (fun (a : Int × Int × (List GStep) × (List GElem)) => ref_DeltaOf_L1 x a.1 a.2.1 a.2.2.1 a.2.2.2) (0, 0, [], []) = some l ∧ l = deltaOf x.us := by
    refine iter_hoare x.Cuts.length (fun k st => st.2.1 = (k : Int) ∧ ∃ s : DS, st.1 = (s.cuts : Int) ∧ st.2.2.1 = s.out ∧ st.2.2.2 = s.adds ∧ (∃ m, DB m s ∧ m + (x.from_ k).length = x.us.length) ∧ dFl ((x.from_ k).foldl dU s) = deltaOf x.us) _ ?_ ?_ ⟨rfl, ⟨[], [], 0⟩, rfl, rfl, rfl, ⟨0, ⟨by simp, by simp⟩, by rw [from_zero, Nat.zero_add]⟩, rfl⟩
    · rintro k ⟨cuts, i, out, adds⟩ hk ⟨rfl, s, h1, h2, h3, ⟨m, hdb, hm⟩, hT⟩
      dsimp only at h1 h2 h3
      subst h1; subst h2; subst h3
      rw [from_at h hk] at hT hm
      rw [List.foldl_append, List.foldl_cons, dU_adds] at hT
      simp only [List.length_append, List.length_map, List.length_cons] at hm
      have hA := h.add_le (k := k) (by omega)
      have hdb1 : DB (m + x.Adds[k]!.length) ⟨s.out, s.adds ++ x.Adds[k]!, s.cuts⟩ := by
        have := db_steps (us := x.Adds[k]!.map Un.a) hdb (fun u hu => by obtain ⟨e, _, rfl⟩ := List.mem_map.1 hu; trivial)
        rwa [dU_adds, List.length_map] at this
      have hlen := hdb.len
      refine .inl ?_
      show ∃ s', ref_DeltaOf_L1 x (s.cuts : Int) (k : Int) s.out s.adds = _ ∧ _
      unfold ref_DeltaOf_L1
      rw [if_pos (by simp; omega), idx_nat (l := x.Adds) (by omega), bnd1_some, app40 (by omega), bnd1_some]
      have hd : decide ((k : Int) < (x.Cuts.length : Int)) = true := by simpa using hk
      rw [hd, show (true == true) = true from rfl, gd_true, idx_nat (l := x.Cuts) hk, bnd1_some, Bool.true_and]
      cases hc : x.Cuts[k]! with
      | true =>
        rw [hc] at hT
        rw [if_pos rfl, chk_nat (by omega), bnd1_some, ctl3_nrm, chk_nat (by omega), bnd1_some]
        refine ⟨_, rfl, rfl, ⟨s.out, s.adds ++ x.Adds[k]!, s.cuts + 1⟩, rfl, rfl, rfl, ⟨m + x.Adds[k]!.length + 1, ?_, by omega⟩, hT⟩
        exact db_step (u := .r true x.Attrs[k]!) hdb1 (okU_at h hu hk)
      | false =>
        rw [hc] at hT
        rw [if_neg (by decide)]
        have hfl := fl_eq ⟨s.out, s.adds ++ x.Adds[k]!, s.cuts⟩ (by simp only; omega) (α := Ctl (Int × (List GStep) × (List GElem)) ((Int × Int × (List GStep) × (List GElem)) ⊕ (List GStep)))
        simp only at hfl
        rw [hfl, if_neg (by simp; omega)]
        obtain ⟨f1, f2⟩ := db_fl hdb1
        have hbump := db_step (u := .r false x.Attrs[k]!) hdb1 (okU_at h hu hk)
        change DB _ ⟨bumpD (dFl ⟨s.out, s.adds ++ x.Adds[k]!, s.cuts⟩) x.Attrs[k]!, [], 0⟩ at hbump
        change dFl (List.foldl dU ⟨bumpD (dFl ⟨s.out, s.adds ++ x.Adds[k]!, s.cuts⟩) x.Attrs[k]!, [], 0⟩ _) = _ at hT
        generalize hl : dFl ⟨s.out, s.adds ++ x.Adds[k]!, s.cuts⟩ = l at f1 f2 hbump hT
        clear hfl
        have hat : x.Attrs[k]!.length ≤ 1099511627776 := okU_at h hu hk
        have fin : ∀ l', l' = bumpD l x.Attrs[k]! → ∃ s', (ctl3 (some (Ctl.nrm ((0 : Int), l', ([] : List GElem)))) fun (cuts4 : Int) (out5 : List GStep) (adds4 : List GElem) => bnd1 (chk .i64 ((k : Int) + 1)) fun (i10 : Int) => some (Sum.inl (cuts4, i10, out5, adds4))) = some (Sum.inl s' : (Int × Int × (List GStep) × (List GElem)) ⊕ (List GStep)) ∧
            s'.2.1 = ((k + 1 : Nat) : Int) ∧ ∃ s : DS, s'.1 = (s.cuts : Int) ∧ s'.2.2.1 = s.out ∧ s'.2.2.2 = s.adds ∧ (∃ m, DB m s ∧ m + (x.from_ (k + 1)).length = x.us.length) ∧ dFl ((x.from_ (k + 1)).foldl dU s) = deltaOf x.us := by
          intro l' hl'
          subst hl'
          rw [ctl3_nrm, chk_nat (by omega), bnd1_some]
          exact ⟨_, rfl, rfl, ⟨bumpD l x.Attrs[k]!, [], 0⟩, rfl, rfl, rfl, ⟨_, hbump, by omega⟩, hT⟩
        by_cases hl0 : 0 < l.length
        · rw [idx_last hl0 (by omega), bnd1_some]
          have d0 : decide (0 ≤ (((l.length - 1 : Nat)) : Int)) = true := by simp
          rw [d0, show (true == true) = true from rfl, gd_true, idx_nat (l := l) (by omega), bnd1_some, Bool.true_and]
          have hmem := f2 _ (mem_at (l := l) (k := l.length - 1) (by omega))
          by_cases hk0 : l[l.length - 1]!.Kind = 0
          · have d1 : decide (l[l.length - 1]!.Kind = 0) = true := by simpa using hk0
            rw [d1, show (true == true) = true from rfl, gd_true, gd_true, bnd1_some, idx_nat (l := x.Attrs) (by omega), bnd1_some, gd_true, ref_SameAttrs_eq _ _ (by omega), bnd1_some, Bool.true_and]
            by_cases hs : l[l.length - 1]!.Attrs = x.Attrs[k]!
            · rw [if_pos (by simpa using hs), bnd1_some, chk64 (by omega) (by omega), bnd1_some]
              refine fin _ ?_
              unfold bumpD
              rw [if_pos ⟨hl0, hk0, hs⟩, set_eq]
            · rw [if_neg (by simpa using hs), bnd1_some, app64 (by omega), bnd1_some]
              refine fin _ ?_
              unfold bumpD
              rw [if_neg (fun h => hs h.2.2)]
          · have d1 : decide (l[l.length - 1]!.Kind = 0) = false := by simpa using hk0
            rw [d1, show (false == true) = false from rfl, gd_false, gd_false, bnd1_some, bnd1_some, gd_false, bnd1_some, Bool.false_and, if_neg (by decide), idx_nat (l := x.Attrs) (by omega), bnd1_some, app64 (by omega), bnd1_some]
            refine fin _ ?_
            unfold bumpD
            rw [if_neg (fun h => hk0 h.2.1)]
        · have hl0' : l = [] := List.eq_nil_of_length_eq_zero (by omega)
          subst hl0'
          have d0 : decide (0 ≤ (-1 : Int)) = false := by decide
          rw [show ((([] : List GStep).length : Int) - 1) = -1 from rfl, show chk .i64 (-1) = some (-1) from chk64 (by decide) (by decide), bnd1_some, d0]
          rw [show (false == true) = false from rfl, gd_false, bnd1_some, Bool.false_and, show (false == true) = false from rfl, gd_false, gd_false, bnd1_some, bnd1_some, gd_false, bnd1_some, Bool.false_and, if_neg (by decide), idx_nat (l := x.Attrs) (by omega), bnd1_some, app64 (by simp), bnd1_some]
          refine fin _ ?_
          unfold bumpD
          rw [if_neg (fun h => hl0 h.1)]
    · rintro ⟨cuts, i, out, adds⟩ ⟨rfl, s, h1, h2, h3, ⟨m, hdb, hm⟩, hT⟩
      dsimp only at h1 h2 h3
      subst h1; subst h2; subst h3
      rw [from_end h] at hT hm
      rw [dU_adds] at hT
      simp only [List.length_map] at hm
      have hlen := hdb.len
      refine ⟨_, ?_, hT⟩
      show ref_DeltaOf_L1 x (s.cuts : Int) (x.Cuts.length : Int) s.out s.adds = _
      unfold ref_DeltaOf_L1
      rw [if_pos (by simp), idx_nat (l := x.Adds) (by omega), bnd1_some, app40 (by omega), bnd1_some]
      have hd : decide (((x.Cuts.length : Nat) : Int) < (x.Cuts.length : Int)) = false := by simp
      rw [hd, show (false == true) = false from rfl, gd_false, bnd1_some, Bool.false_and, if_neg (by decide)]
      have hfl := fl_eq ⟨s.out, s.adds ++ x.Adds[x.Cuts.length]!, s.cuts⟩ (by simp only; omega) (α := Ctl (Int × (List GStep) × (List GElem)) ((Int × Int × (List GStep) × (List GElem)) ⊕ (List GStep)))
      simp only at hfl
      rw [hfl, if_pos (by simp)]
      rfl
  obtain ⟨l, e, hl⟩ := key
  rw [e, hl]; rfl
end Go.Proofs.Ytdeglnbioiicaaa.Al


namespace Go.Proofs.Ytdeglnbioiicaaa.Al
structure GoodD (d : List GStep) : Prop where
  st : ∀ s ∈ d, GoodS s
  ord : ∀ k, 0 < k → k < d.length → ordBad d[k - 1]! d[k]! = false
  olds : oldD d ≤ 2147483647
  nows : nowD d ≤ 2147483647
theorem errD_ne0 {d : List GStep} {k : Nat} {r : Int} (h : errD d k = some r) : r ≠ 0 := by
  unfold errD at h
  split at h
  · rename_i hc; cases h; exact hc
  · split at h
    · cases h; decide
    · cases h
theorem goodD_of {d : List GStep} (h : delErr d = 0) : GoodD d := by
  cases hf : (List.range d.length).findSome? (errD d) with
  | some e =>
    unfold delErr at h
    rw [hf] at h
    simp only at h
    subst h
    obtain ⟨x, _, hx⟩ := List.exists_of_findSome?_eq_some hf
    exact absurd rfl (errD_ne0 hx)
  | none =>
    unfold delErr at h
    rw [hf] at h
    simp only at h
    rw [List.findSome?_eq_none_iff] at hf
    have hg : ∀ k, k < d.length → errD d k = none := fun k hk => hf k (List.mem_range.2 hk)
    by_cases hc : 2147483647 < oldD d ∨ 2147483647 < nowD d
    · rw [if_pos hc] at h; cases h
    · refine ⟨fun s hs => ?_, fun k h0 hk => (good_errD (hg k hk)).2 h0, by omega, by omega⟩
      obtain ⟨k, hk, rfl⟩ := List.mem_iff_getElem.1 hs
      rw [← getElem!_pos d k hk]
      exact goodS_of (good_errD (hg k hk)).1
theorem oldD_cons (s : GStep) (d : List GStep) : oldD (s :: d) = oldS s + oldD d := by simp [oldD]
theorem nowD_cons (s : GStep) (d : List GStep) : nowD (s :: d) = nowS s + nowD d := by simp [nowD]
theorem sizesD {d : List GStep} (h : ∀ s ∈ d, GoodS s) (ho : ∀ s ∈ d, OkSt s) : 0 ≤ oldD d ∧ 0 ≤ nowD d := by
  induction d with
  | nil => simp [oldD, nowD]
  | cons s d ih =>
    obtain ⟨i1, i2⟩ := ih (fun x hx => h x (List.mem_cons_of_mem _ hx)) (fun x hx => ho x (List.mem_cons_of_mem _ hx))
    obtain ⟨z1, z2, z3, z4, _⟩ := sizes (h s (List.mem_cons_self ..)) (ho s (List.mem_cons_self ..))
    rw [oldD_cons, nowD_cons]; omega
theorem oldD_split (d : List GStep) (k : Nat) : oldD d = oldD (d.take k) + oldD (d.drop k) ∧ nowD d = nowD (d.take k) + nowD (d.drop k) := by
  have e : d = d.take k ++ d.drop k := (List.take_append_drop k d).symm
  constructor
  · conv => lhs; rw [e]
    unfold oldD; rw [List.map_append, List.sum_append]
  · conv => lhs; rw [e]
    unfold nowD; rw [List.map_append, List.sum_append]
theorem prefD {d : List GStep} (h : GoodD d) (ho : OkD d) (k : Nat) : 0 ≤ oldD (d.take k) ∧ oldD (d.take k) ≤ 2147483647 ∧ 0 ≤ nowD (d.take k) ∧ nowD (d.take k) ≤ 2147483647 ∧ 0 ≤ oldD (d.drop k) ∧ 0 ≤ nowD (d.drop k) := by
  obtain ⟨a1, a2⟩ := sizesD (d := d.take k) (fun s hs => h.st s (List.mem_of_mem_take hs)) (fun s hs => ho.st s (List.mem_of_mem_take hs))
  obtain ⟨b1, b2⟩ := sizesD (d := d.drop k) (fun s hs => h.st s (List.mem_of_mem_drop hs)) (fun s hs => ho.st s (List.mem_of_mem_drop hs))
  obtain ⟨e1, e2⟩ := oldD_split d k
  have := h.olds
  have := h.nows
  omega
theorem delta_lengths_eq (d : List GStep) (ho : OkD d) (h : GoodD d) : delta_lengths d = some (oldD d, nowD d) := by
  unfold delta_lengths
  have hm := ho.len
  have key : ∃ r, iter (fun (a : Int × Int × Int) => delta_lengths_L1 d a.1 a.2.1 a.2.2) (0, 0, 0) = some r ∧ r = (oldD d, nowD d) := by
    refine iter_hoare d.length (fun k st => st = (oldD (d.take k), nowD (d.take k), (k : Int))) _ ?_ ?_ (by simp [oldD, nowD])
    · rintro k st hk rfl
      obtain ⟨p1, p2, p3, p4, _⟩ := prefD h ho k
      obtain ⟨z1, z2, z3, z4, z5, z6⟩ := sizes (h.st _ (mem_at hk)) (ho.st _ (mem_at hk))
      refine .inl ⟨_, ?_, rfl⟩
      show delta_lengths_L1 d (oldD (d.take k)) (nowD (d.take k)) (k : Int) = _
      unfold delta_lengths_L1
      rw [if_pos (by simpa using hk), idx_nat hk, bnd1_some, oldD_at hk, nowD_at hk]
      generalize oldD (d.take k) = o at p1 p2 ⊢
      generalize nowD (d.take k) = w at p3 p4 ⊢
      by_cases k1 : d[k]!.Kind = 1
      · have hS : oldS d[k]! = 0 := by unfold oldS; rw [if_pos k1]
        rw [if_neg (ndF k1), bnd1_some, if_pos (ndT (by omega)), z6 (by omega), bnd1_some, chk64 (by omega) (by omega), bnd1_some, bnd2_some, chk_nat (by omega), bnd1_some, hS, Int.add_zero]
      · have hS : oldS d[k]! = d[k]!.N := by unfold oldS; rw [if_neg k1]
        rw [if_pos (ndT k1), chk64 (by omega) (by omega), bnd1_some, bnd1_some, hS]
        by_cases k2 : d[k]!.Kind = 2
        · have hW : nowS d[k]! = 0 := by unfold nowS; rw [if_pos k2]
          rw [if_neg (ndF k2), bnd2_some, chk_nat (by omega), bnd1_some, hW, Int.add_zero]
        · rw [if_pos (ndT k2), z6 k2, bnd1_some, chk64 (by omega) (by omega), bnd1_some, bnd2_some, chk_nat (by omega), bnd1_some]
    · rintro st rfl
      refine ⟨(oldD d, nowD d), ?_, rfl⟩
      rw [List.take_length]
      show delta_lengths_L1 d _ _ (d.length : Int) = _
      unfold delta_lengths_L1
      rw [if_neg (by simp)]
  obtain ⟨r, h1, h2⟩ := key
  rw [h1, h2]; rfl
theorem loop_map {α β : Type} [Inhabited α] {f : Int × List β → Option ((Int × List β) ⊕ List β)} (l : List α) (g : α → β) (z : β)
    (h : ∀ (k : Nat) (out : List β), k < l.length → out.length = l.length → f ((k : Int), out) = some (.inl (((k + 1 : Nat) : Int), out.set k (g l[k]!)))) (hend : ∀ out, f ((l.length : Int), out) = some (.inr out)) :
    iter f (0, List.replicate l.length z) = some (l.map g) := by
  have key : ∃ r, iter f (0, List.replicate l.length z) = some r ∧ r = l.map g := by
    refine iter_hoare l.length (fun k st => st = ((k : Int), (l.take k).map g ++ List.replicate (l.length - k) z)) _ ?_ ?_ (by simp)
    · rintro k st hk rfl
      refine .inl ⟨_, h k _ hk (by simp; omega), ?_⟩
      congr 1
      obtain ⟨m, hm⟩ : ∃ m, l.length - k = m + 1 := ⟨l.length - k - 1, by omega⟩
      rw [hm, List.replicate_succ, take_at hk, List.map_append, List.set_append_right _ _ (by rw [List.length_map, List.length_take]; omega), show l.length - (k + 1) = m by omega]
      have : k - ((l.take k).map g).length = 0 := by simp; omega
      rw [this, List.set_cons_zero, List.append_assoc]; rfl
    · rintro st rfl
      refine ⟨_, hend _, by simp⟩
  obtain ⟨r, h1, h2⟩ := key
  rw [h1, h2]
theorem app32 {l : List GAttr} (h : l.length ≤ 1073741824) : app 32 [] l = some l := by
  unfold app; rw [if_pos]; rfl; simp; omega
theorem mk40 {α : Type} {n : Nat} (z : α) (h : n ≤ 4294967296) : mk 40 (n : Int) z = some (List.replicate n z) := by
  unfold mk; rw [if_pos (by omega)]; simp
theorem flow_Copy_eq (f : List GElem) (hm : f.length ≤ 4294967296) (h : ∀ e ∈ f, okA e.Attrs) : flow_Copy f = some f := by
  unfold flow_Copy
  rw [mk40 _ hm, bnd1_some]
  have := loop_map (f := fun (a : Int × (List GElem)) => flow_Copy_L1 f a.1 a.2) f id (GElem.mk 0 0 []) (fun k out hk hl => by
    have ha := (h _ (mem_at hk)).1
    show flow_Copy_L1 f (k : Int) out = _
    unfold flow_Copy_L1
    rw [if_pos (by simpa using hk), idx_nat hk, bnd1_some, app32 ha, bnd1_some, idx_nat (by omega), bnd1_some, chk_nat (by omega), bnd1_some, set_eq]
    rfl) (fun out => by
    show flow_Copy_L1 f (f.length : Int) out = _
    unfold flow_Copy_L1
    rw [if_neg (by simp)])
  rw [this, List.map_id]; rfl
def rawA (l ch : List GAttr) : List GAttr := bothL stpRaw l ch []
def chgE (ch : List GAttr) (x : GElem) : GElem := ⟨x.Char, x.Ref, rawA x.Attrs ch⟩
theorem delta_changed_eq (l : List GElem) (ch : List GAttr) (hm : l.length ≤ 4294967296) (h : ∀ e ∈ l, okA e.Attrs) (hc : ch.length ≤ 1073741824) : delta_changed l ch = some (l.map (chgE ch)) := by
  unfold delta_changed
  rw [mk40 _ hm, bnd1_some]
  have := loop_map (f := fun (a : Int × (List GElem)) => delta_changed_L1 l ch a.1 a.2) l (chgE ch) (GElem.mk 0 0 []) (fun k out hk hl => by
    have ha := (h _ (mem_at hk)).1
    show delta_changed_L1 l ch (k : Int) out = _
    unfold delta_changed_L1
    rw [if_pos (by simpa using hk), idx_nat hk, bnd1_some, attr_Raw_eq _ _ (by omega), bnd1_some, idx_nat (by omega), bnd1_some, chk_nat (by omega), bnd1_some, set_eq]
    rfl) (fun out => by
    show delta_changed_L1 l ch (l.length : Int) out = _
    unfold delta_changed_L1
    rw [if_neg (by simp)])
  rw [this]; rfl
def doneU : List Un → List GElem → List GElem
  | .a e :: us, f => e :: doneU us f
  | .r true _ :: us, _ :: f => doneU us f
  | .r false t :: us, x :: f => chgE t x :: doneU us f
  | .r _ _ :: _, [] => []
  | [], _ => []
theorem doneU_a (A : List GElem) (us : List Un) (f : List GElem) : doneU (A.map Un.a ++ us) f = A ++ doneU us f := by
  induction A with
  | nil => rfl
  | cons e A ih => simp only [List.map_cons, List.cons_append, doneU, ih]
theorem doneU_cut (t : List GAttr) (us : List Un) : ∀ (n : Nat) (f : List GElem), n ≤ f.length → doneU (List.replicate n (.r true t) ++ us) f = doneU us (f.drop n)
  | 0, f, _ => rfl
  | n + 1, [], h => by simp at h
  | n + 1, x :: f, h => by rw [List.replicate_succ, List.cons_append, doneU, doneU_cut t us n f (by simpa using h)]; rfl
theorem doneU_keep (t : List GAttr) (us : List Un) : ∀ (n : Nat) (f : List GElem), n ≤ f.length → doneU (List.replicate n (.r false t) ++ us) f = (f.take n).map (chgE t) ++ doneU us (f.drop n)
  | 0, f, _ => rfl
  | n + 1, [], h => by simp at h
  | n + 1, x :: f, h => by rw [List.replicate_succ, List.cons_append, doneU, doneU_keep t us n f (by simpa using h)]; rfl
theorem doneU_len : ∀ (us : List Un) (f : List GElem), (doneU us f).length ≤ us.length := by
  intro us f
  fun_induction doneU us f <;> simp_all <;> omega
theorem slc_to {α : Type} (l : List α) (n : Int) (h0 : 0 ≤ n) (h : n ≤ l.length) : slc l 0 n = some (l.take n.toNat) := by
  unfold slc; rw [if_pos (by omega)]; simp
theorem slc_from {α : Type} (l : List α) (n : Int) (h0 : 0 ≤ n) (h : n ≤ l.length) : slc l n (l.length : Int) = some (l.drop n.toNat) := by
  unfold slc; rw [if_pos (by omega)]
  congr 1
  rw [List.take_of_length_le]
  simp
theorem unitsD_size {d : List GStep} (h : ∀ s ∈ d, GoodS s) : ((unitsD d).length : Int) = oldD d + (d.map fun s => s.Elems.length).sum := by
  induction d with
  | nil => rfl
  | cons s d ih =>
    have i1 := ih (fun x hx => h x (List.mem_cons_of_mem _ hx))
    rw [unitsD_cons, List.length_append, oldD_cons, List.map_cons, List.sum_cons]
    have hs := (h s (List.mem_cons_self ..)).kind
    unfold unitsS oldS
    rcases hs with ⟨k, e, n1, n2, _⟩ | ⟨k, e, _, n1, n2⟩ | ⟨k, n, _, _, _⟩
    · rw [if_neg (by omega), if_neg (by omega), e, List.length_replicate, List.length_nil]; omega
    · rw [if_neg (by omega), if_neg (by omega), e, List.length_replicate, List.length_nil]; omega
    · rw [if_pos k, if_pos k, List.length_map]; omega
theorem delta_Raw_eq (f : List GElem) (d : List GStep) (ho : OkD d) (h : GoodD d) (hf : f.length ≤ 1073741824) (hfa : ∀ e ∈ f, okA e.Attrs) (hfit : oldD d = f.length) : delta_Raw f d = some (doneU (unitsD d) f) := by
  unfold delta_Raw
  have hm := ho.len
  have hul := unitsD_size h.st
  have hsum := ho.sum
  have key : ∃ r, iter (fun (a : (List GElem) × Int × (List GElem)) => delta_Raw_L1 d a.1 a.2.1 a.2.2) (f, 0, []) = some r ∧ r = doneU (unitsD d) f := by
    refine iter_hoare d.length (fun k st => ∃ n : Nat, st.1 = f.drop n ∧ st.2.1 = (k : Int) ∧ n ≤ f.length ∧ oldD (d.drop k) = ((f.length - n : Nat) : Int) ∧ st.2.2 ++ doneU (unitsD (d.drop k)) (f.drop n) = doneU (unitsD d) f) _ ?_ ?_ ⟨0, rfl, rfl, by omega, by simpa using hfit, rfl⟩
    · rintro k ⟨f', i, out⟩ hk ⟨n, rfl, rfl, hn, hold, hdone⟩
      dsimp only at hold hdone
      have hl := congrArg List.length hdone
      have hdl := doneU_len (unitsD d) f
      rw [List.length_append] at hl
      have hst := ho.st _ (mem_at hk)
      have hgs := (h.st _ (mem_at hk)).kind
      obtain ⟨p1, p2, p3, p4, p5, p6⟩ := prefD h ho (k + 1)
      rw [drop_at hk] at hold hdone
      rw [oldD_cons] at hold
      rw [unitsD_cons] at hdone
      have hfl : (f.drop n).length = f.length - n := List.length_drop
      have hfd : ∀ e ∈ f.drop n, okA e.Attrs := fun e he => hfa e (List.mem_of_mem_drop he)
      refine .inl ?_
      show ∃ s', delta_Raw_L1 d (f.drop n) (k : Int) out = _ ∧ _
      unfold delta_Raw_L1
      rw [if_pos (by simpa using hk), idx_nat hk, bnd1_some]
      unfold unitsS at hdone
      unfold oldS at hold
      rcases hgs with ⟨k0, e, n1, n2, _⟩ | ⟨k0, e, _, n1, n2⟩ | ⟨k0, e, _, _, _⟩
      · rw [if_neg (by omega), decide_eq_false (by omega), doneU_keep _ _ _ _ (by omega), ← List.append_assoc] at hdone
        rw [if_neg (by omega)] at hold
        have hl2 := congrArg List.length hdone
        rw [List.length_append, List.length_append, List.length_map, List.length_take] at hl2
        rw [if_pos (by rw [decide_eq_true_eq]; exact k0), slc_to _ _ (by omega) (by omega), bnd1_some, delta_changed_eq _ _ (by simp; omega) (fun e he => hfd e (List.mem_of_mem_take he)) hst.at_.1, bnd1_some, app40 (by simp; omega), bnd1_some,
          slc_from _ _ (by omega) (by omega), bnd1_some, bnd2_some, chk_nat (by omega), bnd1_some, List.drop_drop]
        refine ⟨_, rfl, n + d[k]!.N.toNat, rfl, rfl, by omega, by omega, ?_⟩
        rw [← hdone, List.drop_drop]
      · rw [if_neg (by omega), decide_eq_true k0, doneU_cut _ _ _ _ (by omega)] at hdone
        rw [if_neg (by omega)] at hold
        rw [if_neg (by rw [decide_eq_true_eq]; omega), if_neg (by rw [decide_eq_true_eq]; omega), slc_from _ _ (by omega) (by omega), bnd1_some, bnd2_some, chk_nat (by omega), bnd1_some, List.drop_drop]
        refine ⟨_, rfl, n + d[k]!.N.toNat, rfl, rfl, by omega, by omega, ?_⟩
        rw [← hdone, List.drop_drop]
      · rw [if_pos k0, doneU_a, ← List.append_assoc] at hdone
        rw [if_pos k0] at hold
        have hl2 := congrArg List.length hdone
        rw [List.length_append, List.length_append] at hl2
        rw [if_neg (by rw [decide_eq_true_eq]; omega), if_pos (by rw [decide_eq_true_eq]; exact k0), flow_Copy_eq _ (by have := hst.el; omega) hst.ea, bnd1_some, app40 (by omega), bnd1_some, bnd2_some, chk_nat (by omega), bnd1_some]
        exact ⟨_, rfl, n, rfl, rfl, hn, by omega, hdone⟩
    · rintro ⟨f', i, out⟩ ⟨n, rfl, rfl, hn, hold, hdone⟩
      dsimp only at hold hdone
      refine ⟨out, ?_, ?_⟩
      · show delta_Raw_L1 d (f.drop n) (d.length : Int) out = _
        unfold delta_Raw_L1
        rw [if_neg (by simp)]
      · rw [List.drop_length] at hdone
        rw [← hdone]; simp [unitsD, doneU]
  obtain ⟨r, h1, h2⟩ := key
  rw [h1, h2]; rfl
def fitErr (f : List GElem) (d : List GStep) : Int := if partErr f ≠ 0 then partErr f else if delErr d ≠ 0 then delErr d else if oldD d ≠ f.length then 14 else 0
theorem delta_fits_eq (f : List GElem) (d : List GStep) (ho : OkD d) (hf : f.length ≤ 1073741824) (hfa : ∀ e ∈ f, okA e.Attrs) : delta_fits f d = some (fitErr f d) := by
  unfold delta_fits fitErr
  rw [flow_CheckPart_eq f (okE_of hfa) (by omega), bnd1_some]
  by_cases e1 : partErr f ≠ 0
  · rw [if_pos (ndT e1), if_pos e1]
  have e1 := Classical.not_not.1 e1
  rw [if_neg (ndF e1), if_neg (by simpa using e1), delta_Check_eq d ho, bnd1_some]
  by_cases e2 : delErr d ≠ 0
  · rw [if_pos (ndT e2), if_pos e2]
  have e2 := Classical.not_not.1 e2
  rw [if_neg (ndF e2), if_neg (by simpa using e2), delta_lengths_eq d ho (goodD_of e2), bnd2_some]
  by_cases e3 : oldD d ≠ f.length
  · rw [if_pos (ndT e3), if_pos e3]
  · have e3 := Classical.not_not.1 e3
    rw [if_neg (ndF e3), if_neg (by simpa using e3)]
theorem fitErr_zero {f : List GElem} {d : List GStep} (h : fitErr f d = 0) : partErr f = 0 ∧ delErr d = 0 ∧ oldD d = f.length := by
  unfold fitErr at h
  by_cases e1 : partErr f ≠ 0
  · rw [if_pos e1] at h; exact absurd h e1
  rw [if_neg e1] at h
  by_cases e2 : delErr d ≠ 0
  · rw [if_pos e2] at h; exact absurd h e2
  rw [if_neg e2] at h
  by_cases e3 : oldD d ≠ f.length
  · rw [if_pos e3] at h; cases h
  · exact ⟨Classical.not_not.1 e1, Classical.not_not.1 e2, Classical.not_not.1 e3⟩
theorem delta_Apply_eq (f : List GElem) (d : List GStep) (ho : OkD d) (hf : f.length ≤ 1073741824) (hfa : ∀ e ∈ f, okA e.Attrs) : delta_Apply f d = some (if fitErr f d ≠ 0 then ([], fitErr f d) else (doneU (unitsD d) f, 0)) := by
  unfold delta_Apply
  rw [delta_fits_eq f d ho hf hfa, bnd1_some]
  by_cases e : fitErr f d ≠ 0
  · rw [if_pos (ndT e), if_pos e]
  · have e := Classical.not_not.1 e
    obtain ⟨e1, e2, e3⟩ := fitErr_zero e
    rw [if_neg (ndF e), if_neg (by simpa using e), delta_Raw_eq f d ho (goodD_of e2) hf hfa e3, bnd1_some]
end Go.Proofs.Ytdeglnbioiicaaa.Al


namespace Go.Proofs.Ytdeglnbioiicaaa.Al
theorem law_letters_eq (s : List UInt8) (h : s.length ≤ 1000) : law_letters s = some (s.map fun c => ⟨(c.toNat : Int), 0, []⟩) := by
  unfold law_letters
  have key : ∃ r, iter (fun (a : Int × (List GElem)) => law_letters_L1 s a.1 a.2) (0, []) = some r ∧ r = s.map fun c => ⟨(c.toNat : Int), 0, []⟩ := by
    refine iter_hoare s.length (fun k st => st = ((k : Int), (s.take k).map fun c => ⟨(c.toNat : Int), 0, []⟩)) _ ?_ ?_ (by simp)
    · rintro k st hk rfl
      refine .inl ⟨_, ?_, rfl⟩
      show law_letters_L1 s (k : Int) _ = _
      unfold law_letters_L1
      have hlt := (s[k]!).toNat_lt
      rw [if_pos (by simpa using hk), idx_nat hk, bnd1_some, w64 (by omega) (by omega), app40 (by simp; omega), bnd1_some, chk_nat (by omega), bnd1_some, take_at hk, List.map_append]; rfl
    · rintro st rfl
      refine ⟨s.map fun c => ⟨(c.toNat : Int), 0, []⟩, ?_, rfl⟩
      rw [List.take_length]
      show law_letters_L1 s (s.length : Int) _ = _
      unfold law_letters_L1
      rw [if_neg (by simp)]
  obtain ⟨r, h1, h2⟩ := key
  rw [h1, h2]; rfl
def onA (n : List UInt8) : List GAttr := [⟨n, [111, 110]⟩]
theorem law_on_eq (n : List UInt8) : law_on n = some (onA n) := rfl
theorem okA_of {l : List GAttr} (h : (decide (l.length ≤ 1000) && l.all (fun a => decide (a.Name.length ≤ 100) && decide (a.Value.length ≤ 1000))) = true) : okA l := by
  rw [Bool.and_eq_true, decide_eq_true_eq] at h
  exact ⟨by omega, okStr_of h.2⟩
def elB (f : List GElem) : Bool := decide (f.length ≤ 1000) && f.all fun e => decide (e.Attrs.length ≤ 1000) && e.Attrs.all (fun a => decide (a.Name.length ≤ 100) && decide (a.Value.length ≤ 1000))
theorem elB_spec {f : List GElem} (h : elB f = true) : f.length ≤ 1000 ∧ ∀ e ∈ f, okA e.Attrs := by
  unfold elB at h
  rw [Bool.and_eq_true, decide_eq_true_eq] at h
  exact ⟨h.1, fun e he => okA_of (List.all_eq_true.1 h.2 e he)⟩
def dB (d : List GStep) : Bool := decide (d.length ≤ 1000) && d.all (fun s => decide (s.Attrs.length ≤ 1000) && s.Attrs.all (fun a => decide (a.Name.length ≤ 100) && decide (a.Value.length ≤ 1000)) && elB s.Elems) && decide ((d.map fun s => s.Elems.length).sum ≤ 1000)
theorem dB_spec {d : List GStep} (h : dB d = true) : OkD d := by
  unfold dB at h
  simp only [Bool.and_eq_true, decide_eq_true_eq] at h
  obtain ⟨⟨h1, h2⟩, h3⟩ := h
  refine ⟨by omega, fun s hs => ?_, by omega⟩
  have := List.all_eq_true.1 h2 s hs
  simp only [Bool.and_eq_true, decide_eq_true_eq] at this
  obtain ⟨⟨a1, a2⟩, a3⟩ := this
  obtain ⟨b1, b2⟩ := elB_spec a3
  exact ⟨⟨by omega, okStr_of a2⟩, by omega, b2⟩
def sBold : List UInt8 := [98, 111, 108, 100]
def dTry : List GStep := [⟨1, 0, [], [⟨120, 0, []⟩]⟩, ⟨2, 1, [], []⟩, ⟨0, 1, onA sBold, []⟩]
def fTry : List GElem := [⟨97, 0, []⟩, ⟨98, 0, []⟩]
theorem law_deltas_eq : law_deltas = some true := by
  unfold law_deltas
  rw [law_letters_eq _ (by decide), law_letters_eq _ (by decide), law_on_eq, bnd1_some, bnd1_some, bnd1_some]
  have e1 : ([97, 98] : List UInt8).map (fun c => (⟨(c.toNat : Int), 0, []⟩ : GElem)) = fTry := rfl
  have e2 : ([⟨1, 0, [], ([120] : List UInt8).map (fun c => (⟨(c.toNat : Int), 0, []⟩ : GElem))⟩, ⟨2, 1, [], []⟩, ⟨0, 1, onA [98, 111, 108, 100], []⟩] : List GStep) = dTry := rfl
  rw [e1, e2]
  have hd : OkD dTry := dB_spec (by decide +kernel)
  have hf : elB fTry = true := by decide +kernel
  have hz : fitErr fTry dTry = 0 := by decide +kernel
  rw [delta_Apply_eq fTry dTry hd (by decide) (elB_spec hf).2, if_neg (by rw [hz]; simp), bnd2_some]
  have hr : doneU (unitsD dTry) fTry = [⟨120, 0, []⟩, ⟨98, 0, onA sBold⟩] := by decide +kernel
  rw [hr]
  have i0 : idx ([⟨120, 0, []⟩, ⟨98, 0, onA sBold⟩] : List GElem) 0 = some ⟨120, 0, []⟩ := rfl
  have i1 : idx ([⟨120, 0, []⟩, ⟨98, 0, onA sBold⟩] : List GElem) 1 = some ⟨98, 0, onA sBold⟩ := rfl
  rw [i0, i1]
  have i2 : ref_SameAttrs (onA sBold) (onA sBold) = some true := by rw [ref_SameAttrs_eq _ _ (by decide), decide_eq_true rfl]
  show (bnd1 (ref_SameAttrs (onA sBold) (onA sBold)) fun (r7 : Bool) => some (_ && r7)) = some true
  rw [i2]; rfl
end Go.Proofs.Ytdeglnbioiicaaa.Al


namespace Go.Proofs.Ytdeglnbioiicaaa.Al
def Okk2 (a : Nat) (s : GStep) : Prop := ((s.Kind = 0 ∧ s.Elems = [] ∧ 1 ≤ s.N ∧ attrErr s.Attrs true = 0) ∨ (s.Kind = 2 ∧ s.Elems = [] ∧ s.Attrs = [] ∧ 1 ≤ s.N) ∨
    (s.Kind = 1 ∧ s.N = 0 ∧ s.Attrs = [] ∧ s.Elems ≠ [] ∧ ∀ e ∈ s.Elems, elemErr e = 0)) ∧ okA s.Attrs ∧ s.Elems.length ≤ a ∧ ∀ e ∈ s.Elems, okA e.Attrs
def AdjD (l : List GStep) : Prop := ∀ k, 0 < k → k < l.length → ordBad l[k - 1]! l[k]! = false
structure CD (m a r n : Nat) (s : DS) : Prop where
  ok : ∀ x ∈ s.out, Okk2 a x
  adj : AdjD s.out
  last : 0 < s.out.length → s.out[s.out.length - 1]!.Kind = 0
  add : ∀ e ∈ s.adds, elemErr e = 0 ∧ okA e.Attrs
  olds : oldD s.out + s.cuts = r
  nows : nowD s.out + s.adds.length = n
  len : s.out.length + s.adds.length + s.cuts ≤ m
  al : s.adds.length ≤ a
theorem Okk2.mono {a b : Nat} {s : GStep} (h : Okk2 a s) (hab : a ≤ b) : Okk2 b s := ⟨h.1, h.2.1, Nat.le_trans h.2.2.1 hab, h.2.2.2⟩
end Go.Proofs.Ytdeglnbioiicaaa.Al


namespace Go.Proofs.Ytdeglnbioiicaaa.Al
end Go.Proofs.Ytdeglnbioiicaaa.Al


namespace Go.Proofs.Ytdeglnbioiicaaa.Al
theorem ref_DeltaSize_eq (d : List GStep) (ho : OkD d) (h : GoodD d) : ref_DeltaSize d = some (oldD d) := by
  unfold ref_DeltaSize
  have hm := ho.len
  have key : ∃ r, iter (fun (a : Int × Int) => ref_DeltaSize_L1 d a.1 a.2) (0, 0) = some r ∧ r = oldD d := by
    refine iter_hoare d.length (fun k st => st = (oldD (d.take k), (k : Int))) _ ?_ ?_ (by simp [oldD])
    · rintro k st hk rfl
      obtain ⟨p1, p2, p3, p4, _⟩ := prefD h ho k
      have hg := (h.st _ (mem_at hk)).kind
      have hN : d[k]!.N = oldS d[k]! ∧ d[k]!.N ≤ 2147483647 ∧ 0 ≤ d[k]!.N := by
        unfold oldS
        rcases hg with ⟨k, e, n1, n2, _⟩ | ⟨k, e, _, n1, n2⟩ | ⟨k, n, _, _, _⟩
        · rw [if_neg (by omega)]; omega
        · rw [if_neg (by omega)]; omega
        · rw [if_pos k]; omega
      refine .inl ⟨_, ?_, rfl⟩
      show ref_DeltaSize_L1 d (oldD (d.take k)) (k : Int) = _
      unfold ref_DeltaSize_L1
      rw [if_pos (by simpa using hk), idx_nat hk, bnd1_some, chk64 (by omega) (by omega), bnd1_some, chk_nat (by omega), bnd1_some, oldD_at hk, hN.1]
    · rintro st rfl
      refine ⟨oldD d, ?_, rfl⟩
      rw [List.take_length]
      show ref_DeltaSize_L1 d _ (d.length : Int) = _
      unfold ref_DeltaSize_L1
      rw [if_neg (by simp)]
  obtain ⟨r, h1, h2⟩ := key
  rw [h1, h2]; rfl
def OkU2 (us : List Un) : Prop := ∀ u ∈ us, match u with | .a e => elemErr e = 0 ∧ e.Attrs.length ≤ 1048576 | .r c t => (c = false → attrErr t true = 0) ∧ t.length ≤ 1048576
end Go.Proofs.Ytdeglnbioiicaaa.Al


namespace Go.Proofs.Ytdeglnbioiicaaa.Al
theorem okA_bulk {κ : GAttr → Nat} (h3 : ∀ a, a.Name.length + a.Value.length + 1 ≤ κ a) {l : List GAttr} (hb : (l.map κ).sum ≤ 1048576) : okA l := by
  have h1 := len_le_sum (μ := κ) (fun a => by have := h3 a; omega) l
  refine ⟨by omega, fun a ha => ?_⟩
  have h2 := mem_le_sum (μ := κ) ha
  have := h3 a
  omega
theorem okF_bulk {ν : GElem → Nat} {κ : GAttr → Nat} (h2 : ∀ e, (e.Attrs.map κ).sum + 1 ≤ ν e) (h3 : ∀ a, a.Name.length + a.Value.length + 1 ≤ κ a) {f : List GElem} (hb : (f.map ν).sum ≤ 1048576) : f.length ≤ 1048576 ∧ ∀ e ∈ f, okA e.Attrs := by
  have h1 := len_le_sum (μ := ν) (fun e => by have := h2 e; omega) f
  refine ⟨by omega, fun e he => okA_bulk h3 ?_⟩
  have h4 := mem_le_sum (μ := ν) he
  have := h2 e
  omega
theorem okD_bulk {μ : GStep → Nat} {ν : GElem → Nat} {κ : GAttr → Nat} (h1 : ∀ s, (s.Attrs.map κ).sum + (s.Elems.map ν).sum + 1 ≤ μ s) (h2 : ∀ e, (e.Attrs.map κ).sum + 1 ≤ ν e) (h3 : ∀ a, a.Name.length + a.Value.length + 1 ≤ κ a) (d : List GStep)
    (hb : (d.map μ).sum ≤ 1048576) : OkD d := by
  have h4 := len_le_sum (μ := μ) (fun s => by have := h1 s; omega) d
  have h5 : ∀ (d : List GStep), (d.map fun s => s.Elems.length).sum ≤ (d.map μ).sum := by
    intro d
    induction d with
    | nil => simp
    | cons s d ih =>
      have e1 := len_le_sum (μ := ν) (fun e => by have := h2 e; omega) s.Elems
      have e2 := h1 s
      simp only [List.map_cons, List.sum_cons]
      omega
  refine ⟨by omega, fun s hs => ?_, by have := h5 d; omega⟩
  have h6 := mem_le_sum (μ := μ) hs
  have h7 := h1 s
  obtain ⟨h8, h9⟩ := okF_bulk (f := s.Elems) h2 h3 (by omega)
  exact ⟨okA_bulk h3 (by omega), by omega, h9⟩
end Go.Proofs.Ytdeglnbioiicaaa.Al


namespace Go.Proofs.Ytdeglnbioiicaaa.Al
structure SmD (d : List GStep) : Prop where
  at_ : ∀ s ∈ d, s.Attrs.length ≤ 1048576
  ea : ∀ s ∈ d, ∀ e ∈ s.Elems, e.Attrs.length ≤ 1048576
  sum : (d.map fun s => s.Elems.length).sum ≤ 1048576
  len : d.length ≤ 1048576
theorem smD_bulk {μ : GStep → Nat} {ν : GElem → Nat} {κ : GAttr → Nat} (h1 : ∀ s, (s.Attrs.map κ).sum + (s.Elems.map ν).sum + 1 ≤ μ s) (h2 : ∀ e, (e.Attrs.map κ).sum + 1 ≤ ν e) (h3 : ∀ a, a.Name.length + a.Value.length + 1 ≤ κ a) (d : List GStep)
    (hb : (d.map μ).sum ≤ 1048576) : SmD d := by
  have h4 := len_le_sum (μ := μ) (fun s => by have := h1 s; omega) d
  have h5 : ∀ (d : List GStep), (d.map fun s => s.Elems.length).sum ≤ (d.map μ).sum := by
    intro d
    induction d with
    | nil => simp
    | cons s d ih =>
      have e1 := len_le_sum (μ := ν) (fun e => by have := h2 e; omega) s.Elems
      have e2 := h1 s
      simp only [List.map_cons, List.sum_cons]
      omega
  refine ⟨fun s hs => ?_, fun s hs e he => ?_, by have := h5 d; omega, by omega⟩
  · have h6 := mem_le_sum (μ := μ) hs
    have h7 := h1 s
    have h8 := len_le_sum (μ := κ) (fun a => by have := h3 a; omega) s.Attrs
    omega
  · have h6 := mem_le_sum (μ := μ) hs
    have h7 := h1 s
    have h8 := mem_le_sum (μ := ν) he
    have h9 := h2 e
    have h10 := len_le_sum (μ := κ) (fun a => by have := h3 a; omega) e.Attrs
    omega
end Go.Proofs.Ytdeglnbioiicaaa.Al


namespace Go.Proofs.Ytdeglnbioiicaaa.Al
def OkU3 (us : List Un) : Prop := ∀ u ∈ us, match u with | .a e => elemErr e = 0 ∧ e.Attrs.length ≤ 1048576 | .r c t => (c = false → attrErr t true = 0) ∧ (c = true → t = []) ∧ t.length ≤ 1048576
theorem OkU3.two {us : List Un} (h : OkU3 us) : OkU2 us := by
  intro u hu
  have := h u hu
  match u, this with
  | .a e, he => exact he
  | .r c t, ht => exact ⟨ht.1, ht.2.2⟩
def szS (s : GStep) : Int := if s.Kind = 1 then s.Elems.length else s.N
structure RdD (p : Delta_Reader) : Prop where
  stp : ∀ s ∈ p.steps, GoodS s ∧ OkSt s
  u0 : 0 ≤ p.used
  fit : ∀ s rest, p.steps = s :: rest → p.used < szS s
theorem szS_pos {s : GStep} (h : GoodS s) (ho : OkSt s) : 1 ≤ szS s ∧ szS s ≤ 2147483647 ∧ ((unitsS s).length : Int) = szS s ∧ delta_size s = some (szS s) := by
  have he := ho.el
  unfold szS unitsS delta_size
  rcases h.kind with ⟨k, e, n1, n2, a1⟩ | ⟨k, e, a1, n1, n2⟩ | ⟨k, n, _, h0, p⟩
  · rw [if_neg (by omega), if_neg (by omega), if_neg (by rw [decide_eq_true_eq]; omega), List.length_replicate]; exact ⟨by omega, by omega, by omega, rfl⟩
  · rw [if_neg (by omega), if_neg (by omega), if_neg (by rw [decide_eq_true_eq]; omega), List.length_replicate]; exact ⟨by omega, by omega, by omega, rfl⟩
  · have := List.length_pos_iff.2 h0
    rw [if_pos k, if_pos k, if_pos (by rw [decide_eq_true_eq]; exact k), List.length_map]; exact ⟨by omega, by omega, rfl, rfl⟩
end Go.Proofs.Ytdeglnbioiicaaa.Al


namespace Go.Proofs.Ytdeglnbioiicaaa.Al
theorem rows_rep0 (n : Nat) (us : List Int) (f p t : Int) (h : f ≤ p) : ctlV (who p (rowsL (List.replicate n 0 ++ us) f) t) = if p < f + n then t + p - f else ctlV (who p (rowsL us (f + n)) (t + n)) := by
  induction n generalizing f t with
  | zero => rw [if_neg (by simp; omega)]; simp
  | succ n ih =>
    rw [List.replicate_succ, List.cons_append, rowsL, if_pos rfl, who]
    by_cases e : f = p
    · rw [if_pos e, if_pos (by omega)]; show t = _; omega
    · rw [if_neg e, ih (f + 1) (t + 1) (by omega)]
      rw [show f + 1 + (n : Int) = f + ((n + 1 : Nat) : Int) by omega, show t + 1 + (n : Int) = t + ((n + 1 : Nat) : Int) by omega, show t + 1 + p - (f + 1) = t + p - f by omega]
theorem rows_rep1 (n : Nat) (us : List Int) (f p t : Int) (h : 0 ≤ p) : who p (rowsL (List.replicate n 1 ++ us) f) t = who p (rowsL us f) (t + n) := by
  induction n generalizing t with
  | zero => simp
  | succ n ih =>
    rw [List.replicate_succ, List.cons_append, rowsL, if_neg (by decide), if_pos rfl, who, if_neg (by omega), ih, show t + 1 + (n : Int) = t + ((n + 1 : Nat) : Int) by omega]
theorem rows_rep2 (n : Nat) (us : List Int) (f : Int) : rowsL (List.replicate n 2 ++ us) f = rowsL us (f + n) := by
  induction n generalizing f with
  | zero => simp
  | succ n ih =>
    rw [List.replicate_succ, List.cons_append, rowsL, if_neg (by decide), if_neg (by decide), ih, show f + 1 + (n : Int) = f + ((n + 1 : Nat) : Int) by omega]
theorem rows_gt (us : List Int) (f p t : Int) (h0 : 0 ≤ p) (h : p < f) : who p (rowsL us f) t = .nrm () := by
  induction us generalizing f t with
  | nil => rfl
  | cons u us ih =>
    rw [rowsL]
    split
    · rw [who, if_neg (by omega)]; exact ih _ _ (by omega)
    · split
      · rw [who, if_neg (by omega)]; exact ih _ _ (by omega)
      · exact ih _ _ (by omega)
theorem where_place (a : List GAxisStep) (h : ∀ s ∈ a, Stp s) (f p t : Int) (h0 : 0 ≤ p) (hp : f ≤ p) : ctlV (who p (rowsL (units a) f) t) = ctlV (plo p a (f, t)) := by
  induction a generalizing f t with
  | nil => rfl
  | cons s a ih =>
    have hs := h s (List.mem_cons_self ..)
    have hr : ∀ s ∈ a, Stp s := fun x hx => h x (List.mem_cons_of_mem _ hx)
    unfold Stp at hs
    have hn : ((s.N.toNat : Nat) : Int) = s.N := by omega
    rw [units_cons, plo_cons]
    by_cases d1 : s.Kind = 1
    · rw [if_pos d1, d1, rows_rep1 _ _ _ _ _ h0, hn]; exact ih hr _ _ hp
    · rw [if_neg d1]
      by_cases d0 : s.Kind = 0
      · rw [d0, rows_rep0 _ _ _ _ _ hp, hn]
        simp only [if_true]
        split
        · rfl
        · exact ih hr _ _ (by omega)
      · have d2 : s.Kind = 2 := by omega
        rw [d2, rows_rep2, hn]
        simp only [show ¬ ((2 : Int) = 0) by decide, if_false]
        by_cases e : p < f + s.N
        · rw [if_pos e, rows_gt _ _ _ _ h0 e]; rfl
        · rw [if_neg e]; exact ih hr _ _ (by omega)
end Go.Proofs.Ytdeglnbioiicaaa.Al


namespace Go.Proofs.Ytdeglnbioiicaaa.Al
theorem axis_Lengths_eq (a : List GAxisStep) (hm : a.length ≤ 9223372036854775807) : axis_Lengths a = some (if axErr a ≠ 0 then (0, 0, axErr a) else (oldLen a, nowLen a, 0)) := by
  unfold axis_Lengths
  rw [axis_Check_eq a hm, bnd1_some]
  by_cases he : axErr a = 0
  · rw [if_neg (show ¬ ((!decide (axErr a = 0)) = true) by simpa using he), if_neg (show ¬ (axErr a ≠ 0) by simpa using he), axis_lengths_eq a (goodA_of he), bnd2_some]
  · rw [if_pos (by simpa using he), if_pos he]
end Go.Proofs.Ytdeglnbioiicaaa.Al


namespace Go.Proofs.Ytdeglnbioiicaaa.Al
def bumpA (l : List GAxisStep) (n : Int) : List GAxisStep :=
  if 0 < l.length ∧ l[l.length - 1]!.Kind = 0 then l.set (l.length - 1) ⟨l[l.length - 1]!.Kind, l[l.length - 1]!.N + n⟩ else l ++ [⟨0, n⟩]
def wFl (w : Axis_Writer) : List GAxisStep := (if 0 < w.add then w.out ++ [⟨1, w.add⟩] else w.out) ++ (if 0 < w.cut then [⟨2, w.cut⟩] else [])
def putP (w : Axis_Writer) (k n : Int) : Axis_Writer := if n = 0 then w else if k = 1 then ⟨w.out, w.add + n, w.cut⟩ else if k = 2 then ⟨w.out, w.add, w.cut + n⟩ else ⟨bumpA (wFl w) n, 0, 0⟩
def wU (w : Axis_Writer) : Un → Axis_Writer
  | .a _ => ⟨w.out, w.add + 1, w.cut⟩
  | .r true _ => ⟨w.out, w.add, w.cut + 1⟩
  | .r false _ => ⟨bumpA (wFl w) 1, 0, 0⟩
def xE : GElem := ⟨120, 0, []⟩
def unK (k : Int) : Un := if k = 1 then .a xE else .r (decide (k = 2)) []
theorem sizeLen_app (a b : List GAxisStep) : sizeLen (a ++ b) = sizeLen a + sizeLen b := by simp [sizeLen]
def Adj (l : List GAxisStep) : Prop := ∀ k, k + 1 < l.length → l[k]!.Kind ≠ l[k + 1]!.Kind ∧ ¬ (l[k]!.Kind = 2 ∧ l[k + 1]!.Kind = 1)
theorem getD_app {l : List GAxisStep} {s : GAxisStep} {k : Nat} (h : k < l.length) : (l ++ [s])[k]! = l[k]! := by
  rw [getElem!_pos (l ++ [s]) k (by simp; omega), getElem!_pos l k h, List.getElem_append_left h]
theorem getD_app_last {l : List GAxisStep} {s : GAxisStep} : (l ++ [s])[l.length]! = s := by
  rw [getElem!_pos (l ++ [s]) l.length (by simp)]; simp
theorem adj_app {l : List GAxisStep} {s : GAxisStep} (h : Adj l) (hs : 0 < l.length → l[l.length - 1]!.Kind ≠ s.Kind ∧ ¬ (l[l.length - 1]!.Kind = 2 ∧ s.Kind = 1)) : Adj (l ++ [s]) := by
  intro k hk
  simp only [List.length_append, List.length_singleton] at hk
  by_cases hkl : k + 1 < l.length
  · rw [getD_app (by omega), getD_app hkl]; exact h k hkl
  · have : k + 1 = l.length := by omega
    rw [getD_app (by omega), this, getD_app_last]
    have hs' := hs (by omega)
    rwa [show l.length - 1 = k by omega] at hs'
theorem adj_set {l : List GAxisStep} {i : Nat} {s : GAxisStep} (h : Adj l) (hi : i < l.length) (hs : s.Kind = l[i]!.Kind) : Adj (l.set i s) := by
  intro k hk
  rw [List.length_set] at hk
  have e : ∀ j, j < l.length → (l.set i s)[j]!.Kind = l[j]!.Kind := fun j hj => by
    rw [getElem!_pos (l.set i s) j (by simpa using hj), getElem!_pos l j hj, List.getElem_set]
    split
    · rename_i hij; subst hij; rw [hs, getElem!_pos l i hj]
    · rfl
  rw [e k (by omega), e (k + 1) hk]
  exact h k hk
theorem sizeLen_set : ∀ {l : List GAxisStep} {i : Nat} {s : GAxisStep}, i < l.length → sizeLen (l.set i s) = sizeLen l - l[i]!.N + s.N
  | x :: l, 0, s, _ => by rw [List.set_cons_zero, sizeLen_cons, sizeLen_cons]; show _ = _ - x.N + s.N; omega
  | x :: l, i + 1, s, h => by
    rw [List.set_cons_succ, sizeLen_cons, sizeLen_cons, sizeLen_set (l := l) (by simpa using h)]
    show _ = _ - l[i]!.N + s.N
    omega
def Okk (s : GAxisStep) : Prop := 0 ≤ s.Kind ∧ s.Kind ≤ 2 ∧ 1 ≤ s.N
theorem size_okk : ∀ {l : List GAxisStep}, (∀ s ∈ l, Okk s) → (l.length : Int) ≤ sizeLen l ∧ ∀ s ∈ l, s.N ≤ sizeLen l
  | [], _ => by simp [sizeLen]
  | x :: l, h => by
    obtain ⟨h1, h2⟩ := size_okk (l := l) fun s hs => h s (List.mem_cons_of_mem _ hs)
    have hx := (h x (List.mem_cons_self ..)).2.2
    rw [sizeLen_cons, List.length_cons]
    refine ⟨by omega, fun s hs => ?_⟩
    rcases List.mem_cons.1 hs with rfl | hs
    · omega
    · have := h2 s hs; omega
structure WB (m : Int) (w : Axis_Writer) : Prop where
  a0 : 0 ≤ w.add
  c0 : 0 ≤ w.cut
  ok : ∀ s ∈ w.out, Okk s
  sum : sizeLen w.out + w.add + w.cut = m
  adj : Adj w.out
  last : 0 < w.out.length → w.out[w.out.length - 1]!.Kind = 0
theorem wb_nil : WB 0 ⟨[], 0, 0⟩ := ⟨by decide, by decide, by simp, by simp [sizeLen], fun k hk => by simp at hk, fun h => by simp at h⟩
theorem fl_form {m : Int} {w : Axis_Writer} (h : WB m w) : (∀ s ∈ wFl w, Okk s) ∧ sizeLen (wFl w) = m ∧ Adj (wFl w) := by
  have h1 := h.sum
  have ha := h.a0
  have hc := h.c0
  have key : ∃ l, l = (if 0 < w.add then w.out ++ [⟨1, w.add⟩] else w.out) ∧ (∀ s ∈ l, Okk s) ∧ sizeLen l = sizeLen w.out + w.add ∧ Adj l ∧ (0 < l.length → l[l.length - 1]!.Kind ≠ 2) := by
    refine ⟨_, rfl, ?_⟩
    by_cases h0 : 0 < w.add
    · rw [if_pos h0]
      refine ⟨fun s hs => ?_, by rw [sizeLen_app]; simp [sizeLen], adj_app h.adj fun hl => ?_, fun _ => ?_⟩
      · rcases List.mem_append.1 hs with h2 | h2
        · exact h.ok s h2
        · have : s = ⟨1, w.add⟩ := by simpa using h2
          subst this; exact ⟨by simp, by simp, by simp only; omega⟩
      · rw [h.last hl]; simp
      · rw [show (w.out ++ [(⟨1, w.add⟩ : GAxisStep)]).length - 1 = w.out.length by simp, getD_app_last]; simp
    · rw [if_neg h0]
      exact ⟨h.ok, by omega, h.adj, fun hl => by rw [h.last hl]; decide⟩
  obtain ⟨l, hl, k1, k2, k3, k4⟩ := key
  unfold wFl
  rw [← hl]
  by_cases h0 : 0 < w.cut
  · rw [if_pos h0]
    refine ⟨fun s hs => ?_, by rw [sizeLen_app]; simp [sizeLen]; simp [sizeLen] at k2 h1; omega, adj_app k3 fun hl => ⟨k4 hl, by simp⟩⟩
    rcases List.mem_append.1 hs with h2 | h2
    · exact k1 s h2
    · have : s = ⟨2, w.cut⟩ := by simpa using h2
      subst this; exact ⟨by simp, by simp, by simp only; omega⟩
  · rw [if_neg h0, List.append_nil]
    exact ⟨k1, by omega, k3⟩
theorem bump_form {l : List GAxisStep} {n : Int} (h1 : ∀ s ∈ l, Okk s) (h2 : Adj l) (hn : 1 ≤ n) : (∀ s ∈ bumpA l n, Okk s) ∧ sizeLen (bumpA l n) = sizeLen l + n ∧ Adj (bumpA l n) ∧ 0 < (bumpA l n).length ∧ (bumpA l n)[(bumpA l n).length - 1]!.Kind = 0 := by
  unfold bumpA
  split
  · rename_i hc
    have hlt : l.length - 1 < l.length := by omega
    have hm := h1 _ (mem_at hlt)
    refine ⟨fun s hs => ?_, ?_, adj_set h2 hlt rfl, by rw [List.length_set]; omega, ?_⟩
    · rcases List.mem_or_eq_of_mem_set hs with h3 | h3
      · exact h1 s h3
      · subst h3; exact ⟨hm.1, hm.2.1, by have := hm.2.2; simp only; omega⟩
    · rw [sizeLen_set hlt]; simp only; omega
    · rw [List.length_set, getElem!_pos _ _ (by simpa using hlt), List.getElem_set_self]; exact hc.2
  · rename_i hc
    refine ⟨fun s hs => ?_, by rw [sizeLen_app]; simp [sizeLen], adj_app h2 fun hl => ⟨fun h => hc ⟨hl, h⟩, by simp⟩, by simp, ?_⟩
    · rcases List.mem_append.1 hs with h3 | h3
      · exact h1 s h3
      · have : s = ⟨0, n⟩ := by simpa using h3
        subst this; exact ⟨by simp, by simp, hn⟩
    · rw [show (l ++ [(⟨0, n⟩ : GAxisStep)]).length - 1 = l.length by simp, getD_app_last]
theorem wb_step {m : Int} {w : Axis_Writer} (h : WB m w) (u : Un) : WB (m + 1) (wU w u) := by
  have hs := h.sum
  have ha := h.a0
  have hc := h.c0
  match u with
  | .a e => exact ⟨by show 0 ≤ w.add + 1; omega, hc, h.ok, by show sizeLen w.out + (w.add + 1) + w.cut = _; omega, h.adj, h.last⟩
  | .r true t => exact ⟨ha, by show 0 ≤ w.cut + 1; omega, h.ok, by show sizeLen w.out + w.add + (w.cut + 1) = _; omega, h.adj, h.last⟩
  | .r false t =>
    obtain ⟨k1, k2, k3⟩ := fl_form h
    obtain ⟨j1, j2, j3, j4, j5⟩ := bump_form (n := 1) k1 k3 (by omega)
    exact ⟨by show (0 : Int) ≤ 0; omega, by show (0 : Int) ≤ 0; omega, j1, by show sizeLen (bumpA (wFl w) 1) + 0 + 0 = _; omega, j3, fun _ => j5⟩
theorem wb_steps : ∀ {us : List Un} {m : Int} {w : Axis_Writer}, WB m w → WB (m + us.length) (us.foldl wU w)
  | [], m, w, h => by simpa using h
  | u :: us, m, w, h => by
    have := wb_steps (us := us) (wb_step h u)
    rw [List.foldl_cons, List.length_cons, show m + ((us.length + 1 : Nat) : Int) = m + 1 + us.length by omega]
    exact this
theorem wFl_zero (l : List GAxisStep) : wFl ⟨l, 0, 0⟩ = l := by simp [wFl]
theorem bump_bump (l : List GAxisStep) (m n : Int) : bumpA (bumpA l m) n = bumpA l (m + n) := by
  have e1 : bumpA l m = bumpA l m := rfl
  unfold bumpA
  by_cases hc : 0 < l.length ∧ l[l.length - 1]!.Kind = 0
  · have hlt : l.length - 1 < l.length := by omega
    have hg : (l.set (l.length - 1) (⟨l[l.length - 1]!.Kind, l[l.length - 1]!.N + m⟩ : GAxisStep))[l.length - 1]! = ⟨l[l.length - 1]!.Kind, l[l.length - 1]!.N + m⟩ := by
      rw [getElem!_pos _ _ (by simpa using hlt), List.getElem_set_self]
    rw [if_pos hc, if_pos hc, List.length_set, hg, if_pos ⟨hc.1, hc.2⟩, List.set_set]
    simp only [Int.add_assoc]
  · rw [if_neg hc, if_neg hc]
    rw [show (l ++ [(⟨0, m⟩ : GAxisStep)]).length - 1 = l.length by simp, getD_app_last, if_pos ⟨by simp, rfl⟩]
    simp
theorem putP_units (w : Axis_Writer) (k n : Int) (h : 0 ≤ n) : putP w k n = (List.replicate n.toNat (unK k)).foldl wU w := by
  have hA : ∀ (j : Nat) (w : Axis_Writer), (List.replicate j (Un.a xE)).foldl wU w = ⟨w.out, w.add + j, w.cut⟩ := by
    intro j
    induction j with
    | zero => intro w; simp
    | succ j ih => intro w; rw [List.replicate_succ, List.foldl_cons, ih]; simp only [wU]; congr 1; omega
  have hC : ∀ (j : Nat) (w : Axis_Writer), (List.replicate j (Un.r true [])).foldl wU w = ⟨w.out, w.add, w.cut + j⟩ := by
    intro j
    induction j with
    | zero => intro w; simp
    | succ j ih => intro w; rw [List.replicate_succ, List.foldl_cons, ih]; simp only [wU]; congr 1; omega
  have hK : ∀ (j : Nat) (l : List GAxisStep) (n : Int), (List.replicate j (Un.r false [])).foldl wU ⟨bumpA l n, 0, 0⟩ = ⟨bumpA l (n + j), 0, 0⟩ := by
    intro j
    induction j with
    | zero => intro l n; simp
    | succ j ih =>
      intro l n
      rw [List.replicate_succ, List.foldl_cons]
      simp only [wU, wFl_zero]
      rw [bump_bump, ih, show n + 1 + (j : Int) = n + ((j + 1 : Nat) : Int) by omega]
  unfold putP unK
  by_cases hn : n = 0
  · subst hn; simp
  · rw [if_neg hn]
    by_cases h1 : k = 1
    · rw [if_pos h1, if_pos h1, hA, show ((n.toNat : Nat) : Int) = n by omega]
    · rw [if_neg h1, if_neg h1]
      by_cases h2 : k = 2
      · rw [if_pos h2, decide_eq_true h2, hC, show ((n.toNat : Nat) : Int) = n by omega]
      · rw [if_neg h2, decide_eq_false h2]
        obtain ⟨j, hj⟩ : ∃ j, n.toNat = j + 1 := ⟨n.toNat - 1, by omega⟩
        rw [hj, List.replicate_succ, List.foldl_cons]
        simp only [wU]
        rw [hK, show (1 : Int) + j = n by omega]
end Go.Proofs.Ytdeglnbioiicaaa.Al


namespace Go.Proofs.Ytdeglnbioiicaaa.Al
structure RdOK (p : Axis_Reader) : Prop where
  stp : ∀ s ∈ p.steps, Stp s
  u0 : 0 ≤ p.used
  fit : ∀ s rest, p.steps = s :: rest → p.used < s.N
theorem unK_1 : unK 1 = .a xE := rfl
def W0 : Axis_Writer := ⟨[], 0, 0⟩
def wOn (us : List Un) : Axis_Writer := us.foldl wU W0
theorem wOn_put (us : List Un) (k n : Int) (h : 0 ≤ n) : putP (wOn us) k n = wOn (us ++ List.replicate n.toNat (unK k)) := by
  rw [putP_units _ _ _ h]; unfold wOn; rw [List.foldl_append]
theorem wOn_wb (us : List Un) : WB us.length (wOn us) := by
  have := wb_steps (us := us) wb_nil
  rwa [Int.zero_add] at this
end Go.Proofs.Ytdeglnbioiicaaa.Al


namespace Go.Proofs.Ytdeglnbioiicaaa.Al
def toAx (s : GStep) : GAxisStep := ⟨s.Kind, s.N + s.Elems.length⟩
def wOf (s : DS) : Axis_Writer := ⟨s.out.map toAx, s.adds.length, s.cuts⟩
def Bare (u : Un) : Prop := match u with | .a _ => True | .r _ t => t = []
theorem wOf_fl (s : DS) : (dFl s).map toAx = wFl (wOf s) := by
  unfold dFl wFl wOf
  dsimp only
  by_cases h1 : 0 < s.adds.length <;> by_cases h2 : 0 < s.cuts
  · rw [if_pos h1, if_pos h2, if_pos (by omega), if_pos (by omega)]; simp [toAx]
  · rw [if_pos h1, if_neg h2, if_pos (by omega), if_neg (by omega)]; simp [toAx]
  · rw [if_neg h1, if_pos h2, if_neg (by omega), if_pos (by omega)]; simp [toAx]
  · rw [if_neg h1, if_neg h2, if_neg (by omega), if_neg (by omega)]; simp [toAx]
theorem fl_bare {s : DS} (h : ∀ x ∈ s.out, x.Attrs = []) : ∀ x ∈ dFl s, x.Attrs = [] := by
  intro x hx
  unfold dFl at hx
  rcases List.mem_append.1 hx with h1 | h1
  · split at h1
    · rcases List.mem_append.1 h1 with h2 | h2
      · exact h x h2
      · have : x = ⟨1, 0, [], s.adds⟩ := by simpa using h2
        subst this; rfl
    · exact h x h1
  · split at h1
    · have : x = ⟨2, s.cuts, [], []⟩ := by simpa using h1
      subst this; rfl
    · simp at h1
theorem bump_ax {l : List GStep} (h : ∀ x ∈ l, x.Attrs = []) : (bumpD l []).map toAx = bumpA (l.map toAx) 1 ∧ ∀ x ∈ bumpD l [], x.Attrs = [] := by
  unfold bumpD bumpA
  rw [List.length_map]
  by_cases h0 : 0 < l.length
  · have hlt : l.length - 1 < l.length := by omega
    have hg : (l.map toAx)[l.length - 1]! = toAx l[l.length - 1]! := by
      rw [getElem!_pos (l.map toAx) _ (by simpa using hlt), getElem!_pos l _ hlt, List.getElem_map]
    have ha := h _ (mem_at hlt)
    rw [hg]
    by_cases hk : l[l.length - 1]!.Kind = 0
    · rw [if_pos ⟨h0, hk, ha⟩, if_pos ⟨h0, hk⟩]
      refine ⟨?_, fun x hx => ?_⟩
      · rw [List.map_set]; simp only [toAx]; congr 2; omega
      · rcases List.mem_or_eq_of_mem_set hx with h3 | h3
        · exact h x h3
        · subst h3; exact ha
    · rw [if_neg (fun h => hk h.2.1), if_neg (fun h => hk h.2)]
      refine ⟨by simp [toAx], fun x hx => ?_⟩
      rcases List.mem_append.1 hx with h3 | h3
      · exact h x h3
      · have : x = ⟨0, 1, [], []⟩ := by simpa using h3
        subst this; rfl
  · rw [if_neg (fun h => h0 h.1), if_neg (fun h => h0 h.1)]
    refine ⟨by simp [toAx], fun x hx => ?_⟩
    rcases List.mem_append.1 hx with h3 | h3
    · exact h x h3
    · have : x = ⟨0, 1, [], []⟩ := by simpa using h3
      subst this; rfl
theorem wOf_step {s : DS} (h : ∀ x ∈ s.out, x.Attrs = []) {u : Un} (hu : Bare u) : wOf (dU s u) = wU (wOf s) u ∧ ∀ x ∈ (dU s u).out, x.Attrs = [] := by
  match u, hu with
  | .a e, _ => exact ⟨by simp [wOf, dU, wU], h⟩
  | .r true t, _ => exact ⟨by simp [wOf, dU, wU], h⟩
  | .r false t, ht =>
    have ht' : t = [] := ht
    subst ht'
    obtain ⟨h1, h2⟩ := bump_ax (fl_bare h)
    refine ⟨?_, h2⟩
    show (⟨(bumpD (dFl s) []).map toAx, _, _⟩ : Axis_Writer) = _
    rw [h1, wOf_fl]; rfl
theorem wOf_steps : ∀ {us : List Un} {s : DS}, (∀ x ∈ s.out, x.Attrs = []) → (∀ u ∈ us, Bare u) → wOf (us.foldl dU s) = us.foldl wU (wOf s)
  | [], _, _, _ => rfl
  | u :: us, s, h, hu => by
    obtain ⟨h1, h2⟩ := wOf_step h (hu u (List.mem_cons_self ..))
    rw [List.foldl_cons, List.foldl_cons, wOf_steps h2 fun v hv => hu v (List.mem_cons_of_mem _ hv), h1]
theorem delta_ax {us : List Un} (h : ∀ u ∈ us, Bare u) : (deltaOf us).map toAx = wFl (wOn us) := by
  unfold deltaOf wOn
  rw [wOf_fl, wOf_steps (by simp) h]; rfl
theorem bare_ok {us : List Un} (h : ∀ u ∈ us, Bare u) : ∀ u ∈ us, OkU u := by
  intro u hu
  have := h u hu
  match u, this with
  | .a _, _ => trivial
  | .r _ t, ht => have : t = [] := ht
                  subst this; show ([] : List GAttr).length ≤ _; simp
theorem law_steps_eq (x : Ref_Act) (h : WfA x) (hu : ∀ u ∈ x.us, Bare u) (hb : x.us.length ≤ 4294967296) : law_steps x = some (wFl (wOn x.us)) := by
  unfold law_steps
  rw [ref_DeltaOf_eq x h (bare_ok hu) hb, bnd1_some, ← delta_ax hu]
  have hdb : DB x.us.length (x.us.foldl dU ⟨[], [], 0⟩) := by
    have := db_steps (us := x.us) (m := 0) (s := ⟨[], [], 0⟩) ⟨by simp, by simp⟩ (bare_ok hu)
    rwa [Nat.zero_add] at this
  obtain ⟨f1, f2⟩ := db_fl hdb
  unfold deltaOf
  generalize dFl (x.us.foldl dU ⟨[], [], 0⟩) = d at f1 f2
  have key : ∃ l, iter (fun (a : Int × (List GAxisStep)) => law_steps_L1 d a.1 a.2) (0, []) = some l ∧ l = d.map toAx := by
    refine iter_hoare d.length (fun k st => st = ((k : Int), (d.take k).map toAx)) _ ?_ ?_ (by simp)
    · rintro k st hk rfl
      have hm := f2 _ (mem_at hk)
      refine .inl ⟨_, ?_, rfl⟩
      show law_steps_L1 d (k : Int) _ = _
      unfold law_steps_L1
      rw [if_pos (by simpa using hk), idx_nat hk, bnd1_some, chk64 (by omega) (by omega), bnd1_some, app16s (by simp; omega), bnd1_some, chk_nat (by omega), bnd1_some, take_at hk, List.map_append]
      rfl
    · rintro st rfl
      refine ⟨d.map toAx, ?_, rfl⟩
      rw [List.take_length]
      show law_steps_L1 d (d.length : Int) _ = _
      unfold law_steps_L1
      rw [if_neg (by simp)]
  obtain ⟨l, h1, h2⟩ := key
  rw [h1, h2]; rfl
end Go.Proofs.Ytdeglnbioiicaaa.Al


namespace Go.Proofs.Ytdeglnbioiicaaa.Al
theorem OkU3.app {a b : List Un} (h : OkU3 (a ++ b)) : OkU3 b := fun u hu => h u (List.mem_append_right _ hu)
end Go.Proofs.Ytdeglnbioiicaaa.Al


namespace Go.Proofs.Ytdeglnbioiicaaa.Al
theorem law_short_eq (d : List GStep) (ho : OkD d) (h : GoodD d) : law_short d = some (decide (oldD d ≤ 300)) := by
  unfold law_short; rw [ref_DeltaSize_eq d ho h]; rfl
end Go.Proofs.Ytdeglnbioiicaaa.Al


namespace Go.Proofs.Ytdeglnbioiicaaa.Al
def bareU : Un → Un
  | .a _ => .a xE
  | .r c _ => .r c []
def axD (d : List GStep) : List GAxisStep := wFl (wOn ((unitsD d).map bareU))
theorem bare_units {s : GStep} (h : GoodS s) : (unitsS s).map bareU = List.replicate (szS s).toNat (unK s.Kind) := by
  unfold unitsS szS
  rcases h.kind with ⟨k, e, n1, n2, a1⟩ | ⟨k, e, a1, n1, n2⟩ | ⟨k, n, _, h0, p⟩
  · rw [if_neg (by omega), if_neg (by omega), List.map_replicate, k]; rfl
  · rw [if_neg (by omega), if_neg (by omega), List.map_replicate, k]; rfl
  · rw [if_pos k, if_pos k, k, List.map_map, unK_1, Int.toNat_natCast]
    induction s.Elems with
    | nil => rfl
    | cons e l ih => rw [List.map_cons, ih, List.length_cons, List.replicate_succ]; rfl
theorem wFl_nil (l : List GAxisStep) : wFl ⟨l, 0, 0⟩ = l := by simp [wFl]
theorem oldLen_app (a b : List GAxisStep) : oldLen (a ++ b) = oldLen a + oldLen b := by simp [oldLen]
theorem nowLen_app (a b : List GAxisStep) : nowLen (a ++ b) = nowLen a + nowLen b := by simp [nowLen]
theorem lens_set : ∀ {l : List GAxisStep} {i : Nat} {s : GAxisStep}, i < l.length → oldLen (l.set i s) = oldLen l - oldN l[i]! + oldN s ∧ nowLen (l.set i s) = nowLen l - nowN l[i]! + nowN s
  | x :: l, 0, s, _ => by
    rw [List.set_cons_zero, oldLen_cons, oldLen_cons, nowLen_cons, nowLen_cons]
    show _ = oldN x + _ - oldN x + _ ∧ _ = nowN x + _ - nowN x + _
    omega
  | x :: l, i + 1, s, h => by
    obtain ⟨h1, h2⟩ := lens_set (l := l) (i := i) (s := s) (by simpa using h)
    rw [List.set_cons_succ, oldLen_cons, oldLen_cons, nowLen_cons, nowLen_cons, h1, h2]
    show _ = _ - oldN l[i]! + _ ∧ _ = _ - nowN l[i]! + _
    omega
theorem lens_bump (l : List GAxisStep) (n : Int) : oldLen (bumpA l n) = oldLen l + n ∧ nowLen (bumpA l n) = nowLen l + n := by
  unfold bumpA
  split
  · rename_i h
    obtain ⟨h1, h2⟩ := lens_set (l := l) (i := l.length - 1) (s := ⟨l[l.length - 1]!.Kind, l[l.length - 1]!.N + n⟩) (by omega)
    rw [h1, h2]
    unfold oldN nowN
    dsimp only
    rw [h.2, if_neg (by decide), if_neg (by decide), if_neg (by decide), if_neg (by decide)]
    omega
  · rw [oldLen_app, nowLen_app]
    constructor
    · show _ + (n + 0) = _; omega
    · show _ + (n + 0) = _; omega
structure AxI (d : List GStep) (k : Nat) (w : Axis_Writer) : Prop where
  len : (wFl w).length ≤ k
  olds : oldLen (wFl w) = oldD (d.take k)
  nows : nowLen (wFl w) = nowD (d.take k)
  zero : k = 0 → w.add = 0 ∧ w.cut = 0
  keep : 0 < k → d[k - 1]!.Kind = 0 → w.add = 0 ∧ w.cut = 0
  addd : 0 < k → d[k - 1]!.Kind = 1 → w.cut = 0
theorem axw_step {d : List GStep} (hg : GoodD d) (ho : OkD d) {k : Nat} (hk : k < d.length) {w : Axis_Writer} {m : Int} (hb : WB m w) (hI : AxI d k w) :
    AxI d (k + 1) (putP w d[k]!.Kind (szS d[k]!)) ∧ wFl (putP w d[k]!.Kind (szS d[k]!)) = (if d[k]!.Kind = 0 then bumpA (wFl w) (szS d[k]!) else wFl w ++ [⟨d[k]!.Kind, szS d[k]!⟩]) := by
  have hm := mem_at hk
  have hs := hg.st _ hm
  have hz := szS_pos hs (ho.st _ hm)
  have ha0 := hb.a0
  have hc0 := hb.c0
  have e1 := oldD_at hk
  have e2 := nowD_at hk
  have hord : 0 < k → ordBad d[k - 1]! d[k]! = false := fun h => hg.ord k h hk
  have hprev : 0 < k → d[k - 1]!.Kind = 0 ∨ d[k - 1]!.Kind = 1 ∨ d[k - 1]!.Kind = 2 := fun h => kind3 (hg.st _ (mem_at (by omega)))
  have hidx : k + 1 - 1 = k := by omega
  have hkd := hs.kind
  generalize hsd : d[k]! = s at *
  have hsz : szS s = if s.Kind = 1 then (s.Elems.length : Int) else s.N := rfl
  unfold putP
  rw [if_neg (by omega)]
  rcases hkd with ⟨kk, e, n1, n2, a1⟩ | ⟨kk, e, a1, n1, n2⟩ | ⟨kk, n, _, h0, p⟩
  · rw [if_neg (by omega), if_neg (by omega), if_pos kk]
    rw [if_neg (by omega)] at hsz
    obtain ⟨l1, l2⟩ := lens_bump (wFl w) (szS s)
    have o1 : oldS s = s.N := by unfold oldS; rw [if_neg (by omega)]
    have o2 : nowS s = s.N := by unfold nowS; rw [if_neg (by omega), if_neg (by omega)]
    refine ⟨⟨?_, ?_, ?_, fun h => by omega, fun _ _ => ⟨rfl, rfl⟩, fun _ _ => rfl⟩, wFl_nil _⟩
    · rw [wFl_nil]
      unfold bumpA
      have := hI.len
      split
      · rw [List.length_set]; omega
      · rw [List.length_append, List.length_singleton]; omega
    · rw [wFl_nil, l1, e1, hI.olds]; omega
    · rw [wFl_nil, l2, e2, hI.nows]; omega
  · rw [if_neg (by omega), if_pos kk, if_neg (by omega)]
    rw [if_neg (by omega)] at hsz
    have hcut : w.cut = 0 := by
      by_cases h0 : k = 0
      · exact (hI.zero h0).2
      · rcases hprev (by omega) with h | h | h
        · exact (hI.keep (by omega) h).2
        · exact hI.addd (by omega) h
        · exfalso
          have := hord (by omega)
          unfold ordBad at this
          rw [h, kk] at this
          simp at this
    have o1 : oldS s = s.N := by unfold oldS; rw [if_neg (by omega)]
    have o2 : nowS s = 0 := by unfold nowS; rw [if_pos kk]
    have hfl : wFl ⟨w.out, w.add, w.cut + szS s⟩ = wFl w ++ [⟨s.Kind, szS s⟩] := by
      unfold wFl
      dsimp only
      rw [hcut, if_pos (show 0 < 0 + szS s by omega), if_neg (show ¬ (0 : Int) < 0 by decide), List.append_nil, kk, show 0 + szS s = szS s by omega]
    refine ⟨⟨?_, ?_, ?_, fun h => by omega, fun _ h => ?_, fun _ h => ?_⟩, hfl⟩
    · rw [hfl, List.length_append, List.length_singleton]; have := hI.len; omega
    · rw [hfl, oldLen_app, e1, hI.olds, o1]
      show _ + (oldN _ + 0) = _
      unfold oldN
      dsimp only
      rw [if_neg (by omega)]; omega
    · rw [hfl, nowLen_app, e2, hI.nows, o2]
      show _ + (nowN _ + 0) = _
      unfold nowN
      dsimp only
      rw [if_pos kk]; omega
    · rw [hidx, hsd] at h; omega
    · rw [hidx, hsd] at h; omega
  · rw [if_pos kk, if_neg (by omega)]
    rw [if_pos kk] at hsz
    have hz2 : w.add = 0 ∧ w.cut = 0 := by
      by_cases h0 : k = 0
      · exact hI.zero h0
      · rcases hprev (by omega) with h | h | h
        · exact hI.keep (by omega) h
        · exfalso
          have := hord (by omega)
          unfold ordBad at this
          rw [h, kk] at this
          simp at this
        · exfalso
          have := hord (by omega)
          unfold ordBad at this
          rw [h, kk] at this
          simp at this
    have o1 : oldS s = 0 := by unfold oldS; rw [if_pos kk]
    have o2 : nowS s = s.Elems.length := by unfold nowS; rw [if_neg (by omega), if_pos kk]
    have hfl : wFl ⟨w.out, w.add + szS s, w.cut⟩ = wFl w ++ [⟨s.Kind, szS s⟩] := by
      unfold wFl
      dsimp only
      rw [hz2.1, hz2.2, if_pos (show 0 < 0 + szS s by omega), if_neg (show ¬ (0 : Int) < 0 by decide), if_neg (show ¬ (0 : Int) < 0 by decide), List.append_nil, List.append_nil, kk, show 0 + szS s = szS s by omega]
    refine ⟨⟨?_, ?_, ?_, fun h => by omega, fun _ h => ?_, fun _ _ => hz2.2⟩, hfl⟩
    · rw [hfl, List.length_append, List.length_singleton]; have := hI.len; omega
    · rw [hfl, oldLen_app, e1, hI.olds, o1]
      show _ + (oldN _ + 0) = _
      unfold oldN
      dsimp only
      rw [if_pos kk]; omega
    · rw [hfl, nowLen_app, e2, hI.nows, o2]
      show _ + (nowN _ + 0) = _
      unfold nowN
      dsimp only
      rw [if_neg (by omega)]; omega
    · rw [hidx, hsd] at h; omega
theorem wOn_next {d : List GStep} (hg : GoodD d) (ho : OkD d) {k : Nat} (hk : k < d.length) : wOn ((unitsD (d.take (k + 1))).map bareU) = putP (wOn ((unitsD (d.take k)).map bareU)) d[k]!.Kind (szS d[k]!) := by
  have hm := mem_at hk
  have hs := hg.st _ hm
  have hz := szS_pos hs (ho.st _ hm)
  rw [unitsD_at hk, List.map_append, bare_units hs, wOn_put _ _ _ (by omega)]
theorem axI_all {d : List GStep} (hg : GoodD d) (ho : OkD d) : ∀ k, k ≤ d.length → AxI d k (wOn ((unitsD (d.take k)).map bareU))
  | 0, _ => ⟨by simp [unitsD, wOn, W0, wFl], by simp [unitsD, wOn, W0, wFl, oldLen, oldD], by simp [unitsD, wOn, W0, wFl, nowLen, nowD], fun _ => ⟨rfl, rfl⟩, fun h => by omega, fun h => by omega⟩
  | k + 1, h => by
    rw [wOn_next hg ho (by omega)]
    exact (axw_step hg ho (by omega) (wOn_wb _) (axI_all hg ho k (by omega))).1
theorem axD_lens {d : List GStep} (hg : GoodD d) (ho : OkD d) : oldLen (axD d) = oldD d ∧ nowLen (axD d) = nowD d := by
  have := axI_all hg ho d.length (Nat.le_refl _)
  rw [List.take_length] at this
  have h1 := this.olds
  have h2 := this.nows
  rw [List.take_length] at h1 h2
  exact ⟨h1, h2⟩
theorem axD_good {d : List GStep} (hg : GoodD d) (ho : OkD d) : axErr (axD d) = 0 := by
  obtain ⟨l1, l2⟩ := axD_lens hg ho
  have g1 := hg.olds
  have g2 := hg.nows
  have hb := wOn_wb ((unitsD d).map bareU)
  obtain ⟨k1, k2, k3⟩ := fl_form hb
  unfold axD at l1 l2 ⊢
  generalize wFl (wOn ((unitsD d).map bareU)) = l at k1 k2 k3 l1 l2
  have hN : ∀ l : List GAxisStep, (∀ s ∈ l, Okk s) → 0 ≤ oldLen l ∧ 0 ≤ nowLen l ∧ ∀ s ∈ l, s.N ≤ max (oldLen l) (nowLen l) := by
    intro l
    induction l with
    | nil => intro _; simp [oldLen, nowLen]
    | cons x l ih =>
      intro hx
      obtain ⟨i0, i1, i2⟩ := ih fun s hs => hx s (List.mem_cons_of_mem _ hs)
      have h1 := hx x (List.mem_cons_self ..)
      unfold Okk at h1
      have hx2 : (oldN x = 0 ∨ oldN x = x.N) ∧ (nowN x = 0 ∨ nowN x = x.N) ∧ (oldN x = x.N ∨ nowN x = x.N) := by
        unfold oldN nowN
        split <;> split <;> omega
      rw [oldLen_cons, nowLen_cons]
      refine ⟨by omega, by omega, fun s hs => ?_⟩
      rcases List.mem_cons.1 hs with rfl | hs
      · omega
      · have := i2 s hs; omega
  obtain ⟨n0, n1, n2⟩ := hN l k1
  rw [axErr_none fun j hj => ?_]
  · rw [if_neg (by omega)]
  · have hs := k1 _ (mem_at hj)
    have hN := n2 _ (mem_at hj)
    unfold Okk at hs
    unfold errS
    rw [if_neg (by omega), if_neg (by omega), if_neg]
    rintro ⟨h0, h1⟩
    have := k3 (j - 1) (by omega)
    rw [show j - 1 + 1 = j by omega] at this
    rcases h1 with h1 | h1
    · exact this.1 h1
    · exact this.2 h1
theorem delta_Axis_eq (d : List GStep) (ho : OkD d) : delta_Axis d = some (if delErr d ≠ 0 then ([], delErr d) else (axD d, 0)) := by
  unfold delta_Axis
  rw [delta_Check_eq d ho, bnd1_some]
  by_cases e1 : delErr d ≠ 0
  · rw [if_pos (ndT e1), if_pos e1]
  have e1 := Classical.not_not.1 e1
  have hg := goodD_of e1
  have hdl := ho.len
  rw [if_neg (ndF e1), if_neg (show ¬ (delErr d ≠ 0) by simpa using e1)]
  have key : ∃ r, iter (fun (a : Int × (List GAxisStep)) => delta_Axis_L1 d a.1 a.2) (0, []) = some r ∧ r = axD d := by
    refine iter_hoare d.length (fun k st => st = ((k : Int), wFl (wOn ((unitsD (d.take k)).map bareU)))) _ ?_ ?_ rfl
    · rintro k st hk rfl
      have hI := axI_all hg ho k (by omega)
      have hm := mem_at hk
      have hs := hg.st _ hm
      have hz := szS_pos hs (ho.st _ hm)
      obtain ⟨_, hst⟩ := axw_step hg ho hk (wOn_wb _) hI
      rw [← wOn_next hg ho hk] at hst
      refine .inl ⟨_, ?_, rfl⟩
      rw [hst]
      have hlen := hI.len
      obtain ⟨_, f2, _⟩ := fl_form (wOn_wb ((unitsD (d.take k)).map bareU))
      have hNN := (fl_form (wOn_wb ((unitsD (d.take k)).map bareU))).1
      have hsz := size_okk hNN
      have hul := unitsD_le d k
      have hus := unitsD_size hg.st
      have hgo := hg.olds
      have hds := ho.sum
      rw [f2, List.length_map] at hsz
      show delta_Axis_L1 d (k : Int) _ = _
      generalize wFl (wOn ((unitsD (d.take k)).map bareU)) = l at hlen hsz hst hNN
      unfold delta_Axis_L1
      rw [if_pos (by simpa using hk), idx_nat hk, bnd1_some]
      generalize d[k]! = s at hs hz hst
      have hplain : (bnd1 (delta_size s) fun (r1 : Int) => bnd1 (app 16 l [(GAxisStep.mk s.Kind r1)]) fun (out6 : List GAxisStep) => some out6) = some (l ++ [⟨s.Kind, szS s⟩]) := by
        rw [hz.2.2.2, bnd1_some, app16s (by omega), bnd1_some]
      rw [hplain]
      by_cases hl0 : 0 < l.length
      · have hx := hsz.2 _ (mem_at (l := l) (k := l.length - 1) (by omega))
        have hx1 := (hNN _ (mem_at (l := l) (k := l.length - 1) (by omega))).2.2
        rw [show ((l.length : Int) - 1) = ((l.length - 1 : Nat) : Int) by omega, chk64 (by omega) (by omega), bnd1_some, idx_nat (l := l) (by omega), decide_eq_true (show (0 : Int) ≤ ((l.length - 1 : Nat) : Int) by omega), Bool.and_true, bnd1_some]
        by_cases hK : s.Kind = 0
        · have hszk : szS s = s.N := by unfold szS; rw [if_neg (by omega)]
          rw [decide_eq_true hK, show (true == true) = true from rfl, gd_true, bnd1_some, Bool.true_and, if_pos hK]
          unfold bumpA
          by_cases hL : l[l.length - 1]!.Kind = 0
          · rw [if_pos (by rw [decide_eq_true_eq]; exact hL), chk64 (by omega) (by omega), bnd1_some, bnd1_some, chk_nat (by omega), bnd1_some, set_eq, if_pos ⟨hl0, hL⟩, hszk]
          · rw [if_neg (by rw [decide_eq_true_eq]; exact hL), bnd1_some, chk_nat (by omega), bnd1_some, if_neg (fun h => hL h.2), hK]
        · rw [decide_eq_false hK, show (false == true) = false from rfl, gd_false, bnd1_some, Bool.false_and, if_neg (show ¬ (false = true) by decide), bnd1_some, chk_nat (by omega), bnd1_some, if_neg hK]
      · have hl : l = [] := List.eq_nil_of_length_eq_zero (by omega)
        subst hl
        rw [show ((([] : List GAxisStep).length : Int) - 1) = -1 from rfl, chk64 (by decide) (by decide), bnd1_some, show decide ((0 : Int) ≤ -1) = false by decide, Bool.and_false, show (false == true) = false from rfl, gd_false, bnd1_some, Bool.false_and, if_neg (show ¬ (false = true) by decide), bnd1_some, chk_nat (by omega), bnd1_some]
        by_cases hK : s.Kind = 0
        · rw [if_pos hK, hK]; rfl
        · rw [if_neg hK]
    · rintro st rfl
      refine ⟨axD d, ?_, rfl⟩
      rw [List.take_length]
      show delta_Axis_L1 d (d.length : Int) _ = _
      unfold delta_Axis_L1
      rw [if_neg (by simp)]
      rfl
  obtain ⟨r, h1, h2⟩ := key
  rw [h1, h2]; rfl
end Go.Proofs.Ytdeglnbioiicaaa.Al


namespace Go.Proofs.Ytdeglnbioiicaaa.Al
def errSp (l : List GSpan) (k : Nat) : Option Int := if l[k]!.From < 0 ∨ l[k]!.To ≤ l[k]!.From ∨ 2147483647 < l[k]!.To then some 2 else if 0 < k ∧ l[k]!.From ≤ l[k - 1]!.To then some 5 else none
def setErr (l : List GSpan) : Int := ((List.range l.length).findSome? (errSp l)).getD 0
theorem span_Check_eq (l : List GSpan) (hm : l.length ≤ 1099511627776) : span_Check l = some (setErr l) := by
  unfold span_Check
  rw [iter_find (n := l.length) (errSp l) (fun k hk => by
    unfold span_Check_L1 errSp
    rw [if_pos (by simpa using hk), idx_nat hk, bnd1_some]
    by_cases c : l[k]!.From < 0 ∨ l[k]!.To ≤ l[k]!.From ∨ 2147483647 < l[k]!.To
    · rw [if_pos (by simp only [Bool.or_eq_true, decide_eq_true_eq]; omega), if_pos c]; rfl
    · rw [if_neg (by simp only [Bool.or_eq_true, decide_eq_true_eq]; omega), if_neg c]
      by_cases h0 : 0 < k
      · rw [decide_eq_true (show (0 : Int) < (k : Int) by omega), show (true == true) = true from rfl, gd_true, show ((k : Int) - 1) = ((k - 1 : Nat) : Int) by omega, chk64 (by omega) (by omega), bnd1_some, gd_true, idx_nat (by omega), bnd1_some, Bool.true_and]
        by_cases h1 : l[k]!.From ≤ l[k - 1]!.To
        · rw [if_pos (by rw [decide_eq_true_eq]; exact h1), if_pos ⟨h0, h1⟩]; rfl
        · rw [if_neg (by rw [decide_eq_true_eq]; exact h1), if_neg (fun h => h1 h.2), chk_nat (by omega)]; rfl
      · have : k = 0 := by omega
        subst this
        rw [show decide ((0 : Int) < ((0 : Nat) : Int)) = false by decide, show (false == true) = false from rfl, gd_false, bnd1_some, gd_false, bnd1_some, Bool.false_and, if_neg (by decide), if_neg (fun h => h0 h.1), chk_nat (by omega)]; rfl) (by unfold span_Check_L1; rw [if_neg (by simp)]), out_getD]; rfl
theorem law_setError_eq (l : List GSpan) (hm : l.length ≤ 1099511627776) : law_setError l = some (setErr l) := by
  rw [← span_Check_eq l hm]; rfl
theorem errSp_ne {l : List GSpan} {k : Nat} {r : Int} (h : errSp l k = some r) : r ≠ 0 := by
  unfold errSp at h
  split at h
  · cases h; decide
  · split at h
    · cases h; decide
    · cases h
theorem setErr_all {l : List GSpan} (h : setErr l = 0) {k : Nat} (hk : k < l.length) : 0 ≤ l[k]!.From ∧ l[k]!.From < l[k]!.To ∧ l[k]!.To ≤ 2147483647 ∧ (0 < k → l[k - 1]!.To < l[k]!.From) := by
  have hn : errSp l k = none := by
    cases hr : (List.range l.length).findSome? (errSp l) with
    | none => exact List.findSome?_eq_none_iff.1 hr k (List.mem_range.2 hk)
    | some r =>
      obtain ⟨j, hj⟩ := List.exists_of_findSome?_eq_some hr
      unfold setErr at h
      rw [hr] at h
      exact absurd h (errSp_ne hj.2)
  unfold errSp at hn
  split at hn
  · cases hn
  · split at hn
    · cases hn
    · refine ⟨by omega, by omega, by omega, fun h => by omega⟩
theorem spans_u1 : span_merged__Union_f1_L1 [⟨0, 2⟩] [⟨2, 3⟩] 0 0 0 [] = some (.inl (0, 1, 0, [])) := by
  have h2 : iter (fun (a : Int) => span_merged__Union_f1_L2 [⟨0, 2⟩] 2 0 a) 0 = some 1 := (iter_next (s' := 1) rfl).trans (iter_stop rfl)
  have h3 : iter (fun (a : Int) => span_merged__Union_f1_L3 [⟨2, 3⟩] 2 0 [] 1 a) 0 = some (.ext (.inl (0, 1, 0, []))) := iter_stop rfl
  show (bnd1 (iter (fun (a : Int) => span_merged__Union_f1_L2 [⟨0, 2⟩] 2 0 a) 0) fun (i19 : Int) => ctl1 (iter (fun (a : Int) => span_merged__Union_f1_L3 [⟨2, 3⟩] 2 0 [] i19 a) 0) fun (u4 : Unit) => none) = _
  rw [h2, bnd1_some, h3]; rfl
theorem spans_u2 : span_merged__Union_f1_L1 [⟨0, 2⟩] [⟨2, 3⟩] 0 1 0 [] = some (.inl (2, 2, 1, [⟨0, 2⟩])) := by
  have h2 : iter (fun (a : Int) => span_merged__Union_f1_L2 [⟨0, 2⟩] 2 2 a) 1 = some 2 := (iter_next (s' := 2) rfl).trans (iter_stop rfl)
  have h3 : iter (fun (a : Int) => span_merged__Union_f1_L3 [⟨2, 3⟩] 2 2 [⟨0, 2⟩] 2 a) 0 = some (.ext (.inl (2, 2, 1, [⟨0, 2⟩]))) := (iter_next (s' := 1) rfl).trans (iter_stop rfl)
  show (bnd1 (iter (fun (a : Int) => span_merged__Union_f1_L2 [⟨0, 2⟩] 2 2 a) 1) fun (i19 : Int) => ctl1 (iter (fun (a : Int) => span_merged__Union_f1_L3 [⟨2, 3⟩] 2 2 [⟨0, 2⟩] i19 a) 0) fun (u4 : Unit) => none) = _
  rw [h2, bnd1_some, h3]; rfl
theorem spans_u3 : span_merged__Union_f1_L1 [⟨0, 2⟩] [⟨2, 3⟩] 2 2 1 [⟨0, 2⟩] = some (.inl (3, 2, 2, [⟨0, 3⟩])) := by
  have h2 : iter (fun (a : Int) => span_merged__Union_f1_L2 [⟨0, 2⟩] 2 3 a) 2 = some 2 := iter_stop rfl
  have h3 : iter (fun (a : Int) => span_merged__Union_f1_L3 [⟨2, 3⟩] 2 3 [⟨0, 3⟩] 2 a) 1 = some (.ext (.inl (3, 2, 2, [⟨0, 3⟩]))) := (iter_next (s' := 2) rfl).trans (iter_stop rfl)
  show (bnd1 (iter (fun (a : Int) => span_merged__Union_f1_L2 [⟨0, 2⟩] 2 3 a) 2) fun (i19 : Int) => ctl1 (iter (fun (a : Int) => span_merged__Union_f1_L3 [⟨2, 3⟩] 2 3 [⟨0, 3⟩] i19 a) 1) fun (u4 : Unit) => none) = _
  rw [h2, bnd1_some, h3]; rfl
theorem law_spans_eq : law_spans = some true := by
  unfold law_spans span_Union span_two__Union_f1 span_merged__Union_f1
  rw [span_Check_eq _ (by decide), span_Check_eq _ (by decide), show setErr [⟨0, 2⟩] = 0 by decide +kernel, show setErr [⟨2, 3⟩] = 0 by decide +kernel, bnd1_some, if_neg (by decide), bnd1_some, if_neg (by decide)]
  rw [iter_next (s' := (0, 1, 0, [])) spans_u1, iter_next (s' := (2, 2, 1, [⟨0, 2⟩])) spans_u2, iter_next (s' := (3, 2, 2, [⟨0, 3⟩])) spans_u3, iter_stop (r := [⟨0, 3⟩]) rfl]
  rfl
theorem plo_low : ∀ (l : List GAxisStep) (r f t : Int), (∀ s ∈ l, Stp s) → f ≤ r → 0 ≤ ctlV (plo r l (f, t)) → t ≤ ctlV (plo r l (f, t))
  | [], r, f, t, _, _, h => by
    have : ctlV (plo r [] (f, t)) = -1 := rfl
    omega
  | s :: l, r, f, t, hs, hr, h => by
    have h1 := hs s (List.mem_cons_self ..)
    have hl := fun x hx => hs x (List.mem_cons_of_mem _ hx)
    unfold Stp at h1
    rw [plo_cons] at h ⊢
    dsimp only at h ⊢
    by_cases hk : s.Kind = 1
    · rw [if_pos hk] at h ⊢
      have := plo_low l r f (t + s.N) hl hr h
      omega
    · rw [if_neg hk] at h ⊢
      by_cases hp : r < f + s.N
      · rw [if_pos hp] at h ⊢
        by_cases h0 : s.Kind = 0
        · rw [if_pos h0] at h ⊢
          show t ≤ t + r - f
          omega
        · rw [if_neg h0] at h
          have : (0 : Int) ≤ -1 := h
          omega
      · rw [if_neg hp] at h ⊢
        by_cases h0 : s.Kind = 0
        · rw [if_pos h0] at h ⊢
          have := plo_low l r (f + s.N) (t + s.N) hl (by omega) h
          omega
        · rw [if_neg h0] at h ⊢
          exact plo_low l r (f + s.N) t hl (by omega) h
theorem plo_mono : ∀ (l : List GAxisStep) (r r' f t : Int), (∀ s ∈ l, Stp s) → f ≤ r → r < r' → 0 ≤ ctlV (plo r l (f, t)) → 0 ≤ ctlV (plo r' l (f, t)) → ctlV (plo r l (f, t)) < ctlV (plo r' l (f, t))
  | [], r, r', f, t, _, _, _, h, _ => by
    have : ctlV (plo r [] (f, t)) = -1 := rfl
    omega
  | s :: l, r, r', f, t, hs, hr, hrr, h, h' => by
    have h1 := hs s (List.mem_cons_self ..)
    have hl := fun x hx => hs x (List.mem_cons_of_mem _ hx)
    unfold Stp at h1
    rw [plo_cons] at h h' ⊢
    rw [plo_cons]
    dsimp only at h h' ⊢
    by_cases hk : s.Kind = 1
    · rw [if_pos hk] at h h' ⊢
      rw [if_pos hk]
      exact plo_mono l r r' f (t + s.N) hl hr hrr h h'
    · rw [if_neg hk] at h h' ⊢
      rw [if_neg hk]
      by_cases h0 : s.Kind = 0
      · rw [if_pos h0, if_pos h0] at h h' ⊢
        rw [if_pos h0]
        by_cases hp : r < f + s.N
        · rw [if_pos hp]
          by_cases hp' : r' < f + s.N
          · rw [if_pos hp']
            show t + r - f < t + r' - f
            omega
          · rw [if_neg hp'] at h' ⊢
            have := plo_low l r' (f + s.N) (t + s.N) hl (by omega) h'
            show t + r - f < _
            omega
        · rw [if_neg hp] at h ⊢
          rw [if_neg (show ¬ r' < f + s.N by omega)] at h' ⊢
          exact plo_mono l r r' (f + s.N) (t + s.N) hl (by omega) hrr h h'
      · rw [if_neg h0, if_neg h0] at h h' ⊢
        rw [if_neg h0]
        by_cases hp : r < f + s.N
        · rw [if_pos hp] at h
          have : (0 : Int) ≤ -1 := h
          omega
        · rw [if_neg hp] at h ⊢
          rw [if_neg (show ¬ r' < f + s.N by omega)] at h' ⊢
          exact plo_mono l r r' (f + s.N) t hl (by omega) hrr h h'
end Go.Proofs.Ytdeglnbioiicaaa.Al


namespace Go.Proofs.Ytdeglnbioiicaaa.Al
def gpA (at1 : Int) (rt : Bool) : List GAxisStep → Int × Int → Int
  | [], c => c.2
  | s :: l, c => gpA at1 rt l (if s.Kind = 1 then c.1 else c.1 + s.N, if s.Kind = 1 ∧ (c.1 < at1 ∨ (c.1 = at1 ∧ rt = true)) then c.2 + s.N else if s.Kind = 0 then c.2 + min s.N (max 0 (at1 - c.1)) else c.2)
theorem gpA_cons (at1 : Int) (rt : Bool) (s : GAxisStep) (l : List GAxisStep) (c : Int × Int) : gpA at1 rt (s :: l) c =
    gpA at1 rt l (if s.Kind = 1 then c.1 else c.1 + s.N, if s.Kind = 1 ∧ (c.1 < at1 ∨ (c.1 = at1 ∧ rt = true)) then c.2 + s.N else if s.Kind = 0 then c.2 + min s.N (max 0 (at1 - c.1)) else c.2) := rfl
theorem axis_Gap_loop (a : List GAxisStep) (at1 : Int) (rt : Bool) (hg : GoodA a) (h0 : 0 ≤ at1) (hp : at1 ≤ 2147483647) :
    iter (fun (x : Int × Int × Int) => axis_Gap_L1 a at1 rt x.1 x.2.1 x.2.2) (0, 0, 0) = some (gpA at1 rt a (0, 0)) := by
  rw [iter_walk (f := fun (x : Int × Int × Int) => axis_Gap_L1 a at1 rt x.1 x.2.1 x.2.2) a (fun (c : Int × Int) k => (c.1, c.2, (k : Int))) (gpA at1 rt) (fun k c => Run a k c.1 c.2)
    (fun k c hk hI => by
      left
      have hs := stp_at hg.stp hk
      have hnx := hI.nx hg hk
      have hgl := hg.len
      unfold axis_Gap_L1
      rw [gpA_cons]
      simp only
      rw [if_pos (by simpa using hk), idx_nat hk, bnd1_some, chk_nat (by omega)]
      obtain ⟨f, t⟩ := c
      simp only at hnx ⊢
      generalize a[k]! = x at hs hnx ⊢
      obtain ⟨q1, q2, q3, q4, q5, q6, q7⟩ := hnx
      unfold Stp at hs
      simp only [oldN, nowN] at q7
      rw [chk_ok (x := t + x.N) (by omega) (by omega), chk_ok (x := f + x.N) (by omega) (by omega), chk_ok (x := at1 - f) (by omega) (by omega)]
      simp only [bnd1_some]
      rw [chk_ok (by omega) (by omega)]
      refine ⟨_, ?_, ?_, rfl⟩
      · by_cases d1 : x.Kind = 1
        · rcases Int.lt_trichotomy f at1 with d2 | d2 | d2
          · simp [d1, d2]
          · subst d2; cases rt <;> simp [d1]
          · have e1 : ¬ f < at1 := by omega
            have e2 : ¬ f = at1 := by omega
            simp [d1, e1, e2]
        · by_cases d0 : x.Kind = 0 <;> simp [d0, d1]
      · refine q7 _ _ ?_ ?_ ?_ ?_ <;> simp only <;> split <;> (try split) <;> (try split) <;> (try split) <;> omega)
    (fun c hI => by unfold axis_Gap_L1; rw [if_neg (by simp)]; rfl) (0, 0) hg.run (0, 0, 0) rfl]
def gpU (at1 : Int) (rt : Bool) : List Int → Int → Int
  | [], _ => 0
  | u :: us, o => if u = 0 then (if o < at1 then 1 else 0) + gpU at1 rt us (o + 1) else if u = 1 then (if o < at1 ∨ (o = at1 ∧ rt = true) then 1 else 0) + gpU at1 rt us o else gpU at1 rt us (o + 1)
theorem gpU_rep0 (at1 : Int) (rt : Bool) (n : Nat) (us : List Int) (o : Int) : gpU at1 rt (List.replicate n 0 ++ us) o = min (n : Int) (max 0 (at1 - o)) + gpU at1 rt us (o + n) := by
  induction n generalizing o with
  | zero => simp; omega
  | succ n ih =>
    rw [List.replicate_succ, List.cons_append, gpU, if_pos rfl, ih, show o + 1 + (n : Int) = o + ((n + 1 : Nat) : Int) by omega]
    split <;> omega
theorem gpU_rep1 (at1 : Int) (rt : Bool) (n : Nat) (us : List Int) (o : Int) : gpU at1 rt (List.replicate n 1 ++ us) o = (if o < at1 ∨ (o = at1 ∧ rt = true) then (n : Int) else 0) + gpU at1 rt us o := by
  induction n with
  | zero => simp
  | succ n ih =>
    rw [List.replicate_succ, List.cons_append, gpU, if_neg (by decide), if_pos rfl, ih]
    split <;> omega
theorem gpU_rep2 (at1 : Int) (rt : Bool) (n : Nat) (us : List Int) (o : Int) : gpU at1 rt (List.replicate n 2 ++ us) o = gpU at1 rt us (o + n) := by
  induction n generalizing o with
  | zero => simp
  | succ n ih =>
    rw [List.replicate_succ, List.cons_append, gpU, if_neg (by decide), if_neg (by decide), ih, show o + 1 + (n : Int) = o + ((n + 1 : Nat) : Int) by omega]
theorem gpA_units (at1 : Int) (rt : Bool) (a : List GAxisStep) (h : ∀ s ∈ a, Stp s) (f t : Int) : gpA at1 rt a (f, t) = t + gpU at1 rt (units a) f := by
  induction a generalizing f t with
  | nil => simp [gpA, gpU, units]
  | cons s a ih =>
    have hs := h s (List.mem_cons_self ..)
    unfold Stp at hs
    have hn : ((s.N.toNat : Nat) : Int) = s.N := by omega
    rw [units_cons, gpA_cons, ih fun x hx => h x (List.mem_cons_of_mem _ hx)]
    by_cases d1 : s.Kind = 1
    · rw [d1, gpU_rep1, hn]
      simp only [if_true, true_and]
      split <;> omega
    · by_cases d0 : s.Kind = 0
      · rw [d0, gpU_rep0, hn]; simp; omega
      · have d2 : s.Kind = 2 := by omega
        rw [d2, gpU_rep2, hn]; simp
theorem ref_GapAt_loop (at1 : Int) (rt : Bool) (r1 r2 : List Int) (us : List Int) (h1 : r1 = rowsL us 0) (h2 : r2 = aheadL us 0) (hm : us.length ≤ 4194304) :
    iter (fun (a : Int × Int) => ref_GapAt_L1 at1 rt r1 r2 a.1 a.2) (0, 0) = some (gpU at1 rt us 0) := by
  have key : ∀ (us : List Int) (o n : Int) (p q : List Int), 0 ≤ o → p.length = q.length → 0 ≤ n → n ≤ p.length → p.length + us.length ≤ 4194304 → r1 = p ++ rowsL us o → r2 = q ++ aheadL us o →
      iter (fun (a : Int × Int) => ref_GapAt_L1 at1 rt r1 r2 a.1 a.2) (n, (p.length : Int)) = some (n + gpU at1 rt us o) := by
    intro us
    induction us with
    | nil =>
      intro o n p q ho hpq hn hn2 hl e1 e2
      refine iter_stop ?_
      simp only [rowsL, List.append_nil] at e1
      subst e1
      unfold ref_GapAt_L1
      rw [if_neg (by simp)]
      simp [gpU]
    | cons u us ih =>
      intro o n p q ho hpq hn hn2 hl e1 e2
      rw [rowsL] at e1
      rw [aheadL] at e2
      rw [gpU]
      simp only [List.length_cons] at hl
      have step : ∀ (x y : Int), (x = o ∨ x = -1) → y = o → r1 = p ++ x :: (rowsL us (if x = o then o + 1 else o)) → r2 = q ++ y :: (aheadL us (if x = o then o + 1 else o)) →
          iter (fun (a : Int × Int) => ref_GapAt_L1 at1 rt r1 r2 a.1 a.2) (n, (p.length : Int)) = some (n + ((if x = o then (if o < at1 then 1 else 0) else (if o < at1 ∨ (o = at1 ∧ rt = true) then 1 else 0)) + gpU at1 rt us (if x = o then o + 1 else o))) := by
        intro x y hx hy f1 f2
        have hk : p.length < r1.length := by rw [f1]; simp
        have hk2 : p.length < r2.length := by rw [f2]; simp; omega
        have g1 : r1[p.length]! = x := by rw [getElem!_pos r1 _ hk]; simp [f1]
        have g2 : r2[p.length]! = y := by rw [getElem!_pos r2 _ hk2]; simp [f2, hpq]
        have hst : (fun (a : Int × Int) => ref_GapAt_L1 at1 rt r1 r2 a.1 a.2) (n, (p.length : Int)) = some (.inl (n + (if x = o then (if o < at1 then 1 else 0) else (if o < at1 ∨ (o = at1 ∧ rt = true) then 1 else 0)), ((p.length + 1 : Nat) : Int))) := by
          show ref_GapAt_L1 at1 rt r1 r2 n (p.length : Int) = _
          unfold ref_GapAt_L1
          rw [if_pos (by simpa using hk), idx_nat hk, bnd1_some, chk_nat (by omega), g1, chk_ok (x := n + 1) (by omega) (by omega), idx_nat hk2, g2]
          subst hy
          rcases hx with rfl | rfl
          · have e0 : ¬ x < 0 := by omega
            simp [ho, e0]
            split <;> simp
          · have e1 : ¬ (-1 : Int) = y := by omega
            simp [e1]
            split <;> simp
        rw [iter_next hst]
        have := ih (if x = o then o + 1 else o) (n + (if x = o then (if o < at1 then 1 else 0) else (if o < at1 ∨ (o = at1 ∧ rt = true) then 1 else 0))) (p ++ [x]) (q ++ [y]) (by split <;> omega) (by simp [hpq]) (by split <;> split <;> omega) (by simp; split <;> split <;> omega) (by simp; omega)
          (by rw [f1]; simp) (by rw [f2]; simp)
        rw [List.length_append] at this
        refine this.trans ?_
        rw [Int.add_assoc]
      by_cases d0 : u = 0
      · rw [if_pos d0] at e1 e2 ⊢
        have := step o o (.inl rfl) rfl (by simpa using e1) (by simpa using e2)
        simpa using this
      · rw [if_neg d0] at e1 e2 ⊢
        by_cases d1 : u = 1
        · rw [if_pos d1] at e1 e2 ⊢
          have hno : ¬ (-1 : Int) = o := by omega
          have := step (-1) o (.inr rfl) rfl (by simpa [hno] using e1) (by simpa [hno] using e2)
          simpa [hno] using this
        · rw [if_neg d1] at e1 e2 ⊢
          exact ih (o + 1) n p q (by omega) hpq hn hn2 (by omega) e1 e2
  have := key us 0 0 [] [] (by omega) rfl (by omega) (by simp) (by simpa using hm) (by simpa using h1) (by simpa using h2)
  simpa using this
theorem ref_GapAt_eq (us : List Int) (at1 : Int) (rt : Bool) (hm : us.length ≤ 4194304) : ref_GapAt us at1 rt = some (gpU at1 rt us 0) := by
  unfold ref_GapAt
  rw [ref_Olds_eq us (by omega), bnd2_some, ref_GapAt_loop at1 rt _ _ us rfl rfl hm, bnd1_some]
theorem axis_Gap_eq (a : List GAxisStep) (at1 : Int) (rt : Bool) (hm : a.length ≤ 9223372036854775807) : axis_Gap a at1 rt = some (if axErr a ≠ 0 then (0, axErr a) else if at1 < 0 ∨ oldLen a < at1 then (0, 2) else (gpU at1 rt (units a) 0, 0)) := by
  unfold axis_Gap
  rw [axis_Check_eq a (by omega), bnd1_some]
  by_cases he : axErr a = 0
  · have hg := goodA_of he
    have hol := hg.olds
    rw [he, if_neg (by decide), if_neg (by simp), axis_lengths_eq a hg, bnd2_some]
    by_cases d : at1 < 0 ∨ oldLen a < at1
    · rw [if_pos (by simpa using d), if_pos d]
    · rw [if_neg (by simpa using d), if_neg d, axis_Gap_loop a at1 rt hg (by omega) (by omega), bnd1_some, gpA_units at1 rt a hg.stp]; simp
  · rw [if_pos (by simpa using he), if_pos he]
def PR (W : Int → Int) (lo hi : Int) (c : Int × Int) : Prop :=
  (c = (0, 0) ∧ ∀ r, lo ≤ r → r < hi → W r < 0) ∨ ∃ r0 r1, lo ≤ r0 ∧ r0 ≤ r1 ∧ r1 < hi ∧ 0 ≤ W r0 ∧ 0 ≤ W r1 ∧ (∀ r, lo ≤ r → r < hi → 0 ≤ W r → r0 ≤ r ∧ r ≤ r1) ∧ c = (W r0, W r1 + 1)
theorem PR.uniq {W : Int → Int} {lo hi : Int} {c d : Int × Int} (h1 : PR W lo hi c) (h2 : PR W lo hi d) : c = d := by
  rcases h1 with ⟨rfl, a⟩ | ⟨r0, r1, a1, a2, a3, a4, a5, a6, rfl⟩
  · rcases h2 with ⟨rfl, _⟩ | ⟨s0, s1, b1, b2, b3, b4, _⟩
    · rfl
    · have := a s0 b1 (by omega); omega
  · rcases h2 with ⟨rfl, b⟩ | ⟨s0, s1, b1, b2, b3, b4, b5, b6, rfl⟩
    · have := b r0 a1 (by omega); omega
    · have c1 := a6 s0 b1 (by omega) b4
      have c2 := a6 s1 (by omega) (by omega) b5
      have c3 := b6 r0 a1 (by omega) a4
      have c4 := b6 r1 (by omega) (by omega) a5
      obtain rfl : r0 = s0 := by omega
      obtain rfl : r1 = s1 := by omega
      rfl
theorem PR.congr {W V : Int → Int} {lo hi : Int} {c : Int × Int} (h : PR W lo hi c) (e : ∀ r, lo ≤ r → W r = V r) : PR V lo hi c := by
  rcases h with ⟨rfl, a⟩ | ⟨r0, r1, a1, a2, a3, a4, a5, a6, rfl⟩
  · exact .inl ⟨rfl, fun r h1 h2 => by rw [← e r h1]; exact a r h1 h2⟩
  · rw [e r0 a1, e r1 (by omega)]
    exact .inr ⟨r0, r1, a1, a2, a3, by rw [← e r0 a1]; exact a4, by rw [← e r1 (by omega)]; exact a5, fun r h1 h2 h3 => a6 r h1 h2 (by rw [e r h1]; exact h3), rfl⟩
theorem PR.wide {W : Int → Int} {lo h1 h2 : Int} {c : Int × Int} (h : PR W lo h1 c) (e : ∀ r, lo ≤ r → h1 ≤ r → r < h2 → W r < 0) (hl : h1 ≤ h2) : PR W lo h2 c := by
  rcases h with ⟨rfl, a⟩ | ⟨r0, r1, a1, a2, a3, a4, a5, a6, rfl⟩
  · refine .inl ⟨rfl, fun r b1 b2 => ?_⟩
    rcases Int.lt_or_le r h1 with b | b
    · exact a r b1 b
    · exact e r b1 b b2
  · refine .inr ⟨r0, r1, a1, a2, by omega, a4, a5, fun r b1 b2 b3 => ?_, rfl⟩
    rcases Int.lt_or_le r h1 with b | b
    · exact a6 r b1 b b3
    · have := e r b1 b b2; omega
theorem PR.more {W : Int → Int} {lo h1 h2 m : Int} {c : Int × Int} (h : PR W lo h1 c) (hm : m = max lo h1) (hl : m < h2) (e : ∀ r, m ≤ r → r < h2 → 0 ≤ W r) : PR W lo h2 (if c.2 = 0 then W m else c.1, W (h2 - 1) + 1) := by
  have e1 := e m (by omega) hl
  have e2 := e (h2 - 1) (by omega) (by omega)
  rcases h with ⟨rfl, a⟩ | ⟨r0, r1, a1, a2, a3, a4, a5, a6, rfl⟩
  · refine .inr ⟨m, h2 - 1, by omega, by omega, by omega, e1, e2, fun r b1 b2 b3 => ?_, by simp⟩
    rcases Int.lt_or_le r h1 with b | b
    · have := a r b1 b; omega
    · omega
  · refine .inr ⟨r0, h2 - 1, a1, by omega, by omega, a4, e2, fun r b1 b2 b3 => ?_, ?_⟩
    · rcases Int.lt_or_le r h1 with b | b
      · have := a6 r b1 b b3; omega
      · omega
    · have : ¬ (W r1 + 1 = 0) := by omega
      simp [this]
theorem PR.less {W : Int → Int} {lo hi : Int} {c : Int × Int} (h : PR W lo hi c) : PR W (lo - 1) hi (if 0 ≤ W (lo - 1) ∧ lo ≤ hi then (W (lo - 1), if c.2 = 0 then W (lo - 1) + 1 else c.2) else c) := by
  by_cases hw : 0 ≤ W (lo - 1) ∧ lo ≤ hi
  · rw [if_pos hw]
    rcases h with ⟨rfl, a⟩ | ⟨r0, r1, a1, a2, a3, a4, a5, a6, rfl⟩
    · refine .inr ⟨lo - 1, lo - 1, by omega, by omega, by omega, hw.1, hw.1, fun r b1 b2 b3 => ?_, by simp⟩
      rcases Int.lt_or_le r lo with b | b
      · omega
      · have := a r b b2; omega
    · refine .inr ⟨lo - 1, r1, by omega, by omega, by omega, hw.1, a5, fun r b1 b2 b3 => ?_, ?_⟩
      · rcases Int.lt_or_le r lo with b | b
        · omega
        · have := a6 r b b2 b3; omega
      · have : ¬ (W r1 + 1 = 0) := by omega
        simp [this]
  · rw [if_neg hw]
    rcases h with ⟨rfl, a⟩ | ⟨r0, r1, a1, a2, a3, a4, a5, a6, rfl⟩
    · refine .inl ⟨rfl, fun r b1 b2 => ?_⟩
      rcases Int.lt_or_le r lo with b | b
      · obtain rfl : r = lo - 1 := by omega
        omega
      · exact a r b b2
    · refine .inr ⟨r0, r1, by omega, a2, a3, a4, a5, fun r b1 b2 b3 => ?_, rfl⟩
      rcases Int.lt_or_le r lo with b | b
      · obtain rfl : r = lo - 1 := by omega
        omega
      · exact a6 r b b2 b3
def hullL (fr to : Int) : List GAxisStep → Int × Int × Int × Int → Int × Int
  | [], c => (c.1, c.2.1)
  | s :: l, c => hullL fr to l (if s.Kind = 0 ∧ max fr c.2.2.1 < min to (c.2.2.1 + s.N) then (if c.2.1 = 0 then c.2.2.2 + max fr c.2.2.1 - c.2.2.1 else c.1) else c.1,
      if s.Kind = 0 ∧ max fr c.2.2.1 < min to (c.2.2.1 + s.N) then c.2.2.2 + min to (c.2.2.1 + s.N) - c.2.2.1 else c.2.1,
      if s.Kind = 1 then c.2.2.1 else c.2.2.1 + s.N, if s.Kind = 2 then c.2.2.2 else c.2.2.2 + s.N)
theorem hullL_cons (fr to : Int) (s : GAxisStep) (l : List GAxisStep) (c : Int × Int × Int × Int) : hullL fr to (s :: l) c = hullL fr to l (if s.Kind = 0 ∧ max fr c.2.2.1 < min to (c.2.2.1 + s.N) then (if c.2.1 = 0 then c.2.2.2 + max fr c.2.2.1 - c.2.2.1 else c.1) else c.1,
      if s.Kind = 0 ∧ max fr c.2.2.1 < min to (c.2.2.1 + s.N) then c.2.2.2 + min to (c.2.2.1 + s.N) - c.2.2.1 else c.2.1,
      if s.Kind = 1 then c.2.2.1 else c.2.2.1 + s.N, if s.Kind = 2 then c.2.2.2 else c.2.2.2 + s.N) := rfl
theorem axis_Hull_eq (a : List GAxisStep) (fr to : Int) (hg : GoodA a) (h0 : 0 ≤ fr ∧ fr ≤ 2147483647) (h1 : 0 ≤ to ∧ to ≤ 2147483647) : axis_Hull a fr to = some (hullL fr to a (0, 0, 0, 0)) := by
  unfold axis_Hull
  rw [iter_walk (f := fun (a_1 : Int × Int × Int × Int × Int) => axis_Hull_L1 a fr to a_1.1 a_1.2.1 a_1.2.2.1 a_1.2.2.2.1 a_1.2.2.2.2) a (fun (c : Int × Int × Int × Int) k => (c.1, c.2.1, c.2.2.1, c.2.2.2, (k : Int))) (hullL fr to)
    (fun k c => Run a k c.2.2.1 c.2.2.2)
    (fun k c hk hI => by
      left
      have hs := stp_at hg.stp hk
      have hnx := hI.nx hg hk
      have hgl := hg.len
      unfold axis_Hull_L1
      rw [hullL_cons]
      simp only
      rw [if_pos (by simpa using hk), idx_nat hk, bnd1_some, chk_nat (by omega)]
      obtain ⟨fi, la, f, t⟩ := c
      simp only at hnx ⊢
      generalize a[k]! = x at hs hnx ⊢
      obtain ⟨q1, q2, q3, q4, q5, q6, q7⟩ := hnx
      unfold Stp at hs
      simp only [oldN, nowN] at q7
      rw [chk_ok (x := t + x.N) (by omega) (by omega), chk_ok (x := f + x.N) (by omega) (by omega)]
      simp only [bnd1_some]
      rw [chk_ok (x := t + max fr f) (by omega) (by omega), chk_ok (x := t + min to (f + x.N)) (by omega) (by omega)]
      simp only [bnd1_some]
      rw [chk_ok (by omega) (by omega), chk_ok (by omega) (by omega)]
      refine ⟨_, ?_, ?_, rfl⟩
      · simp only [bnd1_some]
        have d01 : x.Kind = 0 ∨ x.Kind = 1 ∨ x.Kind = 2 := by omega
        generalize max fr f = mx
        generalize min to (f + x.N) = mn
        rcases d01 with d | d | d
        · by_cases e : mx < mn
          · by_cases e2 : la = 0 <;> simp [d, e, e2]
          · simp [d, e]
        · simp [d]
        · simp [d]
      · refine q7 _ _ ?_ ?_ ?_ ?_ <;> simp only <;> split <;> omega)
    (fun c hI => by unfold axis_Hull_L1; rw [if_neg (by simp)]; rfl) (0, 0, 0, 0) hg.run (0, 0, 0, 0, 0) rfl]
  rfl
theorem hull_PR (W : Int → Int) (fr to : Int) (l : List GAxisStep) (h : ∀ s ∈ l, Stp s) (fi la f t : Int) (ht : 0 ≤ t) (hW : ∀ r, f ≤ r → W r = ctlV (plo r l (f, t))) (hP : PR W fr (min to f) (fi, la)) (hto : to ≤ f + oldLen l) :
    PR W fr to (hullL fr to l (fi, la, f, t)) := by
  induction l generalizing fi la f t with
  | nil =>
    have : min to f = to := by simp [oldLen] at hto; omega
    rw [this] at hP
    exact hP
  | cons s l ih =>
    have hs := h s (List.mem_cons_self ..)
    unfold Stp at hs
    rw [oldLen_cons] at hto
    unfold oldN at hto
    rw [hullL_cons]
    have d01 : s.Kind = 0 ∨ s.Kind = 1 ∨ s.Kind = 2 := by omega
    rcases d01 with d | d | d
    · have n1 : ¬ s.Kind = 1 := by omega
      have n2 : ¬ s.Kind = 2 := by omega
      simp only [d, true_and, show ¬ ((0 : Int) = 1) by decide, show ¬ ((0 : Int) = 2) by decide, if_false]
      rw [if_neg n1] at hto
      refine ih (fun x hx => h x (List.mem_cons_of_mem _ hx)) _ _ _ _ (by omega) (fun r hr => ?_) ?_ (by omega)
      · rw [hW r (by omega), plo_cons, if_neg n1, if_neg (by omega), if_pos d]
      · have hv : ∀ r, f ≤ r → r < f + s.N → W r = t + r - f := fun r b1 b2 => by rw [hW r b1, plo_cons, if_neg n1, if_pos b2, if_pos d]; rfl
        by_cases e : max fr f < min to (f + s.N)
        · rw [if_pos e, if_pos e]
          have := hP.more (h2 := min to (f + s.N)) (m := max fr f) (by omega) e (fun r b1 b2 => by rw [hv r (by omega) (by omega)]; omega)
          rw [hv _ (by omega) (by omega), hv _ (by omega) (by omega)] at this
          rwa [show t + (min to (f + s.N) - 1) - f + 1 = t + min to (f + s.N) - f by omega] at this
        · rw [if_neg e, if_neg e]
          exact hP.wide (fun r b1 b2 b3 => by omega) (by omega)
    · simp only [d, show ¬ ((1 : Int) = 0) by decide, show ¬ ((1 : Int) = 2) by decide, false_and, if_true, if_false]
      rw [if_pos d] at hto
      refine ih (fun x hx => h x (List.mem_cons_of_mem _ hx)) _ _ _ _ (by omega) (fun r hr => ?_) hP (by omega)
      rw [hW r hr, plo_cons, if_pos d]
    · have n1 : ¬ s.Kind = 1 := by omega
      simp only [d, show ¬ ((2 : Int) = 0) by decide, show ¬ ((2 : Int) = 1) by decide, false_and, if_true, if_false]
      rw [if_neg n1] at hto
      have n0 : ¬ s.Kind = 0 := by omega
      refine ih (fun x hx => h x (List.mem_cons_of_mem _ hx)) _ _ _ _ (by omega) (fun r hr => ?_) ?_ (by omega)
      · rw [hW r (by omega), plo_cons, if_neg n1, if_neg (by omega), if_neg n0]
      · exact hP.wide (fun r b1 b2 b3 => by rw [hW r (by omega), plo_cons, if_neg n1, if_pos (by omega), if_neg n0]; decide) (by omega)
theorem who_bnd (r : Int) (xs : List Int) (i : Int) (hi : 0 ≤ i) : -1 ≤ ctlV (who r xs i) ∧ ctlV (who r xs i) ≤ i + xs.length := by
  induction xs generalizing i with
  | nil => simp [who, ctlV]; omega
  | cons x xs ih =>
    rw [who]
    split
    · simp [ctlV]; omega
    · have := ih (i + 1) (by omega); rw [List.length_cons]; omega
theorem ref_RestOf_PR (us : List Int) (fr to : Int) (hm : us.length ≤ 4194304) (h0 : 0 ≤ fr) (h1 : fr ≤ to) (h2 : to ≤ 2147483647) : ∃ c : Int × Int, ref_RestOf us fr to = some c ∧ PR (fun r => ctlV (who r (rowsL us 0) 0)) fr to c := by
  obtain ⟨b, hb, hq⟩ := iter_hoare (f := fun (a : Int × Int × Int) => ref_RestOf_L1 us fr a.1 a.2.1 a.2.2) (to - fr).toNat
    (fun k s => s.2.2 = to - 1 - k ∧ PR (fun r => ctlV (who r (rowsL us 0) 0)) (to - k) to (s.1, s.2.1)) (fun b => PR (fun r => ctlV (who r (rowsL us 0) 0)) fr to b)
    (fun k s hk hR => by
      left
      obtain ⟨lo, hi, row⟩ := s
      obtain ⟨rfl, hR⟩ := hR
      simp only at hR ⊢
      have hle := hR.less
      unfold ref_RestOf_L1
      rw [if_pos (by simp; omega), ref_Where_eq us _ (by omega), bnd1_some, chk_ok (x := to - 1 - (k : Int) - 1) (by omega) (by omega)]
      rw [show to - (k : Int) - 1 = to - 1 - (k : Int) by omega] at hle
      have hbd := who_bnd (to - 1 - (k : Int)) (rowsL us 0) 0 (by omega)
      have hrl := rows_len us 0
      generalize hw : ctlV (who (to - 1 - (k : Int)) (rowsL us 0) 0) = w at hbd hle ⊢
      rw [chk_ok (x := w + 1) (by omega) (by omega)]
      by_cases e : 0 ≤ w
      · rw [if_pos ⟨e, by omega⟩] at hle
        by_cases e2 : hi = 0
        · refine ⟨(w, w + 1, to - 1 - (k : Int) - 1), by simp [e, e2], by simp; omega, ?_⟩
          simp only [e2, if_true] at hle
          rw [show to - ((k + 1 : Nat) : Int) = to - 1 - (k : Int) by omega]; exact hle
        · refine ⟨(w, hi, to - 1 - (k : Int) - 1), by simp [e, e2], by simp; omega, ?_⟩
          simp only [e2, if_false] at hle
          rw [show to - ((k + 1 : Nat) : Int) = to - 1 - (k : Int) by omega]; exact hle
      · rw [if_neg (fun x => e x.1)] at hle
        refine ⟨(lo, hi, to - 1 - (k : Int) - 1), by simp [e], by simp; omega, ?_⟩
        rw [show to - ((k + 1 : Nat) : Int) = to - 1 - (k : Int) by omega]; exact hle)
    (fun s hR => by
      obtain ⟨lo, hi, row⟩ := s
      obtain ⟨rfl, hR⟩ := hR
      simp only at hR ⊢
      unfold ref_RestOf_L1
      refine ⟨(lo, hi), by rw [if_neg (by simp; omega)], ?_⟩
      rwa [show to - (((to - fr).toNat : Nat) : Int) = fr by omega] at hR)
    (s := (0, 0, to - 1)) ⟨by simp, .inl ⟨rfl, fun r h1 h2 => by simp at h1; omega⟩⟩
  unfold ref_RestOf
  rw [chk_ok (by omega) (by omega), bnd1_some, hb]
  exact ⟨b, rfl, hq⟩
end Go.Proofs.Ytdeglnbioiicaaa.Al


namespace Go.Proofs.Ytdeglnbioiicaaa.Al
def stripU : Un → Un
  | .a e => .a e
  | .r c _ => .r c []
theorem uOf_strip : ∀ (A : List (List GElem)) (C : List Bool) (T : List (List GAttr)), uOf A C (List.replicate T.length []) = (uOf A C T).map stripU
  | [], _, _ => by simp [uOf]
  | a :: A, [], T => by
    have e : ∀ (T : List (List GAttr)), uOf (a :: A) [] T = a.map Un.a := fun T => by cases T <;> rfl
    rw [e, e, List.map_map]; rfl
  | a :: A, c :: C, [] => by
    show a.map Un.a = (a.map Un.a).map stripU
    rw [List.map_map]; rfl
  | a :: A, c :: C, t :: T => by
    rw [List.length_cons, List.replicate_succ, uOf, uOf, uOf_strip A C T, List.map_append, List.map_cons, List.map_map]; rfl
theorem wU_bare (w : Axis_Writer) (u : Un) : wU w (bareU u) = wU w u := by
  match u with
  | .a e => rfl
  | .r true t => rfl
  | .r false t => rfl
theorem wU_strip (w : Axis_Writer) (u : Un) : wU w (stripU u) = wU w u := by
  match u with
  | .a e => rfl
  | .r true t => rfl
  | .r false t => rfl
theorem fold_map {f : Un → Un} (h : ∀ w u, wU w (f u) = wU w u) : ∀ (us : List Un) (w : Axis_Writer), (us.map f).foldl wU w = us.foldl wU w
  | [], _ => rfl
  | u :: us, w => by rw [List.map_cons, List.foldl_cons, List.foldl_cons, h, fold_map h us]
theorem wOn_strip (us : List Un) : wOn (us.map stripU) = wOn (us.map bareU) := by
  unfold wOn
  rw [fold_map wU_strip, fold_map wU_bare]
theorem mk24 {n : Nat} (h : n ≤ 4294967296) {z : List GAttr} : mk 24 (n : Int) z = some (List.replicate n z) := by
  unfold mk
  rw [if_pos (by omega), Int.toNat_natCast]
theorem law_plain_steps (d : List GStep) (x : Ref_Act) (h : WfA x) (hx : x.us = unitsD d) (hb : (unitsD d).length ≤ 4294967296) {β : Type} (F : List GAxisStep → Option β) :
    (bnd1 (law_plain x) fun (r9 : Ref_Act) => bnd1 (law_steps r9) F) = F (axD d) := by
  have hcl := h.cuts_le
  rw [hx] at hcl
  have hat := h.attrs
  unfold law_plain
  rw [mk24 (by omega), bnd1_some, bnd1_some]
  have hu : (⟨x.Adds, x.Cuts, List.replicate x.Cuts.length []⟩ : Ref_Act).us = (unitsD d).map stripU := by
    show uOf x.Adds x.Cuts (List.replicate x.Cuts.length []) = _
    rw [← hat, uOf_strip]
    show x.us.map stripU = _
    rw [hx]
  rw [law_steps_eq ⟨x.Adds, x.Cuts, List.replicate x.Cuts.length []⟩ ⟨h.adds, by simp⟩ (by
    rw [hu]
    intro u hu
    obtain ⟨v, _, rfl⟩ := List.mem_map.1 hu
    cases v with
    | a e => trivial
    | r c t => exact rfl) (by rw [hu, List.length_map]; exact hb), bnd1_some, hu, wOn_strip]
  rfl
abbrev plW (A : List GAxisStep) (r : Int) : Int := ctlV (plo r A (0, 0))
def img (A : List GAxisStep) (s : GSpan) : Int × Int := hullL s.From s.To A (0, 0, 0, 0)
theorem img_PR {A : List GAxisStep} (h : ∀ s ∈ A, Stp s) (s : GSpan) (h0 : 0 ≤ s.From) (h1 : s.To ≤ oldLen A) : PR (plW A) s.From s.To (img A s) :=
  hull_PR (plW A) s.From s.To A h 0 0 0 0 (by omega) (fun r _ => rfl) (.inl ⟨rfl, fun r h1 h2 => by omega⟩) (by omega)
def addS (out : List GSpan) (c : Int × Int) : List GSpan :=
  if c.1 = c.2 then out else if 0 < out.length ∧ out[out.length - 1]!.To = c.1 then out.set (out.length - 1) ⟨out[out.length - 1]!.From, c.2⟩ else out ++ [⟨c.1, c.2⟩]
def imgs (A : List GAxisStep) (l : List GSpan) : List GSpan := l.foldl (fun o s => addS o (img A s)) []
def FitS (A : List GAxisStep) (l : List GSpan) : Prop := ∀ k, k < l.length → 0 ≤ l[k]!.From ∧ l[k]!.From < l[k]!.To ∧ l[k]!.To ≤ oldLen A ∧ (0 < k → l[k - 1]!.To < l[k]!.From)
structure ImI (A : List GAxisStep) (l : List GSpan) (k : Nat) (out : List GSpan) : Prop where
  len : out.length ≤ k
  last : 0 < out.length → 0 < k ∧ ∃ r1, 0 ≤ r1 ∧ r1 < l[k - 1]!.To ∧ 0 ≤ plW A r1 ∧ out[out.length - 1]!.To = plW A r1 + 1
theorem im_step {A : List GAxisStep} (hA : ∀ s ∈ A, Stp s) {l : List GSpan} (hl : FitS A l) {k : Nat} (hk : k < l.length) {out : List GSpan} (hI : ImI A l k out) :
    ImI A l (k + 1) (addS out (img A l[k]!)) ∧ ((img A l[k]!).1 = (img A l[k]!).2 ∨ (img A l[k]!).1 < (img A l[k]!).2 ∧ (0 < out.length → out[out.length - 1]!.To ≤ (img A l[k]!).1)) := by
  obtain ⟨f1, f2, f3, f4⟩ := hl k hk
  have hP := img_PR hA l[k]! f1 f3
  have hlen := hI.len
  generalize img A l[k]! = c at hP
  rcases hP with ⟨rfl, hno⟩ | ⟨r0, r1, a1, a2, a3, a4, a5, a6, rfl⟩
  · refine ⟨⟨by unfold addS; rw [if_pos rfl]; omega, fun h => ?_⟩, .inl rfl⟩
    unfold addS at h ⊢
    rw [if_pos rfl] at h ⊢
    obtain ⟨k0, r1, q1, q2, q3, q4⟩ := hI.last h
    have := f4 k0
    exact ⟨by omega, r1, q1, by rw [show k + 1 - 1 = k by omega]; omega, q3, q4⟩
  · have hlt : plW A r0 < plW A r1 + 1 := by
      by_cases e : r0 = r1
      · subst e; omega
      · have := plo_mono A r0 r1 0 0 hA (by omega) (by omega) a4 a5
        show ctlV _ < ctlV _ + 1
        omega
    have hle : 0 < out.length → out[out.length - 1]!.To ≤ plW A r0 := by
      intro h
      obtain ⟨k0, q, q1, q2, q3, q4⟩ := hI.last h
      have := f4 k0
      have := plo_mono A q r0 0 0 hA (by omega) (by omega) q3 a4
      rw [q4]
      show ctlV _ + 1 ≤ ctlV _
      omega
    refine ⟨?_, .inr ⟨hlt, hle⟩⟩
    unfold addS
    dsimp only
    rw [if_neg (by omega)]
    split
    · rename_i h
      refine ⟨by rw [List.length_set]; omega, fun _ => ⟨by omega, r1, by omega, by rw [show k + 1 - 1 = k by omega]; omega, a5, ?_⟩⟩
      rw [List.length_set, getElem!_pos _ _ (by rw [List.length_set]; omega), List.getElem_set_self]
    · refine ⟨by simp; omega, fun _ => ⟨by omega, r1, by omega, by rw [show k + 1 - 1 = k by omega]; omega, a5, ?_⟩⟩
      rw [List.length_append, List.length_singleton, show out.length + 1 - 1 = out.length by omega, getElem!_pos _ _ (by simp), List.getElem_append_right (by omega)]
      simp
theorem im_all {A : List GAxisStep} (hA : ∀ s ∈ A, Stp s) {l : List GSpan} (hl : FitS A l) : ∀ k, k ≤ l.length → ImI A l k (imgs A (l.take k))
  | 0, _ => ⟨by simp [imgs], fun h => by simp [imgs] at h⟩
  | k + 1, h => by
    have := (im_step hA hl (k := k) (by omega) (im_all hA hl k (by omega))).1
    rw [take_at (by omega)]
    unfold imgs at this ⊢
    rw [List.foldl_append]
    exact this
theorem imgs_at {A : List GAxisStep} {l : List GSpan} {k : Nat} (hk : k < l.length) : imgs A (l.take (k + 1)) = addS (imgs A (l.take k)) (img A l[k]!) := by
  rw [take_at hk]
  unfold imgs
  rw [List.foldl_append]
  rfl
end Go.Proofs.Ytdeglnbioiicaaa.Al


namespace Go.Proofs.Ytdeglnbioiicaaa.Al
theorem span_add_eq {out : List GSpan} {c : Int × Int} (h : c.1 < c.2) (hle : 0 < out.length → out[out.length - 1]!.To ≤ c.1) (hm : out.length + 1 ≤ 1099511627776) : span_add out ⟨c.1, c.2⟩ = some (addS out c) := by
  unfold span_add addS
  rw [if_neg (show ¬ c.1 = c.2 by omega)]
  by_cases h0 : 0 < out.length
  · have h1 := hle h0
    rw [show ((out.length : Int) - 1) = ((out.length - 1 : Nat) : Int) by omega, chk64 (by omega) (by omega), bnd1_some, decide_eq_true (show (0 : Int) ≤ ((out.length - 1 : Nat) : Int) by omega), show (true == true) = true from rfl, gd_true, idx_nat (by omega), bnd1_some, Bool.true_and]
    by_cases h2 : out[out.length - 1]!.To = c.1
    · rw [if_pos (by rw [decide_eq_true_eq]; show c.1 ≤ _; omega), bnd1_some, if_pos ⟨h0, h2⟩, set_eq, show max out[out.length - 1]!.To c.2 = c.2 by omega]
    · rw [if_neg (by rw [decide_eq_true_eq]; show ¬ c.1 ≤ _; omega), app16 hm, bnd1_some, if_neg (fun h => h2 h.2)]
  · have : out = [] := List.eq_nil_of_length_eq_zero (by omega)
    subst this
    rw [show ((([] : List GSpan).length : Int) - 1) = -1 from rfl, chk64 (by decide) (by decide), bnd1_some, show decide ((0 : Int) ≤ -1) = false by decide, show (false == true) = false from rfl, gd_false, bnd1_some, Bool.false_and, if_neg (show ¬ (false = true) by decide), app16 hm, bnd1_some, if_neg (fun h => h0 h.1)]
theorem fit_of {A : List GAxisStep} {l : List GSpan} (h : setErr l = 0) (hlast : 0 < l.length → l[l.length - 1]!.To ≤ oldLen A) : FitS A l := by
  intro k hk
  obtain ⟨f1, f2, f3, f4⟩ := setErr_all h hk
  have key : ∀ j, k + j < l.length → l[k]!.To ≤ l[k + j]!.To := by
    intro j
    induction j with
    | zero => intro _; exact Int.le_refl _
    | succ j ih =>
      intro hj
      have i1 := ih (by omega)
      obtain ⟨g1, g2, g3, g4⟩ := setErr_all h hj
      have g5 := g4 (by omega)
      rw [show k + (j + 1) - 1 = k + j by omega] at g5
      omega
  have h1 := key (l.length - 1 - k) (by omega)
  rw [show k + (l.length - 1 - k) = l.length - 1 by omega] at h1
  have h2 := hlast (by omega)
  exact ⟨f1, f2, by omega, f4⟩
theorem hull_img (A : List GAxisStep) (s : GSpan) (hg : GoodA A) (h0 : 0 ≤ s.From) (h1 : s.From < s.To) (h2 : s.To ≤ oldLen A) : axis_Hull A s.From s.To = some ((img A s).1, (img A s).2) := by
  have := hg.olds
  rw [axis_Hull_eq A s.From s.To hg (by omega) (by omega)]; rfl
theorem span_Through_loop (A : List GAxisStep) (hg : GoodA A) (l : List GSpan) (hl : FitS A l) (hm : l.length ≤ 1073741824) :
    iter (fun (a : Int × (List GSpan)) => span_Through_L1 l A a.1 a.2) (0, []) = some (imgs A l) := by
  have key : ∃ r, iter (fun (a : Int × (List GSpan)) => span_Through_L1 l A a.1 a.2) (0, []) = some r ∧ r = imgs A l := by
    refine iter_hoare l.length (fun k st => st = ((k : Int), imgs A (l.take k))) _ ?_ ?_ rfl
    · rintro k st hk rfl
      obtain ⟨f1, f2, f3, f4⟩ := hl k hk
      have hI := im_all hg.stp hl k (by omega)
      have hlen := hI.len
      obtain ⟨_, hc⟩ := im_step hg.stp hl hk hI
      refine .inl ⟨_, ?_, rfl⟩
      rw [imgs_at hk]
      show span_Through_L1 l A (k : Int) _ = _
      unfold span_Through_L1
      rw [if_pos (by simpa using hk), idx_nat hk, bnd1_some, hull_img A _ hg f1 f2 f3, bnd2_some]
      generalize img A l[k]! = c at hc
      generalize imgs A (l.take k) = out at hc hlen
      rcases hc with hc | ⟨hc, hle⟩
      · rw [if_neg (by rw [decide_eq_true_eq]; omega), bnd1_some, chk_nat (by omega), bnd1_some]
        unfold addS
        rw [if_pos hc]
      · rw [if_pos (by rw [decide_eq_true_eq]; exact hc), span_add_eq hc hle (by omega), bnd1_some, bnd1_some, chk_nat (by omega), bnd1_some]
    · rintro st rfl
      refine ⟨_, ?_, rfl⟩
      rw [List.take_length]
      show span_Through_L1 l A (l.length : Int) _ = _
      unfold span_Through_L1
      rw [if_neg (by simp)]
  obtain ⟨r, h1, h2⟩ := key
  rw [h1, h2]
theorem axD_len {d : List GStep} (hg : GoodD d) (ho : OkD d) : (axD d).length ≤ d.length := by
  have := axI_all hg ho d.length (Nat.le_refl _)
  rw [List.take_length] at this
  exact this.len
theorem span_Move_eq (d : List GStep) (at1 : Int) (rt : Bool) (ho : OkD d) : span_Move d at1 rt = some (if delErr d ≠ 0 then (0, delErr d) else if at1 < 0 ∨ oldD d < at1 then (0, 2) else (gpU at1 rt (units (axD d)) 0, 0)) := by
  unfold span_Move
  rw [delta_Axis_eq d ho]
  by_cases e1 : delErr d ≠ 0
  · rw [if_pos e1, bnd2_some, if_pos (ndT e1), if_pos e1]
  have e1 := Classical.not_not.1 e1
  have hg := goodD_of e1
  have hal := axD_len hg ho
  have hdl := ho.len
  rw [if_neg (show ¬ (delErr d ≠ 0) by simpa using e1), if_neg (show ¬ (delErr d ≠ 0) by simpa using e1), bnd2_some, if_neg (by decide), axis_Gap_eq _ _ _ (by omega), axD_good hg ho, if_neg (by decide), (axD_lens hg ho).1]
  split <;> rfl
theorem span_Through_eq (d : List GStep) (l : List GSpan) (ho : OkD d) (hm : l.length ≤ 1073741824) : span_Through d l = some (if delErr d ≠ 0 then ([], delErr d) else if setErr l ≠ 0 then ([], setErr l) else if 0 < l.length ∧ oldD d < l[l.length - 1]!.To then ([], 2) else (imgs (axD d) l, 0)) := by
  unfold span_Through
  rw [delta_Axis_eq d ho]
  by_cases e1 : delErr d ≠ 0
  · rw [if_pos e1, bnd2_some, if_pos (ndT e1), if_pos e1]
  have e1 := Classical.not_not.1 e1
  have hg := goodD_of e1
  have hal := axD_len hg ho
  have hdl := ho.len
  have hA := axD_good hg ho
  have hgA := goodA_of hA
  have hol := (axD_lens hg ho).1
  rw [if_neg (show ¬ (delErr d ≠ 0) by simpa using e1), if_neg (show ¬ (delErr d ≠ 0) by simpa using e1), bnd2_some, if_neg (by decide), span_Check_eq l (by omega), bnd1_some]
  by_cases e2 : setErr l ≠ 0
  · rw [if_pos (ndT e2), if_pos e2]
  have e2 := Classical.not_not.1 e2
  rw [if_neg (ndF e2), if_neg (show ¬ (setErr l ≠ 0) by simpa using e2), axis_Lengths_eq _ (by omega), hA, if_neg (by decide), bnd3_some, hol]
  by_cases h0 : 0 < l.length
  · rw [decide_eq_true (show (0 : Int) < (l.length : Int) by omega), show (true == true) = true from rfl, gd_true, show ((l.length : Int) - 1) = ((l.length - 1 : Nat) : Int) by omega, chk64 (by omega) (by omega), bnd1_some, gd_true, idx_nat (by omega), bnd1_some, Bool.true_and]
    by_cases h1 : oldD d < l[l.length - 1]!.To
    · rw [if_pos (by rw [decide_eq_true_eq]; exact h1), if_pos ⟨h0, h1⟩]
    · rw [if_neg (by rw [decide_eq_true_eq]; exact h1), if_neg (fun h => h1 h.2), span_Through_loop _ hgA l (fit_of e2 fun _ => by omega) hm, bnd1_some]
  · rw [decide_eq_false (show ¬ (0 : Int) < (l.length : Int) by omega), show (false == true) = false from rfl, gd_false, bnd1_some, gd_false, bnd1_some, Bool.false_and, if_neg (show ¬ (false = true) by decide), if_neg (fun h => h0 h.1), span_Through_loop _ hgA l (fit_of e2 fun h => absurd h h0) hm, bnd1_some]
theorem rest_img (A : List GAxisStep) (s : GSpan) (hg : GoodA A) (hu : (units A).length ≤ 4194304) (h0 : 0 ≤ s.From) (h1 : s.From < s.To) (h2 : s.To ≤ oldLen A) : ref_RestOf (units A) s.From s.To = some ((img A s).1, (img A s).2) := by
  have := hg.olds
  obtain ⟨c, hc, hP⟩ := ref_RestOf_PR (units A) s.From s.To hu h0 (by omega) (by omega)
  have hH := img_PR hg.stp s h0 h2
  have h3 := hP.congr (V := plW A) (fun r hr => where_place A hg.stp 0 r 0 (by omega) (by omega))
  rw [hc, h3.uniq hH]
theorem span_Range_eq (d : List GStep) (s : GSpan) (ho : OkD d) (hg : GoodD d) (he : delErr d = 0) (h0 : 0 ≤ s.From) (h1 : s.From < s.To) (h2 : s.To ≤ oldD d) : span_Range d s = some (⟨(img (axD d) s).1, (img (axD d) s).2⟩, 0) := by
  have hA := axD_good hg ho
  have hgA := goodA_of hA
  have hol := (axD_lens hg ho).1
  have hal := axD_len hg ho
  have hdl := ho.len
  unfold span_Range axis_Rest
  rw [delta_Axis_eq d ho, if_neg (show ¬ (delErr d ≠ 0) by simpa using he), bnd2_some, if_neg (by decide), axis_Check_eq _ (by omega), bnd1_some, hA, if_neg (by decide), axis_lengths_eq _ hgA, bnd2_some, hol]
  rw [if_neg (by simp only [Bool.or_eq_true, decide_eq_true_eq]; omega), hull_img _ s hgA h0 h1 (by omega), bnd2_some, bnd3_some]
theorem ref_Through_loop (d : List GStep) (ho : OkD d) (hg : GoodD d) (he : delErr d = 0) (l : List GSpan) (hl : FitS (axD d) l) (hm : l.length ≤ 1073741824) (hu : (units (axD d)).length ≤ 4194304) :
    iter (fun (a : Int × (List GSpan)) => law_SpanThroughMatches_L1 d l (units (axD d)) a.1 a.2) (0, []) = some (.nrm (imgs (axD d) l)) := by
  have hgA := goodA_of (axD_good hg ho)
  have hol := (axD_lens hg ho).1
  have key : ∃ r, iter (fun (a : Int × (List GSpan)) => law_SpanThroughMatches_L1 d l (units (axD d)) a.1 a.2) (0, []) = some r ∧ r = .nrm (imgs (axD d) l) := by
    refine iter_hoare l.length (fun k st => st = ((k : Int), imgs (axD d) (l.take k))) _ ?_ ?_ rfl
    · rintro k st hk rfl
      obtain ⟨f1, f2, f3, f4⟩ := hl k hk
      have hI := im_all hgA.stp hl k (by omega)
      have hlen := hI.len
      refine .inl ⟨_, ?_, rfl⟩
      rw [imgs_at hk]
      show law_SpanThroughMatches_L1 d l (units (axD d)) (k : Int) _ = _
      unfold law_SpanThroughMatches_L1
      rw [if_pos (by simpa using hk), idx_nat hk, bnd1_some, rest_img _ _ hgA hu f1 f2 f3, bnd2_some, span_Range_eq d _ ho hg he f1 f2 (by omega), bnd2_some]
      generalize img (axD d) l[k]! = c
      generalize imgs (axD d) (l.take k) = out at hlen
      rw [if_neg (by simp)]
      dsimp only
      unfold addS
      by_cases hc : c.1 = c.2
      · rw [if_pos (by rw [decide_eq_true_eq]; exact hc), ctl1_nrm, chk_nat (by omega), bnd1_some, if_pos hc]
      · rw [if_neg (by rw [decide_eq_true_eq]; exact hc), if_neg hc]
        by_cases h0 : 0 < out.length
        · rw [show ((out.length : Int) - 1) = ((out.length - 1 : Nat) : Int) by omega, chk64 (by omega) (by omega), bnd1_some, decide_eq_true (show (0 : Int) ≤ ((out.length - 1 : Nat) : Int) by omega), show (true == true) = true from rfl, gd_true, idx_nat (by omega), bnd1_some, Bool.true_and]
          by_cases h2 : out[out.length - 1]!.To = c.1
          · rw [if_pos (by rw [decide_eq_true_eq]; exact h2), bnd1_some, ctl1_nrm, chk_nat (by omega), bnd1_some, if_pos ⟨h0, h2⟩, set_eq]
          · rw [if_neg (by rw [decide_eq_true_eq]; exact h2), app16 (by omega), bnd1_some, ctl1_nrm, chk_nat (by omega), bnd1_some, if_neg (fun h => h2 h.2)]
        · have : out = [] := List.eq_nil_of_length_eq_zero (by omega)
          subst this
          rw [show ((([] : List GSpan).length : Int) - 1) = -1 from rfl, chk64 (by decide) (by decide), bnd1_some, show decide ((0 : Int) ≤ -1) = false by decide, show (false == true) = false from rfl, gd_false, bnd1_some, Bool.false_and, if_neg (show ¬ (false = true) by decide), app16 (by simp), bnd1_some, ctl1_nrm, chk_nat (by omega), bnd1_some, if_neg (fun h => h0 h.1)]
    · rintro st rfl
      refine ⟨_, ?_, rfl⟩
      rw [List.take_length]
      show law_SpanThroughMatches_L1 d l (units (axD d)) (l.length : Int) _ = _
      unfold law_SpanThroughMatches_L1
      rw [if_neg (by simp)]
  obtain ⟨r, h1, h2⟩ := key
  rw [h1, h2]
end Go.Proofs.Ytdeglnbioiicaaa.Al


namespace Go.Proofs.Ytdeglnbioiicaaa.Al
theorem law_SpanThrough_true (d : List GStep) (l : List GSpan) (at1 : Int) (rt : Bool) (ho : OkD d) (hs : SmD d) (hm : l.length ≤ 1073741824) : law_SpanThroughMatches d l at1 rt = some true := by
  unfold law_SpanThroughMatches
  rw [law_spans_eq, bnd1_some, show ((!true) == false) = true from rfl, gd_true, law_deltas_eq, bnd1_some, if_neg (by decide), span_Move_eq d at1 rt ho, span_Through_eq d l ho hm]
  by_cases e1 : delErr d ≠ 0
  · rw [if_pos e1, if_pos e1, bnd2_some, bnd2_some, ref_DeltaError_eq d ho, bnd1_some, if_pos (ndT e1)]
    simp
  have e1 := Classical.not_not.1 e1
  have hg := goodD_of e1
  have hgA := goodA_of (axD_good hg ho)
  have hol := (axD_lens hg ho).1
  have hf := fl_form (wOn_wb ((unitsD d).map bareU))
  have hsl : sizeLen (axD d) = (unitsD d).length := by
    have := hf.2.1
    rw [List.length_map] at this
    exact this
  have hul := unitsD_size hg.st
  have hsum := hs.sum
  have hdl := hs.len
  rw [if_neg (show ¬ (delErr d ≠ 0) by simpa using e1), if_neg (show ¬ (delErr d ≠ 0) by simpa using e1)]
  generalize hmv : (if at1 < 0 ∨ oldD d < at1 then ((0 : Int), (2 : Int)) else (gpU at1 rt (units (axD d)) 0, 0)) = mv
  generalize hth : (if setErr l ≠ 0 then (([] : List GSpan), setErr l) else if 0 < l.length ∧ oldD d < l[l.length - 1]!.To then ([], 2) else (imgs (axD d) l, 0)) = th
  obtain ⟨mv1, mv2⟩ := mv
  obtain ⟨th1, th2⟩ := th
  rw [bnd2_some, bnd2_some, ref_DeltaError_eq d ho, e1, bnd1_some, if_neg (by decide), law_short_eq d ho hg, bnd1_some]
  by_cases few : oldD d ≤ 300
  · have hun : ((units (axD d)).length : Int) = sizeLen (axD d) := (size_pos hgA.stp).2.1
    obtain ⟨x, x1, x2, x3⟩ := ref_ActOf_eq d (fun s hs => by
      have := (hg.st s hs).kind
      rcases this with ⟨k, e, n1, n2, _⟩ | ⟨k, e, _, n1, n2⟩ | ⟨k, n, _, _, _⟩ <;> omega) (by omega) (by omega)
    rw [decide_eq_true few, if_neg (by decide), x1, bnd1_some, law_plain_steps d x x2 x3 (by omega), ref_Units_eq _ hgA.stp (by omega), bnd1_some, ref_DeltaSize_eq d ho hg, bnd1_some, ref_In_eq, bnd1_some]
    have hgap := ref_GapAt_eq (units (axD d)) at1 rt (by omega)
    have hmove : (if (!(decide (0 ≤ at1) && decide (at1 ≤ oldD d))) = true then (if ((!decide (mv2 = 2)) || (!decide (mv1 = 0))) = true then (some (.ext false) : Option (Ctl Unit Bool)) else some (.nrm ())) else
        (bnd1 (gd ((!decide (mv2 = 0)) == false) (ref_GapAt (units (axD d)) at1 rt)) fun (r16 : Int) => if ((!decide (mv2 = 0)) || (!decide (mv1 = r16))) = true then some (.ext false) else some (.nrm ()))) = some (.nrm ()) := by
      by_cases c : at1 < 0 ∨ oldD d < at1
      · rw [if_pos c] at hmv
        injection hmv with q1 q2
        subst q1; subst q2
        rw [if_pos (by simp only [Bool.not_eq_true', Bool.and_eq_false_iff, decide_eq_false_iff_not]; omega), if_neg (by decide)]
      · rw [if_neg c] at hmv
        injection hmv with q1 q2
        subst q1; subst q2
        rw [if_neg (by simp only [Bool.not_eq_true', Bool.and_eq_false_iff, decide_eq_false_iff_not]; omega), hgap, show ((!decide ((0 : Int) = 0)) == false) = true by decide, gd_true, bnd1_some, if_neg (by simp)]
    rw [hmove, ctl1_nrm, law_setError_eq l (by omega), bnd1_some]
    by_cases e2 : setErr l ≠ 0
    · rw [if_pos e2] at hth
      injection hth with q1 q2
      subst q1; subst q2
      rw [decide_eq_false e2, Bool.false_and, show (false == true) = false from rfl, gd_false, bnd1_some, gd_false, bnd1_some, Bool.false_and, if_neg (show ¬ (false = true) by decide), bnd1_some, if_pos (ndT e2)]
      simp
    have e2 := Classical.not_not.1 e2
    rw [if_neg (show ¬ (setErr l ≠ 0) by simpa using e2)] at hth
    have hf3 : (bnd1 (gd (((decide (setErr l = 0)) && (decide (0 < (l.length : Int)))) == true) (chk .i64 ((l.length : Int) - 1))) fun (x1 : Int) =>
        bnd1 (gd (((decide (setErr l = 0)) && (decide (0 < (l.length : Int)))) == true) (idx l x1)) fun (x2 : GSpan) =>
        bnd1 (if (((decide (setErr l = 0)) && (decide (0 < (l.length : Int)))) && (decide (oldD d < x2.To))) = true then some (2 : Int) else some (setErr l)) fun (f3 : Int) =>
        if (!decide (f3 = 0)) = true then some ((decide (th2 = f3)) && (decide ((th1.length : Int) = 0))) else (
          ctl1 (iter (fun (a : Int × (List GSpan)) => law_SpanThroughMatches_L1 d l (units (axD d)) a.1 a.2) (0, [])) fun (want4 : List GSpan) =>
          if ((!decide (th2 = 0)) || (!decide ((th1.length : Int) = (want4.length : Int)))) = true then some false else (
            ctl1 (iter (fun (a : Int) => law_SpanThroughMatches_L2 th1 want4 a) 0) fun (u4 : Unit) => some true))) = some true := by
      have tail : (∀ k, k < l.length → True) → FitS (axD d) l → th1 = imgs (axD d) l → th2 = 0 → (ctl1 (iter (fun (a : Int × (List GSpan)) => law_SpanThroughMatches_L1 d l (units (axD d)) a.1 a.2) (0, [])) fun (want4 : List GSpan) =>
          if ((!decide (th2 = 0)) || (!decide ((th1.length : Int) = (want4.length : Int)))) = true then some false else (
            ctl1 (iter (fun (a : Int) => law_SpanThroughMatches_L2 th1 want4 a) 0) fun (u4 : Unit) => some true)) = some true := by
        intro _ hfit q1 q2
        subst q1; subst q2
        have hil := (im_all hgA.stp hfit l.length (Nat.le_refl _)).len
        rw [List.take_length] at hil
        rw [ref_Through_loop d ho hg e1 l hfit hm (by omega), ctl1_nrm, if_neg (by simp)]
        generalize imgs (axD d) l = R at hil
        rw [iter_find (n := R.length) (fun _ => (none : Option Bool)) (fun k hk => by
          unfold law_SpanThroughMatches_L2
          rw [if_pos (by simpa using hk), idx_nat hk, bnd1_some, bnd1_some, if_neg (by simp), chk_nat (by omega)]; rfl) (by unfold law_SpanThroughMatches_L2; rw [if_neg (by simp)]), show (List.range R.length).findSome? (fun _ => (none : Option Bool)) = none by rw [List.findSome?_eq_none_iff]; intros; rfl]
        rfl
      rw [e2, show decide ((0 : Int) = 0) = true by decide, Bool.true_and]
      by_cases h0 : 0 < l.length
      · rw [decide_eq_true (show (0 : Int) < (l.length : Int) by omega), show (true == true) = true from rfl, gd_true, show ((l.length : Int) - 1) = ((l.length - 1 : Nat) : Int) by omega, chk64 (by omega) (by omega), bnd1_some, gd_true, idx_nat (by omega), bnd1_some, Bool.true_and]
        by_cases h1 : oldD d < l[l.length - 1]!.To
        · rw [if_pos ⟨h0, h1⟩] at hth
          injection hth with q1 q2
          subst q1; subst q2
          rw [if_pos (by rw [decide_eq_true_eq]; exact h1), bnd1_some, if_pos (by decide)]
          simp
        · rw [if_neg (fun h => h1 h.2)] at hth
          injection hth with q1 q2
          rw [if_neg (by rw [decide_eq_true_eq]; exact h1), bnd1_some, if_neg (by decide)]
          exact tail (fun _ _ => trivial) (fit_of e2 fun _ => by omega) q1.symm q2.symm
      · rw [if_neg (fun h => h0 h.1)] at hth
        injection hth with q1 q2
        rw [decide_eq_false (show ¬ (0 : Int) < (l.length : Int) by omega), show (false == true) = false from rfl, gd_false, bnd1_some, gd_false, bnd1_some, Bool.false_and, if_neg (show ¬ (false = true) by decide), bnd1_some, if_neg (by decide)]
        exact tail (fun _ _ => trivial) (fit_of e2 fun h => absurd h h0) q1.symm q2.symm
    exact hf3
  · rw [decide_eq_false few]; rfl
end Go.Proofs.Ytdeglnbioiicaaa.Al

