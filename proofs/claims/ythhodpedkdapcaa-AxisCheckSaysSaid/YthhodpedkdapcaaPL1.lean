/-
  Plain laws of lists of attributes: names, values, lists, changes.
-/
import Derived.Test.YthhodpedkdapcaaPL0
import Derived.Test.YthhodpedkdapcaaMod1
namespace Go.Proofs.Ythhodpedkdapcaa.Al
def chOK (c : UInt8) : Bool := (decide (97 ≤ c.toNat) && decide (c.toNat ≤ 122)) || (decide (48 ≤ c.toNat) && decide (c.toNat ≤ 57)) || decide (c.toNat = 46) || decide (c.toNat = 45)
def nameOK (s : List UInt8) : Bool := decide (1 ≤ s.length) && decide (s.length ≤ 24) && (decide (97 ≤ s[0]!.toNat) && decide (s[0]!.toNat ≤ 122)) && s.all chOK
def valCh (c : UInt8) : Bool := decide (32 ≤ c.toNat) && decide (c.toNat ≤ 126)
def valOK (s : List UInt8) : Bool := decide (1 ≤ s.length) && decide (s.length ≤ 200) && s.all valCh

theorem attr_Name_step (s : List UInt8) (k : Nat) (hk : k < s.length) (hm : s.length ≤ 9223372036854775807) : attr_Name_L1 s k = stepOf k (if chOK s[k]! then none else some false) := by
  unfold attr_Name_L1
  rw [if_pos (by simpa using hk), idx_nat hk, bnd1_some, chk_nat (by omega)]
  generalize s[k]! = c
  have e : (((((decide ((c.toNat : Int) < 97)) || (decide (122 < (c.toNat : Int)))) && ((decide ((c.toNat : Int) < 48)) || (decide (57 < (c.toNat : Int))))) && (!decide ((c.toNat : Int) = 46))) && (!decide ((c.toNat : Int) = 45))) = !chOK c := by
    unfold chOK
    rw [Bool.eq_iff_iff]
    simp only [Bool.or_eq_true, Bool.and_eq_true, decide_eq_true_eq, Bool.not_eq_true', decide_eq_false_iff_not, Bool.or_eq_false_iff, Bool.and_eq_false_imp]
    omega
  rw [e]
  cases chOK c <;> rfl
theorem attr_Name_eq (s : List UInt8) (hm : s.length ≤ 9223372036854775807) : attr_Name s = some (nameOK s) := by
  unfold attr_Name
  rw [iter_find (n := s.length) (fun k => if chOK s[k]! then none else some false) (fun k hk => attr_Name_step s k hk hm) (by unfold attr_Name_L1; rw [if_neg (by simp)]), find_all]
  unfold nameOK
  cases s with
  | nil => simp
  | cons c t =>
    have h0 : idx (c :: t) 0 = some c := rfl
    rw [h0]
    simp only [List.getElem!_cons_zero, decide_eq_false (List.cons_ne_nil c t), Bool.false_or]
    generalize (c :: t).all chOK = al
    generalize hl : (c :: t).length = L
    have hL : 1 ≤ L := by rw [← hl]; simp
    by_cases h1 : 24 < (L : Int)
    · have e1 : decide (L ≤ 24) = false := by simp; omega
      simp [h1, e1]
    · rw [decide_eq_false h1]
      simp only [Bool.false_or, beq_self_eq_true, gd_true, bnd1_some]
      have e1 : decide (L ≤ 24) = true := by simp; omega
      have e2 : decide (1 ≤ L) = true := by simp; omega
      rw [e1, e2]
      by_cases h2 : (c.toNat : Int) < 97
      · have e3 : decide (97 ≤ c.toNat) = false := by simp; omega
        simp [h2, e3]
      · rw [decide_eq_false h2]
        have e3 : decide (97 ≤ c.toNat) = true := by simp; omega
        simp only [beq_self_eq_true, gd_true, bnd1_some, Bool.false_or]
        by_cases h3 : 122 < (c.toNat : Int)
        · have e4 : decide (c.toNat ≤ 122) = false := by simp; omega
          simp [h3, e4]
        · have e4 : decide (c.toNat ≤ 122) = true := by simp; omega
          rw [if_neg (by simpa using h3), ctl_outOf, e3, e4]
          cases al <;> rfl
def refCh (k : Nat) (c : UInt8) : Bool := (decide (97 ≤ c.toNat) && decide (c.toNat ≤ 122)) || (decide (k ≠ 0) && chOK c)
theorem ref_Name_step (s : List UInt8) (k : Nat) (hk : k < s.length) (hm : s.length ≤ 9223372036854775807) :
    ref_Name_L1 s k = stepOf k (if refCh k s[k]! then none else some false) := by
  unfold ref_Name_L1
  rw [if_pos (by simpa using hk), idx_nat hk, bnd1_some, chk_nat (by omega)]
  generalize s[k]! = c
  have e : ((!((decide (97 ≤ (c.toNat : Int))) && (decide ((c.toNat : Int) ≤ 122)))) && ((decide ((k : Int) = 0)) || (((!decide ((c.toNat : Int) = 46)) && (!decide ((c.toNat : Int) = 45))) && ((decide ((c.toNat : Int) < 48)) || (decide (57 < (c.toNat : Int))))))) = !refCh k c := by
    unfold refCh chOK
    rw [Bool.eq_iff_iff]
    simp only [Bool.or_eq_true, Bool.and_eq_true, decide_eq_true_eq, Bool.not_eq_true', decide_eq_false_iff_not, Bool.or_eq_false_iff, Bool.and_eq_false_imp]
    omega
  rw [e]
  cases refCh k c <;> rfl
theorem findSome_none_iff {ρ : Type} (n : Nat) (g : Nat → Option ρ) : (List.range n).findSome? g = none ↔ ∀ k, k < n → g k = none := by
  rw [List.findSome?_eq_none_iff]; simp
theorem all_iff {α : Type} [Inhabited α] (l : List α) (p : α → Bool) : l.all p = true ↔ ∀ k, k < l.length → p l[k]! = true := by
  rw [List.all_eq_true]
  constructor
  · intro h k hk; rw [getElem!_pos l k hk]; exact h _ (List.getElem_mem hk)
  · intro h x hx
    obtain ⟨k, hk, rfl⟩ := List.mem_iff_getElem.1 hx
    rw [← getElem!_pos l k hk]; exact h k hk
theorem find_const {ρ : Type} (n : Nat) (p : Nat → Bool) (r : ρ) : (List.range n).findSome? (fun k => if p k then none else some r) = if (List.range n).all p then none else some r := by
  generalize List.range n = l
  induction l with
  | nil => rfl
  | cons a l ih => rw [List.findSome?_cons, List.all_cons, ]; by_cases h : p a = true <;> simp [h, ih]
theorem ref_Name_eq (s : List UInt8) (hm : s.length ≤ 9223372036854775807) : ref_Name s = some (nameOK s) := by
  unfold ref_Name
  rw [iter_find (n := s.length) (fun k => if refCh k s[k]! then none else some false) (fun k hk => ref_Name_step s k hk hm) (by unfold ref_Name_L1; rw [if_neg (by simp)]), find_const, ctl_outOf]
  have key : ((List.range s.length).all fun k => refCh k s[k]!) = (decide (s = []) || ((decide (97 ≤ s[0]!.toNat) && decide (s[0]!.toNat ≤ 122)) && s.all chOK)) := by
    rw [Bool.eq_iff_iff, List.all_eq_true]
    simp only [List.mem_range, Bool.or_eq_true, decide_eq_true_eq, Bool.and_eq_true, all_iff]
    constructor
    · intro h
      cases hs : s with
      | nil => exact .inl rfl
      | cons c t =>
        rw [← hs]
        have hl : 0 < s.length := by rw [hs]; simp
        have h0 := h 0 hl
        simp only [refCh, Bool.or_eq_true, Bool.and_eq_true, decide_eq_true_eq] at h0
        refine .inr ⟨by omega, fun k hk => ?_⟩
        have := h k hk
        simp only [refCh, chOK, Bool.or_eq_true, Bool.and_eq_true, decide_eq_true_eq] at this ⊢
        omega
    · rintro (rfl | ⟨h1, h2⟩) k hk
      · cases hk
      · have := h2 k hk
        by_cases hk0 : k = 0
        · subst hk0; simp only [refCh, Bool.or_eq_true, Bool.and_eq_true, decide_eq_true_eq]; omega
        · simp only [refCh, Bool.or_eq_true, Bool.and_eq_true, decide_eq_true_eq]; exact .inr ⟨hk0, this⟩
  rw [key]
  unfold nameOK
  cases s with
  | nil => rfl
  | cons c t =>
    rw [decide_eq_false (List.cons_ne_nil c t), Bool.false_or]
    generalize (c :: t).all chOK = al
    generalize (decide (97 ≤ (c :: t)[0]!.toNat) && decide ((c :: t)[0]!.toNat ≤ 122)) = fc
    have e1 : decide (1 ≤ ((c :: t).length : Int)) = decide (1 ≤ (c :: t).length) := by simp; omega
    have e2 : decide (((c :: t).length : Int) ≤ 24) = decide ((c :: t).length ≤ 24) := by simp; omega
    rw [e1, e2]
    cases fc <;> cases al <;> simp

theorem attr_Value_eq (s : List UInt8) (hm : s.length ≤ 9223372036854775807) : attr_Value s = some (valOK s) := by
  unfold attr_Value valOK
  rw [iter_find (n := s.length) (fun k => if valCh s[k]! then none else some false) (fun k hk => by
    unfold attr_Value_L1
    rw [if_pos (by simpa using hk), idx_nat hk, bnd1_some, chk_nat (by omega)]
    generalize s[k]! = c
    have e : ((decide ((c.toNat : Int) < 32)) || (decide (126 < (c.toNat : Int)))) = !valCh c := by
      unfold valCh
      rw [Bool.eq_iff_iff]
      simp only [Bool.or_eq_true, Bool.and_eq_true, decide_eq_true_eq, Bool.not_eq_true', decide_eq_false_iff_not, Bool.and_eq_false_imp]
      omega
    rw [e]
    cases valCh c <;> rfl) (by unfold attr_Value_L1; rw [if_neg (by simp)]), find_all, ctl_outOf]
  generalize s.all valCh = al
  cases s with
  | nil => simp
  | cons c t =>
    rw [decide_eq_false (List.cons_ne_nil c t), Bool.false_or]
    generalize hl : (c :: t).length = L
    have hL : 1 ≤ L := by rw [← hl]; simp
    by_cases h1 : 200 < (L : Int)
    · have e1 : decide (L ≤ 200) = false := by simp; omega
      simp [h1, e1]
    · have e1 : decide (L ≤ 200) = true := by simp; omega
      have e2 : decide (1 ≤ L) = true := by simp; omega
      rw [if_neg (by simpa using h1), e1, e2]
      cases al <;> rfl
theorem ref_Value_eq (s : List UInt8) (hm : s.length ≤ 9223372036854775807) : ref_Value s = some (valOK s) := by
  unfold ref_Value valOK
  rw [iter_find (n := s.length) (fun k => if valCh s[k]! then none else some false) (fun k hk => by
    unfold ref_Value_L1
    rw [if_pos (by simpa using hk), idx_nat hk, bnd1_some, chk_nat (by omega)]
    generalize s[k]! = c
    have e : ((decide ((c.toNat : Int) < 32)) || (decide (126 < (c.toNat : Int)))) = !valCh c := by
      unfold valCh
      rw [Bool.eq_iff_iff]
      simp only [Bool.or_eq_true, Bool.and_eq_true, decide_eq_true_eq, Bool.not_eq_true', decide_eq_false_iff_not, Bool.and_eq_false_imp]
      omega
    rw [e]
    cases valCh c <;> rfl) (by unfold ref_Value_L1; rw [if_neg (by simp)]), find_all, ctl_outOf]
  generalize s.all valCh = al
  have e1 : decide (1 ≤ (s.length : Int)) = decide (1 ≤ s.length) := by simp; omega
  have e2 : decide ((s.length : Int) ≤ 200) = decide (s.length ≤ 200) := by simp; omega
  rw [e1, e2]
  cases al <;> simp

/-! Go's order of strings is total. -/
theorem sLt_cons (a b : UInt8) (x y : List UInt8) : sLt (a :: x) (b :: y) = (decide (a < b) || (a == b && sLt x y)) := rfl
theorem sLt_tri : ∀ (a b : List UInt8), (sLt a b || decide (a = b)) = !sLt b a
  | [], [] => rfl
  | [], _ :: _ => rfl
  | _ :: _, [] => rfl
  | a :: x, b :: y => by
    rw [sLt_cons, sLt_cons]
    have ih := sLt_tri x y
    by_cases h : a = b
    · subst h
      have h1 : ¬ a < a := fun h => by simp [UInt8.lt_iff_toNat_lt] at h
      simp only [decide_eq_false h1, beq_self_eq_true, Bool.true_and, Bool.false_or, List.cons.injEq, true_and]
      exact ih
    · have h2 : (a == b) = false := by simpa using h
      have h3 : (b == a) = false := by simpa using fun e : b = a => h e.symm
      have h4 : ¬ (a :: x = b :: y) := fun e => h (List.cons.inj e).1
      rw [h2, h3, decide_eq_false h4]
      simp only [Bool.false_and, Bool.or_false]
      have h5 : a.toNat ≠ b.toNat := fun e => h (UInt8.toNat_inj.1 e)
      by_cases hlt : a < b
      · have : ¬ b < a := by rw [UInt8.lt_iff_toNat_lt] at hlt ⊢; omega
        simp [hlt, this]
      · have : b < a := by rw [UInt8.lt_iff_toNat_lt] at hlt ⊢; omega
        simp [hlt, this]
theorem sLt_irrefl (a : List UInt8) : sLt a a = false := by
  have := sLt_tri a a
  cases h : sLt a a
  · rfl
  · rw [h] at this; simp at this
theorem sLt_asymm {a b : List UInt8} (h : sLt a b = true) : sLt b a = false := by
  have := sLt_tri a b
  rw [h] at this; simpa using this.symm

/-! Errors of lists. -/
def okStr (l : List GAttr) : Prop := ∀ a ∈ l, a.Name.length ≤ 9223372036854775807 ∧ a.Value.length ≤ 9223372036854775807
def errA (l : List GAttr) (ch : Bool) (k : Nat) : Option Int :=
  if nameOK l[k]!.Name = false then some 9 else if valOK l[k]!.Value = false ∧ ¬ (ch = true ∧ l[k]!.Value = []) then some 23 else if 0 < k ∧ sLt l[k - 1]!.Name l[k]!.Name = false then some 5 else none
def attrErr (l : List GAttr) (ch : Bool) : Int := ((List.range l.length).findSome? (errA l ch)).getD 0
theorem okStr.at {l : List GAttr} (h : okStr l) {k : Nat} (hk : k < l.length) : l[k]!.Name.length ≤ 9223372036854775807 ∧ l[k]!.Value.length ≤ 9223372036854775807 := by
  rw [getElem!_pos l k hk]; exact h _ (List.getElem_mem hk)
theorem attr_check_step (l : List GAttr) (ch : Bool) (h : okStr l) (hm : l.length ≤ 9223372036854775807) (k : Nat) (hk : k < l.length) : attr_check_L1 l ch k = stepOf k (errA l ch k) := by
  unfold attr_check_L1 errA
  obtain ⟨hn1, hn2⟩ := h.at hk
  rw [if_pos (by simpa using hk), idx_nat hk, bnd1_some]
  generalize l[k]! = x at hn1 hn2 ⊢
  rw [attr_Name_eq _ hn1, bnd1_some]
  cases nameOK x.Name
  · rfl
  rw [if_neg (by decide), if_neg (by decide), attr_Value_eq _ hn2, bnd1_some, chk_nat (by omega)]
  by_cases hv : valOK x.Value = false ∧ ¬ (ch = true ∧ x.Value = [])
  · rw [if_pos hv, if_pos (by simp [hv.1]; cases ch <;> simp_all)]; rfl
  rw [if_neg hv, if_neg (by intro e; simp at e; exact hv ⟨e.1, by rintro ⟨a, b⟩; simp [a, b] at e⟩)]
  by_cases hk0 : k = 0
  · subst hk0; rfl
  · have h0 : decide ((0 : Int) < (k : Int)) = true := by simp; omega
    rw [h0, chk_pred (by omega) (by omega)]
    simp only [beq_self_eq_true, gd_true, bnd1_some, Bool.true_and]
    rw [idx_nat (by omega), bnd1_some, sLt_tri]
    have : (0 < k ∧ sLt l[k - 1]!.Name x.Name = false) ↔ sLt l[k - 1]!.Name x.Name = false := by constructor; exact fun h => h.2; exact fun h => ⟨by omega, h⟩
    simp only [this]
    cases sLt l[k - 1]!.Name x.Name <;> rfl
theorem ref_AttrsError_step (l : List GAttr) (ch : Bool) (h : okStr l) (hm : l.length ≤ 9223372036854775807) (k : Nat) (hk : k < l.length) : ref_AttrsError_L1 l ch k = stepOf k (errA l ch k) := by
  unfold ref_AttrsError_L1 errA
  obtain ⟨hn1, hn2⟩ := h.at hk
  rw [if_pos (by simpa using hk), idx_nat hk, bnd1_some]
  generalize l[k]! = x at hn1 hn2 ⊢
  rw [ref_Name_eq _ hn1, bnd1_some]
  cases nameOK x.Name
  · rfl
  rw [if_neg (by decide), if_neg (by decide), ref_Value_eq _ hn2, bnd1_some, chk_nat (by omega)]
  by_cases hv : valOK x.Value = false ∧ ¬ (ch = true ∧ x.Value = [])
  · rw [if_pos hv, if_pos (by simp [hv.1]; cases ch <;> simp_all)]; rfl
  rw [if_neg hv, if_neg (by intro e; simp at e; exact hv ⟨e.1, by rintro ⟨a, b⟩; simp [a, b] at e⟩)]
  by_cases hk0 : k = 0
  · subst hk0; rfl
  · have h0 : decide ((0 : Int) < (k : Int)) = true := by simp; omega
    rw [h0, chk_pred (by omega) (by omega)]
    simp only [beq_self_eq_true, gd_true, bnd1_some, Bool.true_and]
    rw [idx_nat (by omega), bnd1_some]
    have : (0 < k ∧ sLt l[k - 1]!.Name x.Name = false) ↔ sLt l[k - 1]!.Name x.Name = false := by constructor; exact fun h => h.2; exact fun h => ⟨by omega, h⟩
    simp only [this]
    cases sLt l[k - 1]!.Name x.Name <;> rfl
theorem out_getD {o : Option Int} : (ctl1 (some (outOf o)) fun _ : Unit => some 0) = some (o.getD 0) := by cases o <;> rfl
theorem attr_check_eq (l : List GAttr) (ch : Bool) (h : okStr l) (hm : l.length ≤ 9223372036854775807) : attr_check l ch = some (attrErr l ch) := by
  unfold attr_check
  rw [iter_find (n := l.length) (errA l ch) (fun k hk => attr_check_step l ch h hm k hk) (by unfold attr_check_L1; rw [if_neg (by simp)]), out_getD]; rfl
theorem ref_AttrsError_eq (l : List GAttr) (ch : Bool) (h : okStr l) (hm : l.length ≤ 9223372036854775807) : ref_AttrsError l ch = some (attrErr l ch) := by
  unfold ref_AttrsError
  rw [iter_find (n := l.length) (errA l ch) (fun k hk => ref_AttrsError_step l ch h hm k hk) (by unfold ref_AttrsError_L1; rw [if_neg (by simp)]), out_getD]; rfl
theorem attr_Check_eq (l : List GAttr) (h : okStr l) (hm : l.length ≤ 9223372036854775807) : attr_Check l = some (attrErr l false) := by unfold attr_Check; rw [attr_check_eq l _ h hm]; rfl
theorem attr_CheckChange_eq (l : List GAttr) (h : okStr l) (hm : l.length ≤ 9223372036854775807) : attr_CheckChange l = some (attrErr l true) := by unfold attr_CheckChange; rw [attr_check_eq l _ h hm]; rfl
def getA (l : List GAttr) (name : List UInt8) : List UInt8 := ((List.range l.length).findSome? fun k => if l[k]!.Name = name then some l[k]!.Value else none).getD []
theorem out_getD' {o : Option (List UInt8)} : (ctl1 (some (outOf o)) fun _ : Unit => some []) = some (o.getD []) := by cases o <;> rfl
theorem attr_Get_eq (l : List GAttr) (name : List UInt8) (hm : l.length ≤ 9223372036854775807) : attr_Get l name = some (getA l name) := by
  unfold attr_Get
  rw [iter_find (n := l.length) (fun k => if l[k]!.Name = name then some l[k]!.Value else none) (fun k hk => by
    unfold attr_Get_L1
    rw [if_pos (by simpa using hk), idx_nat hk, bnd1_some, chk_nat (by omega)]
    generalize l[k]! = x
    by_cases h : x.Name = name <;> simp [h, stepOf]) (by unfold attr_Get_L1; rw [if_neg (by simp)]), out_getD']; rfl
theorem ref_Get_eq (l : List GAttr) (name : List UInt8) (hm : l.length ≤ 9223372036854775807) : ref_Get l name = some (getA l name) := by
  unfold ref_Get
  rw [iter_find (n := l.length) (fun k => if l[k]!.Name = name then some l[k]!.Value else none) (fun k hk => by
    unfold ref_Get_L1
    rw [if_pos (by simpa using hk), idx_nat hk, bnd1_some, chk_nat (by omega)]
    generalize l[k]! = x
    by_cases h : x.Name = name <;> simp [h, stepOf]) (by unfold ref_Get_L1; rw [if_neg (by simp)]), out_getD']; rfl
end Go.Proofs.Ythhodpedkdapcaa.Al
