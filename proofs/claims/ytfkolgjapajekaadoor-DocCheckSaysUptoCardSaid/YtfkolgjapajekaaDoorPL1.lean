/- Plain laws over the models, a part of them. -/
import Derived.Test.YtfkolgjapajekaaDoorMod1
import Derived.Lib.DecodeNEq
import Derived.Lib.TrimUEq
import Derived.Lib.ValidLaws
namespace Go.Proofs.YtfkolgjapajekaaDoor.Al
@[simp] theorem bnd1_some {a α : Type} (x : a) (f : a → Option α) : bnd1 (some x) f = f x := rfl
@[simp] theorem bnd2_some {a b α : Type} (x : a) (y : b) (f : a → b → Option α) : bnd2 (some (x, y)) f = f x y := rfl
@[simp] theorem bnd3_some {a b c α : Type} (x : a) (y : b) (z : c) (f : a → b → c → Option α) : bnd3 (some (x, y, z)) f = f x y z := rfl
@[simp] theorem bnd4_some {a b c d α : Type} (x : a) (y : b) (z : c) (u : d) (f : a → b → c → d → Option α) : bnd4 (some (x, y, z, u)) f = f x y z u := rfl
@[simp] theorem ctl1_nrm {a α : Type} (x : a) (f : a → Option α) : ctl1 (some (.nrm x)) f = f x := rfl
@[simp] theorem ctl1_ext {a α : Type} (t : α) (f : a → Option α) : ctl1 (some (.ext t)) f = some t := rfl
@[simp] theorem ctl2_nrm {a b α : Type} (x : a) (y : b) (f : a → b → Option α) : ctl2 (some (.nrm (x, y))) f = f x y := rfl
@[simp] theorem ctl2_ext {a b α : Type} (t : α) (f : a → b → Option α) : ctl2 (some (.ext t)) f = some t := rfl
@[simp] theorem ctl3_nrm {a b c α : Type} (x : a) (y : b) (z : c) (f : a → b → c → Option α) : ctl3 (some (.nrm (x, y, z))) f = f x y z := rfl
@[simp] theorem ctl3_ext {a b c α : Type} (t : α) (f : a → b → c → Option α) : ctl3 (some (.ext t)) f = some t := rfl
@[simp] theorem gd_true {α : Type} [Inhabited α] (m : Option α) : gd true m = m := rfl
@[simp] theorem gd_false {α : Type} [Inhabited α] (m : Option α) : gd false m = some default := rfl
theorem idx_nat {α : Type} [Inhabited α] {l : List α} {k : Nat} (h : k < l.length) : idx l (k : Int) = some l[k]! := by
  unfold idx
  rw [if_pos (Int.natCast_nonneg k), Int.toNat_natCast, List.getElem?_eq_getElem h, getElem!_pos l k h]
theorem chk_nat {k : Nat} (h : k < 9223372036854775807) : chk .i64 ((k : Int) + 1) = some (((k + 1 : Nat)) : Int) := by
  rw [chk64 (by omega) (by omega)]; rfl
theorem chk_pred {k : Nat} (h : 0 < k) (h2 : k ≤ 9223372036854775807) : chk .i64 ((k : Int) - 1) = some ((k - 1 : Nat) : Int) := by
  rw [chk64 (by omega) (by omega)]; congr 1; omega
def stepOf {ρ : Type} (k : Nat) : Option ρ → Option (Int ⊕ Ctl Unit ρ)
  | none => some (.inl ((k + 1 : Nat) : Int))
  | some r => some (.inr (.ext r))
def outOf {ρ : Type} : Option ρ → Ctl Unit ρ
  | none => .nrm ()
  | some r => .ext r
theorem iter_find {ρ : Type} {f : Int → Option (Int ⊕ Ctl Unit ρ)} {n : Nat} (g : Nat → Option ρ) (h1 : ∀ k : Nat, k < n → f k = stepOf k (g k))
    (h2 : f n = some (.inr (.nrm ()))) : iter f 0 = some (outOf ((List.range n).findSome? g)) := by
  have key : ∀ m k : Nat, k + m = n → iter f (k : Int) = some (outOf ((List.range' k m).findSome? g)) := by
    intro m
    induction m with
    | zero =>
      intro k hk
      obtain rfl : k = n := by omega
      rw [iter_stop h2]; rfl
    | succ m ih =>
      intro k hk
      rw [List.range'_succ, List.findSome?_cons]
      have := h1 k (by omega)
      cases hg : g k with
      | none => rw [hg] at this; rw [iter_next this, ih (k + 1) (by omega)]
      | some r => rw [hg] at this; rw [iter_stop this]; rfl
  rw [List.range_eq_range']
  exact key n 0 (by omega)
theorem findSome_congr {α ρ : Type} {l : List α} {g h : α → Option ρ} (e : ∀ x ∈ l, g x = h x) : l.findSome? g = l.findSome? h := by
  induction l with
  | nil => rfl
  | cons a l ih => rw [List.findSome?_cons, List.findSome?_cons, e a (List.mem_cons_self ..), ih fun x hx => e x (List.mem_cons_of_mem _ hx)]
theorem find_all {α ρ : Type} [Inhabited α] (l : List α) (p : α → Bool) (r : ρ) : (List.range l.length).findSome? (fun k => if p l[k]! then none else some r) = if l.all p then none else some r := by
  induction l with
  | nil => rfl
  | cons a l ih =>
    rw [List.length_cons, List.range_succ_eq_map, List.findSome?_cons, List.findSome?_map]
    have hr : (List.range l.length).findSome? ((fun k => if p (a :: l)[k]! = true then none else some r) ∘ Nat.succ) = if l.all p = true then none else some r := by
      rw [← ih]; exact findSome_congr fun k _ => by simp
    rw [hr]
    by_cases hp : p a = true
    · simp [hp]
    · simp [hp]
theorem ctl_outOf {ρ : Type} (o : Option ρ) (f : Unit → Option ρ) : ctl1 (some (outOf o)) f = match o with | none => f () | some r => some r := by cases o <;> rfl
end Go.Proofs.YtfkolgjapajekaaDoor.Al


namespace Go.Proofs.YtfkolgjapajekaaDoor.Al
def chOK (c : UInt8) : Bool := (decide (97 ≤ c.toNat) && decide (c.toNat ≤ 122)) || (decide (48 ≤ c.toNat) && decide (c.toNat ≤ 57)) || decide (c.toNat = 46) || decide (c.toNat = 45)
def nameOK (s : List UInt8) : Bool := decide (1 ≤ s.length) && decide (s.length ≤ 24) && (decide (97 ≤ s[0]!.toNat) && decide (s[0]!.toNat ≤ 122)) && s.all chOK
def valCh (c : UInt8) : Bool := decide (32 ≤ c.toNat) && decide (c.toNat ≤ 126)
def valOK (s : List UInt8) : Bool := decide (1 ≤ s.length) && decide (s.length ≤ 200) && s.all valCh
theorem attr_Name_step (s : List UInt8) (k : Nat) (hk : k < s.length) (hm : s.length ≤ 9223372036854775807) : attr_Name_L1 s k = stepOf k (if chOK s[k]! then none else some false) := by
  unfold attr_Name_L1
  rw [if_pos (by simpa using hk), idx_nat hk, bnd1_some, chk_nat (by omega)]
  generalize s[k]! = c
  have e : (((((decide ((c.toNat : Int) < 97)) || (decide (122 < (c.toNat : Int)))) && ((decide ((c.toNat : Int) < 48)) || (decide (57 < (c.toNat : Int))))) && (!decide ((c.toNat : Int) = 46))) && (!decide ((c.toNat : Int) = 45))) = !chOK c := by
    unfold chOK
    rw [Bool.eq_iff_iff]
    simp only [Bool.or_eq_true, Bool.and_eq_true, decide_eq_true_eq, Bool.not_eq_true', decide_eq_false_iff_not, Bool.or_eq_false_iff, Bool.and_eq_false_imp]
    omega
  rw [e]
  cases chOK c <;> rfl
theorem attr_Name_eq (s : List UInt8) (hm : s.length ≤ 9223372036854775807) : attr_Name s = some (nameOK s) := by
  unfold attr_Name
  rw [iter_find (n := s.length) (fun k => if chOK s[k]! then none else some false) (fun k hk => attr_Name_step s k hk hm) (by unfold attr_Name_L1; rw [if_neg (by simp)]), find_all]
  unfold nameOK
  cases s with
  | nil => simp
  | cons c t =>
    have h0 : idx (c :: t) 0 = some c := rfl
    rw [h0]
    simp only [List.getElem!_cons_zero, decide_eq_false (List.cons_ne_nil c t), Bool.false_or]
    generalize (c :: t).all chOK = al
    generalize hl : (c :: t).length = L
    have hL : 1 ≤ L := by rw [← hl]; simp
    by_cases h1 : 24 < (L : Int)
    · have e1 : decide (L ≤ 24) = false := by simp; omega
      simp [h1, e1]
    · rw [decide_eq_false h1]
      simp only [Bool.false_or, beq_self_eq_true, gd_true, bnd1_some]
      have e1 : decide (L ≤ 24) = true := by simp; omega
      have e2 : decide (1 ≤ L) = true := by simp; omega
      rw [e1, e2]
      by_cases h2 : (c.toNat : Int) < 97
      · have e3 : decide (97 ≤ c.toNat) = false := by simp; omega
        simp [h2, e3]
      · rw [decide_eq_false h2]
        have e3 : decide (97 ≤ c.toNat) = true := by simp; omega
        simp only [beq_self_eq_true, gd_true, bnd1_some, Bool.false_or]
        by_cases h3 : 122 < (c.toNat : Int)
        · have e4 : decide (c.toNat ≤ 122) = false := by simp; omega
          simp [h3, e4]
        · have e4 : decide (c.toNat ≤ 122) = true := by simp; omega
          rw [if_neg (by simpa using h3), ctl_outOf, e3, e4]
          cases al <;> rfl
def refCh (k : Nat) (c : UInt8) : Bool := (decide (97 ≤ c.toNat) && decide (c.toNat ≤ 122)) || (decide (k ≠ 0) && chOK c)
theorem ref_Name_step (s : List UInt8) (k : Nat) (hk : k < s.length) (hm : s.length ≤ 9223372036854775807) :
    ref_Name_L1 s k = stepOf k (if refCh k s[k]! then none else some false) := by
  unfold ref_Name_L1
  rw [if_pos (by simpa using hk), idx_nat hk, bnd1_some, chk_nat (by omega)]
  generalize s[k]! = c
  have e : ((!((decide (97 ≤ (c.toNat : Int))) && (decide ((c.toNat : Int) ≤ 122)))) && ((decide ((k : Int) = 0)) || (((!decide ((c.toNat : Int) = 46)) && (!decide ((c.toNat : Int) = 45))) && ((decide ((c.toNat : Int) < 48)) || (decide (57 < (c.toNat : Int))))))) = !refCh k c := by
    unfold refCh chOK
    rw [Bool.eq_iff_iff]
    simp only [Bool.or_eq_true, Bool.and_eq_true, decide_eq_true_eq, Bool.not_eq_true', decide_eq_false_iff_not, Bool.or_eq_false_iff, Bool.and_eq_false_imp]
    omega
  rw [e]
  cases refCh k c <;> rfl
theorem all_iff {α : Type} [Inhabited α] (l : List α) (p : α → Bool) : l.all p = true ↔ ∀ k, k < l.length → p l[k]! = true := by
  rw [List.all_eq_true]
  constructor
  · intro h k hk; rw [getElem!_pos l k hk]; exact h _ (List.getElem_mem hk)
  · intro h x hx
    obtain ⟨k, hk, rfl⟩ := List.mem_iff_getElem.1 hx
    rw [← getElem!_pos l k hk]; exact h k hk
theorem find_const {ρ : Type} (n : Nat) (p : Nat → Bool) (r : ρ) : (List.range n).findSome? (fun k => if p k then none else some r) = if (List.range n).all p then none else some r := by
  generalize List.range n = l
  induction l with
  | nil => rfl
  | cons a l ih => rw [List.findSome?_cons, List.all_cons, ]; by_cases h : p a = true <;> simp [h, ih]
theorem ref_Name_eq (s : List UInt8) (hm : s.length ≤ 9223372036854775807) : ref_Name s = some (nameOK s) := by
  unfold ref_Name
  rw [iter_find (n := s.length) (fun k => if refCh k s[k]! then none else some false) (fun k hk => ref_Name_step s k hk hm) (by unfold ref_Name_L1; rw [if_neg (by simp)]), find_const, ctl_outOf]
  have key : ((List.range s.length).all fun k => refCh k s[k]!) = (decide (s = []) || ((decide (97 ≤ s[0]!.toNat) && decide (s[0]!.toNat ≤ 122)) && s.all chOK)) := by
    rw [Bool.eq_iff_iff, List.all_eq_true]
    simp only [List.mem_range, Bool.or_eq_true, decide_eq_true_eq, Bool.and_eq_true, all_iff]
    constructor
    · intro h
      cases hs : s with
      | nil => exact .inl rfl
      | cons c t =>
        rw [← hs]
        have hl : 0 < s.length := by rw [hs]; simp
        have h0 := h 0 hl
        simp only [refCh, Bool.or_eq_true, Bool.and_eq_true, decide_eq_true_eq] at h0
        refine .inr ⟨by omega, fun k hk => ?_⟩
        have := h k hk
        simp only [refCh, chOK, Bool.or_eq_true, Bool.and_eq_true, decide_eq_true_eq] at this ⊢
        omega
    · rintro (rfl | ⟨h1, h2⟩) k hk
      · cases hk
      · have := h2 k hk
        by_cases hk0 : k = 0
        · subst hk0; simp only [refCh, Bool.or_eq_true, Bool.and_eq_true, decide_eq_true_eq]; omega
        · simp only [refCh, Bool.or_eq_true, Bool.and_eq_true, decide_eq_true_eq]; exact .inr ⟨hk0, this⟩
  rw [key]
  unfold nameOK
  cases s with
  | nil => rfl
  | cons c t =>
    rw [decide_eq_false (List.cons_ne_nil c t), Bool.false_or]
    generalize (c :: t).all chOK = al
    generalize (decide (97 ≤ (c :: t)[0]!.toNat) && decide ((c :: t)[0]!.toNat ≤ 122)) = fc
    have e1 : decide (1 ≤ ((c :: t).length : Int)) = decide (1 ≤ (c :: t).length) := by simp; omega
    have e2 : decide (((c :: t).length : Int) ≤ 24) = decide ((c :: t).length ≤ 24) := by simp; omega
    rw [e1, e2]
    cases fc <;> cases al <;> simp
theorem attr_Value_eq (s : List UInt8) (hm : s.length ≤ 9223372036854775807) : attr_Value s = some (valOK s) := by
  unfold attr_Value valOK
  rw [iter_find (n := s.length) (fun k => if valCh s[k]! then none else some false) (fun k hk => by
    unfold attr_Value_L1
    rw [if_pos (by simpa using hk), idx_nat hk, bnd1_some, chk_nat (by omega)]
    generalize s[k]! = c
    have e : ((decide ((c.toNat : Int) < 32)) || (decide (126 < (c.toNat : Int)))) = !valCh c := by
      unfold valCh
      rw [Bool.eq_iff_iff]
      simp only [Bool.or_eq_true, Bool.and_eq_true, decide_eq_true_eq, Bool.not_eq_true', decide_eq_false_iff_not, Bool.and_eq_false_imp]
      omega
    rw [e]
    cases valCh c <;> rfl) (by unfold attr_Value_L1; rw [if_neg (by simp)]), find_all, ctl_outOf]
  generalize s.all valCh = al
  cases s with
  | nil => simp
  | cons c t =>
    rw [decide_eq_false (List.cons_ne_nil c t), Bool.false_or]
    generalize hl : (c :: t).length = L
    have hL : 1 ≤ L := by rw [← hl]; simp
    by_cases h1 : 200 < (L : Int)
    · have e1 : decide (L ≤ 200) = false := by simp; omega
      simp [h1, e1]
    · have e1 : decide (L ≤ 200) = true := by simp; omega
      have e2 : decide (1 ≤ L) = true := by simp; omega
      rw [if_neg (by simpa using h1), e1, e2]
      cases al <;> rfl
theorem ref_Value_eq (s : List UInt8) (hm : s.length ≤ 9223372036854775807) : ref_Value s = some (valOK s) := by
  unfold ref_Value valOK
  rw [iter_find (n := s.length) (fun k => if valCh s[k]! then none else some false) (fun k hk => by
    unfold ref_Value_L1
    rw [if_pos (by simpa using hk), idx_nat hk, bnd1_some, chk_nat (by omega)]
    generalize s[k]! = c
    have e : ((decide ((c.toNat : Int) < 32)) || (decide (126 < (c.toNat : Int)))) = !valCh c := by
      unfold valCh
      rw [Bool.eq_iff_iff]
      simp only [Bool.or_eq_true, Bool.and_eq_true, decide_eq_true_eq, Bool.not_eq_true', decide_eq_false_iff_not, Bool.and_eq_false_imp]
      omega
    rw [e]
    cases valCh c <;> rfl) (by unfold ref_Value_L1; rw [if_neg (by simp)]), find_all, ctl_outOf]
  generalize s.all valCh = al
  have e1 : decide (1 ≤ (s.length : Int)) = decide (1 ≤ s.length) := by simp; omega
  have e2 : decide ((s.length : Int) ≤ 200) = decide (s.length ≤ 200) := by simp; omega
  rw [e1, e2]
  cases al <;> simp
theorem sLt_cons (a b : UInt8) (x y : List UInt8) : sLt (a :: x) (b :: y) = (decide (a < b) || (a == b && sLt x y)) := rfl
theorem sLt_tri : ∀ (a b : List UInt8), (sLt a b || decide (a = b)) = !sLt b a
  | [], [] => rfl
  | [], _ :: _ => rfl
  | _ :: _, [] => rfl
  | a :: x, b :: y => by
    rw [sLt_cons, sLt_cons]
    have ih := sLt_tri x y
    by_cases h : a = b
    · subst h
      have h1 : ¬ a < a := fun h => by simp [UInt8.lt_iff_toNat_lt] at h
      simp only [decide_eq_false h1, beq_self_eq_true, Bool.true_and, Bool.false_or, List.cons.injEq, true_and]
      exact ih
    · have h2 : (a == b) = false := by simpa using h
      have h3 : (b == a) = false := by simpa using fun e : b = a => h e.symm
      have h4 : ¬ (a :: x = b :: y) := fun e => h (List.cons.inj e).1
      rw [h2, h3, decide_eq_false h4]
      simp only [Bool.false_and, Bool.or_false]
      have h5 : a.toNat ≠ b.toNat := fun e => h (UInt8.toNat_inj.1 e)
      by_cases hlt : a < b
      · have : ¬ b < a := by rw [UInt8.lt_iff_toNat_lt] at hlt ⊢; omega
        simp [hlt, this]
      · have : b < a := by rw [UInt8.lt_iff_toNat_lt] at hlt ⊢; omega
        simp [hlt, this]
def okStr (l : List GAttr) : Prop := ∀ a ∈ l, a.Name.length ≤ 9223372036854775807 ∧ a.Value.length ≤ 9223372036854775807
def errA (l : List GAttr) (ch : Bool) (k : Nat) : Option Int :=
  if nameOK l[k]!.Name = false then some 9 else if valOK l[k]!.Value = false ∧ ¬ (ch = true ∧ l[k]!.Value = []) then some 23 else if 0 < k ∧ sLt l[k - 1]!.Name l[k]!.Name = false then some 5 else none
def attrErr (l : List GAttr) (ch : Bool) : Int := ((List.range l.length).findSome? (errA l ch)).getD 0
theorem okStr.at {l : List GAttr} (h : okStr l) {k : Nat} (hk : k < l.length) : l[k]!.Name.length ≤ 9223372036854775807 ∧ l[k]!.Value.length ≤ 9223372036854775807 := by
  rw [getElem!_pos l k hk]; exact h _ (List.getElem_mem hk)
theorem attr_check_step (l : List GAttr) (ch : Bool) (h : okStr l) (hm : l.length ≤ 9223372036854775807) (k : Nat) (hk : k < l.length) : attr_check_L1 l ch k = stepOf k (errA l ch k) := by
  unfold attr_check_L1 errA
  obtain ⟨hn1, hn2⟩ := h.at hk
  rw [if_pos (by simpa using hk), idx_nat hk, bnd1_some]
  generalize l[k]! = x at hn1 hn2 ⊢
  rw [attr_Name_eq _ hn1, bnd1_some]
  cases nameOK x.Name
  · rfl
  rw [if_neg (by decide), if_neg (by decide), attr_Value_eq _ hn2, bnd1_some, chk_nat (by omega)]
  by_cases hv : valOK x.Value = false ∧ ¬ (ch = true ∧ x.Value = [])
  · rw [if_pos hv, if_pos (by simp [hv.1]; cases ch <;> simp_all)]; rfl
  rw [if_neg hv, if_neg (by intro e; simp at e; exact hv ⟨e.1, by rintro ⟨a, b⟩; simp [a, b] at e⟩)]
  by_cases hk0 : k = 0
  · subst hk0; rfl
  · have h0 : decide ((0 : Int) < (k : Int)) = true := by simp; omega
    rw [h0, chk_pred (by omega) (by omega)]
    simp only [beq_self_eq_true, gd_true, bnd1_some, Bool.true_and]
    rw [idx_nat (by omega), bnd1_some, sLt_tri]
    have : (0 < k ∧ sLt l[k - 1]!.Name x.Name = false) ↔ sLt l[k - 1]!.Name x.Name = false := by constructor; exact fun h => h.2; exact fun h => ⟨by omega, h⟩
    simp only [this]
    cases sLt l[k - 1]!.Name x.Name <;> rfl
theorem ref_AttrsError_step (l : List GAttr) (ch : Bool) (h : okStr l) (hm : l.length ≤ 9223372036854775807) (k : Nat) (hk : k < l.length) : ref_AttrsError_L1 l ch k = stepOf k (errA l ch k) := by
  unfold ref_AttrsError_L1 errA
  obtain ⟨hn1, hn2⟩ := h.at hk
  rw [if_pos (by simpa using hk), idx_nat hk, bnd1_some]
  generalize l[k]! = x at hn1 hn2 ⊢
  rw [ref_Name_eq _ hn1, bnd1_some]
  cases nameOK x.Name
  · rfl
  rw [if_neg (by decide), if_neg (by decide), ref_Value_eq _ hn2, bnd1_some, chk_nat (by omega)]
  by_cases hv : valOK x.Value = false ∧ ¬ (ch = true ∧ x.Value = [])
  · rw [if_pos hv, if_pos (by simp [hv.1]; cases ch <;> simp_all)]; rfl
  rw [if_neg hv, if_neg (by intro e; simp at e; exact hv ⟨e.1, by rintro ⟨a, b⟩; simp [a, b] at e⟩)]
  by_cases hk0 : k = 0
  · subst hk0; rfl
  · have h0 : decide ((0 : Int) < (k : Int)) = true := by simp; omega
    rw [h0, chk_pred (by omega) (by omega)]
    simp only [beq_self_eq_true, gd_true, bnd1_some, Bool.true_and]
    rw [idx_nat (by omega), bnd1_some]
    have : (0 < k ∧ sLt l[k - 1]!.Name x.Name = false) ↔ sLt l[k - 1]!.Name x.Name = false := by constructor; exact fun h => h.2; exact fun h => ⟨by omega, h⟩
    simp only [this]
    cases sLt l[k - 1]!.Name x.Name <;> rfl
theorem out_getD {o : Option Int} : (ctl1 (some (outOf o)) fun _ : Unit => some 0) = some (o.getD 0) := by cases o <;> rfl
theorem attr_check_eq (l : List GAttr) (ch : Bool) (h : okStr l) (hm : l.length ≤ 9223372036854775807) : attr_check l ch = some (attrErr l ch) := by
  unfold attr_check
  rw [iter_find (n := l.length) (errA l ch) (fun k hk => attr_check_step l ch h hm k hk) (by unfold attr_check_L1; rw [if_neg (by simp)]), out_getD]; rfl
theorem ref_AttrsError_eq (l : List GAttr) (ch : Bool) (h : okStr l) (hm : l.length ≤ 9223372036854775807) : ref_AttrsError l ch = some (attrErr l ch) := by
  unfold ref_AttrsError
  rw [iter_find (n := l.length) (errA l ch) (fun k hk => ref_AttrsError_step l ch h hm k hk) (by unfold ref_AttrsError_L1; rw [if_neg (by simp)]), out_getD]; rfl
theorem attr_Check_eq (l : List GAttr) (h : okStr l) (hm : l.length ≤ 9223372036854775807) : attr_Check l = some (attrErr l false) := by unfold attr_Check; rw [attr_check_eq l _ h hm]; rfl
def getA (l : List GAttr) (name : List UInt8) : List UInt8 := ((List.range l.length).findSome? fun k => if l[k]!.Name = name then some l[k]!.Value else none).getD []
end Go.Proofs.YtfkolgjapajekaaDoor.Al


namespace Go.Proofs.YtfkolgjapajekaaDoor.Al
def nil2 : GAttr := ⟨[], []⟩
theorem attr_eq_iff (x y : GAttr) : x = y ↔ x.Name = y.Name ∧ x.Value = y.Value := by cases x; cases y; simp
theorem attr_Same_eq (a b : List GAttr) (hm : a.length ≤ 9223372036854775807) : attr_Same a b = some (decide (a = b)) := by
  unfold attr_Same
  by_cases hl : a.length = b.length
  · rw [if_neg (by simp [hl]), iter_find (n := a.length) (fun k => if decide (a[k]! = b[k]!) then none else some false) (fun k hk => by
      unfold attr_Same_L1
      rw [if_pos (by simpa using hk), idx_nat hk, idx_nat (by omega), bnd1_some, bnd1_some, chk_nat (by omega)]
      generalize a[k]! = x
      generalize b[k]! = y
      by_cases h : x = y
      · subst h; simp [stepOf]
      · have h' := h; rw [attr_eq_iff] at h'
        simp only [decide_eq_false h, Bool.and_true]
        by_cases h1 : x.Name = y.Name
        · have h2 : ¬ x.Value = y.Value := fun e => h' ⟨h1, e⟩
          simp [h1, h2, stepOf]
        · simp [h1, stepOf]) (by unfold attr_Same_L1; rw [if_neg (by simp)]), find_const, ctl_outOf]
    by_cases h : a = b
    · subst h; simp
    · rw [decide_eq_false h]
      have : ((List.range a.length).all fun k => decide (a[k]! = b[k]!)) = false := by
        rw [← Bool.not_eq_true, List.all_eq_true]
        intro hall
        apply h
        apply List.ext_getElem hl
        intro k h1 h2
        have := hall k (List.mem_range.2 h1)
        simp only [decide_eq_true_eq] at this
        rwa [getElem!_pos a k h1, getElem!_pos b k h2] at this
      rw [this]; rfl
  · rw [if_pos (by simp; omega), decide_eq_false (by rintro rfl; exact hl rfl)]
theorem ref_SameAttrs_eq (a b : List GAttr) (hm : a.length ≤ 9223372036854775807) : ref_SameAttrs a b = some (decide (a = b)) := by
  unfold ref_SameAttrs
  by_cases hl : a.length = b.length
  · rw [if_neg (by simp [hl]), iter_find (n := a.length) (fun k => if decide (a[k]! = b[k]!) then none else some false) (fun k hk => by
      unfold ref_SameAttrs_L1
      rw [if_pos (by simpa using hk), idx_nat hk, idx_nat (by omega), bnd1_some, bnd1_some, chk_nat (by omega)]
      generalize a[k]! = x
      generalize b[k]! = y
      by_cases h : x = y
      · subst h; simp [stepOf]
      · have h' := h; rw [attr_eq_iff] at h'
        simp only [decide_eq_false h, Bool.and_true]
        by_cases h1 : x.Name = y.Name
        · have h2 : ¬ x.Value = y.Value := fun e => h' ⟨h1, e⟩
          simp [h1, h2, stepOf]
        · simp [h1, stepOf]) (by unfold ref_SameAttrs_L1; rw [if_neg (by simp)]), find_const, ctl_outOf]
    by_cases h : a = b
    · subst h; simp
    · rw [decide_eq_false h]
      have : ((List.range a.length).all fun k => decide (a[k]! = b[k]!)) = false := by
        rw [← Bool.not_eq_true, List.all_eq_true]
        intro hall
        apply h
        apply List.ext_getElem hl
        intro k h1 h2
        have := hall k (List.mem_range.2 h1)
        simp only [decide_eq_true_eq] at this
        rwa [getElem!_pos a k h1, getElem!_pos b k h2] at this
      rw [this]; rfl
  · rw [if_pos (by simp; omega), decide_eq_false (by rintro rfl; exact hl rfl)]
end Go.Proofs.YtfkolgjapajekaaDoor.Al


namespace Go.Proofs.YtfkolgjapajekaaDoor.Al
end Go.Proofs.YtfkolgjapajekaaDoor.Al


namespace Go.Proofs.YtfkolgjapajekaaDoor.Al
def One (l : List GAttr) (n : List UInt8) (o : Option GAttr) : Prop := l = o.toList ∧ ∀ e, o = some e → e.Name = n
structure GOK (g : GAttr → GAttr → List GAttr) (G : Option GAttr → Option GAttr → Option GAttr) : Prop where
  l : ∀ x : GAttr, x.Name ≠ [] → One (g x nil2) x.Name (G (some x) none)
  r : ∀ y : GAttr, y.Name ≠ [] → One (g nil2 y) y.Name (G none (some y))
  b : ∀ x y : GAttr, x.Name = y.Name → x.Name ≠ [] → One (g x y) x.Name (G (some x) (some y))
  n : G none none = none
end Go.Proofs.YtfkolgjapajekaaDoor.Al


namespace Go.Proofs.YtfkolgjapajekaaDoor.Al
end Go.Proofs.YtfkolgjapajekaaDoor.Al


namespace Go.Proofs.YtfkolgjapajekaaDoor.Al
theorem iter_hoare {σ β : Type} {f : σ → Option (σ ⊕ β)} (n : Nat) (R : Nat → σ → Prop) (Q : β → Prop)
    (h1 : ∀ k s, k < n → R k s → (∃ s', f s = some (.inl s') ∧ R (k + 1) s') ∨ (∃ b, f s = some (.inr b) ∧ Q b))
    (h2 : ∀ s, R n s → ∃ b, f s = some (.inr b) ∧ Q b) {s : σ} (h0 : R 0 s) : ∃ b, iter f s = some b ∧ Q b := by
  have key : ∀ m k s, k + m = n → R k s → ∃ b, iter f s = some b ∧ Q b := by
    intro m
    induction m with
    | zero =>
      intro k s hk hR
      obtain rfl : k = n := by omega
      obtain ⟨b, hb, hq⟩ := h2 s hR
      exact ⟨b, iter_stop hb, hq⟩
    | succ m ih =>
      intro k s hk hR
      rcases h1 k s (by omega) hR with ⟨s', h3, h4⟩ | ⟨b, h3, h4⟩
      · obtain ⟨b, h5, h6⟩ := ih (k + 1) s' (by omega) h4
        exact ⟨b, by rw [iter_next h3, h5], h6⟩
      · exact ⟨b, iter_stop h3, h4⟩
  exact key n 0 s (by omega) h0
theorem mem_at {α : Type} [Inhabited α] {l : List α} {k : Nat} (h : k < l.length) : l[k]! ∈ l := by
  rw [getElem!_pos l k h]; exact List.getElem_mem h
def oldN (s : GAxisStep) : Int := if s.Kind = 1 then 0 else s.N
def nowN (s : GAxisStep) : Int := if s.Kind = 2 then 0 else s.N
def oldLen (a : List GAxisStep) : Int := (a.map oldN).sum
def nowLen (a : List GAxisStep) : Int := (a.map nowN).sum
def Stp (s : GAxisStep) : Prop := 0 ≤ s.Kind ∧ s.Kind ≤ 2 ∧ 1 ≤ s.N ∧ s.N ≤ 2147483647
theorem ref_In_eq (x lo hi : Int) : ref_In x lo hi = some (decide (lo ≤ x) && decide (x ≤ hi)) := by
  unfold ref_In
  rfl
end Go.Proofs.YtfkolgjapajekaaDoor.Al


namespace Go.Proofs.YtfkolgjapajekaaDoor.Al
structure GoodA (a : List GAxisStep) : Prop where
  stp : ∀ s ∈ a, Stp s
  olds : oldLen a ≤ 2147483647
  nows : nowLen a ≤ 2147483647
theorem oldLen_cons (s : GAxisStep) (a : List GAxisStep) : oldLen (s :: a) = oldN s + oldLen a := by simp [oldLen]
theorem nowLen_cons (s : GAxisStep) (a : List GAxisStep) : nowLen (s :: a) = nowN s + nowLen a := by simp [nowLen]
theorem GoodA.len {a : List GAxisStep} (h : GoodA a) : (a.length : Int) ≤ 4294967294 := by
  have key : ∀ l : List GAxisStep, (∀ s ∈ l, Stp s) → (l.length : Int) ≤ oldLen l + nowLen l := by
    intro l
    induction l with
    | nil => intro _; simp [oldLen, nowLen]
    | cons s l ih =>
      intro h
      have h1 := ih fun x hx => h x (List.mem_cons_of_mem _ hx)
      have h2 := h s (List.mem_cons_self ..)
      rw [oldLen_cons, nowLen_cons, List.length_cons]
      unfold oldN nowN
      unfold Stp at h2
      split <;> split <;> omega
  have h1 := key a h.stp
  have h2 := h.olds
  have h3 := h.nows
  omega
def Run (a : List GAxisStep) (k : Nat) (f t : Int) : Prop := 0 ≤ f ∧ f + oldLen (a.drop k) ≤ 2147483647 ∧ 0 ≤ t ∧ t + nowLen (a.drop k) ≤ 2147483647
theorem GoodA.run {a : List GAxisStep} (h : GoodA a) : Run a 0 0 0 := by
  have h2 := h.olds
  have h3 := h.nows
  unfold Run
  rw [List.drop_zero]
  omega
theorem app8 {o : List Int} {x : Int} (h : o.length + 1 ≤ 1099511627776) : app 8 o [x] = some (o ++ [x]) := by
  unfold app; rw [if_pos (by simp; omega)]
def sizeLen (a : List GAxisStep) : Int := (a.map (·.N)).sum
end Go.Proofs.YtfkolgjapajekaaDoor.Al


namespace Go.Proofs.YtfkolgjapajekaaDoor.Al
def charOK (c : Int) : Bool := decide (c = 9) || decide (c = 10) || (decide (32 ≤ c) && decide (c ≤ 126)) || (decide (160 ≤ c) && decide (c ≤ 55295)) || (decide (57344 ≤ c) && decide (c ≤ 1114111))
def elemErr (x : GElem) : Int :=
  if (x.Char = 0 ∧ x.Ref = 0) ∨ (x.Char ≠ 0 ∧ x.Ref ≠ 0) then 4 else if (x.Char ≠ 0 ∧ charOK x.Char = false) ∨ (x.Ref ≠ 0 ∧ ¬ (1 ≤ x.Ref ∧ x.Ref ≤ 1073741824)) then 2 else attrErr x.Attrs false
def okE (x : GElem) : Prop := x.Attrs.length ≤ 9223372036854775807 ∧ okStr x.Attrs
theorem flow_Char_eq (c : Int) : flow_Char c = some (charOK c) := by
  unfold flow_Char charOK
  congr 1
  rw [Bool.eq_iff_iff]
  simp only [Bool.or_eq_true, Bool.and_eq_true, decide_eq_true_eq]
  omega
theorem ref_Char_eq (c : Int) : ref_Char c = some (charOK c) := by
  unfold ref_Char charOK
  rw [ref_In_eq, ref_In_eq, ref_In_eq]
  generalize decide (c = 9) = a1
  generalize decide (c = 10) = a2
  generalize (decide (32 ≤ c) && decide (c ≤ 126)) = a3
  generalize (decide (160 ≤ c) && decide (c ≤ 55295)) = a4
  generalize (decide (57344 ≤ c) && decide (c ≤ 1114111)) = a5
  cases a1 <;> cases a2 <;> cases a3 <;> cases a4 <;> cases a5 <;> rfl
theorem flow_elem_eq (x : GElem) (h : okE x) : flow_elem x = some (elemErr x) := by
  unfold flow_elem elemErr
  rw [flow_Char_eq, attr_Check_eq _ h.2 h.1]
  by_cases c : x.Char = 0
  · by_cases r : x.Ref = 0
    · simp [c, r]
    · by_cases q : 1 ≤ x.Ref ∧ x.Ref ≤ 1073741824
      · have q1 : ¬ x.Ref < 1 := by omega
        have q2 : ¬ 1073741824 < x.Ref := by omega
        simp [c, r, q, q1, q2]
      · have q1 : x.Ref < 1 ∨ 1073741824 < x.Ref := by omega
        simp [c, r, q, q1]
  · by_cases r : x.Ref = 0
    · cases hc : charOK x.Char <;> simp [c, r, hc]
    · simp [c, r]
theorem ref_ElemError_eq (x : GElem) (h : okE x) : ref_ElemError x = some (elemErr x) := by
  unfold ref_ElemError elemErr
  rw [ref_Char_eq, ref_AttrsError_eq _ _ h.2 h.1, ref_In_eq]
  by_cases c : x.Char = 0
  · by_cases r : x.Ref = 0
    · simp [c, r]
    · by_cases q : 1 ≤ x.Ref ∧ x.Ref ≤ 1073741824
      · simp [c, r, q]
      · have q1 : (decide (1 ≤ x.Ref) && decide (x.Ref ≤ 1073741824)) = false := by rw [← Bool.not_eq_true]; simpa using q
        simp [c, r, q, q1]
  · by_cases r : x.Ref = 0
    · cases hc : charOK x.Char <;> simp [c, r, hc]
    · simp [c, r]
def errE (f : List GElem) (k : Nat) : Option Int := if elemErr f[k]! = 0 then none else some (elemErr f[k]!)
def partErr (f : List GElem) : Int := ((List.range f.length).findSome? (errE f)).getD 0
theorem elem_attrs {x : GElem} (h : elemErr x = 0) : attrErr x.Attrs false = 0 := by
  unfold elemErr at h
  split at h
  · cases h
  · split at h
    · cases h
    · exact h
def sHidden : List UInt8 := [104, 105, 100, 100, 101, 110]
def sOn : List UInt8 := [111, 110]
def sCut : List UInt8 := [99, 117, 116]
def sAdd : List UInt8 := [97, 100, 100]
def hid (x : GElem) (mode : Int) : Bool := decide (getA x.Attrs sHidden = sOn) || (decide (mode = 0) && !decide (getA x.Attrs sCut = [])) || (decide (mode = 1) && !decide (getA x.Attrs sAdd = []))
end Go.Proofs.YtfkolgjapajekaaDoor.Al


namespace Go.Proofs.YtfkolgjapajekaaDoor.Al
theorem ndT {p : Prop} [Decidable p] (h : ¬ p) : (!decide p) = true := by simp [h]
theorem ndF {p : Prop} [Decidable p] (h : p) : ¬ ((!decide p) = true) := by simp [h]
def okA (l : List GAttr) : Prop := l.length ≤ 1073741824 ∧ okStr l
theorem okA.e {x : GElem} (h : okA x.Attrs) : okE x := ⟨by have := h.1; omega, h.2⟩
structure OkSt (s : GStep) : Prop where
  at_ : okA s.Attrs
  el : s.Elems.length ≤ 1073741824
  ea : ∀ e ∈ s.Elems, okA e.Attrs
structure OkD (d : List GStep) : Prop where
  len : d.length ≤ 1099511627776
  st : ∀ s ∈ d, OkSt s
  sum : (d.map fun s => s.Elems.length).sum ≤ 1073741824
structure GoodS (s : GStep) : Prop where
  kind : (s.Kind = 0 ∧ s.Elems = [] ∧ 1 ≤ s.N ∧ s.N ≤ 2147483647 ∧ attrErr s.Attrs true = 0) ∨ (s.Kind = 2 ∧ s.Elems = [] ∧ s.Attrs = [] ∧ 1 ≤ s.N ∧ s.N ≤ 2147483647) ∨
    (s.Kind = 1 ∧ s.N = 0 ∧ s.Attrs = [] ∧ s.Elems ≠ [] ∧ partErr s.Elems = 0)
def ordBad (p s : GStep) : Bool := (decide (p.Kind = s.Kind) && (!decide (s.Kind = 0) || decide (p.Attrs = s.Attrs))) || (decide (p.Kind = 2) && decide (s.Kind = 1))
def oldS (s : GStep) : Int := if s.Kind = 1 then 0 else s.N
def nowS (s : GStep) : Int := if s.Kind = 2 then 0 else if s.Kind = 1 then s.Elems.length else s.N
def oldD (d : List GStep) : Int := (d.map oldS).sum
def nowD (d : List GStep) : Int := (d.map nowS).sum
end Go.Proofs.YtfkolgjapajekaaDoor.Al


namespace Go.Proofs.YtfkolgjapajekaaDoor.Al
end Go.Proofs.YtfkolgjapajekaaDoor.Al


namespace Go.Proofs.YtfkolgjapajekaaDoor.Al
inductive Un where
  | a (e : GElem)
  | r (cut : Bool) (at_ : List GAttr)
def uOf : List (List GElem) → List Bool → List (List GAttr) → List Un
  | A :: As, c :: cs, t :: ts => A.map Un.a ++ Un.r c t :: uOf As cs ts
  | A :: _, _, _ => A.map Un.a
  | [], _, _ => []
structure WfA (x : Ref_Act) : Prop where
  adds : x.Adds.length = x.Cuts.length + 1
  attrs : x.Attrs.length = x.Cuts.length
def Ref_Act.us (x : Ref_Act) : List Un := uOf x.Adds x.Cuts x.Attrs
end Go.Proofs.YtfkolgjapajekaaDoor.Al


namespace Go.Proofs.YtfkolgjapajekaaDoor.Al
end Go.Proofs.YtfkolgjapajekaaDoor.Al


namespace Go.Proofs.YtfkolgjapajekaaDoor.Al
structure DS where
  out : List GStep
  adds : List GElem
  cuts : Nat
structure DB (m : Nat) (s : DS) : Prop where
  len : s.out.length + s.adds.length + s.cuts ≤ m
  mem : ∀ x ∈ s.out, 0 ≤ x.N ∧ x.N ≤ m ∧ x.Elems.length ≤ m ∧ x.Attrs.length ≤ 1099511627776
end Go.Proofs.YtfkolgjapajekaaDoor.Al


namespace Go.Proofs.YtfkolgjapajekaaDoor.Al
structure GoodD (d : List GStep) : Prop where
  st : ∀ s ∈ d, GoodS s
  ord : ∀ k, 0 < k → k < d.length → ordBad d[k - 1]! d[k]! = false
  olds : oldD d ≤ 2147483647
  nows : nowD d ≤ 2147483647
theorem slc_to {α : Type} (l : List α) (n : Int) (h0 : 0 ≤ n) (h : n ≤ l.length) : slc l 0 n = some (l.take n.toNat) := by
  unfold slc; rw [if_pos (by omega)]; simp
end Go.Proofs.YtfkolgjapajekaaDoor.Al


namespace Go.Proofs.YtfkolgjapajekaaDoor.Al
end Go.Proofs.YtfkolgjapajekaaDoor.Al


namespace Go.Proofs.YtfkolgjapajekaaDoor.Al
def Okk2 (a : Nat) (s : GStep) : Prop := ((s.Kind = 0 ∧ s.Elems = [] ∧ 1 ≤ s.N ∧ attrErr s.Attrs true = 0) ∨ (s.Kind = 2 ∧ s.Elems = [] ∧ s.Attrs = [] ∧ 1 ≤ s.N) ∨
    (s.Kind = 1 ∧ s.N = 0 ∧ s.Attrs = [] ∧ s.Elems ≠ [] ∧ ∀ e ∈ s.Elems, elemErr e = 0)) ∧ okA s.Attrs ∧ s.Elems.length ≤ a ∧ ∀ e ∈ s.Elems, okA e.Attrs
def AdjD (l : List GStep) : Prop := ∀ k, 0 < k → k < l.length → ordBad l[k - 1]! l[k]! = false
structure CD (m a r n : Nat) (s : DS) : Prop where
  ok : ∀ x ∈ s.out, Okk2 a x
  adj : AdjD s.out
  last : 0 < s.out.length → s.out[s.out.length - 1]!.Kind = 0
  add : ∀ e ∈ s.adds, elemErr e = 0 ∧ okA e.Attrs
  olds : oldD s.out + s.cuts = r
  nows : nowD s.out + s.adds.length = n
  len : s.out.length + s.adds.length + s.cuts ≤ m
  al : s.adds.length ≤ a
theorem Okk2.mono {a b : Nat} {s : GStep} (h : Okk2 a s) (hab : a ≤ b) : Okk2 b s := ⟨h.1, h.2.1, Nat.le_trans h.2.2.1 hab, h.2.2.2⟩
end Go.Proofs.YtfkolgjapajekaaDoor.Al


namespace Go.Proofs.YtfkolgjapajekaaDoor.Al
end Go.Proofs.YtfkolgjapajekaaDoor.Al


namespace Go.Proofs.YtfkolgjapajekaaDoor.Al
theorem ref_SameElem_eq (x y : GElem) (h : x.Attrs.length ≤ 1073741824) : ref_SameElem x y = some (decide (x = y)) := by
  unfold ref_SameElem
  rw [ref_SameAttrs_eq _ _ (by omega)]
  obtain ⟨x1, x2, x3⟩ := x
  obtain ⟨y1, y2, y3⟩ := y
  by_cases h1 : x1 = y1 <;> by_cases h2 : x2 = y2 <;> by_cases h3 : x3 = y3 <;> simp [h1, h2, h3, default]
theorem all_eq_of {α : Type} [Inhabited α] [DecidableEq α] {a b : List α} (hl : a.length = b.length) (h : ((List.range a.length).all fun k => decide (a[k]! = b[k]!)) = true) : a = b := by
  apply List.ext_getElem hl
  intro k h1 h2
  have := List.all_eq_true.1 h k (List.mem_range.2 h1)
  simp only [decide_eq_true_eq] at this
  rwa [getElem!_pos a k h1, getElem!_pos b k h2] at this
theorem all_refl {α : Type} [Inhabited α] [DecidableEq α] (a : List α) : ((List.range a.length).all fun k => decide (a[k]! = a[k]!)) = true := by
  rw [List.all_eq_true]; intro k _; rw [decide_eq_true rfl]
theorem ref_SameFlow_eq (a b : List GElem) (hm : a.length ≤ 9223372036854775806) (h : ∀ e ∈ a, e.Attrs.length ≤ 1073741824) : ref_SameFlow a b = some (decide (a = b)) := by
  unfold ref_SameFlow
  by_cases hl : a.length = b.length
  · rw [if_neg (by simp [hl]), iter_find (n := a.length) (fun k => if decide (a[k]! = b[k]!) then none else some false) (fun k hk => by
      unfold ref_SameFlow_L1
      rw [if_pos (by simpa using hk), idx_nat hk, idx_nat (by omega), bnd1_some, bnd1_some, ref_SameElem_eq _ _ (h _ (mem_at hk)), bnd1_some, chk_nat (by omega)]
      generalize a[k]! = x
      generalize b[k]! = y
      by_cases h : x = y <;> simp [h, stepOf]) (by unfold ref_SameFlow_L1; rw [if_neg (by simp)]), find_const, ctl_outOf]
    by_cases h : a = b
    · subst h; rw [all_refl, decide_eq_true rfl]; rfl
    · rw [decide_eq_false h]
      have : ((List.range a.length).all fun k => decide (a[k]! = b[k]!)) = false := by
        rw [← Bool.not_eq_true]; exact fun hh => h (all_eq_of hl hh)
      rw [this]; rfl
  · rw [if_pos (by simp; omega), decide_eq_false (by rintro rfl; exact hl rfl)]
def OkF (f : List GElem) : Prop := ∀ e ∈ f, elemErr e = 0 ∧ e.Attrs.length ≤ 1048576
def OkU2 (us : List Un) : Prop := ∀ u ∈ us, match u with | .a e => elemErr e = 0 ∧ e.Attrs.length ≤ 1048576 | .r c t => (c = false → attrErr t true = 0) ∧ t.length ≤ 1048576
def OkFA (f : List GElem) : Prop := ∀ e ∈ f, attrErr e.Attrs false = 0 ∧ e.Attrs.length ≤ 1048576
theorem okE_attrs {e : GElem} (h : elemErr e = 0) : attrErr e.Attrs false = 0 := elem_attrs h
theorem OkF.fa {f : List GElem} (h : OkF f) : OkFA f := fun e he => ⟨okE_attrs (h e he).1, (h e he).2⟩
end Go.Proofs.YtfkolgjapajekaaDoor.Al


namespace Go.Proofs.YtfkolgjapajekaaDoor.Al
theorem okA_bulk {κ : GAttr → Nat} (h3 : ∀ a, a.Name.length + a.Value.length + 1 ≤ κ a) {l : List GAttr} (hb : (l.map κ).sum ≤ 1048576) : okA l := by
  have h1 := len_le_sum (μ := κ) (fun a => by have := h3 a; omega) l
  refine ⟨by omega, fun a ha => ?_⟩
  have h2 := mem_le_sum (μ := κ) ha
  have := h3 a
  omega
theorem okF_bulk {ν : GElem → Nat} {κ : GAttr → Nat} (h2 : ∀ e, (e.Attrs.map κ).sum + 1 ≤ ν e) (h3 : ∀ a, a.Name.length + a.Value.length + 1 ≤ κ a) {f : List GElem} (hb : (f.map ν).sum ≤ 1048576) : f.length ≤ 1048576 ∧ ∀ e ∈ f, okA e.Attrs := by
  have h1 := len_le_sum (μ := ν) (fun e => by have := h2 e; omega) f
  refine ⟨by omega, fun e he => okA_bulk h3 ?_⟩
  have h4 := mem_le_sum (μ := ν) he
  have := h2 e
  omega
end Go.Proofs.YtfkolgjapajekaaDoor.Al


namespace Go.Proofs.YtfkolgjapajekaaDoor.Al
structure SmD (d : List GStep) : Prop where
  at_ : ∀ s ∈ d, s.Attrs.length ≤ 1048576
  ea : ∀ s ∈ d, ∀ e ∈ s.Elems, e.Attrs.length ≤ 1048576
  sum : (d.map fun s => s.Elems.length).sum ≤ 1048576
  len : d.length ≤ 1048576
end Go.Proofs.YtfkolgjapajekaaDoor.Al


namespace Go.Proofs.YtfkolgjapajekaaDoor.Al
def OkU3 (us : List Un) : Prop := ∀ u ∈ us, match u with | .a e => elemErr e = 0 ∧ e.Attrs.length ≤ 1048576 | .r c t => (c = false → attrErr t true = 0) ∧ (c = true → t = []) ∧ t.length ≤ 1048576
theorem OkU3.two {us : List Un} (h : OkU3 us) : OkU2 us := by
  intro u hu
  have := h u hu
  match u, this with
  | .a e, he => exact he
  | .r c t, ht => exact ⟨ht.1, ht.2.2⟩
def szS (s : GStep) : Int := if s.Kind = 1 then s.Elems.length else s.N
structure RdD (p : Delta_Reader) : Prop where
  stp : ∀ s ∈ p.steps, GoodS s ∧ OkSt s
  u0 : 0 ≤ p.used
  fit : ∀ s rest, p.steps = s :: rest → p.used < szS s
end Go.Proofs.YtfkolgjapajekaaDoor.Al


namespace Go.Proofs.YtfkolgjapajekaaDoor.Al
end Go.Proofs.YtfkolgjapajekaaDoor.Al


namespace Go.Proofs.YtfkolgjapajekaaDoor.Al
end Go.Proofs.YtfkolgjapajekaaDoor.Al


namespace Go.Proofs.YtfkolgjapajekaaDoor.Al
def Adj (l : List GAxisStep) : Prop := ∀ k, k + 1 < l.length → l[k]!.Kind ≠ l[k + 1]!.Kind ∧ ¬ (l[k]!.Kind = 2 ∧ l[k + 1]!.Kind = 1)
def Okk (s : GAxisStep) : Prop := 0 ≤ s.Kind ∧ s.Kind ≤ 2 ∧ 1 ≤ s.N
structure WB (m : Int) (w : Axis_Writer) : Prop where
  a0 : 0 ≤ w.add
  c0 : 0 ≤ w.cut
  ok : ∀ s ∈ w.out, Okk s
  sum : sizeLen w.out + w.add + w.cut = m
  adj : Adj w.out
  last : 0 < w.out.length → w.out[w.out.length - 1]!.Kind = 0
end Go.Proofs.YtfkolgjapajekaaDoor.Al


namespace Go.Proofs.YtfkolgjapajekaaDoor.Al
structure RdOK (p : Axis_Reader) : Prop where
  stp : ∀ s ∈ p.steps, Stp s
  u0 : 0 ≤ p.used
  fit : ∀ s rest, p.steps = s :: rest → p.used < s.N
end Go.Proofs.YtfkolgjapajekaaDoor.Al


namespace Go.Proofs.YtfkolgjapajekaaDoor.Al
end Go.Proofs.YtfkolgjapajekaaDoor.Al


namespace Go.Proofs.YtfkolgjapajekaaDoor.Al
theorem OkU3.app {a b : List Un} (h : OkU3 (a ++ b)) : OkU3 b := fun u hu => h u (List.mem_append_right _ hu)
end Go.Proofs.YtfkolgjapajekaaDoor.Al


namespace Go.Proofs.YtfkolgjapajekaaDoor.Al
end Go.Proofs.YtfkolgjapajekaaDoor.Al


namespace Go.Proofs.YtfkolgjapajekaaDoor.Al
def flowErr (f : List GElem) : Int := if partErr f ≠ 0 then partErr f else if f = [] ∨ f[f.length - 1]!.Char ≠ 10 then 11 else 0
theorem errE_ne {f : List GElem} {k : Nat} {r : Int} (h : errE f k = some r) : r ≠ 0 := by
  unfold errE at h
  split at h
  · cases h
  · rename_i hne; cases h; exact hne
theorem flowErr_of (f : List GElem) (hm : f.length ≤ 1073741824) : (ctl1 (some (outOf ((List.range f.length).findSome? (errE f)))) fun (_ : Unit) =>
    bnd1 (gd ((true == true) && ((decide ((f.length : Int) = 0)) == false)) (chk .i64 ((f.length : Int) - 1))) fun (x4 : Int) =>
    bnd1 (gd ((true == true) && ((decide ((f.length : Int) = 0)) == false)) (idx f x4)) fun (x5 : GElem) =>
    if (true && ((decide ((f.length : Int) = 0)) || (!decide (x5.Char = 10)))) then some (11 : Int) else some 0) = some (flowErr f) := by
  rw [ctl_outOf]
  unfold flowErr partErr
  cases hr : (List.range f.length).findSome? (errE f) with
  | some r =>
    have hne : r ≠ 0 := by
      obtain ⟨k, hk⟩ := List.exists_of_findSome?_eq_some hr
      exact errE_ne hk.2
    dsimp only [Option.getD]
    rw [if_pos hne]
  | none =>
    dsimp only [Option.getD]
    rw [if_neg (by decide)]
    by_cases hl : f = []
    · subst hl; rfl
    · have h0 : 0 < f.length := List.length_pos_iff.2 hl
      have hd : decide ((f.length : Int) = 0) = false := decide_eq_false (by omega)
      rw [hd, show ((true == true) && (false == false)) = true from rfl, gd_true, show ((f.length : Int) - 1) = ((f.length - 1 : Nat) : Int) by omega, chk64 (by omega) (by omega), bnd1_some, gd_true, idx_nat (by omega), bnd1_some]
      by_cases hc : f[f.length - 1]!.Char = 10
      · rw [if_neg (by rw [decide_eq_true hc]; decide), if_neg (fun h => h.elim hl fun h => h hc)]
      · rw [if_pos (by rw [decide_eq_false hc]; decide), if_pos (.inr hc)]
theorem flow_Check_eq (f : List GElem) (h : ∀ x ∈ f, okE x) (hm : f.length ≤ 1073741824) : flow_Check f true = some (flowErr f) := by
  unfold flow_Check
  rw [iter_find (n := f.length) (errE f) (fun k hk => by
    unfold flow_Check_L1 errE
    rw [if_pos (by simpa using hk), idx_nat hk, bnd1_some, chk_nat (by omega), flow_elem_eq _ (h _ (mem_at hk)), bnd1_some]
    by_cases e : elemErr f[k]! = 0
    · rw [if_neg (ndF e), if_pos e]; rfl
    · rw [if_pos (ndT e), if_neg e]; rfl) (by unfold flow_Check_L1; rw [if_neg (by simp)])]
  exact flowErr_of f hm
theorem ref_FlowError_eq (f : List GElem) (h : ∀ x ∈ f, okE x) (hm : f.length ≤ 1073741824) : ref_FlowError f true = some (flowErr f) := by
  unfold ref_FlowError
  rw [iter_find (n := f.length) (errE f) (fun k hk => by
    unfold ref_FlowError_L1 errE
    rw [if_pos (by simpa using hk), idx_nat hk, bnd1_some, chk_nat (by omega), ref_ElemError_eq _ (h _ (mem_at hk)), bnd1_some]
    by_cases e : elemErr f[k]! = 0
    · rw [if_neg (ndF e), if_pos e]; rfl
    · rw [if_pos (ndT e), if_neg e]; rfl) (by unfold ref_FlowError_L1; rw [if_neg (by simp)])]
  exact flowErr_of f hm
instance : Inhabited Un := ⟨.r false []⟩
def off (n : List UInt8) : GAttr := ⟨n, []⟩
end Go.Proofs.YtfkolgjapajekaaDoor.Al


namespace Go.Proofs.YtfkolgjapajekaaDoor.Al
theorem first_len : tabFirst.length = 256 := by decide +kernel
theorem slc_from8 (s : List UInt8) (k : Nat) (hk : k ≤ s.length) : slc s (k : Int) (s.length : Int) = some (s.drop k) := by
  unfold slc
  rw [if_pos (by omega)]
  congr 1
  rw [List.take_of_length_le (by simp), Int.toNat_natCast]
structure TextR (at_ : List GAttr) (m : Nat) (R : Ctl (List GElem) (List GElem × Int)) : Prop where
  nrm : ∀ l, R = .nrm l → l.length ≤ m ∧ ∀ e ∈ l, e.Attrs = at_
  ext : ∀ l e, R = .ext (l, e) → l = []
end Go.Proofs.YtfkolgjapajekaaDoor.Al


namespace Go.Proofs.YtfkolgjapajekaaDoor.Al
end Go.Proofs.YtfkolgjapajekaaDoor.Al


namespace Go.Proofs.YtfkolgjapajekaaDoor.Al
def errT (t : Bool) (f : List GElem) (k : Nat) : Option Int := if elemErr f[k]! = 0 then (if t = false ∧ f[k]!.Ref = 0 then some 8 else none) else some (elemErr f[k]!)
theorem elem_refchar {x : GElem} (h : elemErr x = 0) : (x.Ref = 0 ↔ x.Char ≠ 0) := by
  unfold elemErr at h
  by_cases c : x.Char = 0 <;> by_cases r : x.Ref = 0 <;> simp [c, r] at h ⊢
theorem flow_Check_F (f : List GElem) (h : ∀ x ∈ f, okE x) (hm : f.length ≤ 1073741824) : flow_Check f false = some (((List.range f.length).findSome? (errT false f)).getD 0) := by
  unfold flow_Check
  rw [iter_find (n := f.length) (errT false f) (fun k hk => by
    unfold flow_Check_L1 errT
    rw [if_pos (by simpa using hk), idx_nat hk, bnd1_some, chk_nat (by omega), flow_elem_eq _ (h _ (mem_at hk)), bnd1_some]
    generalize f[k]! = x
    by_cases e : elemErr x = 0
    · rw [if_neg (ndF e), if_pos e]
      by_cases r : x.Ref = 0
      · rw [if_pos (show (!false && decide (x.Ref = 0)) = true by rw [decide_eq_true r]; rfl), if_pos ⟨rfl, r⟩]; rfl
      · rw [if_neg (show ¬ (!false && decide (x.Ref = 0)) = true by rw [decide_eq_false r]; decide), if_neg (fun h => r h.2)]; rfl
    · rw [if_pos (ndT e), if_neg e]; rfl) (by unfold flow_Check_L1; rw [if_neg (by simp)])]
  cases (List.range f.length).findSome? (errT false f) <;> rfl
theorem ref_FlowError_F (f : List GElem) (h : ∀ x ∈ f, okE x) (hm : f.length ≤ 1073741824) : ref_FlowError f false = some (((List.range f.length).findSome? (errT false f)).getD 0) := by
  unfold ref_FlowError
  rw [iter_find (n := f.length) (errT false f) (fun k hk => by
    unfold ref_FlowError_L1 errT
    rw [if_pos (by simpa using hk), idx_nat hk, bnd1_some, chk_nat (by omega), ref_ElemError_eq _ (h _ (mem_at hk)), bnd1_some]
    generalize f[k]! = x
    by_cases e : elemErr x = 0
    · rw [if_neg (ndF e), if_pos e]
      have hr := elem_refchar e
      by_cases r : x.Ref = 0
      · rw [if_pos (show (!false && !decide (x.Char = 0)) = true by rw [decide_eq_false (hr.1 r)]; rfl), if_pos ⟨rfl, r⟩]; rfl
      · have hc : x.Char = 0 := Classical.byContradiction fun hc => r (hr.2 hc)
        rw [if_neg (show ¬ (!false && !decide (x.Char = 0)) = true by rw [decide_eq_true hc]; decide), if_neg (fun h => r h.2)]; rfl
    · rw [if_pos (ndT e), if_neg e]; rfl) (by unfold ref_FlowError_L1; rw [if_neg (by simp)])]
  cases (List.range f.length).findSome? (errT false f) <;> rfl
theorem checks_same (f : List GElem) (t : Bool) (h : ∀ x ∈ f, okE x) (hm : f.length ≤ 1073741824) : ∃ r, flow_Check f t = some r ∧ ref_FlowError f t = some r := by
  cases t
  · exact ⟨_, flow_Check_F f h hm, ref_FlowError_F f h hm⟩
  · exact ⟨_, flow_Check_eq f h hm, ref_FlowError_eq f h hm⟩
theorem refs_loop (f : List GElem) (hm : f.length ≤ 1073741824) : ∃ r, iter (fun (a : Int × (List Int)) => flow_Refs_L1 f a.1 a.2) (0, []) = some r ∧ r.length ≤ f.length := by
  refine iter_hoare f.length (fun k st => st.1 = (k : Int) ∧ st.2.length ≤ k) _ ?_ ?_ ⟨rfl, by simp⟩
  · rintro k ⟨x, out⟩ hk ⟨rfl, ho⟩
    dsimp only at ho ⊢
    left
    unfold flow_Refs_L1
    rw [if_pos (by simpa using hk), idx_nat hk, bnd1_some]
    by_cases r : f[k]!.Ref = 0
    · rw [if_neg (ndF r), bnd1_some, chk_nat (by omega), bnd1_some]
      exact ⟨_, rfl, rfl, by dsimp only; omega⟩
    · rw [if_pos (ndT r), app8 (by omega), bnd1_some, bnd1_some, chk_nat (by omega), bnd1_some]
      exact ⟨_, rfl, rfl, by dsimp only; rw [List.length_append, List.length_singleton]; omega⟩
  · rintro ⟨x, out⟩ ⟨rfl, ho⟩
    dsimp only at ho ⊢
    unfold flow_Refs_L1
    rw [if_neg (by simp)]
    exact ⟨_, rfl, ho⟩
end Go.Proofs.YtfkolgjapajekaaDoor.Al


namespace Go.Proofs.YtfkolgjapajekaaDoor.Al
end Go.Proofs.YtfkolgjapajekaaDoor.Al


namespace Go.Proofs.YtfkolgjapajekaaDoor.Al
theorem same_loop {α : Type} [Inhabited α] [DecidableEq α] {f : Int → Option (Int ⊕ Ctl Unit Bool)} (a b : List α) (hl : a.length = b.length)
    (h1 : ∀ k : Nat, k < a.length → f k = stepOf k (if decide (a[k]! = b[k]!) then none else some false)) (h2 : f a.length = some (.inr (.nrm ()))) :
    (ctl1 (iter f 0) fun (_ : Unit) => some true) = some (decide (a = b)) := by
  rw [iter_find (n := a.length) (fun k => if decide (a[k]! = b[k]!) then none else some false) h1 h2, find_const, ctl_outOf]
  by_cases h : a = b
  · subst h; rw [all_refl, decide_eq_true rfl]; rfl
  · rw [decide_eq_false h]
    have : ((List.range a.length).all fun k => decide (a[k]! = b[k]!)) = false := by
      rw [← Bool.not_eq_true]; exact fun hh => h (all_eq_of hl hh)
    rw [this]; rfl
theorem rect_eqb (x y : GRect) : (decide (x.Row = y.Row) && (decide (x.Col = y.Col) && (decide (x.H = y.H) && (decide (x.W = y.W) && true)))) = decide (x = y) := by
  obtain ⟨x1, x2, x3, x4⟩ := x
  obtain ⟨y1, y2, y3, y4⟩ := y
  rw [Bool.eq_iff_iff]; simp
theorem draw_eqb (x y : GDrawOp) : (decide (x.Clock = y.Clock) && (decide (x.Site = y.Site) && (decide (x.Kind = y.Kind) && (decide (x.Item = y.Item) && (decide (x.Parent = y.Parent) && (decide (x.Place = y.Place) && (decide (x.Name = y.Name) && (decide (x.Value = y.Value) && true)))))))) = decide (x = y) := by
  obtain ⟨x1, x2, x3, x4, x5, x6, x7, x8⟩ := x
  obtain ⟨y1, y2, y3, y4, y5, y6, y7, y8⟩ := y
  rw [Bool.eq_iff_iff]; simp
theorem rects_eq (a b : List GRect) (hm : a.length ≤ 9223372036854775806) : slices_Equal_api_Rect_api_Rect a b = some (decide (a = b)) := by
  unfold slices_Equal_api_Rect_api_Rect
  by_cases hl : a.length = b.length
  · rw [if_neg (by simp [hl])]
    exact same_loop a b hl (fun k hk => by
      unfold slices_Equal_api_Rect_api_Rect_L1
      rw [if_pos (by simpa using hk), idx_nat hk, idx_nat (by omega), bnd1_some, bnd1_some, rect_eqb, chk_nat (by omega)]
      generalize a[k]! = x
      generalize b[k]! = y
      by_cases h : x = y <;> simp [h, stepOf]) (by unfold slices_Equal_api_Rect_api_Rect_L1; rw [if_neg (by simp)])
  · rw [if_pos (by simp; omega), decide_eq_false (by rintro rfl; exact hl rfl)]
theorem ref_rects_eq (a b : List GRect) (hm : a.length ≤ 9223372036854775806) : ref_SameRects a b = some (decide (a = b)) := by
  unfold ref_SameRects
  by_cases hl : a.length = b.length
  · rw [if_neg (by simp [hl])]
    exact same_loop a b hl (fun k hk => by
      unfold ref_SameRects_L1
      rw [if_pos (by simpa using hk), idx_nat hk, idx_nat (by omega), bnd1_some, bnd1_some, rect_eqb, chk_nat (by omega)]
      generalize a[k]! = x
      generalize b[k]! = y
      by_cases h : x = y <;> simp [h, stepOf]) (by unfold ref_SameRects_L1; rw [if_neg (by simp)])
  · rw [if_pos (by simp; omega), decide_eq_false (by rintro rfl; exact hl rfl)]
theorem ref_ops_eq (a b : List GDrawOp) (hm : a.length ≤ 9223372036854775806) : ref_SameOps a b = some (decide (a = b)) := by
  unfold ref_SameOps
  by_cases hl : a.length = b.length
  · rw [if_neg (by simp [hl])]
    exact same_loop a b hl (fun k hk => by
      unfold ref_SameOps_L1
      rw [if_pos (by simpa using hk), idx_nat hk, idx_nat (by omega), bnd1_some, bnd1_some, draw_eqb, chk_nat (by omega)]
      generalize a[k]! = x
      generalize b[k]! = y
      by_cases h : x = y <;> simp [h, stepOf]) (by unfold ref_SameOps_L1; rw [if_neg (by simp)])
  · rw [if_pos (by simp; omega), decide_eq_false (by rintro rfl; exact hl rfl)]
theorem cell_eq (x y : GCell) (hm : x.Attrs.length ≤ 1073741824) : grid_SameCell x y = some (decide (x = y)) := by
  unfold grid_SameCell
  rw [attr_Same_eq _ _ (by omega)]
  obtain ⟨x1, x2, x3, x4, x5⟩ := x
  obtain ⟨y1, y2, y3, y4, y5⟩ := y
  by_cases h1 : x1 = y1 <;> by_cases h2 : x2 = y2 <;> by_cases h3 : x3 = y3 <;> by_cases h4 : x4 = y4 <;> by_cases h5 : x5 = y5 <;> simp [h1, h2, h3, h4, h5, gd, bnd1_some]
theorem ref_cell_eq (x y : GCell) (hm : x.Attrs.length ≤ 1073741824) : ref_SameCell x y = some (decide (x = y)) := by
  unfold ref_SameCell
  rw [ref_SameAttrs_eq _ _ (by omega)]
  obtain ⟨x1, x2, x3, x4, x5⟩ := x
  obtain ⟨y1, y2, y3, y4, y5⟩ := y
  by_cases h1 : x1 = y1 <;> by_cases h2 : x2 = y2 <;> by_cases h3 : x3 = y3 <;> by_cases h4 : x4 = y4 <;> by_cases h5 : x5 = y5 <;> simp [h1, h2, h3, h4, h5, gd, bnd1_some]
theorem cells_eq (a b : List GCell) (hm : a.length ≤ 9223372036854775806) (h : ∀ x ∈ a, x.Attrs.length ≤ 1073741824) : slices_EqualFunc_api_Cell_api_Cell_api_Cell_api_Cell__SameCell a b = some (decide (a = b)) := by
  unfold slices_EqualFunc_api_Cell_api_Cell_api_Cell_api_Cell__SameCell
  by_cases hl : a.length = b.length
  · rw [if_neg (by simp [hl])]
    exact same_loop a b hl (fun k hk => by
      unfold slices_EqualFunc_api_Cell_api_Cell_api_Cell_api_Cell__SameCell_L1
      rw [if_pos (by simpa using hk), idx_nat hk, idx_nat (by omega), bnd1_some, bnd1_some, cell_eq _ _ (h _ (mem_at hk)), bnd1_some, chk_nat (by omega)]
      generalize a[k]! = x
      generalize b[k]! = y
      by_cases h : x = y <;> simp [h, stepOf]) (by unfold slices_EqualFunc_api_Cell_api_Cell_api_Cell_api_Cell__SameCell_L1; rw [if_neg (by simp)])
  · rw [if_pos (by simp; omega), decide_eq_false (by rintro rfl; exact hl rfl)]
theorem ref_cells_eq (a b : List GCell) (hm : a.length ≤ 9223372036854775806) (h : ∀ x ∈ a, x.Attrs.length ≤ 1073741824) : ref_SameCells a b = some (decide (a = b)) := by
  unfold ref_SameCells
  by_cases hl : a.length = b.length
  · rw [if_neg (by simp [hl])]
    exact same_loop a b hl (fun k hk => by
      unfold ref_SameCells_L1
      rw [if_pos (by simpa using hk), idx_nat hk, idx_nat (by omega), bnd1_some, bnd1_some, ref_cell_eq _ _ (h _ (mem_at hk)), bnd1_some, chk_nat (by omega)]
      generalize a[k]! = x
      generalize b[k]! = y
      by_cases h : x = y <;> simp [h, stepOf]) (by unfold ref_SameCells_L1; rw [if_neg (by simp)])
  · rw [if_pos (by simp; omega), decide_eq_false (by rintro rfl; exact hl rfl)]
def okG (g : GGrid) : Prop := g.Cells.length ≤ 1048576 ∧ g.Merges.length ≤ 1048576 ∧ ∀ x ∈ g.Cells, okA x.Attrs
structure okN (n : GNode) : Prop where
  at_ : okA n.Attrs
  fl : n.Flow.length ≤ 1048576
  fa : ∀ e ∈ n.Flow, okA e.Attrs
  gr : okG n.Grid
  dr : n.Draw.length ≤ 1048576
def okDoc (d : GDoc) : Prop := d.Nodes.length ≤ 1048576 ∧ ∀ n ∈ d.Nodes, okN n
theorem grid_eq (x y : GGrid) (h : okG x) : grid_Same x y = some (decide (x = y)) := by
  obtain ⟨h1, h2, h3⟩ := h
  unfold grid_Same
  rw [rects_eq _ _ (by omega), cells_eq _ _ (by omega) (fun e he => (h3 e he).1)]
  obtain ⟨x1, x2, x3, x4⟩ := x
  obtain ⟨y1, y2, y3, y4⟩ := y
  by_cases h1 : x1 = y1 <;> by_cases h2 : x2 = y2 <;> by_cases h3 : x3 = y3 <;> by_cases h4 : x4 = y4 <;> simp [h1, h2, h3, h4, gd, bnd1_some]
theorem ref_grid_eq (x y : GGrid) (h : okG x) : ref_SameGrid x y = some (decide (x = y)) := by
  obtain ⟨h1, h2, h3⟩ := h
  unfold ref_SameGrid
  rw [ref_rects_eq _ _ (by omega), ref_cells_eq _ _ (by omega) (fun e he => (h3 e he).1)]
  obtain ⟨x1, x2, x3, x4⟩ := x
  obtain ⟨y1, y2, y3, y4⟩ := y
  by_cases h1 : x1 = y1 <;> by_cases h2 : x2 = y2 <;> by_cases h3 : x3 = y3 <;> by_cases h4 : x4 = y4 <;> simp [h1, h2, h3, h4, gd, bnd1_some]
theorem ref_node_eq (x y : GNode) (h : okN x) : ref_SameNode x y = some (decide (x = y)) := by
  have ha := h.at_.1
  have hf := h.fl
  have hd := h.dr
  unfold ref_SameNode
  rw [ref_SameAttrs_eq _ _ (by omega), ref_SameFlow_eq _ _ (by omega) (fun e he => (h.fa e he).1), ref_grid_eq _ _ h.gr, ref_ops_eq _ _ (by omega)]
  obtain ⟨x1, x2, x3, x4, x5, x6⟩ := x
  obtain ⟨y1, y2, y3, y4, y5, y6⟩ := y
  by_cases h1 : x1 = y1 <;> by_cases h2 : x2 = y2 <;> by_cases h3 : x3 = y3 <;> by_cases h4 : x4 = y4 <;> by_cases h5 : x5 = y5 <;> by_cases h6 : x6 = y6 <;> simp [h1, h2, h3, h4, h5, h6, gd, bnd1_some]
theorem ref_doc_eq (a b : GDoc) (h : okDoc a) : ref_SameDoc a b = some (decide (a.Nodes = b.Nodes)) := by
  unfold ref_SameDoc
  have hm := h.1
  by_cases hl : a.Nodes.length = b.Nodes.length
  · rw [if_neg (by simp [hl]), same_loop a.Nodes b.Nodes hl (fun k hk => by
      unfold ref_SameDoc_L1
      rw [if_pos (by simpa using hk), idx_nat hk, idx_nat (by omega), bnd1_some, bnd1_some, ref_node_eq _ _ (h.2 _ (mem_at hk)), bnd1_some, chk_nat (by omega)]
      generalize a.Nodes[k]! = x
      generalize b.Nodes[k]! = y
      by_cases h : x = y <;> simp [h, stepOf]) (by unfold ref_SameDoc_L1; rw [if_neg (by simp)])]
  · rw [if_pos (by simp; omega), decide_eq_false (fun e => hl (by rw [e]))]
theorem findSome_map {β : Type} (p : Nat → Bool) (F : Nat → β) (l : List Nat) : (l.findSome? fun k => if p k then some (F k) else none) = (l.find? p).map F := by
  induction l with
  | nil => rfl
  | cons a l ih => rw [List.findSome?_cons, List.find?_cons]; by_cases h : p a = true <;> simp [h, ih]
def findN (l : List GNode) (id : Int) : Option Nat := (List.range l.length).find? fun k => decide (l[k]!.ID = id)
theorem findN_lt {l : List GNode} {id : Int} {k : Nat} (h : findN l id = some k) : k < l.length ∧ l[k]!.ID = id := by
  have h1 := List.mem_of_find?_eq_some h
  have h2 := List.find?_some h
  exact ⟨List.mem_range.1 h1, of_decide_eq_true h2⟩
theorem ref_Find_eq (d : GDoc) (id : Int) (hm : d.Nodes.length ≤ 1048576) : ref_Find d id = some (match findN d.Nodes id with | some k => (k : Int) | none => -1) := by
  unfold ref_Find
  rw [iter_find (n := d.Nodes.length) (fun k => if decide (d.Nodes[k]!.ID = id) then some (k : Int) else none) (fun k hk => by
    unfold ref_Find_L1
    rw [if_pos (by simpa using hk), idx_nat hk, bnd1_some, chk_nat (by omega)]
    by_cases h : d.Nodes[k]!.ID = id
    · rw [if_pos (decide_eq_true h), if_pos (decide_eq_true h)]; rfl
    · rw [if_neg (by simpa using h), if_neg (by simpa using h)]; rfl) (by unfold ref_Find_L1; rw [if_neg (by simp)]), findSome_map, ctl_outOf]
  unfold findN
  cases (List.range d.Nodes.length).find? fun k => decide (d.Nodes[k]!.ID = id) <;> rfl
end Go.Proofs.YtfkolgjapajekaaDoor.Al


namespace Go.Proofs.YtfkolgjapajekaaDoor.Al
def n1D : GNode := GNode.mk 1 0 [] [(GElem.mk 0 2 [])] (GGrid.mk 0 0 [] []) []
def n2D : GNode := GNode.mk 2 1 [] [(GElem.mk 10 0 [])] (GGrid.mk 0 0 [] []) []
def firstD : GDoc := GDoc.mk [n1D, n2D]
theorem okE_1 : okE (GElem.mk 0 2 []) := ⟨by decide, fun a ha => by cases ha⟩
theorem okE_2 : okE (GElem.mk 10 0 []) := ⟨by decide, fun a ha => by cases ha⟩
theorem okG_0 : okG (GGrid.mk 0 0 [] []) := ⟨by decide, by decide, fun a ha => by cases ha⟩
theorem okA_0 : okA [] := ⟨by decide, fun a ha => by cases ha⟩
theorem ok_firstD : okDoc firstD := by
  refine ⟨by decide, fun n hn => ?_⟩
  have : n = n1D ∨ n = n2D := by simpa [firstD] using hn
  rcases this with rfl | rfl
  · exact ⟨okA_0, by decide, fun e he => by
      have : e = GElem.mk 0 2 [] := by simpa [n1D] using he
      subst this; exact okA_0, okG_0, by decide⟩
  · exact ⟨okA_0, by decide, fun e he => by
      have : e = GElem.mk 10 0 [] := by simpa [n2D] using he
      subst this; exact okA_0, okG_0, by decide⟩
theorem attr_nil : attr_Check [] = some 0 := by rw [attr_Check_eq _ (fun a ha => by cases ha) (by decide)]; rfl
theorem flow1 : flow_Check [GElem.mk 0 2 []] false = some 0 := by
  rw [flow_Check_F _ (fun x hx => by
    have : x = GElem.mk 0 2 [] := by simpa using hx
    subst this; exact okE_1) (by decide)]
  rfl
theorem flow2 : flow_Check [GElem.mk 10 0 []] true = some 0 := by
  rw [flow_Check_eq _ (fun x hx => by
    have : x = GElem.mk 10 0 [] := by simpa using hx
    subst this; exact okE_2) (by decide)]
  rfl
theorem grid0 : grid_Same (GGrid.mk 0 0 [] []) (GGrid.mk 0 0 [] []) = some true := by rw [grid_eq _ _ okG_0, decide_eq_true rfl]
theorem node1 : doc_CheckNode n1D = some 0 := by
  unfold doc_CheckNode n1D
  dsimp only
  rw [if_neg (by decide), if_neg (by decide), attr_nil, bnd1_some, if_neg (by decide)]
  have t : doc_Texts 0 = some false := rfl
  have l : doc_Lists 0 = some true := rfl
  have g : doc_Grids 0 = some false := rfl
  have d : doc_Draws 0 = some false := rfl
  rw [t, l, g, d, grid0]
  show (bnd1 (flow_Check [GElem.mk 0 2 []] false) fun (r4 : Int) => some r4) = some 0
  rw [flow1]; rfl
theorem node2 : doc_CheckNode n2D = some 0 := by
  unfold doc_CheckNode n2D
  dsimp only
  rw [if_neg (by decide), if_neg (by decide), attr_nil, bnd1_some, if_neg (by decide)]
  have t : doc_Texts 1 = some true := rfl
  have l : doc_Lists 1 = some false := rfl
  have g : doc_Grids 1 = some false := rfl
  have d : doc_Draws 1 = some false := rfl
  rw [t, l, g, d, grid0]
  show (bnd1 (flow_Check [GElem.mk 10 0 []] true) fun (r4 : Int) => some r4) = some 0
  rw [flow2]; rfl
theorem refs1 : doc_Refs n1D = some [2] := by
  unfold doc_Refs flow_Refs_o
  have h1 : (fun (a : Int × (List Int)) => flow_Refs_o_L1 n1D.Flow a.1 a.2) (0, []) = some (.inl (1, [2])) := by
    show flow_Refs_o_L1 [GElem.mk 0 2 []] 0 [] = _
    unfold flow_Refs_o_L1; rfl
  have h2 : (fun (a : Int × (List Int)) => flow_Refs_o_L1 n1D.Flow a.1 a.2) (1, [2]) = some (.inr [2]) := by
    show flow_Refs_o_L1 [GElem.mk 0 2 []] 1 [2] = _
    unfold flow_Refs_o_L1; rfl
  have h3 : (fun (a : Int × (List Int)) => doc_Refs_L1 n1D a.1 a.2) (0, [2]) = some (.inr [2]) := by
    show doc_Refs_L1 n1D 0 [2] = _
    unfold doc_Refs_L1; rfl
  rw [iter_next h1, iter_stop h2, bnd1_some, bnd1_some, iter_stop h3]; rfl
theorem refs2 : doc_Refs n2D = some [] := by
  unfold doc_Refs flow_Refs_o
  have h1 : (fun (a : Int × (List Int)) => flow_Refs_o_L1 n2D.Flow a.1 a.2) (0, []) = some (.inl (1, [])) := by
    show flow_Refs_o_L1 [GElem.mk 10 0 []] 0 [] = _
    unfold flow_Refs_o_L1; rfl
  have h2 : (fun (a : Int × (List Int)) => flow_Refs_o_L1 n2D.Flow a.1 a.2) (1, []) = some (.inr []) := by
    show flow_Refs_o_L1 [GElem.mk 10 0 []] 1 [] = _
    unfold flow_Refs_o_L1; rfl
  have h3 : (fun (a : Int × (List Int)) => doc_Refs_L1 n2D a.1 a.2) (0, []) = some (.inr []) := by
    show doc_Refs_L1 n2D 0 [] = _
    unfold doc_Refs_L1; rfl
  rw [iter_next h1, iter_stop h2, bnd1_some, bnd1_some, iter_stop h3]; rfl
theorem find2 : doc_find firstD 2 = some (1, true) := by
  unfold doc_find slices_BinarySearchFunc_api_Node_api_Node_int__find_f1
  have h1 : (fun (a : Int × Int) => slices_BinarySearchFunc_api_Node_api_Node_int__find_f1_L1 firstD.Nodes 2 a.1 a.2) (0, (firstD.Nodes.length : Int)) = some (.inl (0, 1)) := by
    show slices_BinarySearchFunc_api_Node_api_Node_int__find_f1_L1 firstD.Nodes 2 0 2 = _
    unfold slices_BinarySearchFunc_api_Node_api_Node_int__find_f1_L1; decide +kernel
  have h2 : (fun (a : Int × Int) => slices_BinarySearchFunc_api_Node_api_Node_int__find_f1_L1 firstD.Nodes 2 a.1 a.2) (0, 1) = some (.inl (1, 1)) := by
    show slices_BinarySearchFunc_api_Node_api_Node_int__find_f1_L1 firstD.Nodes 2 0 1 = _
    unfold slices_BinarySearchFunc_api_Node_api_Node_int__find_f1_L1; decide +kernel
  have h3 : (fun (a : Int × Int) => slices_BinarySearchFunc_api_Node_api_Node_int__find_f1_L1 firstD.Nodes 2 a.1 a.2) (1, 1) = some (.inr 1) := by
    show slices_BinarySearchFunc_api_Node_api_Node_int__find_f1_L1 firstD.Nodes 2 1 1 = _
    unfold slices_BinarySearchFunc_api_Node_api_Node_int__find_f1_L1; rfl
  rw [iter_next h1, iter_next h2, iter_stop h3, bnd1_some]; rfl
theorem permitted1 : doc_Permitted 0 1 = some true := by
  unfold doc_Permitted
  rw [if_pos (by decide), bnd1_some]
  unfold slices_Contains_int_int slices_Index_int_int
  have h1 : (fun (a : Int) => slices_Index_int_int_L1 [1, 6, 7, 10, 11, 12] 1 a) 0 = some (.inr (.ext 0)) := by
    show slices_Index_int_int_L1 [1, 6, 7, 10, 11, 12] 1 0 = _
    unfold slices_Index_int_int_L1; rfl
  rw [iter_stop h1]; rfl
theorem crefs1 : doc_CheckRefs firstD 0 [2] = some 0 := by
  unfold doc_CheckRefs
  have h1 : (fun (a : Int) => doc_CheckRefs_L1 firstD 0 [2] a) 0 = some (.inl 1) := by
    show doc_CheckRefs_L1 firstD 0 [2] 0 = _
    unfold doc_CheckRefs_L1
    rw [if_pos (by decide), show idx ([2] : List Int) 0 = some 2 from rfl, bnd1_some, find2, bnd2_some, if_neg (by decide), show idx firstD.Nodes 1 = some n2D from rfl, bnd1_some, show n2D.Kind = 1 from rfl, permitted1]
    rfl
  have h2 : (fun (a : Int) => doc_CheckRefs_L1 firstD 0 [2] a) 1 = some (.inr (.nrm ())) := by
    show doc_CheckRefs_L1 firstD 0 [2] 1 = _
    unfold doc_CheckRefs_L1; rfl
  rw [iter_next h1, iter_stop h2]; rfl
theorem crefs2 : doc_CheckRefs firstD 1 [] = some 0 := by
  unfold doc_CheckRefs
  have h2 : (fun (a : Int) => doc_CheckRefs_L1 firstD 1 [] a) 0 = some (.inr (.nrm ())) := by
    show doc_CheckRefs_L1 firstD 1 [] 0 = _
    unfold doc_CheckRefs_L1; rfl
  rw [iter_stop h2]; rfl
theorem check_first : doc_Check firstD = some 0 := by
  unfold doc_Check
  have a1 : (fun (a : Int) => doc_Check_L1 firstD a) 0 = some (.inl 1) := by
    show doc_Check_L1 firstD 0 = _
    unfold doc_Check_L1
    rw [if_pos (by decide), show idx firstD.Nodes 0 = some n1D from rfl, bnd1_some, node1]; rfl
  have a2 : (fun (a : Int) => doc_Check_L1 firstD a) 1 = some (.inl 2) := by
    show doc_Check_L1 firstD 1 = _
    unfold doc_Check_L1
    rw [if_pos (by decide), show idx firstD.Nodes 1 = some n2D from rfl, bnd1_some, node2]; rfl
  have a3 : (fun (a : Int) => doc_Check_L1 firstD a) 2 = some (.inr (.nrm ())) := by
    show doc_Check_L1 firstD 2 = _
    unfold doc_Check_L1; rfl
  have b1 : (fun (a : Int) => doc_Check_L2 firstD a) 0 = some (.inl 1) := by
    show doc_Check_L2 firstD 0 = _
    unfold doc_Check_L2
    rw [if_pos (by decide), show idx firstD.Nodes 0 = some n1D from rfl, bnd1_some, refs1, bnd1_some, show n1D.Kind = 0 from rfl, crefs1]; rfl
  have b2 : (fun (a : Int) => doc_Check_L2 firstD a) 1 = some (.inl 2) := by
    show doc_Check_L2 firstD 1 = _
    unfold doc_Check_L2
    rw [if_pos (by decide), show idx firstD.Nodes 1 = some n2D from rfl, bnd1_some, refs2, bnd1_some, show n2D.Kind = 1 from rfl, crefs2]; rfl
  have b3 : (fun (a : Int) => doc_Check_L2 firstD a) 2 = some (.inr (.nrm ())) := by
    show doc_Check_L2 firstD 2 = _
    unfold doc_Check_L2; rfl
  rw [if_neg (by decide), iter_next a1, iter_next a2, iter_stop a3, iter_next b1, iter_next b2, iter_stop b3]; rfl
theorem law_docs_eq : law_docs = some true := by
  unfold law_docs
  have h1 : doc_First = some firstD := rfl
  have h2 : law_simple [GElem.mk 10 0 []] = some firstD := rfl
  have h3 : law_end = some (GElem.mk 10 0 []) := rfl
  rw [h1, bnd1_some, check_first, bnd1_some, if_pos (by decide), h3, bnd1_some, h2, bnd1_some, ref_doc_eq _ _ ok_firstD, bnd1_some, bnd1_some, decide_eq_true rfl]
  rfl
end Go.Proofs.YtfkolgjapajekaaDoor.Al


namespace Go.Proofs.YtfkolgjapajekaaDoor.Al
theorem okDoc_bulk {μ : GNode → Nat} {γ : GGrid → Nat} {ψ : GCell → Nat} {ρ : GRect → Nat} {δ : GDrawOp → Nat} {ν : GElem → Nat} {κ : GAttr → Nat}
    (hn : ∀ n, (n.Attrs.map κ).sum + (n.Flow.map ν).sum + γ n.Grid + (n.Draw.map δ).sum + 1 ≤ μ n) (hg : ∀ g, (g.Cells.map ψ).sum + (g.Merges.map ρ).sum + 1 ≤ γ g)
    (hc : ∀ c, (c.Attrs.map κ).sum + 1 ≤ ψ c) (hr : ∀ r, 1 ≤ ρ r) (hd : ∀ o, 1 ≤ δ o) (he : ∀ e, (e.Attrs.map κ).sum + 1 ≤ ν e) (ha : ∀ a, a.Name.length + a.Value.length + 1 ≤ κ a)
    {d : GDoc} (hb : (d.Nodes.map μ).sum ≤ 1048576) : okDoc d := by
  have h1 := len_le_sum (μ := μ) (fun n => by have := hn n; omega) d.Nodes
  refine ⟨by omega, fun n hm => ?_⟩
  have h2 := mem_le_sum (μ := μ) hm
  have h3 := hn n
  have h4 := hg n.Grid
  have h5 := okF_bulk (ν := ν) (κ := κ) he ha (f := n.Flow) (by omega)
  have h6 := len_le_sum (μ := ψ) (fun c => by have := hc c; omega) n.Grid.Cells
  have h7 := len_le_sum (μ := ρ) hr n.Grid.Merges
  have h8 := len_le_sum (μ := δ) hd n.Draw
  refine ⟨okA_bulk ha (by omega), h5.1, h5.2, ⟨by omega, by omega, fun c hcm => okA_bulk ha ?_⟩, by omega⟩
  have h9 := mem_le_sum (μ := ψ) hcm
  have := hc c
  omega
end Go.Proofs.YtfkolgjapajekaaDoor.Al


namespace Go.Proofs.YtfkolgjapajekaaDoor.Al
theorem wrap32 {n : Nat} (h : n < 2147483648) : IntKind.i32.wrap (n : Int) = (n : Int) := by
  have e : (n : Int) % (2 ^ (32 : Nat) : Int) = (n : Int) := Int.emod_eq_of_lt (by omega) (by omega)
  show (if (true && decide ((n : Int) % (2 ^ (32 : Nat) : Int) ≥ (2 ^ (31 : Nat) : Int))) = true then (n : Int) % (2 ^ (32 : Nat) : Int) - (2 ^ (32 : Nat) : Int) else (n : Int) % (2 ^ (32 : Nat) : Int)) = _
  rw [e, if_neg]
  simp only [Bool.true_and, decide_eq_true_eq]
  omega
theorem wrap64 {n : Nat} (h : n < 9223372036854775808) : IntKind.i64.wrap (n : Int) = (n : Int) := by
  have e : (n : Int) % (2 ^ (64 : Nat) : Int) = (n : Int) := Int.emod_eq_of_lt (by omega) (by omega)
  show (if (true && decide ((n : Int) % (2 ^ (64 : Nat) : Int) ≥ (2 ^ (63 : Nat) : Int))) = true then (n : Int) % (2 ^ (64 : Nat) : Int) - (2 ^ (64 : Nat) : Int) else (n : Int) % (2 ^ (64 : Nat) : Int)) = _
  rw [e, if_neg]
  simp only [Bool.true_and, decide_eq_true_eq]
  omega
theorem bOr_nat (i a b : Nat) (hb : b < 2 ^ i) (hs : a * 2 ^ i + b < 2147483648) : bOr .i32 ((a * 2 ^ i : Nat) : Int) (b : Int) = ((a * 2 ^ i + b : Nat) : Int) := by
  unfold bOr
  have h1 : (BitVec.ofInt 32 ((a * 2 ^ i : Nat) : Int) ||| BitVec.ofInt 32 (b : Int)).toNat = a * 2 ^ i + b := by
    rw [BitVec.toNat_or, BitVec.ofInt_natCast, BitVec.ofInt_natCast, BitVec.toNat_ofNat, BitVec.toNat_ofNat, Nat.mod_eq_of_lt (by omega), Nat.mod_eq_of_lt (by omega)]
    rw [← Nat.shiftLeft_eq, Nat.shiftLeft_add_eq_or_of_lt hb]
  show IntKind.i32.wrap ((BitVec.ofInt 32 ((a * 2 ^ i : Nat) : Int) ||| BitVec.ofInt 32 (b : Int)).toNat : Int) = _
  rw [h1]; exact wrap32 hs
theorem and31 : ∀ b : Fin 256, bAnd .u8 ((b.val : Nat) : Int) 31 = ((b.val % 32 : Nat) : Int) := by decide +kernel
theorem and15 : ∀ b : Fin 256, bAnd .u8 ((b.val : Nat) : Int) 15 = ((b.val % 16 : Nat) : Int) := by decide +kernel
theorem and7 : ∀ b : Fin 256, bAnd .u8 ((b.val : Nat) : Int) 7 = ((b.val % 8 : Nat) : Int) := by decide +kernel
theorem and63 : ∀ b : Fin 256, bAnd .u8 ((b.val : Nat) : Int) 63 = ((b.val % 64 : Nat) : Int) := by decide +kernel
theorem shl_nat (i a : Nat) (hi : i ≤ 32) (hs : a * 2 ^ i < 2147483648) : shlC .i32 (a : Int) i = ((a * 2 ^ i : Nat) : Int) := by
  unfold shlC
  show IntKind.i32.wrap ((a : Int) * 2 ^ (min i 32)) = _
  rw [Nat.min_eq_left hi, show (a : Int) * 2 ^ i = ((a * 2 ^ i : Nat) : Int) by push_cast; rfl, wrap32 hs]
theorem firstT_eq : ∀ c : Fin 256, tabFirst[c.val]! = (Lib.firstT c.val : Int) := by decide +kernel
theorem bad_bits : ∀ c : Fin 256, bOr .i32 (bAndNot .i32 (IntKind.i32.wrap (c.val : Int)) (shrC .i32 (shlC .i32 (IntKind.i32.wrap 241) 31) 31)) (bAnd .i32 65533 (shrC .i32 (shlC .i32 (IntKind.i32.wrap 241) 31) 31)) = 65533 := by decide +kernel
theorem sz_bits : ∀ c : Fin 256, IntKind.i64.wrap (bAnd .u8 (Lib.firstT c.val : Int) 7) = ((Lib.firstT c.val % 8 : Nat) : Int) := by decide +kernel
theorem acc_bits : ∀ c : Fin 256, idx tabAccept (shrC .u8 (Lib.firstT c.val : Int) 4) = some (Utf8_AcceptRange.mk (Lib.accLo (Lib.firstT c.val / 16)) (Lib.accHi (Lib.firstT c.val / 16))) := by decide +kernel
theorem first_cases : ∀ c : Fin 256, 128 ≤ c.val → Lib.firstT c.val = 241 ∨ (2 ≤ Lib.firstT c.val % 8 ∧ Lib.firstT c.val % 8 ≤ 4 ∧ Lib.firstT c.val < 240) := by decide +kernel
theorem b2_bits (c d : Fin 256) : bOr .i32 (shlC .i32 (IntKind.i32.wrap (bAnd .u8 ((c.val : Nat) : Int) 31)) 6) (IntKind.i32.wrap (bAnd .u8 ((d.val : Nat) : Int) 63)) = ((c.val % 32 * 64 + d.val % 64 : Nat) : Int) := by
  rw [and31, and63, wrap32 (by omega), wrap32 (by omega), shl_nat 6 _ (by omega) (by omega), bOr_nat 6 _ _ (by omega) (by omega)]
theorem b3_bits (c d e : Fin 256) : bOr .i32 (bOr .i32 (shlC .i32 (IntKind.i32.wrap (bAnd .u8 ((c.val : Nat) : Int) 15)) 12) (shlC .i32 (IntKind.i32.wrap (bAnd .u8 ((d.val : Nat) : Int) 63)) 6)) (IntKind.i32.wrap (bAnd .u8 ((e.val : Nat) : Int) 63)) =
    ((c.val % 16 * 4096 + d.val % 64 * 64 + e.val % 64 : Nat) : Int) := by
  rw [and15, and63, and63, wrap32 (by omega), wrap32 (by omega), wrap32 (by omega), shl_nat 12 _ (by omega) (by omega), shl_nat 6 _ (by omega) (by omega), bOr_nat 12 _ _ (by omega) (by omega),
    show c.val % 16 * 2 ^ 12 + d.val % 64 * 2 ^ 6 = (c.val % 16 * 64 + d.val % 64) * 2 ^ 6 by omega, bOr_nat 6 _ _ (by omega) (by omega)]
theorem b4_bits (c d e f : Fin 256) : bOr .i32 (bOr .i32 (bOr .i32 (shlC .i32 (IntKind.i32.wrap (bAnd .u8 ((c.val : Nat) : Int) 7)) 18) (shlC .i32 (IntKind.i32.wrap (bAnd .u8 ((d.val : Nat) : Int) 63)) 12)) (shlC .i32 (IntKind.i32.wrap (bAnd .u8 ((e.val : Nat) : Int) 63)) 6)) (IntKind.i32.wrap (bAnd .u8 ((f.val : Nat) : Int) 63)) =
    ((c.val % 8 * 262144 + d.val % 64 * 4096 + e.val % 64 * 64 + f.val % 64 : Nat) : Int) := by
  rw [and7, and63, and63, and63, wrap32 (by omega), wrap32 (by omega), wrap32 (by omega), wrap32 (by omega), shl_nat 18 _ (by omega) (by omega), shl_nat 12 _ (by omega) (by omega), shl_nat 6 _ (by omega) (by omega), bOr_nat 18 _ _ (by omega) (by omega),
    show c.val % 8 * 2 ^ 18 + d.val % 64 * 2 ^ 12 = (c.val % 8 * 64 + d.val % 64) * 2 ^ 12 by omega, bOr_nat 12 _ _ (by omega) (by omega),
    show (c.val % 8 * 64 + d.val % 64) * 2 ^ 12 + e.val % 64 * 2 ^ 6 = ((c.val % 8 * 64 + d.val % 64) * 64 + e.val % 64) * 2 ^ 6 by omega, bOr_nat 6 _ _ (by omega) (by omega)]
theorem getD_bang (s : List UInt8) (k : Nat) (h : k < s.length) : s.getD k 0 = s[k]! := by
  rw [getElem!_pos s k h, List.getD_eq_getElem?_getD, List.getElem?_eq_getElem h]; rfl
theorem slow_eqN (s : List UInt8) (h : s ≠ []) (h128 : 128 ≤ (s.getD 0 0).toNat) : unicode_utf8_decodeRuneInStringSlow s = some (((Lib.decodeL s).1 : Int), ((Lib.decodeL s).2 : Int)) := by
  have h0 : 0 < s.length := List.length_pos_iff.2 h
  rw [Lib.decodeL_N]
  unfold unicode_utf8_decodeRuneInStringSlow
  rw [if_neg (by rw [decide_eq_true_eq]; omega), show (0 : Int) = ((0 : Nat) : Int) from rfl, idx_nat h0, bnd1_some]
  rw [getD_bang s 0 h0] at h128 ⊢
  generalize s[0]! = c at h128 ⊢
  obtain ⟨C, hC⟩ : ∃ C : Fin 256, C.val = c.toNat := ⟨⟨c.toNat, c.toNat_lt⟩, rfl⟩
  rw [← hC] at h128 ⊢
  rw [idx_nat (l := tabFirst) (by rw [first_len]; exact C.isLt), bnd1_some, firstT_eq, acc_bits, sz_bits]
  rcases first_cases C h128 with hf | ⟨hf1, hf2, hf3⟩
  · rw [if_pos (by rw [decide_eq_true_eq]; omega), Lib.bad_eq _ _ _ _ _ C.isLt hf, hf]
    show some (_, (1 : Int)) = _
    rw [show ((241 : Nat) : Int) = 241 from rfl, bad_bits C]; rfl
  · rw [if_neg (by rw [decide_eq_true_eq]; omega), bnd1_some]
    have hsl := Lib.slow_eq s.length C.val (s.getD 1 0).toNat (s.getD 2 0).toNat (s.getD 3 0).toNat h0 (UInt8.toNat_lt _) (UInt8.toNat_lt _) (UInt8.toNat_lt _) hf3
    rw [← hsl]
    generalize hsz : Lib.firstT C.val % 8 = sz at hf1 hf2 ⊢
    generalize Lib.accLo (Lib.firstT C.val / 16) = lo
    generalize Lib.accHi (Lib.firstT C.val / 16) = hi
    unfold Lib.slowN
    by_cases hl : s.length < sz
    · rw [if_pos (by rw [decide_eq_true_eq]; omega), if_pos hl]; rfl
    rw [if_neg (by rw [decide_eq_true_eq]; omega), if_neg hl, show (1 : Int) = ((1 : Nat) : Int) from rfl, idx_nat (by omega), bnd1_some, getD_bang s 1 (by omega)]
    generalize s[1]! = d
    obtain ⟨D, hD⟩ : ∃ D : Fin 256, D.val = d.toNat := ⟨⟨d.toNat, d.toNat_lt⟩, rfl⟩
    rw [← hD]
    by_cases c1 : D.val < lo ∨ hi < D.val
    · rw [if_pos (by simp only [Bool.or_eq_true, decide_eq_true_eq]; omega), if_pos c1]; rfl
    rw [if_neg (by simp only [Bool.or_eq_true, decide_eq_true_eq]; omega), if_neg c1]
    by_cases e2 : sz ≤ 2
    · rw [if_pos (by rw [decide_eq_true_eq]; omega), if_pos e2, b2_bits]; rfl
    rw [if_neg (by rw [decide_eq_true_eq]; omega), if_neg e2, show (2 : Int) = ((2 : Nat) : Int) from rfl, idx_nat (by omega), bnd1_some, getD_bang s 2 (by omega)]
    generalize s[2]! = e
    obtain ⟨E, hE⟩ : ∃ E : Fin 256, E.val = e.toNat := ⟨⟨e.toNat, e.toNat_lt⟩, rfl⟩
    rw [← hE]
    by_cases c2 : E.val < 128 ∨ 191 < E.val
    · rw [if_pos (by simp only [Bool.or_eq_true, decide_eq_true_eq]; omega), if_pos c2]; rfl
    rw [if_neg (by simp only [Bool.or_eq_true, decide_eq_true_eq]; omega), if_neg c2]
    by_cases e3 : sz ≤ 3
    · rw [if_pos (by rw [decide_eq_true_eq]; omega), if_pos e3, b3_bits]; rfl
    rw [if_neg (by rw [decide_eq_true_eq]; omega), if_neg e3, show (3 : Int) = ((3 : Nat) : Int) from rfl, idx_nat (by omega), bnd1_some, getD_bang s 3 (by omega)]
    generalize s[3]! = f
    obtain ⟨F, hF⟩ : ∃ F : Fin 256, F.val = f.toNat := ⟨⟨f.toNat, f.toNat_lt⟩, rfl⟩
    rw [← hF]
    by_cases c3 : F.val < 128 ∨ 191 < F.val
    · rw [if_pos (by simp only [Bool.or_eq_true, decide_eq_true_eq]; omega), if_pos c3]; rfl
    rw [if_neg (by simp only [Bool.or_eq_true, decide_eq_true_eq]; omega), if_neg c3, b4_bits]; rfl
theorem decode_eqL (s : List UInt8) (h : s ≠ []) : unicode_utf8_DecodeRuneInString s = some (((Lib.decodeL s).1 : Int), ((Lib.decodeL s).2 : Int)) := by
  have h0 : 0 < s.length := List.length_pos_iff.2 h
  unfold unicode_utf8_DecodeRuneInString
  rw [decide_eq_false h, show ((!false) == true) = true from rfl, gd_true, show (0 : Int) = ((0 : Nat) : Int) from rfl, idx_nat h0, bnd1_some, Bool.not_false, Bool.true_and]
  by_cases hc : (s[0]!).toNat < 128
  · rw [if_pos (by rw [decide_eq_true_eq]; omega), bnd1_some, wrap32 (by omega)]
    obtain ⟨c, t, rfl⟩ := List.exists_cons_of_ne_nil h
    have hc' : c.toNat < 128 := hc
    rw [Lib.decodeL_ascii c t hc']; rfl
  · rw [if_neg (by rw [decide_eq_true_eq]; omega), slow_eqN s h (by rw [getD_bang s 0 h0]; omega), bnd2_some]
def badR (r : Nat) : Bool := decide (r = 10) || !charOK (r : Int)
def textF : Nat → List UInt8 → Bool
  | 0, _ => true
  | n + 1, s => if s = [] then true else if ((Lib.decodeL s).1 = 65533 ∧ (Lib.decodeL s).2 = 1) ∨ badR (Lib.decodeL s).1 = true then false else textF n (s.drop (Lib.decodeL s).2)
theorem textF_s (n : Nat) (s : List UInt8) : textF (n + 1) s = if s = [] then true else if ((Lib.decodeL s).1 = 65533 ∧ (Lib.decodeL s).2 = 1) ∨ badR (Lib.decodeL s).1 = true then false else textF n (s.drop (Lib.decodeL s).2) := rfl
def runeF : Nat → List UInt8 → Bool
  | 0, _ => true
  | n + 1, s => if s = [] then true else if badR (Lib.decodeL s).1 = true then false else runeF n (s.drop (Lib.decodeL s).2)
theorem runeF_s (n : Nat) (s : List UInt8) : runeF (n + 1) s = if s = [] then true else if badR (Lib.decodeL s).1 = true then false else runeF n (s.drop (Lib.decodeL s).2) := rfl
theorem text_rune : ∀ (n : Nat) (s : List UInt8), s.length ≤ n → (Lib.validD s && runeF n s) = textF n s := by
  intro n
  induction n with
  | zero => intro s hs; obtain rfl := List.eq_nil_of_length_eq_zero (Nat.le_zero.1 hs); rfl
  | succ n ih =>
    intro s hs
    rw [textF_s, runeF_s]
    by_cases hn : s = []
    · subst hn; rfl
    · have hw := Lib.decodeL_width s
      have hl := List.length_pos_iff.2 hn
      rw [if_neg hn, if_neg hn, Lib.validD_step s hn]
      by_cases hv : (Lib.decodeL s).1 = 65533 ∧ (Lib.decodeL s).2 = 1
      · rw [if_pos hv, if_pos (show ((Lib.decodeL s).1 = 65533 ∧ (Lib.decodeL s).2 = 1) ∨ badR (Lib.decodeL s).1 = true from .inl hv)]; rfl
      · rw [if_neg hv]
        by_cases hb : badR (Lib.decodeL s).1 = true
        · rw [if_pos hb, if_pos (.inr hb), Bool.and_false]
        · rw [if_neg hb, if_neg (by rintro (h | h); exact hv h; exact hb h)]
          exact ih _ (by rw [List.length_drop]; omega)
theorem charOK_wrap (r : Nat) (h : r ≤ 1114111) : IntKind.i64.wrap (r : Int) = (r : Int) := wrap64 (by omega)
theorem grid_Text_eq (s : List UInt8) : grid_Text s = some (textF s.length s) := by
  unfold grid_Text
  have key : ∀ (n : Nat) (s : List UInt8), s.length ≤ n → (ctl1 (iter (fun (a : (List UInt8)) => grid_Text_L1 a) s) fun (_ : Unit) => some true) = some (textF n s) := by
    intro n
    induction n with
    | zero =>
      intro s hs
      obtain rfl := List.eq_nil_of_length_eq_zero (Nat.le_zero.1 hs)
      have h1 : (fun (a : (List UInt8)) => grid_Text_L1 a) [] = some (.inr (.nrm ())) := by
        show grid_Text_L1 [] = _
        unfold grid_Text_L1; rfl
      rw [iter_stop h1]; rfl
    | succ n ih =>
      intro s hs
      rw [textF_s]
      by_cases hn : s = []
      · subst hn
        have h1 : (fun (a : (List UInt8)) => grid_Text_L1 a) [] = some (.inr (.nrm ())) := by
          show grid_Text_L1 [] = _
          unfold grid_Text_L1; rfl
        rw [iter_stop h1]; rfl
      · have hw := Lib.decodeL_width s
        have hle := Lib.decodeL_le s hn
        have hr := Lib.decodeL_rune s
        have hstep : grid_Text_L1 s = if ((Lib.decodeL s).1 = 65533 ∧ (Lib.decodeL s).2 = 1) ∨ badR (Lib.decodeL s).1 = true then some (.inr (.ext false)) else some (.inl (s.drop (Lib.decodeL s).2)) := by
          unfold grid_Text_L1 badR
          rw [if_pos (ndT hn), decode_eqL s hn, bnd2_some, charOK_wrap _ hr, flow_Char_eq]
          generalize (Lib.decodeL s).1 = r at *
          generalize (Lib.decodeL s).2 = w at *
          by_cases h1 : r = 65533 ∧ w = 1
          · obtain ⟨rfl, rfl⟩ := h1
            rw [if_pos (.inl ⟨rfl, rfl⟩)]; rfl
          · have e1 : ((decide ((r : Int) = 65533)) && (decide ((w : Int) = 1))) = false := by
              rw [← Bool.not_eq_true, Bool.and_eq_true, decide_eq_true_eq, decide_eq_true_eq]; omega
            by_cases h2 : r = 10
            · subst h2
              rw [if_pos (.inr (by rfl)), e1]; rfl
            · have e2 : (decide ((r : Int) = 10)) = false := decide_eq_false (by omega)
              rw [e1, e2, decide_eq_false h2]
              show (bnd1 (gd true (some (charOK (r : Int)))) fun (r3 : Bool) => _) = _
              rw [gd_true, bnd1_some, slc_from8 s w hle, bnd1_some]
              cases charOK (r : Int)
              · rw [if_pos (show (r = 65533 ∧ w = 1) ∨ (false || !false) = true from .inr rfl)]; rfl
              · rw [if_neg (show ¬ ((r = 65533 ∧ w = 1) ∨ (false || !true) = true) by rintro (h | h); exact h1 h; exact absurd h (by decide))]; rfl
        by_cases hb : ((Lib.decodeL s).1 = 65533 ∧ (Lib.decodeL s).2 = 1) ∨ badR (Lib.decodeL s).1 = true
        · rw [if_pos hb] at hstep
          rw [iter_stop (f := fun (a : (List UInt8)) => grid_Text_L1 a) hstep, if_neg hn, if_pos hb]; rfl
        · rw [if_neg hb] at hstep
          rw [iter_next (f := fun (a : (List UInt8)) => grid_Text_L1 a) hstep, if_neg hn, if_neg hb]
          exact ih _ (by rw [List.length_drop]; omega)
  exact key s.length s (Nat.le_refl _)
theorem runeAt_eq (s : List UInt8) (p : Nat) : runeAt s p = Lib.decodeL (s.drop p) := (Lib.decodeL_drop ⟨s.toArray⟩ p).symm
theorem ref_CellText_eq (s : List UInt8) (hs : s.length ≤ 9223372036854775807) : ref_CellText s = some (textF s.length s) := by
  unfold ref_CellText unicode_utf8_ValidString validS
  rw [if_pos hs, bnd1_some, ← text_rune s.length s (Nat.le_refl _)]
  cases Lib.validD s with
  | false => rfl
  | true =>
    rw [if_neg (by decide), Bool.true_and]
    have key : ∀ (n p : Nat), s.length - p ≤ n → (ctl1 (iter (fun (a : (Nat)) => ref_CellText_L1 s a) p) fun (_ : Unit) => some true) = some (runeF n (s.drop p)) := by
      intro n
      induction n with
      | zero =>
        intro p hp
        have h1 : (fun (a : (Nat)) => ref_CellText_L1 s a) p = some (.inr (.nrm ())) := by
          show ref_CellText_L1 s p = _
          unfold ref_CellText_L1; rw [if_neg (by rw [decide_eq_true_eq]; omega)]
        rw [iter_stop h1]; rfl
      | succ n ih =>
        intro p hp
        rw [runeF_s]
        by_cases hn : s.length ≤ p
        · have h1 : (fun (a : (Nat)) => ref_CellText_L1 s a) p = some (.inr (.nrm ())) := by
            show ref_CellText_L1 s p = _
            unfold ref_CellText_L1; rw [if_neg (by rw [decide_eq_true_eq]; omega)]
          rw [iter_stop h1, if_pos (List.drop_eq_nil_of_le hn)]; rfl
        · have hne : s.drop p ≠ [] := by
            intro e
            have := congrArg List.length e
            rw [List.length_drop, List.length_nil] at this
            omega
          have hw := Lib.decodeL_width (s.drop p)
          have hr := Lib.decodeL_rune (s.drop p)
          have hstep : ref_CellText_L1 s p = if badR (Lib.decodeL (s.drop p)).1 = true then some (.inr (.ext false)) else some (.inl (p + (Lib.decodeL (s.drop p)).2)) := by
            unfold ref_CellText_L1 badR
            rw [if_pos (by rw [decide_eq_true_eq]; omega), runeAt_eq, charOK_wrap _ hr, ref_Char_eq]
            generalize (Lib.decodeL (s.drop p)).1 = r at *
            generalize (Lib.decodeL (s.drop p)).2 = w at *
            by_cases h2 : r = 10
            · subst h2; rfl
            · rw [decide_eq_false h2, decide_eq_false (show ¬ ((r : Int) = 10) by omega)]
              show (bnd1 (gd true (some (charOK (r : Int)))) fun (r3 : Bool) => _) = _
              rw [gd_true, bnd1_some]
          rw [if_neg hne]
          by_cases hb : badR (Lib.decodeL (s.drop p)).1 = true
          · rw [if_pos hb] at hstep
            rw [iter_stop (f := fun (a : (Nat)) => ref_CellText_L1 s a) hstep, if_pos hb]; rfl
          · rw [if_neg hb] at hstep
            rw [iter_next (f := fun (a : (Nat)) => ref_CellText_L1 s a) hstep, if_neg hb, List.drop_drop]
            exact ih _ (by omega)
    have := key s.length 0 (by omega)
    rw [List.drop_zero] at this
    exact this
end Go.Proofs.YtfkolgjapajekaaDoor.Al


namespace Go.Proofs.YtfkolgjapajekaaDoor.Al
theorem find_both {ρ : Type} {f g : Int → Option (Int ⊕ Ctl Unit ρ)} {n : Nat} (I : Nat → Prop) (h0 : I 0) (h : ∀ k : Nat, k < n → I k → ∃ o : Option ρ, f k = stepOf k o ∧ g k = stepOf k o ∧ (o = none → I (k + 1)))
    (hf : f n = some (.inr (.nrm ()))) (hg : g n = some (.inr (.nrm ()))) : ∃ o : Option ρ, iter f 0 = some (outOf o) ∧ iter g 0 = some (outOf o) ∧ (o = none → I n) := by
  have key : ∀ m k : Nat, k + m = n → I k → ∃ o : Option ρ, iter f (k : Int) = some (outOf o) ∧ iter g (k : Int) = some (outOf o) ∧ (o = none → I n) := by
    intro m
    induction m with
    | zero =>
      intro k hk hi
      obtain rfl : k = n := by omega
      exact ⟨none, iter_stop hf, iter_stop hg, fun _ => hi⟩
    | succ m ih =>
      intro k hk hi
      obtain ⟨o, h1, h2, h3⟩ := h k (by omega) hi
      cases o with
      | some r => exact ⟨some r, iter_stop h1, iter_stop h2, fun e => by cases e⟩
      | none =>
        obtain ⟨o, e1, e2, e3⟩ := ih (k + 1) (by omega) (h3 rfl)
        exact ⟨o, (iter_next h1).trans e1, (iter_next h2).trans e2, e3⟩
  exact key n 0 (by omega) h0
theorem cmp_eq (x y : Int) : cmp_Compare_int x y = some (if x < y then -1 else if y < x then 1 else 0) := by
  unfold cmp_Compare_int cmp_isNaN_int
  rw [decide_eq_true (rfl : x = x), decide_eq_true (rfl : y = y), bnd1_some, bnd1_some, if_neg (by decide), if_neg (by decide)]
  by_cases h1 : x < y
  · rw [if_pos (decide_eq_true h1), if_pos h1]
  · rw [if_neg (by simpa using h1), if_neg h1]
    by_cases h2 : y < x
    · rw [if_pos (decide_eq_true h2), if_pos h2]
    · rw [if_neg (by simpa using h2), if_neg h2]
theorem cmp_Or_eq (a b : Int) : cmp_Or_int [a, b] = some (if a ≠ 0 then a else b) := by
  unfold cmp_Or_int
  by_cases ha : a ≠ 0
  · have h1 : (fun (x : Int) => cmp_Or_int_L1 [a, b] x) 0 = some (.inr (.ext a)) := by
      show cmp_Or_int_L1 [a, b] 0 = _
      unfold cmp_Or_int_L1
      rw [if_pos (by simp), show idx [a, b] 0 = some a from rfl, bnd1_some, if_pos (ndT ha)]
    rw [iter_stop h1, if_pos ha]; rfl
  · have ha' : a = 0 := Classical.not_not.1 ha
    have h1 : (fun (x : Int) => cmp_Or_int_L1 [a, b] x) 0 = some (.inl 1) := by
      show cmp_Or_int_L1 [a, b] 0 = _
      unfold cmp_Or_int_L1
      rw [if_pos (by simp), show idx [a, b] 0 = some a from rfl, bnd1_some, if_neg (ndF ha')]; rfl
    by_cases hb : b ≠ 0
    · have h2 : (fun (x : Int) => cmp_Or_int_L1 [a, b] x) 1 = some (.inr (.ext b)) := by
        show cmp_Or_int_L1 [a, b] 1 = _
        unfold cmp_Or_int_L1
        rw [if_pos (by simp), show idx [a, b] 1 = some b from rfl, bnd1_some, if_pos (ndT hb)]
      rw [iter_next h1, iter_stop h2, if_neg ha]; rfl
    · have hb' : b = 0 := Classical.not_not.1 hb
      have h2 : (fun (x : Int) => cmp_Or_int_L1 [a, b] x) 1 = some (.inl 2) := by
        show cmp_Or_int_L1 [a, b] 1 = _
        unfold cmp_Or_int_L1
        rw [if_pos (by simp), show idx [a, b] 1 = some b from rfl, bnd1_some, if_neg (ndF hb')]; rfl
      have h3 : (fun (x : Int) => cmp_Or_int_L1 [a, b] x) 2 = some (.inr (.nrm ())) := by
        show cmp_Or_int_L1 [a, b] 2 = _
        unfold cmp_Or_int_L1
        rw [if_neg (by simp)]
      rw [iter_next h1, iter_next h2, iter_stop h3, if_neg ha, hb']; rfl
def ord2 (a b c d : Int) : Int := if a < b then -1 else if b < a then 1 else if c < d then -1 else if d < c then 1 else 0
theorem or2 (a b c d : Int) : (if (if a < b then -1 else if b < a then 1 else 0) ≠ (0 : Int) then (if a < b then -1 else if b < a then 1 else 0) else if c < d then -1 else if d < c then 1 else (0 : Int)) = ord2 a b c d := by
  unfold ord2
  by_cases h1 : a < b
  · simp [h1]
  · by_cases h2 : b < a
    · simp [h1, h2]
    · simp [h1, h2]
theorem ord2_ge (a b c d : Int) : 0 ≤ ord2 a b c d ↔ (b < a ∨ (b = a ∧ d ≤ c)) := by
  unfold ord2
  split
  · constructor <;> intro h <;> omega
  · split
    · constructor <;> intro h <;> omega
    · split
      · constructor <;> intro h <;> omega
      · split
        · constructor <;> intro h <;> omega
        · constructor <;> intro h <;> omega
theorem grid_order_eq (a b : GCell) : grid_order a b = some (ord2 a.Row b.Row a.Col b.Col) := by
  unfold grid_order
  rw [cmp_eq, cmp_eq, bnd1_some, bnd1_some, cmp_Or_eq, bnd1_some, or2]
theorem ref_In_dec (x a b : Int) : ref_In x a b = some (decide (a ≤ x ∧ x ≤ b)) := by
  rw [ref_In_eq]
  congr 1
  rw [Bool.eq_iff_iff]; simp
def inC (rows cols : Int) (c : GCell) : Prop := 0 ≤ c.Row ∧ c.Row < rows ∧ 0 ≤ c.Col ∧ c.Col < cols ∧ 0 ≤ c.Ref ∧ c.Ref ≤ 1073741824
instance (rows cols : Int) (c : GCell) : Decidable (inC rows cols c) := by unfold inC; infer_instance
def emptyC (c : GCell) : Bool := decide (c.Text = []) && decide (c.Ref = 0) && decide (c.Attrs = [])
def cellE (rows cols : Int) (none_ : Bool) (c : GCell) : Int :=
  if ¬ inC rows cols c then 2 else if textF c.Text.length c.Text = false then 23 else if attrErr c.Attrs false ≠ 0 then attrErr c.Attrs false else if (!none_ && emptyC c) = true then 4 else 0
def errC (rows cols : Int) (none_ : Bool) (l : List GCell) (k : Nat) : Option Int :=
  if cellE rows cols none_ l[k]! ≠ 0 then some (cellE rows cols none_ l[k]!) else if 0 < k ∧ 0 ≤ ord2 l[k - 1]!.Row l[k]!.Row l[k - 1]!.Col l[k]!.Col then some 5 else none
def cellsErr (rows cols : Int) (none_ : Bool) (l : List GCell) : Int := ((List.range l.length).findSome? (errC rows cols none_ l)).getD 0
theorem lenA_zero (l : List GAttr) : decide ((l.length : Int) = 0) = decide (l = []) := by
  rw [Bool.eq_iff_iff, decide_eq_true_eq, decide_eq_true_eq, ← List.length_eq_zero_iff]; omega
def okC (c : GCell) : Prop := okA c.Attrs ∧ c.Text.length ≤ 1073741824
theorem tail_order (l : List GCell) (k : Nat) (hk : k < l.length) (hm : l.length ≤ 9223372036854775806) :
    (bnd1 (gd ((decide (0 < (k : Int))) == true) (chk .i64 ((k : Int) - 1))) fun (x5 : Int) =>
      bnd1 (gd ((decide (0 < (k : Int))) == true) (idx l x5)) fun (x6 : GCell) =>
      bnd1 (gd ((decide (0 < (k : Int))) == true) (grid_order x6 l[k]!)) fun (r3 : Int) =>
      if ((decide (0 < (k : Int))) && (decide (0 ≤ r3))) then (some (.inr (.ext 5)) : Option (Int ⊕ (Ctl Unit Int))) else (
        bnd1 (chk .i64 ((k : Int) + 1)) fun (x7 : Int) => some (.inl x7))) = stepOf k (if 0 < k ∧ 0 ≤ ord2 l[k - 1]!.Row l[k]!.Row l[k - 1]!.Col l[k]!.Col then some 5 else none) := by
  by_cases h0 : 0 < k
  · rw [decide_eq_true (show (0 : Int) < k by omega), show ((true == true) : Bool) = true from rfl, gd_true, chk_pred h0 (by omega), bnd1_some, gd_true, idx_nat (by omega), bnd1_some, gd_true, grid_order_eq, bnd1_some]
    by_cases h1 : 0 ≤ ord2 l[k - 1]!.Row l[k]!.Row l[k - 1]!.Col l[k]!.Col
    · rw [if_pos (show (true && decide (0 ≤ ord2 l[k - 1]!.Row l[k]!.Row l[k - 1]!.Col l[k]!.Col)) = true by rw [decide_eq_true h1]; rfl), if_pos ⟨h0, h1⟩]; rfl
    · rw [if_neg (show ¬ (true && decide (0 ≤ ord2 l[k - 1]!.Row l[k]!.Row l[k - 1]!.Col l[k]!.Col)) = true by rw [decide_eq_false h1]; decide), if_neg (fun h => h1 h.2), chk_nat (by omega)]; rfl
  · obtain rfl : k = 0 := by omega
    rw [if_neg (show ¬ (0 < 0 ∧ _) from fun h => absurd h.1 (by decide))]; rfl
theorem grid_cells_eq (rows cols : Int) (nn : Bool) (l : List GCell) (hm : l.length ≤ 1073741824) (hl : ∀ c ∈ l, okC c) : grid_cells l rows cols nn = some (cellsErr rows cols nn l) := by
  unfold grid_cells
  rw [iter_find (n := l.length) (errC rows cols nn l) (fun k hk => by
    obtain ⟨ha, ht⟩ := hl _ (mem_at hk)
    have hto := tail_order l k hk (by omega)
    unfold grid_cells_L1 errC cellE
    rw [if_pos (by simpa using hk), idx_nat hk, bnd1_some]
    by_cases h1 : inC rows cols l[k]!
    · have h1' := h1
      unfold inC at h1'
      rw [if_neg (by simp only [Bool.or_eq_true, decide_eq_true_eq]; omega), if_neg (by simp only [Bool.or_eq_true, decide_eq_true_eq]; omega), grid_Text_eq, bnd1_some, attr_Check_eq _ ha.2 (by have := ha.1; omega), bnd1_some, hto]
      rw [if_neg (Classical.not_not.2 h1)]
      cases htx : textF l[k]!.Text.length l[k]!.Text with
      | false => rfl
      | true =>
        rw [if_neg (show ¬ ((!true) = true) by decide), if_neg (show ¬ (true = false) by decide)]
        by_cases h3 : attrErr l[k]!.Attrs false = 0
        · rw [if_neg (ndF h3), if_neg (Classical.not_not.2 h3)]
          have he : grid_empty l[k]! = some (emptyC l[k]!) := by unfold grid_empty emptyC; rw [lenA_zero]
          rw [he, bnd1_some]
          by_cases h4 : (!nn && emptyC l[k]!) = true
          · rw [if_pos (by rw [Bool.and_comm]; exact h4), if_pos h4]; rfl
          · rw [if_neg (by rw [Bool.and_comm]; exact h4), if_neg h4, if_neg (show ¬ ((0 : Int) ≠ 0) from fun h => h rfl)]
        · rw [if_pos (ndT h3), if_pos h3, if_pos h3]; rfl
    · rw [if_pos h1]
      unfold inC at h1
      by_cases h2 : ((((decide (l[k]!.Row < 0)) || (decide (rows ≤ l[k]!.Row))) || (decide (l[k]!.Col < 0))) || (decide (cols ≤ l[k]!.Col))) = true
      · rw [if_pos h2]; rfl
      · rw [if_neg h2, if_pos (by simp only [Bool.or_eq_true, decide_eq_true_eq] at h2 ⊢; omega)]; rfl) (by unfold grid_cells_L1; rw [if_neg (by simp)]), out_getD]
  rfl
theorem ref_tail_order (l : List GCell) (k : Nat) (hk : k < l.length) (hm : l.length ≤ 9223372036854775806) :
    (bnd1 (gd ((decide (0 < (k : Int))) == true) (chk .i64 ((k : Int) - 1))) fun (x7 : Int) =>
            bnd1 (gd ((decide (0 < (k : Int))) == true) (idx l x7)) fun (x8 : GCell) =>
            bnd1 (gd ((((decide (0 < (k : Int))) == true) && ((decide (l[k]!.Row < x8.Row)) == false)) && ((decide (l[k]!.Row = x8.Row)) == true)) (chk .i64 ((k : Int) - 1))) fun (x9 : Int) =>
            bnd1 (gd ((((decide (0 < (k : Int))) == true) && ((decide (l[k]!.Row < x8.Row)) == false)) && ((decide (l[k]!.Row = x8.Row)) == true)) (idx l x9)) fun (x10 : GCell) =>
            if ((decide (0 < (k : Int))) && ((decide (l[k]!.Row < x8.Row)) || ((decide (l[k]!.Row = x8.Row)) && (decide (l[k]!.Col ≤ x10.Col))))) then (some (.inr (.ext 5)) : Option (Int ⊕ (Ctl Unit Int))) else (
              bnd1 (chk .i64 ((k : Int) + 1)) fun (x11 : Int) => some (.inl x11))) = stepOf k (if 0 < k ∧ 0 ≤ ord2 l[k - 1]!.Row l[k]!.Row l[k - 1]!.Col l[k]!.Col then some 5 else none) := by
  have ho := ord2_ge l[k - 1]!.Row l[k]!.Row l[k - 1]!.Col l[k]!.Col
  by_cases h0 : 0 < k
  · rw [decide_eq_true (show (0 : Int) < k by omega), show ((true == true) : Bool) = true from rfl, gd_true, chk_pred h0 (by omega), bnd1_some, gd_true, idx_nat (show k - 1 < l.length by omega), bnd1_some]
    by_cases h1 : l[k]!.Row < l[k - 1]!.Row
    · rw [decide_eq_true h1, if_pos (show 0 < k ∧ 0 ≤ ord2 l[k - 1]!.Row l[k]!.Row l[k - 1]!.Col l[k]!.Col from ⟨h0, ho.2 (.inl h1)⟩)]; rfl
    · by_cases h2 : l[k]!.Row = l[k - 1]!.Row
      · rw [decide_eq_false h1, decide_eq_true h2, show (((true && (false == false)) && (true == true)) : Bool) = true from rfl, gd_true, bnd1_some, gd_true, idx_nat (show k - 1 < l.length by omega), bnd1_some]
        by_cases h3 : l[k]!.Col ≤ l[k - 1]!.Col
        · rw [decide_eq_true h3, if_pos (show 0 < k ∧ 0 ≤ ord2 l[k - 1]!.Row l[k]!.Row l[k - 1]!.Col l[k]!.Col from ⟨h0, ho.2 (.inr ⟨h2, h3⟩)⟩)]; rfl
        · rw [decide_eq_false h3, if_neg (show ¬ (0 < k ∧ 0 ≤ ord2 l[k - 1]!.Row l[k]!.Row l[k - 1]!.Col l[k]!.Col) from fun h => by have := ho.1 h.2; omega), chk_nat (by omega)]; rfl
      · rw [decide_eq_false h1, decide_eq_false h2, if_neg (show ¬ (0 < k ∧ 0 ≤ ord2 l[k - 1]!.Row l[k]!.Row l[k - 1]!.Col l[k]!.Col) from fun h => by have := ho.1 h.2; omega), chk_nat (by omega)]; rfl
  · obtain rfl : k = 0 := by omega
    rw [if_neg (show ¬ (0 < 0 ∧ _) from fun h => absurd h.1 (by decide))]; rfl
theorem ref_CellsError_eq (rows cols : Int) (nn : Bool) (l : List GCell) (hm : l.length ≤ 1073741824) (hl : ∀ c ∈ l, okC c) (hr : 0 ≤ rows ∧ rows ≤ 2147483647) (hcc : 0 ≤ cols ∧ cols ≤ 2147483647) : ref_CellsError l rows cols nn = some (cellsErr rows cols nn l) := by
  unfold ref_CellsError
  rw [iter_find (n := l.length) (errC rows cols nn l) (fun k hk => by
    obtain ⟨ha, ht⟩ := hl _ (mem_at hk)
    have hto := ref_tail_order l k hk (by omega)
    unfold ref_CellsError_L1 errC cellE
    rw [if_pos (by simpa using hk), idx_nat hk, bnd1_some, chk64 (by omega) (by omega), bnd1_some, ref_In_dec, bnd1_some, ref_In_dec, hto]
    by_cases h1 : inC rows cols l[k]!
    · have h1' := h1
      unfold inC at h1'
      rw [if_neg (Classical.not_not.2 h1), decide_eq_true (show 0 ≤ l[k]!.Row ∧ l[k]!.Row ≤ rows - 1 by omega), show ((!true) == false) = true from rfl, gd_true, chk64 (by omega) (by omega), bnd1_some, gd_true, ref_In_dec, bnd1_some, decide_eq_true (show 0 ≤ l[k]!.Col ∧ l[k]!.Col ≤ cols - 1 by omega),
        show (((!true) || (!true)) == false) = true from rfl, gd_true, bnd1_some, decide_eq_true (show 0 ≤ l[k]!.Ref ∧ l[k]!.Ref ≤ 1073741824 by omega), if_neg (by decide), ref_CellText_eq _ (by omega), bnd1_some, ref_AttrsError_eq _ _ ha.2 (by have := ha.1; omega), bnd1_some]
      cases htx : textF l[k]!.Text.length l[k]!.Text with
      | false => rfl
      | true =>
        rw [if_neg (show ¬ ((!true) = true) by decide), if_neg (show ¬ (true = false) by decide)]
        by_cases h3 : attrErr l[k]!.Attrs false = 0
        · rw [if_neg (ndF h3), if_neg (Classical.not_not.2 h3)]
          have he : ref_EmptyCell l[k]! = some (emptyC l[k]!) := by unfold ref_EmptyCell emptyC; rw [lenA_zero]
          rw [he]
          cases nn with
          | true => rfl
          | false =>
            show (bnd1 (gd true (some (emptyC l[k]!))) fun (r5 : Bool) => _) = _
            rw [gd_true, bnd1_some]
            cases emptyC l[k]! <;> rfl
        · rw [if_pos (ndT h3), if_pos h3, if_pos h3]; rfl
    · rw [if_pos h1]
      unfold inC at h1
      by_cases e1 : 0 ≤ l[k]!.Row ∧ l[k]!.Row ≤ rows - 1
      · rw [decide_eq_true e1, show ((!true) == false) = true from rfl, gd_true, chk64 (by omega) (by omega), bnd1_some, gd_true, ref_In_dec, bnd1_some]
        by_cases e2 : 0 ≤ l[k]!.Col ∧ l[k]!.Col ≤ cols - 1
        · rw [decide_eq_true e2, show (((!true) || (!true)) == false) = true from rfl, gd_true, bnd1_some, decide_eq_false (show ¬ (0 ≤ l[k]!.Ref ∧ l[k]!.Ref ≤ 1073741824) by omega)]; rfl
        · rw [decide_eq_false e2]; rfl
      · rw [decide_eq_false e1]; rfl) (by unfold ref_CellsError_L1; rw [if_neg (by simp)]), out_getD]
  rfl
end Go.Proofs.YtfkolgjapajekaaDoor.Al


namespace Go.Proofs.YtfkolgjapajekaaDoor.Al
theorem iter_findI {ρ : Type} {f : Int → Option (Int ⊕ Ctl Unit ρ)} {n : Nat} (g : Nat → Option ρ) (h1 : ∀ k : Nat, k < n → (∀ j, j < k → g j = none) → f k = stepOf k (g k))
    (h2 : f n = some (.inr (.nrm ()))) : iter f 0 = some (outOf ((List.range n).findSome? g)) := by
  have key : ∀ m k : Nat, k + m = n → (∀ j, j < k → g j = none) → iter f (k : Int) = some (outOf ((List.range' k m).findSome? g)) := by
    intro m
    induction m with
    | zero =>
      intro k hk _
      obtain rfl : k = n := by omega
      rw [iter_stop h2]; rfl
    | succ m ih =>
      intro k hk hj
      have hs := h1 k (by omega) hj
      rw [List.range'_succ, List.findSome?_cons]
      cases hg : g k with
      | some r => rw [hg] at hs; rw [iter_stop hs]; rfl
      | none =>
        rw [hg] at hs
        rw [iter_next hs]
        exact ih (k + 1) (by omega) (fun j hj' => by
          by_cases e : j = k
          · rw [e]; exact hg
          · exact hj j (by omega))
  have := key n 0 (by omega) (fun j hj => absurd hj (Nat.not_lt_zero _))
  rw [List.range_eq_range']
  exact this
def insR (rows cols : Int) (r : GRect) : Prop := 0 ≤ r.Row ∧ r.Row < rows ∧ 0 ≤ r.Col ∧ r.Col < cols ∧ 1 ≤ r.H ∧ r.H ≤ rows - r.Row ∧ 1 ≤ r.W ∧ r.W ≤ cols - r.Col
instance (rows cols : Int) (r : GRect) : Decidable (insR rows cols r) := by unfold insR; infer_instance
def mtR (a b : GRect) : Bool := decide (a.Row < b.Row + b.H ∧ b.Row < a.Row + a.H ∧ a.Col < b.Col + b.W ∧ b.Col < a.Col + a.W)
def okRC (rows cols : Int) : Prop := 0 ≤ rows ∧ rows ≤ 2147483647 ∧ 0 ≤ cols ∧ cols ≤ 2147483647
instance (rows cols : Int) : Decidable (okRC rows cols) := by unfold okRC; infer_instance
theorem inside_eq (r : GRect) (rows cols : Int) (h : okRC rows cols) : grid_inside r rows cols = some (decide (insR rows cols r)) := by
  obtain ⟨h1, h2, h3, h4⟩ := h
  unfold grid_inside
  by_cases c1 : 0 ≤ r.Row ∧ 0 ≤ r.Col ∧ 1 ≤ r.H ∧ 1 ≤ r.W ∧ r.Row < rows ∧ r.Col < cols
  · obtain ⟨a1, a2, a3, a4, a5, a6⟩ := c1
    rw [decide_eq_true a1, decide_eq_true a2, decide_eq_true a3, decide_eq_true a4, decide_eq_true a5, decide_eq_true a6, show ((((((true && true) && true) && true) && true) && true) == true) = true from rfl, gd_true, chk64 (by omega) (by omega), bnd1_some]
    by_cases c2 : r.H ≤ rows - r.Row
    · rw [decide_eq_true c2, show (((((((true && true) && true) && true) && true) && true) && true) == true) = true from rfl, gd_true, chk64 (by omega) (by omega), bnd1_some]
      by_cases c3 : r.W ≤ cols - r.Col
      · rw [decide_eq_true c3, decide_eq_true (show insR rows cols r from ⟨a1, a5, a2, a6, a3, c2, a4, c3⟩)]; rfl
      · rw [decide_eq_false c3, decide_eq_false (show ¬ insR rows cols r from fun h => c3 h.2.2.2.2.2.2.2)]; rfl
    · rw [decide_eq_false c2, decide_eq_false (show ¬ insR rows cols r from fun h => c2 h.2.2.2.2.2.1)]; rfl
  · have hf : ((((((decide (0 ≤ r.Row)) && (decide (0 ≤ r.Col))) && (decide (1 ≤ r.H))) && (decide (1 ≤ r.W))) && (decide (r.Row < rows))) && (decide (r.Col < cols))) = false := by
      rw [← Bool.not_eq_true]
      simp only [Bool.and_eq_true, decide_eq_true_eq]
      intro h; exact c1 (by omega)
    rw [hf, decide_eq_false (show ¬ insR rows cols r from fun h => c1 ⟨h.1, h.2.2.1, h.2.2.2.2.1, h.2.2.2.2.2.2.1, h.2.1, h.2.2.2.1⟩)]; rfl
theorem lies_eq (r : GRect) (rows cols : Int) (h : okRC rows cols) : ref_Lies r rows cols = some (decide (insR rows cols r)) := by
  obtain ⟨h1, h2, h3, h4⟩ := h
  unfold ref_Lies
  rw [chk64 (by omega) (by omega), bnd1_some, ref_In_dec, bnd1_some]
  by_cases a1 : 0 ≤ r.Row ∧ r.Row ≤ rows - 1
  · rw [decide_eq_true a1, show ((true == true) : Bool) = true from rfl, gd_true, chk64 (by omega) (by omega), bnd1_some, gd_true, ref_In_dec, bnd1_some]
    by_cases a2 : 0 ≤ r.Col ∧ r.Col ≤ cols - 1
    · rw [decide_eq_true a2, show ((true && true) == true) = true from rfl, gd_true, chk64 (by omega) (by omega), bnd1_some, gd_true, ref_In_dec, bnd1_some]
      by_cases a3 : 1 ≤ r.H ∧ r.H ≤ rows - r.Row
      · rw [decide_eq_true a3, show (((true && true) && true) == true) = true from rfl, gd_true, chk64 (by omega) (by omega), bnd1_some, gd_true, ref_In_dec, bnd1_some]
        by_cases a4 : 1 ≤ r.W ∧ r.W ≤ cols - r.Col
        · rw [decide_eq_true a4, decide_eq_true (show insR rows cols r from ⟨a1.1, by omega, a2.1, by omega, a3.1, a3.2, a4.1, a4.2⟩)]; rfl
        · rw [decide_eq_false a4, decide_eq_false (show ¬ insR rows cols r from fun h => a4 ⟨h.2.2.2.2.2.2.1, h.2.2.2.2.2.2.2⟩)]; rfl
      · rw [decide_eq_false a3, decide_eq_false (show ¬ insR rows cols r from fun h => a3 ⟨h.2.2.2.2.1, h.2.2.2.2.2.1⟩)]; rfl
    · rw [decide_eq_false a2, decide_eq_false (show ¬ insR rows cols r from fun h => a2 ⟨h.2.2.1, by have := h.2.2.2.1; omega⟩)]; rfl
  · rw [decide_eq_false a1, decide_eq_false (show ¬ insR rows cols r from fun h => a1 ⟨h.1, by have := h.2.1; omega⟩)]; rfl
theorem meets_eq {rows cols : Int} (h : okRC rows cols) {a b : GRect} (ha : insR rows cols a) (hb : insR rows cols b) : grid_meets a b = some (mtR a b) := by
  obtain ⟨h1, h2, h3, h4⟩ := h
  obtain ⟨a1, a2, a3, a4, a5, a6, a7, a8⟩ := ha
  obtain ⟨b1, b2, b3, b4, b5, b6, b7, b8⟩ := hb
  unfold grid_meets mtR
  rw [chk64 (by omega) (by omega), bnd1_some]
  by_cases c1 : a.Row < b.Row + b.H
  · rw [decide_eq_true c1, show ((true == true) : Bool) = true from rfl, gd_true, chk64 (by omega) (by omega), bnd1_some]
    by_cases c2 : b.Row < a.Row + a.H
    · rw [decide_eq_true c2, show ((true && true) == true) = true from rfl, gd_true, chk64 (by omega) (by omega), bnd1_some]
      by_cases c3 : a.Col < b.Col + b.W
      · rw [decide_eq_true c3, show (((true && true) && true) == true) = true from rfl, gd_true, chk64 (by omega) (by omega), bnd1_some]
        by_cases c4 : b.Col < a.Col + a.W
        · rw [decide_eq_true c4, decide_eq_true (show _ ∧ _ ∧ _ ∧ _ from ⟨c1, c2, c3, c4⟩)]; rfl
        · rw [decide_eq_false c4, decide_eq_false (show ¬ (a.Row < b.Row + b.H ∧ b.Row < a.Row + a.H ∧ a.Col < b.Col + b.W ∧ b.Col < a.Col + a.W) from fun h => c4 h.2.2.2)]; rfl
      · rw [decide_eq_false c3, decide_eq_false (show ¬ (a.Row < b.Row + b.H ∧ b.Row < a.Row + a.H ∧ a.Col < b.Col + b.W ∧ b.Col < a.Col + a.W) from fun h => c3 h.2.2.1)]; rfl
    · rw [decide_eq_false c2, decide_eq_false (show ¬ (a.Row < b.Row + b.H ∧ b.Row < a.Row + a.H ∧ a.Col < b.Col + b.W ∧ b.Col < a.Col + a.W) from fun h => c2 h.2.1)]; rfl
  · rw [decide_eq_false c1, decide_eq_false (show ¬ (a.Row < b.Row + b.H ∧ b.Row < a.Row + a.H ∧ a.Col < b.Col + b.W ∧ b.Col < a.Col + a.W) from fun h => c1 h.1)]; rfl
theorem share_eq {rows cols : Int} (h : okRC rows cols) {a b : GRect} (ha : insR rows cols a) (hb : insR rows cols b) : ref_Share a b = some (mtR b a) := by
  obtain ⟨h1, h2, h3, h4⟩ := h
  obtain ⟨a1, a2, a3, a4, a5, a6, a7, a8⟩ := ha
  obtain ⟨b1, b2, b3, b4, b5, b6, b7, b8⟩ := hb
  unfold ref_Share mtR
  rw [chk64 (by omega) (by omega), bnd1_some, chk64 (by omega) (by omega), bnd1_some]
  by_cases c1 : max a.Row b.Row < min (a.Row + a.H) (b.Row + b.H)
  · rw [decide_eq_true c1, show ((true == true) : Bool) = true from rfl, gd_true, chk64 (by omega) (by omega), bnd1_some, gd_true, chk64 (by omega) (by omega), bnd1_some]
    by_cases c2 : max a.Col b.Col < min (a.Col + a.W) (b.Col + b.W)
    · rw [decide_eq_true c2, decide_eq_true (show b.Row < a.Row + a.H ∧ a.Row < b.Row + b.H ∧ b.Col < a.Col + a.W ∧ a.Col < b.Col + b.W by omega)]; rfl
    · rw [decide_eq_false c2, decide_eq_false (show ¬ (b.Row < a.Row + a.H ∧ a.Row < b.Row + b.H ∧ b.Col < a.Col + a.W ∧ a.Col < b.Col + b.W) by omega)]; rfl
  · rw [decide_eq_false c1, decide_eq_false (show ¬ (b.Row < a.Row + a.H ∧ a.Row < b.Row + b.H ∧ b.Col < a.Col + a.W ∧ a.Col < b.Col + b.W) by omega)]; rfl
theorem takeBM {α : Type} [Inhabited α] {l : List α} {k j : Nat} (hj : j < k) (hk : k ≤ l.length) : (l.take k)[j]! = l[j]! := by
  rw [getElem!_pos (l.take k) j (by rw [List.length_take]; omega), getElem!_pos l j (by omega), List.getElem_take]
def findM (l : List GRect) (k : Nat) (w : GRect) : Option Nat := (List.range k).find? fun j => mtR l[j]! w
theorem contains_eq {rows cols : Int} (h : okRC rows cols) (l : List GRect) (k : Nat) (hk : k ≤ l.length) (hm : l.length ≤ 1073741824) (hl : ∀ j, j < k → insR rows cols l[j]!) {w : GRect} (hw : insR rows cols w) :
    slices_ContainsFunc_api_Rect_api_Rect__Check_f1 w (l.take k) = some (findM l k w).isSome := by
  unfold slices_ContainsFunc_api_Rect_api_Rect__Check_f1 slices_IndexFunc_api_Rect_api_Rect__Check_f1
  have hlen : (l.take k).length = k := by rw [List.length_take]; omega
  rw [iter_find (n := k) (fun j => if mtR l[j]! w then some (j : Int) else none) (fun j hj => by
    unfold slices_IndexFunc_api_Rect_api_Rect__Check_f1_L1 grid_Check_f1
    rw [if_pos (by rw [hlen, decide_eq_true_eq]; omega), idx_nat (by rw [hlen]; exact hj), bnd1_some, takeBM hj hk, meets_eq h (hl j hj) hw, bnd1_some, bnd1_some, chk_nat (by omega)]
    cases mtR l[j]! w <;> rfl) (by unfold slices_IndexFunc_api_Rect_api_Rect__Check_f1_L1; rw [if_neg (by rw [hlen]; simp)]), findSome_map, ctl_outOf]
  unfold findM
  cases (List.range k).find? fun j => mtR l[j]! w with
  | none => rfl
  | some j =>
    show (bnd1 (some (j : Int)) fun (r1 : Int) => some (decide (0 ≤ r1))) = _
    rw [bnd1_some, decide_eq_true (Int.natCast_nonneg j)]; rfl
def errM (rows cols : Int) (l : List GRect) (k : Nat) : Option Int :=
  if ¬ insR rows cols l[k]! then some 2 else if l[k]!.H = 1 ∧ l[k]!.W = 1 then some 4 else if 0 < k ∧ 0 ≤ ord2 l[k - 1]!.Row l[k]!.Row l[k - 1]!.Col l[k]!.Col then some 5 else if (findM l k l[k]!).isSome = true then some 21 else none
theorem errM_ins {rows cols : Int} {l : List GRect} {k : Nat} (h : errM rows cols l k = none) : insR rows cols l[k]! := by
  unfold errM at h
  by_cases hi : insR rows cols l[k]!
  · exact hi
  · rw [if_pos hi] at h; cases h
def gridErr (g : GGrid) : Int :=
  if ¬ okRC g.Rows g.Cols then 2 else if cellsErr g.Rows g.Cols false g.Cells ≠ 0 then cellsErr g.Rows g.Cols false g.Cells else ((List.range g.Merges.length).findSome? (errM g.Rows g.Cols g.Merges)).getD 0
def okGd (g : GGrid) : Prop := g.Cells.length ≤ 1048576 ∧ g.Merges.length ≤ 1048576 ∧ ∀ c ∈ g.Cells, okC c
theorem before_eq (a b : GRect) : grid_before a b = some (!decide (0 ≤ ord2 a.Row b.Row a.Col b.Col)) := by
  unfold grid_before
  congr 1
  rw [Bool.eq_iff_iff]
  have := ord2_ge a.Row b.Row a.Col b.Col
  simp only [Bool.or_eq_true, Bool.and_eq_true, decide_eq_true_eq, Bool.not_eq_true', decide_eq_false_iff_not, this]
  omega
theorem grid_Check_eq (g : GGrid) (h : okGd g) : grid_Check g = some (gridErr g) := by
  obtain ⟨hc, hm, hcs⟩ := h
  unfold grid_Check gridErr
  by_cases hr : okRC g.Rows g.Cols
  · have hr' := hr
    obtain ⟨r1, r2, r3, r4⟩ := hr'
    rw [if_neg (by simp only [Bool.or_eq_true, decide_eq_true_eq]; omega), grid_cells_eq _ _ _ _ (by omega) hcs, bnd1_some, if_neg (Classical.not_not.2 hr)]
    by_cases he : cellsErr g.Rows g.Cols false g.Cells = 0
    · rw [if_neg (ndF he), if_neg (Classical.not_not.2 he), iter_findI (n := g.Merges.length) (errM g.Rows g.Cols g.Merges) (fun k hk hj => by
        unfold grid_Check_L1
        rw [if_pos (by simpa using hk), idx_nat hk, bnd1_some, inside_eq _ _ _ hr, bnd1_some]
        unfold errM
        by_cases h1 : insR g.Rows g.Cols g.Merges[k]!
        · rw [decide_eq_true h1, if_neg (show ¬ ((!true) = true) by decide), if_neg (Classical.not_not.2 h1)]
          by_cases h2 : g.Merges[k]!.H = 1 ∧ g.Merges[k]!.W = 1
          · rw [if_pos (by rw [decide_eq_true h2.1, decide_eq_true h2.2]; rfl), if_pos h2]; rfl
          · rw [if_neg (by simp only [Bool.and_eq_true, decide_eq_true_eq]; exact h2), if_neg h2]
            have hcont := contains_eq hr g.Merges k (by omega) (by omega) (fun j hj' => errM_ins (hj j hj')) h1
            have hs : slc g.Merges 0 (k : Int) = some (g.Merges.take k) := by
              rw [slc_to g.Merges k (by omega) (by omega)]; simp
            have hfin : (bnd1 (slc g.Merges 0 (k : Int)) fun (l1 : List GRect) =>
                bnd1 (slices_ContainsFunc_api_Rect_api_Rect__Check_f1 g.Merges[k]! l1) fun (r3 : Bool) =>
                if r3 then (some (.inr (.ext 21)) : Option (Int ⊕ (Ctl Unit Int))) else (
                  bnd1 (chk .i64 ((k : Int) + 1)) fun (x7 : Int) => some (.inl x7))) = stepOf k (if (findM g.Merges k g.Merges[k]!).isSome = true then some 21 else none) := by
              rw [hs, bnd1_some, hcont, bnd1_some, chk_nat (by omega)]
              cases (findM g.Merges k g.Merges[k]!).isSome <;> rfl
            by_cases h0 : 0 < k
            · rw [decide_eq_true (show (0 : Int) < k by omega), show ((true == true) : Bool) = true from rfl, gd_true, chk_pred h0 (by omega), bnd1_some, gd_true, idx_nat (show k - 1 < g.Merges.length by omega), bnd1_some, gd_true, before_eq, bnd1_some]
              by_cases h3 : 0 ≤ ord2 g.Merges[k - 1]!.Row g.Merges[k]!.Row g.Merges[k - 1]!.Col g.Merges[k]!.Col
              · rw [decide_eq_true h3, if_pos (show 0 < k ∧ 0 ≤ ord2 g.Merges[k - 1]!.Row g.Merges[k]!.Row g.Merges[k - 1]!.Col g.Merges[k]!.Col from ⟨h0, h3⟩)]; rfl
              · rw [decide_eq_false h3, if_neg (show ¬ (0 < k ∧ 0 ≤ ord2 g.Merges[k - 1]!.Row g.Merges[k]!.Row g.Merges[k - 1]!.Col g.Merges[k]!.Col) from fun h => h3 h.2)]
                exact hfin
            · have e0 : k = 0 := by omega
              rw [if_neg (show ¬ (0 < k ∧ 0 ≤ ord2 g.Merges[k - 1]!.Row g.Merges[k]!.Row g.Merges[k - 1]!.Col g.Merges[k]!.Col) from fun h => h0 h.1), decide_eq_false (show ¬ (0 : Int) < k by omega)]
              exact hfin
        · rw [decide_eq_false h1, if_pos h1]; rfl) (by unfold grid_Check_L1; rw [if_neg (by simp)]), out_getD]
    · rw [if_pos (ndT he), if_pos he]
  · rw [if_pos hr, if_pos (by unfold okRC at hr; simp only [Bool.or_eq_true, decide_eq_true_eq]; omega)]
theorem ref_order_tail {X : Type} (l : List GRect) (k : Nat) (hk : k < l.length) (hm : l.length ≤ 9223372036854775806) (a b : Option X) :
    (bnd1 (gd ((decide (0 < (k : Int))) == true) (chk .i64 ((k : Int) - 1))) fun (x5 : Int) =>
        bnd1 (gd ((decide (0 < (k : Int))) == true) (idx l x5)) fun (x6 : GRect) =>
        bnd1 (gd ((((decide (0 < (k : Int))) == true) && ((decide (l[k]!.Row < x6.Row)) == false)) && ((decide (l[k]!.Row = x6.Row)) == true)) (chk .i64 ((k : Int) - 1))) fun (x7 : Int) =>
        bnd1 (gd ((((decide (0 < (k : Int))) == true) && ((decide (l[k]!.Row < x6.Row)) == false)) && ((decide (l[k]!.Row = x6.Row)) == true)) (idx l x7)) fun (x8 : GRect) =>
        if ((decide (0 < (k : Int))) && ((decide (l[k]!.Row < x6.Row)) || ((decide (l[k]!.Row = x6.Row)) && (decide (l[k]!.Col ≤ x8.Col))))) then a else b) =
      if 0 < k ∧ 0 ≤ ord2 l[k - 1]!.Row l[k]!.Row l[k - 1]!.Col l[k]!.Col then a else b := by
  have ho := ord2_ge l[k - 1]!.Row l[k]!.Row l[k - 1]!.Col l[k]!.Col
  by_cases h0 : 0 < k
  · rw [decide_eq_true (show (0 : Int) < k by omega), show ((true == true) : Bool) = true from rfl, gd_true, chk_pred h0 (by omega), bnd1_some, gd_true, idx_nat (show k - 1 < l.length by omega), bnd1_some]
    by_cases h1 : l[k]!.Row < l[k - 1]!.Row
    · rw [decide_eq_true h1, if_pos (show 0 < k ∧ 0 ≤ ord2 l[k - 1]!.Row l[k]!.Row l[k - 1]!.Col l[k]!.Col from ⟨h0, ho.2 (.inl h1)⟩)]; rfl
    · by_cases h2 : l[k]!.Row = l[k - 1]!.Row
      · rw [decide_eq_false h1, decide_eq_true h2, show (((true && (false == false)) && (true == true)) : Bool) = true from rfl, gd_true, bnd1_some, gd_true, idx_nat (show k - 1 < l.length by omega), bnd1_some]
        by_cases h3 : l[k]!.Col ≤ l[k - 1]!.Col
        · rw [decide_eq_true h3, if_pos (show 0 < k ∧ 0 ≤ ord2 l[k - 1]!.Row l[k]!.Row l[k - 1]!.Col l[k]!.Col from ⟨h0, ho.2 (.inr ⟨h2, h3⟩)⟩)]; rfl
        · rw [decide_eq_false h3, if_neg (show ¬ (0 < k ∧ 0 ≤ ord2 l[k - 1]!.Row l[k]!.Row l[k - 1]!.Col l[k]!.Col) from fun h => by have := ho.1 h.2; omega)]; rfl
      · rw [decide_eq_false h1, decide_eq_false h2, if_neg (show ¬ (0 < k ∧ 0 ≤ ord2 l[k - 1]!.Row l[k]!.Row l[k - 1]!.Col l[k]!.Col) from fun h => by have := ho.1 h.2; omega)]; rfl
  · rw [if_neg (show ¬ (0 < k ∧ 0 ≤ ord2 l[k - 1]!.Row l[k]!.Row l[k - 1]!.Col l[k]!.Col) from fun h => h0 h.1), decide_eq_false (show ¬ (0 : Int) < k by omega)]; rfl
theorem ref_GridError_eq (g : GGrid) (h : okGd g) : ref_GridError g = some (gridErr g) := by
  obtain ⟨hc, hm, hcs⟩ := h
  unfold ref_GridError gridErr
  rw [ref_In_dec, bnd1_some]
  by_cases hr : okRC g.Rows g.Cols
  · have hr' := hr
    obtain ⟨r1, r2, r3, r4⟩ := hr'
    rw [decide_eq_true (show 0 ≤ g.Rows ∧ g.Rows ≤ 2147483647 from ⟨r1, r2⟩), show ((!true) == false) = true from rfl, gd_true, ref_In_dec, bnd1_some, decide_eq_true (show 0 ≤ g.Cols ∧ g.Cols ≤ 2147483647 from ⟨r3, r4⟩), if_neg (by decide),
      ref_CellsError_eq _ _ _ _ (by omega) hcs ⟨r1, r2⟩ ⟨r3, r4⟩, bnd1_some, if_neg (Classical.not_not.2 hr)]
    by_cases he : cellsErr g.Rows g.Cols false g.Cells = 0
    · rw [if_neg (ndF he), if_neg (Classical.not_not.2 he), iter_findI (n := g.Merges.length) (errM g.Rows g.Cols g.Merges) (fun k hk hj => by
        unfold ref_GridError_L1
        rw [if_pos (by simpa using hk), idx_nat hk, bnd1_some, lies_eq _ _ _ hr, bnd1_some]
        unfold errM
        by_cases h1 : insR g.Rows g.Cols g.Merges[k]!
        · rw [decide_eq_true h1, if_neg (show ¬ ((!true) = true) by decide), if_neg (Classical.not_not.2 h1)]
          by_cases h2 : g.Merges[k]!.H = 1 ∧ g.Merges[k]!.W = 1
          · rw [if_pos (by rw [decide_eq_true h2.1, decide_eq_true h2.2]; rfl), if_pos h2]; rfl
          · rw [if_neg (by simp only [Bool.and_eq_true, decide_eq_true_eq]; exact h2), if_neg h2, ref_order_tail _ k hk (by omega)]
            by_cases h3 : 0 < k ∧ 0 ≤ ord2 g.Merges[k - 1]!.Row g.Merges[k]!.Row g.Merges[k - 1]!.Col g.Merges[k]!.Col
            · rw [if_pos h3, if_pos h3]; rfl
            · rw [if_neg h3, if_neg h3, iter_find (n := k) (fun j => if mtR g.Merges[j]! g.Merges[k]! then some (.inr (.ext 21)) else none) (fun j hjk => by
                unfold ref_GridError_L2
                rw [if_pos (by rw [decide_eq_true_eq]; omega), idx_nat (by omega), bnd1_some, share_eq hr h1 (errM_ins (hj j hjk)), bnd1_some, chk_nat (by omega)]
                cases mtR g.Merges[j]! g.Merges[k]! <;> rfl) (by unfold ref_GridError_L2; rw [if_neg (by rw [decide_eq_true_eq]; omega)]), findSome_map, ctl_outOf]
              unfold findM
              cases (List.range k).find? fun j => mtR g.Merges[j]! g.Merges[k]! with
              | none => rw [chk_nat (by omega)]; rfl
              | some j => rfl
        · rw [decide_eq_false h1, if_pos h1]; rfl) (by unfold ref_GridError_L1; rw [if_neg (by simp)]), out_getD]
    · rw [if_pos (ndT he), if_pos he]
  · rw [if_pos hr]
    unfold okRC at hr
    by_cases a : 0 ≤ g.Rows ∧ g.Rows ≤ 2147483647
    · rw [decide_eq_true a, show ((!true) == false) = true from rfl, gd_true, ref_In_dec, bnd1_some, decide_eq_false (show ¬ (0 ≤ g.Cols ∧ g.Cols ≤ 2147483647) by omega)]; rfl
    · rw [decide_eq_false a]; rfl
end Go.Proofs.YtfkolgjapajekaaDoor.Al


namespace Go.Proofs.YtfkolgjapajekaaDoor.Al
def lowCh (c : UInt8) : Bool := decide (97 ≤ c.toNat) && decide (c.toNat ≤ 122)
def lowAll (s : List UInt8) : Bool := (List.range s.length).all fun k => lowCh s[k]!
def placeOK (s : List UInt8) : Bool := decide (1 ≤ s.length) && decide (s.length ≤ 200) && !decide (s[s.length - 1]!.toNat = 97) && lowAll s
theorem place_loop (s : List UInt8) (hm : s.length ≤ 9223372036854775806) : iter (fun (a : Int) => ref_Place_L1 s a) 0 = some (outOf (if lowAll s then none else some false)) := by
  rw [iter_find (n := s.length) (fun k => if lowCh s[k]! then none else some false) (fun k hk => by
    unfold ref_Place_L1
    rw [if_pos (by simpa using hk), idx_nat hk, bnd1_some, chk_nat (by omega)]
    unfold lowCh
    generalize s[k]! = c
    by_cases h : 97 ≤ c.toNat ∧ c.toNat ≤ 122
    · rw [if_neg (by simp only [Bool.or_eq_true, decide_eq_true_eq]; omega), if_pos (by simp only [Bool.and_eq_true, decide_eq_true_eq]; exact h)]; rfl
    · rw [if_pos (by simp only [Bool.or_eq_true, decide_eq_true_eq]; omega), if_neg (by simp only [Bool.and_eq_true, decide_eq_true_eq]; exact h)]; rfl) (by unfold ref_Place_L1; rw [if_neg (by simp)]), find_const]
  rfl
theorem place_loops : replica_Place_L1 = ref_Place_L1 := by funext s x; rfl
theorem replica_Place_eq (s : List UInt8) (hm : s.length ≤ 9223372036854775806) : replica_Place s = some (placeOK s) := by
  unfold replica_Place placeOK
  rw [place_loops, place_loop s hm]
  by_cases h : 1 ≤ s.length ∧ s.length ≤ 200
  · have hne : s ≠ [] := List.length_pos_iff.1 h.1
    rw [decide_eq_false hne, decide_eq_false (show ¬ (200 : Int) < (s.length : Int) by omega), show ((false || false) == false) = true from rfl, gd_true, chk_pred h.1 (by omega), bnd1_some, gd_true, idx_nat (by omega), bnd1_some, decide_eq_true h.1, decide_eq_true h.2]
    by_cases h2 : s[s.length - 1]!.toNat = 97
    · rw [decide_eq_true h2, if_pos (by rw [decide_eq_true (show ((s[s.length - 1]!.toNat : Int) = 97) by omega)]; rfl)]; rfl
    · rw [decide_eq_false h2, if_neg (by rw [decide_eq_false (show ¬ ((s[s.length - 1]!.toNat : Int) = 97) by omega)]; decide)]
      cases lowAll s <;> rfl
  · have hc : ((decide (s = [])) || (decide (200 < (s.length : Int)))) = true := by
      rw [Bool.or_eq_true, decide_eq_true_eq, decide_eq_true_eq, ← List.length_eq_zero_iff]; omega
    have hd : (decide (1 ≤ s.length) && decide (s.length ≤ 200)) = false := by
      rw [← Bool.not_eq_true, Bool.and_eq_true, decide_eq_true_eq, decide_eq_true_eq]; exact h
    rw [hc, hd]; rfl
theorem ref_Place_eq (s : List UInt8) (hm : s.length ≤ 9223372036854775806) : ref_Place s = some (placeOK s) := by
  unfold ref_Place placeOK
  rw [place_loop s hm, ctl_outOf]
  cases lowAll s with
  | false => rw [Bool.and_false]; rfl
  | true =>
    rw [if_pos rfl, Bool.and_true]
    dsimp only
    by_cases h : 1 ≤ s.length ∧ s.length ≤ 200
    · rw [decide_eq_true (show (1 : Int) ≤ (s.length : Int) by omega), decide_eq_true (show (s.length : Int) ≤ 200 by omega), show ((true && true) == true) = true from rfl, gd_true, chk_pred h.1 (by omega), bnd1_some, gd_true, idx_nat (by omega), bnd1_some, decide_eq_true h.1, decide_eq_true h.2]
      by_cases h2 : s[s.length - 1]!.toNat = 97
      · rw [decide_eq_true h2, decide_eq_true (show ((s[s.length - 1]!.toNat : Int) = 97) by omega)]
      · rw [decide_eq_false h2, decide_eq_false (show ¬ ((s[s.length - 1]!.toNat : Int) = 97) by omega)]
    · have hc : ((decide (1 ≤ (s.length : Int))) && (decide ((s.length : Int) ≤ 200))) = false := by
        rw [← Bool.not_eq_true, Bool.and_eq_true, decide_eq_true_eq, decide_eq_true_eq]; omega
      have hd : (decide (1 ≤ s.length) && decide (s.length ≤ 200)) = false := by
        rw [← Bool.not_eq_true, Bool.and_eq_true, decide_eq_true_eq, decide_eq_true_eq]; exact h
      rw [hc, hd]; rfl
def rangeD (o : GDrawOp) : Prop := (1 ≤ o.Clock ∧ o.Clock ≤ 1073741824) ∧ (0 ≤ o.Site ∧ o.Site ≤ 1000) ∧ (1 ≤ o.Item ∧ o.Item ≤ 1073741824)
instance (o : GDrawOp) : Decidable (rangeD o) := by unfold rangeD; infer_instance
def drawE (o : GDrawOp) : Int :=
  if ¬ (o.Kind = 0 ∨ o.Kind = 1) then 8 else if ¬ rangeD o then 2
  else if o.Kind = 0 then (if o.Name ≠ [] ∨ o.Value ≠ [] then 4 else if ¬ (-1 ≤ o.Parent ∧ o.Parent ≤ 1073741824) then 2 else if placeOK o.Place = false then 9 else 0)
  else (if o.Parent ≠ 0 ∨ o.Place ≠ [] then 4 else if nameOK o.Name = false then 9 else if o.Value ≠ [] ∧ valOK o.Value = false then 23 else 0)
def errDr (l : List GDrawOp) (k : Nat) : Option Int :=
  if drawE l[k]! ≠ 0 then some (drawE l[k]!) else if 0 < k ∧ 0 ≤ ord2 l[k - 1]!.Clock l[k]!.Clock l[k - 1]!.Site l[k]!.Site then some 5 else none
def drawErr (l : List GDrawOp) : Int := ((List.range l.length).findSome? (errDr l)).getD 0
def okDr (o : GDrawOp) : Prop := o.Place.length ≤ 1073741824 ∧ o.Name.length ≤ 1073741824 ∧ o.Value.length ≤ 1073741824
theorem replica_op_eq (o : GDrawOp) (h : okDr o) : replica_op o = some (drawE o) := by
  obtain ⟨hp, hn, hv⟩ := h
  unfold replica_op drawE
  rw [replica_Place_eq _ (by omega), attr_Name_eq _ (by omega), attr_Value_eq _ (by omega)]
  by_cases k0 : o.Kind = 0
  · have k1 : ¬ o.Kind = 1 := by omega
    rw [if_neg (show ¬ ((!decide (o.Kind = 0)) && (!decide (o.Kind = 1))) = true by rw [decide_eq_true k0]; simp), if_neg (show ¬ ¬ (o.Kind = 0 ∨ o.Kind = 1) from fun h => h (.inl k0))]
    by_cases hr : rangeD o
    · have hr' := hr
      unfold rangeD at hr'
      rw [if_neg (by simp only [Bool.or_eq_true, decide_eq_true_eq]; omega), if_neg (Classical.not_not.2 hr), if_pos k0, decide_eq_true k0, decide_eq_false k1]
      by_cases c1 : o.Name ≠ [] ∨ o.Value ≠ []
      · have hc : (true && ((!decide (o.Name = [])) || (!decide (o.Value = [])))) = true := by
          rw [Bool.true_and, Bool.or_eq_true]
          rcases c1 with c | c
          · exact .inl (ndT c)
          · exact .inr (ndT c)
        rw [if_pos c1, hc]; rfl
      · have c2 : o.Name = [] ∧ o.Value = [] := ⟨Classical.byContradiction fun h => c1 (.inl h), Classical.byContradiction fun h => c1 (.inr h)⟩
        have hc : (true && ((!decide (o.Name = [])) || (!decide (o.Value = [])))) = false := by rw [decide_eq_true c2.1, decide_eq_true c2.2]; rfl
        rw [if_neg c1, hc]
        by_cases c3 : -1 ≤ o.Parent ∧ o.Parent ≤ 1073741824
        · rw [if_neg (Classical.not_not.2 c3)]
          have c4 : ((decide (o.Parent < (-1))) || (decide (1073741824 < o.Parent))) = false := by
            rw [← Bool.not_eq_true, Bool.or_eq_true, decide_eq_true_eq, decide_eq_true_eq]; omega
          rw [c4]
          cases placeOK o.Place with
          | false => rfl
          | true => rw [decide_eq_true c2.2]; rfl
        · rw [if_pos c3]
          have c4 : ((decide (o.Parent < (-1))) || (decide (1073741824 < o.Parent))) = true := by
            rw [Bool.or_eq_true, decide_eq_true_eq, decide_eq_true_eq]; omega
          rw [c4]; rfl
    · rw [if_pos (by unfold rangeD at hr; simp only [Bool.or_eq_true, decide_eq_true_eq]; omega), if_pos hr]
  · by_cases k1 : o.Kind = 1
    · rw [if_neg (show ¬ ((!decide (o.Kind = 0)) && (!decide (o.Kind = 1))) = true by rw [decide_eq_true k1, decide_eq_false k0]; decide), if_neg (show ¬ ¬ (o.Kind = 0 ∨ o.Kind = 1) from fun h => h (.inr k1))]
      by_cases hr : rangeD o
      · have hr' := hr
        unfold rangeD at hr'
        rw [if_neg (by simp only [Bool.or_eq_true, decide_eq_true_eq]; omega), if_neg (Classical.not_not.2 hr), if_neg k0, decide_eq_false k0, decide_eq_true k1]
        by_cases c1 : o.Parent ≠ 0 ∨ o.Place ≠ []
        · have hc : (true && ((!decide (o.Parent = 0)) || (!decide (o.Place = [])))) = true := by
            rw [Bool.true_and, Bool.or_eq_true]
            rcases c1 with c | c
            · exact .inl (ndT c)
            · exact .inr (ndT c)
          rw [if_pos c1, hc]; rfl
        · have c2 : o.Parent = 0 ∧ o.Place = [] := ⟨Classical.byContradiction fun h => c1 (.inl h), Classical.byContradiction fun h => c1 (.inr h)⟩
          have hc : (true && ((!decide (o.Parent = 0)) || (!decide (o.Place = [])))) = false := by rw [decide_eq_true c2.1, decide_eq_true c2.2]; rfl
          rw [if_neg c1, hc]
          cases nameOK o.Name with
          | false => rfl
          | true =>
            by_cases c3 : o.Value = []
            · rw [decide_eq_true c3, if_neg (show ¬ (true = false) by decide), if_neg (show ¬ (o.Value ≠ [] ∧ valOK o.Value = false) from fun h => h.1 c3)]; rfl
            · rw [decide_eq_false c3, if_neg (show ¬ (true = false) by decide)]
              cases hvv : valOK o.Value with
              | false => rw [if_pos (show o.Value ≠ [] ∧ false = false from ⟨c3, rfl⟩)]; rfl
              | true => rw [if_neg (show ¬ (o.Value ≠ [] ∧ true = false) from fun h => by cases h.2)]; rfl
      · rw [if_pos (by unfold rangeD at hr; simp only [Bool.or_eq_true, decide_eq_true_eq]; omega), if_pos hr]
    · rw [if_pos (show ((!decide (o.Kind = 0)) && (!decide (o.Kind = 1))) = true by rw [decide_eq_false k1, decide_eq_false k0]; rfl), if_pos (show ¬ (o.Kind = 0 ∨ o.Kind = 1) from fun h => h.elim k0 k1)]
theorem stamps_eq (a b : GDrawOp) : replica_stamps a b = some (ord2 a.Clock b.Clock a.Site b.Site) := by
  unfold replica_stamps
  rw [cmp_eq, cmp_eq, bnd1_some, bnd1_some, cmp_Or_eq, bnd1_some, or2]
theorem earlier_eq (a b : GDrawOp) : ref_Earlier a b = some (!decide (0 ≤ ord2 a.Clock b.Clock a.Site b.Site)) := by
  unfold ref_Earlier
  congr 1
  rw [Bool.eq_iff_iff]
  have := ord2_ge a.Clock b.Clock a.Site b.Site
  simp only [Bool.or_eq_true, Bool.and_eq_true, decide_eq_true_eq, Bool.not_eq_true', decide_eq_false_iff_not, this]
  omega
theorem replica_Check_eq (l : List GDrawOp) (hm : l.length ≤ 1073741824) (hl : ∀ o ∈ l, okDr o) : replica_Check l = some (drawErr l) := by
  unfold replica_Check
  rw [iter_find (n := l.length) (errDr l) (fun k hk => by
    unfold replica_Check_L1 errDr
    rw [if_pos (by simpa using hk), idx_nat hk, bnd1_some, replica_op_eq _ (hl _ (mem_at hk)), bnd1_some]
    by_cases e : drawE l[k]! = 0
    · rw [if_neg (ndF e), if_neg (Classical.not_not.2 e)]
      by_cases h0 : 0 < k
      · rw [decide_eq_true (show (0 : Int) < k by omega), show ((true == true) : Bool) = true from rfl, gd_true, chk_pred h0 (by omega), bnd1_some, gd_true, idx_nat (show k - 1 < l.length by omega), bnd1_some, gd_true, stamps_eq, bnd1_some]
        by_cases h3 : 0 ≤ ord2 l[k - 1]!.Clock l[k]!.Clock l[k - 1]!.Site l[k]!.Site
        · rw [decide_eq_true h3, if_pos (show 0 < k ∧ 0 ≤ ord2 l[k - 1]!.Clock l[k]!.Clock l[k - 1]!.Site l[k]!.Site from ⟨h0, h3⟩)]; rfl
        · rw [decide_eq_false h3, if_neg (show ¬ (0 < k ∧ 0 ≤ ord2 l[k - 1]!.Clock l[k]!.Clock l[k - 1]!.Site l[k]!.Site) from fun h => h3 h.2), chk_nat (by omega)]; rfl
      · rw [if_neg (show ¬ (0 < k ∧ 0 ≤ ord2 l[k - 1]!.Clock l[k]!.Clock l[k - 1]!.Site l[k]!.Site) from fun h => h0 h.1), decide_eq_false (show ¬ (0 : Int) < k by omega), chk_nat (by omega)]; rfl
    · rw [if_pos (ndT e), if_pos e]; rfl) (by unfold replica_Check_L1; rw [if_neg (by simp)]), out_getD]
  rfl
theorem ref_DrawError_eq (l : List GDrawOp) (hm : l.length ≤ 1073741824) (hl : ∀ o ∈ l, okDr o) : ref_DrawError l = some (drawErr l) := by
  unfold ref_DrawError
  rw [iter_find (n := l.length) (errDr l) (fun k hk => by
    obtain ⟨hp, hn, hv⟩ := hl _ (mem_at hk)
    have htail : (bnd1 (gd ((decide (0 < (k : Int))) == true) (chk .i64 ((k : Int) - 1))) fun (x5 : Int) =>
        bnd1 (gd ((decide (0 < (k : Int))) == true) (idx l x5)) fun (x6 : GDrawOp) =>
        bnd1 (gd ((decide (0 < (k : Int))) == true) (ref_Earlier x6 l[k]!)) fun (r4 : Bool) =>
        if ((decide (0 < (k : Int))) && (!r4)) then (some (.inr (.ext 5)) : Option (Int ⊕ (Ctl Unit Int))) else (
          bnd1 (chk .i64 ((k : Int) + 1)) fun (x7 : Int) => some (.inl x7))) = stepOf k (if 0 < k ∧ 0 ≤ ord2 l[k - 1]!.Clock l[k]!.Clock l[k - 1]!.Site l[k]!.Site then some 5 else none) := by
      by_cases h0 : 0 < k
      · rw [decide_eq_true (show (0 : Int) < k by omega), show ((true == true) : Bool) = true from rfl, gd_true, chk_pred h0 (by omega), bnd1_some, gd_true, idx_nat (show k - 1 < l.length by omega), bnd1_some, gd_true, earlier_eq, bnd1_some]
        by_cases h3 : 0 ≤ ord2 l[k - 1]!.Clock l[k]!.Clock l[k - 1]!.Site l[k]!.Site
        · rw [decide_eq_true h3, if_pos (show 0 < k ∧ 0 ≤ ord2 l[k - 1]!.Clock l[k]!.Clock l[k - 1]!.Site l[k]!.Site from ⟨h0, h3⟩)]; rfl
        · rw [decide_eq_false h3, if_neg (show ¬ (0 < k ∧ 0 ≤ ord2 l[k - 1]!.Clock l[k]!.Clock l[k - 1]!.Site l[k]!.Site) from fun h => h3 h.2), chk_nat (by omega)]; rfl
      · rw [if_neg (show ¬ (0 < k ∧ 0 ≤ ord2 l[k - 1]!.Clock l[k]!.Clock l[k - 1]!.Site l[k]!.Site) from fun h => h0 h.1), decide_eq_false (show ¬ (0 : Int) < k by omega), chk_nat (by omega)]; rfl
    unfold ref_DrawError_L1 errDr drawE
    rw [if_pos (by simpa using hk), idx_nat hk, bnd1_some, htail, ref_In_dec, bnd1_some, ref_In_dec, ref_In_dec, ref_In_dec, ref_Place_eq _ (by omega), ref_Name_eq _ (by omega), ref_Value_eq _ (by omega)]
    generalize l[k]! = o at hp hn hv ⊢
    by_cases kk : o.Kind = 0 ∨ o.Kind = 1
    · rw [if_neg (show ¬ ((!decide (o.Kind = 0)) && (!decide (o.Kind = 1))) = true by rcases kk with h | h <;> rw [decide_eq_true h] <;> simp), if_neg (Classical.not_not.2 kk)]
      by_cases hr : rangeD o
      · rw [if_neg (Classical.not_not.2 hr), decide_eq_true hr.1, show ((!true) == false) = true from rfl, gd_true, bnd1_some, decide_eq_true hr.2.1, show (((!true) || (!true)) == false) = true from rfl, gd_true, bnd1_some, decide_eq_true hr.2.2, if_neg (show ¬ (((!true) || (!true)) || (!true)) = true by decide)]
        by_cases k0 : o.Kind = 0
        · rw [if_pos (decide_eq_true k0), if_pos k0]
          by_cases c1 : o.Name ≠ [] ∨ o.Value ≠ []
          · have hc : ((!decide (o.Name = [])) || (!decide (o.Value = []))) = true := by
              rw [Bool.or_eq_true]
              rcases c1 with c | c
              · exact .inl (ndT c)
              · exact .inr (ndT c)
            rw [if_pos c1, if_pos hc]; rfl
          · have c2 : o.Name = [] ∧ o.Value = [] := ⟨Classical.byContradiction fun h => c1 (.inl h), Classical.byContradiction fun h => c1 (.inr h)⟩
            rw [if_neg c1, if_neg (show ¬ ((!decide (o.Name = [])) || (!decide (o.Value = []))) = true by rw [decide_eq_true c2.1, decide_eq_true c2.2]; decide), bnd1_some]
            by_cases c3 : -1 ≤ o.Parent ∧ o.Parent ≤ 1073741824
            · rw [if_neg (Classical.not_not.2 c3), decide_eq_true c3, if_neg (show ¬ ((!true) = true) by decide), bnd1_some]
              cases placeOK o.Place <;> rfl
            · rw [if_pos c3, decide_eq_false c3]; rfl
        · rw [if_neg (show ¬ decide (o.Kind = 0) = true by simpa using k0), if_neg k0]
          by_cases c1 : o.Parent ≠ 0 ∨ o.Place ≠ []
          · have hc : ((!decide (o.Parent = 0)) || (!decide (o.Place = []))) = true := by
              rw [Bool.or_eq_true]
              rcases c1 with c | c
              · exact .inl (ndT c)
              · exact .inr (ndT c)
            rw [if_pos c1, if_pos hc]; rfl
          · have c2 : o.Parent = 0 ∧ o.Place = [] := ⟨Classical.byContradiction fun h => c1 (.inl h), Classical.byContradiction fun h => c1 (.inr h)⟩
            rw [if_neg c1, if_neg (show ¬ ((!decide (o.Parent = 0)) || (!decide (o.Place = []))) = true by rw [decide_eq_true c2.1, decide_eq_true c2.2]; decide), bnd1_some]
            cases nameOK o.Name with
            | false => rfl
            | true =>
              by_cases c3 : o.Value = []
              · rw [decide_eq_true c3, if_neg (show ¬ (true = false) by decide), if_neg (show ¬ (o.Value ≠ [] ∧ valOK o.Value = false) from fun h => h.1 c3)]; rfl
              · rw [decide_eq_false c3, if_neg (show ¬ (true = false) by decide)]
                cases hvv : valOK o.Value with
                | false => rw [if_pos (show o.Value ≠ [] ∧ false = false from ⟨c3, rfl⟩)]; rfl
                | true => rw [if_neg (show ¬ (o.Value ≠ [] ∧ true = false) from fun h => by cases h.2)]; rfl
      · rw [if_pos hr]
        unfold rangeD at hr
        by_cases a1 : 1 ≤ o.Clock ∧ o.Clock ≤ 1073741824
        · rw [decide_eq_true a1, show ((!true) == false) = true from rfl, gd_true, bnd1_some]
          by_cases a2 : 0 ≤ o.Site ∧ o.Site ≤ 1000
          · rw [decide_eq_true a2, show (((!true) || (!true)) == false) = true from rfl, gd_true, bnd1_some, decide_eq_false (show ¬ (1 ≤ o.Item ∧ o.Item ≤ 1073741824) by omega)]; rfl
          · rw [decide_eq_false a2]; rfl
        · rw [decide_eq_false a1]; rfl
    · have hk2 : ((!decide (o.Kind = 0)) && (!decide (o.Kind = 1))) = true := by
        rw [decide_eq_false (fun h => kk (.inl h)), decide_eq_false (fun h => kk (.inr h))]; rfl
      rw [if_pos hk2, if_pos kk]; rfl) (by unfold ref_DrawError_L1; rw [if_neg (by simp)]), out_getD]
  rfl
end Go.Proofs.YtfkolgjapajekaaDoor.Al


namespace Go.Proofs.YtfkolgjapajekaaDoor.Al
theorem texts_same : ref_HasText = doc_Texts := by funext k; rfl
theorem lists_same : ref_HasList = doc_Lists := by funext k; rfl
theorem grids_same : ref_HasGrid = doc_Grids := by funext k; rfl
theorem draws_same : ref_HasDraw = doc_Draws := by funext k; rfl
structure okN2 (n : GNode) : Prop where
  ok : okN n
  ce : ∀ c ∈ n.Grid.Cells, okC c
  dr : ∀ o ∈ n.Draw, okDr o
theorem okN2.gd {n : GNode} (h : okN2 n) : okGd n.Grid := ⟨h.ok.gr.1, h.ok.gr.2.1, h.ce⟩
def kindE (kind : Int) (c : GCell) : Bool := ((decide (kind = 2)) && ((!decide (c.Text = [])) || (decide (0 < (c.Attrs.length : Int))))) || ((decide (kind = 6)) && (!decide (c.Ref = 0)))
def kindsErr (kind : Int) (l : List GCell) : Int := ((List.range l.length).findSome? fun k => if kindE kind l[k]! then some (4 : Int) else none).getD 0
theorem checkCells_eq (kind : Int) (l : List GCell) (hm : l.length ≤ 1073741824) : doc_CheckCells kind l = some (kindsErr kind l) := by
  unfold doc_CheckCells
  rw [iter_find (n := l.length) (fun k => if kindE kind l[k]! then some (4 : Int) else none) (fun k hk => by
    unfold doc_CheckCells_L1
    rw [if_pos (by simpa using hk), idx_nat hk, bnd1_some, chk_nat (by omega)]
    show (if kindE kind l[k]! = true then _ else _) = _
    cases kindE kind l[k]! <;> rfl) (by unfold doc_CheckCells_L1; rw [if_neg (by simp)]), out_getD]
  rfl
theorem cellKinds_eq (kind : Int) (l : List GCell) (hm : l.length ≤ 1073741824) : ref_CellKinds kind l = some (kindsErr kind l) := by
  unfold ref_CellKinds
  rw [iter_find (n := l.length) (fun k => if kindE kind l[k]! then some (4 : Int) else none) (fun k hk => by
    unfold ref_CellKinds_L1 kindE
    rw [if_pos (by simpa using hk), idx_nat hk, chk_nat (by omega)]
    generalize l[k]! = c
    by_cases h2 : kind = 2
    · have h6 : ¬ kind = 6 := by omega
      rw [decide_eq_true h2, decide_eq_false h6]
      rw [show ((true == true) : Bool) = true from rfl, gd_true, bnd1_some]
      generalize ((!decide (c.Text = [])) || (decide (0 < (c.Attrs.length : Int)))) = q
      cases q <;> rfl
    · by_cases h6 : kind = 6
      · rw [decide_eq_false h2, decide_eq_true h6]
        rw [show ((false == true) : Bool) = false from rfl, gd_false, bnd1_some]
        show (bnd1 (gd true (some c)) fun (x5 : GCell) => _) = _
        rw [gd_true, bnd1_some]
        generalize (!decide (c.Ref = 0)) = q
        cases q <;> rfl
      · rw [decide_eq_false h2, decide_eq_false h6]; rfl) (by unfold ref_CellKinds_L1; rw [if_neg (by simp)]), out_getD]
  rfl
def formB (t l g z d fl dr : Bool) : Bool := ((!(t || l) && fl) || (!g && !z)) || (!d && dr)
theorem form_impl (t l g z d fl dr : Bool) :
    (if (((!(t || l)) && fl) == false) then (
      if ((!g) == true) then (
        bnd1 (gd ((((!(t || l)) && fl) || ((!g) && (!z))) == false) (some d)) fun (r8 : Bool) =>
        some ((((!(t || l)) && fl) || ((!g) && (!z))) || ((!r8) && dr))
      ) else (
        bnd1 (gd ((((!(t || l)) && fl) || ((!g) && false)) == false) (some d)) fun (r9 : Bool) =>
        some ((((!(t || l)) && fl) || ((!g) && false)) || ((!r9) && dr))
      )
    ) else (
      bnd1 (gd ((((!(t || l)) && fl) || false) == false) (some d)) fun (r10 : Bool) =>
      some ((((!(t || l)) && fl) || false) || ((!r10) && dr))
    )) = some (formB t l g z d fl dr) := by
  cases t <;> cases l <;> cases g <;> cases z <;> cases d <;> cases fl <;> cases dr <;> rfl
theorem form_ref {X : Type} (t l g z d fl dr : Bool) (A B : Option X) :
    (bnd1 (gd ((fl && (!(t || l))) == false) (some z)) fun (r5 : Bool) =>
      bnd1 (gd (((fl && (!(t || l))) == false) && ((!r5) == true)) (some g)) fun (r6 : Bool) =>
      bnd1 (gd ((((fl && (!(t || l))) || ((!r5) && (!r6))) == false) && (dr == true)) (some d)) fun (r7 : Bool) =>
      if (((fl && (!(t || l))) || ((!r5) && (!r6))) || (dr && (!r7))) then A else B) = if formB t l g z d fl dr = true then A else B := by
  cases t <;> cases l <;> cases g <;> cases z <;> cases d <;> cases fl <;> cases dr <;> rfl
theorem lenC_zero {α : Type} (l : List α) : decide ((l.length : Int) = 0) = l.isEmpty := by
  cases l with
  | nil => rfl
  | cons a l => exact decide_eq_false (by simp only [List.length_cons]; omega)
theorem zeroGrid_eq (g : GGrid) : ref_zeroGrid g = some (decide (g = GGrid.mk 0 0 [] [])) := by
  unfold ref_zeroGrid
  congr 1
  obtain ⟨a, b, c, d⟩ := g
  rw [lenC_zero, lenC_zero, Bool.eq_iff_iff]
  simp [and_assoc]
theorem node_both (n : GNode) (h : okN2 n) : ∃ e, doc_CheckNode n = some e ∧ ref_NodeError n = some e := by
  have ha := h.ok.at_
  have hf := h.ok.fl
  have hg := h.ok.gr
  have hd := h.ok.dr
  have hfe : ∀ x ∈ n.Flow, okE x := fun x hx => ⟨by have := (h.ok.fa x hx).1; omega, (h.ok.fa x hx).2⟩
  unfold doc_CheckNode ref_NodeError
  rw [texts_same, lists_same, grids_same, draws_same, ref_In_dec, bnd1_some]
  by_cases c1 : 1 ≤ n.ID ∧ n.ID ≤ 1073741824
  · rw [if_neg (show ¬ ((decide (n.ID < 1)) || (decide (1073741824 < n.ID))) = true by simp only [Bool.or_eq_true, decide_eq_true_eq]; omega), decide_eq_true c1, if_neg (show ¬ ((!true) = true) by decide), ref_In_dec, bnd1_some]
    by_cases c2 : (0 ≤ n.Kind ∧ n.Kind ≤ 12) ∧ (n.ID = 1 ↔ n.Kind = 0)
    · obtain ⟨c2, c3⟩ := c2
      have e1 : (((decide (n.Kind < 0)) || (decide (13 ≤ n.Kind))) || (!((decide (n.ID = 1)) == (decide (n.Kind = 0))))) = false := by
        rw [decide_eq_false (show ¬ n.Kind < 0 by omega), decide_eq_false (show ¬ 13 ≤ n.Kind by omega)]
        by_cases q : n.ID = 1
        · rw [decide_eq_true q, decide_eq_true (c3.1 q)]; rfl
        · rw [decide_eq_false q, decide_eq_false (fun e => q (c3.2 e))]; rfl
      have e2 : (((!decide (0 ≤ n.Kind ∧ n.Kind ≤ 12)) || ((decide (n.ID = 1)) && (!decide (n.Kind = 0)))) || ((!decide (n.ID = 1)) && (decide (n.Kind = 0)))) = false := by
        rw [decide_eq_true c2]
        by_cases q : n.ID = 1
        · rw [decide_eq_true q, decide_eq_true (c3.1 q)]; rfl
        · rw [decide_eq_false q, decide_eq_false (fun e => q (c3.2 e))]; rfl
      rw [e1, e2, if_neg (show ¬ (false = true) by decide), if_neg (show ¬ (false = true) by decide), attr_Check_eq _ ha.2 (by have := ha.1; omega), bnd1_some, ref_AttrsError_eq _ _ ha.2 (by have := ha.1; omega), bnd1_some]
      by_cases c4 : attrErr n.Attrs false = 0
      · rw [if_neg (ndF c4), if_neg (ndF c4)]
        obtain ⟨t, ht⟩ : ∃ t, doc_Texts n.Kind = some t := ⟨_, rfl⟩
        obtain ⟨l, hl⟩ : ∃ t, doc_Lists n.Kind = some t := ⟨_, rfl⟩
        obtain ⟨g, hgk⟩ : ∃ t, doc_Grids n.Kind = some t := ⟨_, rfl⟩
        obtain ⟨d, hdk⟩ : ∃ t, doc_Draws n.Kind = some t := ⟨_, rfl⟩
        rw [ht, hl, hgk, hdk, bnd1_some, bnd1_some, grid_eq _ _ hg, zeroGrid_eq]
        have hll : ∃ l', gd (t == false) (some l) = some l' := by cases t <;> exact ⟨_, rfl⟩
        obtain ⟨l', hl'⟩ := hll
        rw [hl', bnd1_some, bnd1_some, bnd1_some, form_impl, bnd1_some, bnd1_some, form_ref]
        by_cases c5 : formB t l' g (decide (n.Grid = GGrid.mk 0 0 [] [])) d (decide (0 < (n.Flow.length : Int))) (decide (0 < (n.Draw.length : Int))) = true
        · rw [if_pos c5, if_pos c5]; exact ⟨_, rfl, rfl⟩
        · rw [if_neg c5, if_neg c5]
          by_cases c6 : (t || l') = true
          · obtain ⟨r, h1, h2⟩ := checks_same n.Flow t hfe (by omega)
            rw [if_pos c6, if_pos c6, h1, h2]; exact ⟨_, rfl, rfl⟩
          · rw [if_neg c6, if_neg c6]
            cases g with
            | true =>
              rw [if_pos rfl, grid_Check_eq _ h.gd, bnd1_some, bnd1_some, if_pos rfl, ref_GridError_eq _ h.gd, bnd1_some]
              by_cases c7 : gridErr n.Grid = 0
              · rw [if_neg (ndF c7), if_neg (ndF c7), checkCells_eq _ _ (by have := hg.1; omega), cellKinds_eq _ _ (by have := hg.1; omega)]; exact ⟨_, rfl, rfl⟩
              · rw [if_pos (ndT c7), if_pos (ndT c7)]; exact ⟨_, rfl, rfl⟩
            | false =>
              rw [if_neg (show ¬ (false = true) by decide), bnd1_some, if_neg (show ¬ (false = true) by decide), replica_Check_eq _ (by omega) h.dr, ref_DrawError_eq _ (by omega) h.dr]; exact ⟨_, rfl, rfl⟩
      · rw [if_pos (ndT c4), if_pos (ndT c4)]; exact ⟨_, rfl, rfl⟩
    · have e1 : (((decide (n.Kind < 0)) || (decide (13 ≤ n.Kind))) || (!((decide (n.ID = 1)) == (decide (n.Kind = 0))))) = true := by
        by_cases q1 : 0 ≤ n.Kind ∧ n.Kind ≤ 12
        · have q2 : ¬ (n.ID = 1 ↔ n.Kind = 0) := fun e => c2 ⟨q1, e⟩
          by_cases q : n.ID = 1
          · rw [decide_eq_true q, decide_eq_false (fun e => q2 ⟨fun _ => e, fun _ => q⟩), Bool.or_eq_true]; exact .inr rfl
          · rw [decide_eq_false q, decide_eq_true (Classical.byContradiction fun e => q2 ⟨fun x => absurd x q, fun x => absurd x e⟩), Bool.or_eq_true]; exact .inr rfl
        · simp only [Bool.or_eq_true, decide_eq_true_eq]; exact .inl (by omega)
      have e2 : (((!decide (0 ≤ n.Kind ∧ n.Kind ≤ 12)) || ((decide (n.ID = 1)) && (!decide (n.Kind = 0)))) || ((!decide (n.ID = 1)) && (decide (n.Kind = 0)))) = true := by
        by_cases q1 : 0 ≤ n.Kind ∧ n.Kind ≤ 12
        · have q2 : ¬ (n.ID = 1 ↔ n.Kind = 0) := fun e => c2 ⟨q1, e⟩
          rw [decide_eq_true q1]
          by_cases q : n.ID = 1
          · rw [decide_eq_true q, decide_eq_false (fun e => q2 ⟨fun _ => e, fun _ => q⟩)]; rfl
          · rw [decide_eq_false q, decide_eq_true (Classical.byContradiction fun e => q2 ⟨fun x => absurd x q, fun x => absurd x e⟩)]; rfl
        · rw [decide_eq_false q1]; rfl
      rw [e1, e2]; exact ⟨_, rfl, rfl⟩
  · rw [if_pos (show ((decide (n.ID < 1)) || (decide (1073741824 < n.ID))) = true by simp only [Bool.or_eq_true, decide_eq_true_eq]; omega), decide_eq_false c1]; exact ⟨_, rfl, rfl⟩
end Go.Proofs.YtfkolgjapajekaaDoor.Al


namespace Go.Proofs.YtfkolgjapajekaaDoor.Al
theorem index_find (s : List Int) (v : Int) (hm : s.length ≤ 1048576) : slices_Contains_int_int s v = some ((List.range s.length).find? fun j => decide (v = s[j]!)).isSome := by
  unfold slices_Contains_int_int slices_Index_int_int
  rw [iter_find (n := s.length) (fun j => if decide (v = s[j]!) then some (j : Int) else none) (fun j hj => by
    unfold slices_Index_int_int_L1
    rw [if_pos (by simpa using hj), idx_nat hj, bnd1_some, chk_nat (by omega)]
    cases decide (v = s[j]!) <;> rfl) (by unfold slices_Index_int_int_L1; rw [if_neg (by simp)]), findSome_map, ctl_outOf]
  cases (List.range s.length).find? fun j => decide (v = s[j]!) with
  | none => rfl
  | some j =>
    show (bnd1 (some (j : Int)) fun (r1 : Int) => some (decide (0 ≤ r1))) = _
    rw [bnd1_some, decide_eq_true (Int.natCast_nonneg j)]; rfl
theorem contains_mem (s : List Int) (v : Int) (hm : s.length ≤ 1048576) : slices_Contains_int_int s v = some (decide (v ∈ s)) := by
  rw [index_find s v hm]
  congr 1
  rw [Bool.eq_iff_iff, decide_eq_true_eq, List.find?_isSome]
  constructor
  · rintro ⟨j, h1, h2⟩
    have hj := List.mem_range.1 h1
    rw [of_decide_eq_true h2]; exact mem_at hj
  · intro h
    obtain ⟨j, hj, e⟩ := List.getElem_of_mem h
    exact ⟨j, List.mem_range.2 hj, decide_eq_true (by rw [getElem!_pos s j hj, e])⟩
def permB (p k : Int) : Bool :=
  if p = 0 then decide (k ∈ [1, 6, 7, 10, 11, 12]) else if p = 1 then decide (k ∈ [2, 4, 5, 10]) else if p = 3 then decide (k ∈ [4, 5, 10]) else if p = 4 ∨ p = 12 then decide (k = 5) else if p = 2 then decide (k = 3) else if p = 7 then decide (k = 8 ∨ k = 9) else false
theorem doc_perm (p k : Int) : doc_Permitted p k = some (permB p k) := by
  unfold doc_Permitted permB
  by_cases h0 : p = 0
  · rw [if_pos (decide_eq_true h0), if_pos h0, bnd1_some, contains_mem _ _ (by decide)]; rfl
  · rw [if_neg (show ¬ decide (p = 0) = true by simpa using h0), if_neg h0]
    by_cases h1 : p = 1
    · rw [if_pos (decide_eq_true h1), if_pos h1, bnd1_some, contains_mem _ _ (by decide)]; rfl
    · rw [if_neg (show ¬ decide (p = 1) = true by simpa using h1), if_neg h1]
      by_cases h3 : p = 3
      · rw [if_pos (decide_eq_true h3), if_pos h3, bnd1_some, contains_mem _ _ (by decide)]; rfl
      · rw [if_neg (show ¬ decide (p = 3) = true by simpa using h3), if_neg h3]
        have e4 : (if decide (p = 4) = true then some (decide (p = 4)) else some (decide (p = 12))) = some (decide (p = 4 ∨ p = 12)) := by
          by_cases h4 : p = 4
          · rw [if_pos (decide_eq_true h4), decide_eq_true h4, decide_eq_true (Or.inl h4 : p = 4 ∨ p = 12)]
          · rw [if_neg (show ¬ decide (p = 4) = true by simpa using h4)]
            congr 1
            rw [Bool.eq_iff_iff, decide_eq_true_eq, decide_eq_true_eq]
            exact ⟨.inr, fun h => h.elim (fun h => absurd h h4) id⟩
        rw [e4, bnd1_some]
        by_cases h4 : p = 4 ∨ p = 12
        · rw [if_pos (decide_eq_true h4), if_pos h4, bnd1_some, contains_mem _ _ (by decide), bnd1_some]
          congr 1; rw [Bool.eq_iff_iff]; simp
        · rw [if_neg (show ¬ decide (p = 4 ∨ p = 12) = true by simpa using h4), if_neg h4]
          by_cases h2 : p = 2
          · rw [if_pos (decide_eq_true h2), if_pos h2, bnd1_some, contains_mem _ _ (by decide), bnd1_some]
            congr 1; rw [Bool.eq_iff_iff]; simp
          · rw [if_neg (show ¬ decide (p = 2) = true by simpa using h2), if_neg h2]
            by_cases h7 : p = 7
            · rw [if_pos (decide_eq_true h7), if_pos h7, bnd1_some, contains_mem _ _ (by decide), bnd1_some]
              congr 1; rw [Bool.eq_iff_iff]; simp
            · rw [if_neg (show ¬ decide (p = 7) = true by simpa using h7), if_neg h7, bnd1_some, contains_mem _ _ (by decide), bnd1_some]; simp
theorem ref_perm (p k : Int) : ref_Permitted p k = some (permB p k) := by
  have hk : k = 1 ∨ k = 2 ∨ k = 3 ∨ k = 4 ∨ k = 5 ∨ k = 6 ∨ k = 7 ∨ k = 8 ∨ k = 9 ∨ k = 10 ∨ k = 11 ∨ k = 12 ∨ (k ≠ 1 ∧ k ≠ 2 ∧ k ≠ 3 ∧ k ≠ 4 ∧ k ≠ 5 ∧ k ≠ 6 ∧ k ≠ 7 ∧ k ≠ 8 ∧ k ≠ 9 ∧ k ≠ 10 ∧ k ≠ 11 ∧ k ≠ 12) := by omega
  have hp : p = 0 ∨ p = 1 ∨ p = 2 ∨ p = 3 ∨ p = 4 ∨ p = 7 ∨ p = 12 ∨ (p ≠ 0 ∧ p ≠ 1 ∧ p ≠ 2 ∧ p ≠ 3 ∧ p ≠ 4 ∧ p ≠ 7 ∧ p ≠ 12) := by omega
  unfold ref_Permitted permB ref_HasText
  rcases hk with rfl | rfl | rfl | rfl | rfl | rfl | rfl | rfl | rfl | rfl | rfl | rfl | ⟨k1, k2, k3, k4, k5, k6, k7, k8, k9, k10, k11, k12⟩
  all_goals first
    | (rcases hp with rfl | rfl | rfl | rfl | rfl | rfl | rfl | ⟨p0, p1, p2, p3, p4, p7, p12⟩
       all_goals first | rfl | (simp [p0, p1, p2, p3, p4, p7, p12]; done))
    | (rcases hp with rfl | rfl | rfl | rfl | rfl | rfl | rfl | ⟨p0, p1, p2, p3, p4, p7, p12⟩
       all_goals first
         | (simp [k1, k2, k3, k4, k5, k6, k7, k8, k9, k10, k11, k12]; done)
         | (simp [k1, k2, k3, k4, k5, k6, k7, k8, k9, k10, k11, k12, p0, p1, p2, p3, p4, p7, p12]; done))
theorem wrapU64 {n : Nat} (h : n < 9223372036854775808) : IntKind.u64.wrap (n : Int) = (n : Int) := by
  have e : (n : Int) % (2 ^ (64 : Nat) : Int) = (n : Int) := Int.emod_eq_of_lt (by omega) (by omega)
  show (if (false && decide ((n : Int) % (2 ^ (64 : Nat) : Int) ≥ (2 ^ (63 : Nat) : Int))) = true then (n : Int) % (2 ^ (64 : Nat) : Int) - (2 ^ (64 : Nat) : Int) else (n : Int) % (2 ^ (64 : Nat) : Int)) = _
  rw [e, if_neg (by simp)]
theorem half (m : Nat) (h : m < 4294967296) : IntKind.i64.wrap (shrC .u64 (IntKind.u64.wrap (m : Int)) 1) = ((m / 2 : Nat) : Int) := by
  rw [wrapU64 (by omega)]
  show IntKind.i64.wrap ((m : Int).fdiv (2 ^ (min 1 64))) = _
  rw [show ((2 : Int) ^ (min 1 64)) = 2 from rfl, Int.fdiv_eq_ediv_of_nonneg _ (by omega), show (m : Int) / 2 = ((m / 2 : Nat) : Int) by omega, wrap64 (by omega)]
def sortedN (l : List GNode) : Prop := ∀ a b : Nat, a < b → b < l.length → l[a]!.ID < l[b]!.ID
theorem find_f1 (n : GNode) (id : Int) : doc_find_f1 n id = some (if n.ID < id then -1 else if id < n.ID then 1 else 0) := by
  unfold doc_find_f1
  by_cases h1 : n.ID < id
  · rw [if_pos (decide_eq_true h1), if_pos h1]
  · rw [if_neg (show ¬ decide (n.ID < id) = true by simpa using h1), if_neg h1]
    by_cases h2 : id < n.ID
    · rw [if_pos (decide_eq_true h2), if_pos h2]
    · rw [if_neg (show ¬ decide (id < n.ID) = true by simpa using h2), if_neg h2]
theorem find_eq (d : GDoc) (id : Int) (hm : d.Nodes.length ≤ 1048576) (hs : sortedN d.Nodes) : ∃ i : Nat, doc_find d id = some ((i : Int), (findN d.Nodes id).isSome) ∧ (∀ k, findN d.Nodes id = some k → i = k) := by
  obtain ⟨l⟩ := d
  dsimp only at hm hs ⊢
  have key : ∃ r, iter (fun (a : Int × Int) => slices_BinarySearchFunc_api_Node_api_Node_int__find_f1_L1 l id a.1 a.2) (0, (l.length : Int)) = some r ∧
      ∃ I : Nat, r = (I : Int) ∧ I ≤ l.length ∧ (∀ m, m < I → l[m]!.ID < id) ∧ ∀ m, I ≤ m → m < l.length → ¬ l[m]!.ID < id := by
    refine iter_hoare l.length (fun k st => ∃ I J : Nat, st = ((I : Int), (J : Int)) ∧ I ≤ J ∧ J ≤ l.length ∧ J - I ≤ l.length - k ∧ (∀ m, m < I → l[m]!.ID < id) ∧ ∀ m, J ≤ m → m < l.length → ¬ l[m]!.ID < id) _ ?_ ?_ ⟨0, l.length, rfl, by omega, by omega, by omega, fun m h => absurd h (Nat.not_lt_zero _), fun m h1 h2 => absurd h2 (by omega)⟩
    · rintro k st hk ⟨I, J, rfl, h1, h2, h3, h4, h5⟩
      dsimp only
      unfold slices_BinarySearchFunc_api_Node_api_Node_int__find_f1_L1
      by_cases hIJ : I < J
      · left
        rw [if_pos (by rw [decide_eq_true_eq]; omega), show (I : Int) + (J : Int) = ((I + J : Nat) : Int) by omega, chk64 (by omega) (by omega), bnd1_some, half _ (by omega), idx_nat (by omega), bnd1_some, find_f1, bnd1_some]
        by_cases hc : l[(I + J) / 2]!.ID < id
        · rw [if_pos hc, if_pos (by decide), chk_nat (by omega)]
          refine ⟨_, rfl, (I + J) / 2 + 1, J, rfl, by omega, h2, by omega, fun m hmm => ?_, h5⟩
          by_cases e : m = (I + J) / 2
          · rw [e]; exact hc
          · have := hs m ((I + J) / 2) (by omega) (by omega); omega
        · rw [if_neg hc, if_neg (show ¬ decide ((if id < l[(I + J) / 2]!.ID then (1 : Int) else 0) < 0) = true by split <;> decide)]
          refine ⟨_, rfl, I, (I + J) / 2, rfl, by omega, by omega, by omega, h4, fun m e1 e2 => ?_⟩
          by_cases e : m = (I + J) / 2
          · rw [e]; exact hc
          · have := hs ((I + J) / 2) m (by omega) e2; omega
      · right
        rw [if_neg (by rw [decide_eq_true_eq]; omega)]
        exact ⟨_, rfl, I, rfl, by omega, h4, fun m e1 e2 => h5 m (by omega) e2⟩
    · rintro st ⟨I, J, rfl, h1, h2, h3, h4, h5⟩
      dsimp only
      unfold slices_BinarySearchFunc_api_Node_api_Node_int__find_f1_L1
      rw [if_neg (by rw [decide_eq_true_eq]; omega)]
      exact ⟨_, rfl, I, rfl, by omega, h4, fun m e1 e2 => h5 m (by omega) e2⟩
  obtain ⟨r, hr, I, rfl, hI, h4, h5⟩ := key
  unfold doc_find slices_BinarySearchFunc_api_Node_api_Node_int__find_f1
  rw [hr, bnd1_some]
  have hat : ∀ k, findN l id = some k → I = k := by
    intro k hf
    obtain ⟨e1, e2⟩ := findN_lt hf
    have a1 : ¬ k < I := fun h => by have := h4 k h; omega
    by_cases e : I = k
    · exact e
    · have := hs I k (by omega) e1
      have := h5 I (Nat.le_refl _) (by omega)
      omega
  refine ⟨I, ?_, hat⟩
  by_cases hlt : I < l.length
  · rw [decide_eq_true (show (I : Int) < (l.length : Int) by omega), show ((true == true) : Bool) = true from rfl, gd_true, idx_nat hlt, bnd1_some, gd_true, find_f1, bnd1_some, bnd2_some]
    congr 2
    have h6 := h5 I (Nat.le_refl _) hlt
    rw [if_neg h6]
    cases hf : findN l id with
    | some k =>
      obtain ⟨e1, e2⟩ := findN_lt hf
      have := hat k hf
      subst this
      rw [if_neg (by omega)]; rfl
    | none =>
      have hne : l[I]!.ID ≠ id := by
        intro e
        have := List.find?_eq_none.1 hf I (List.mem_range.2 hlt)
        exact this (decide_eq_true e)
      rw [if_pos (by omega)]; rfl
  · rw [decide_eq_false (show ¬ (I : Int) < (l.length : Int) by omega)]
    show some ((I : Int), false) = _
    cases hf : findN l id with
    | some k =>
      obtain ⟨e1, e2⟩ := findN_lt hf
      have := hat k hf
      omega
    | none => rfl
end Go.Proofs.YtfkolgjapajekaaDoor.Al


namespace Go.Proofs.YtfkolgjapajekaaDoor.Al
def okDoc2 (d : GDoc) : Prop := d.Nodes.length ≤ 1048576 ∧ ∀ n ∈ d.Nodes, okN2 n
theorem refs_o_loop : flow_Refs_o_L1 = flow_Refs_L1 := by funext f x o; rfl
theorem refsOf_loop (n : GNode) : ref_RefsOf_L1 n = flow_Refs_L1 n.Flow := by funext x o; rfl
theorem refsOf_loop2 : ref_RefsOf_L2 = doc_Refs_L1 := by funext n x o; rfl
theorem cells_loop (n : GNode) (w : List Int) (hm : n.Grid.Cells.length ≤ 1048576) (hw : w.length ≤ 1048576) : ∃ r, iter (fun (a : Int × (List Int)) => doc_Refs_L1 n a.1 a.2) (0, w) = some r ∧ r.length ≤ 2097152 := by
  refine iter_hoare n.Grid.Cells.length (fun k st => st.1 = (k : Int) ∧ st.2.length ≤ 1048576 + k) _ ?_ ?_ ⟨rfl, by simpa using hw⟩
  · rintro k ⟨x, out⟩ hk ⟨rfl, ho⟩
    dsimp only at ho ⊢
    left
    unfold doc_Refs_L1
    rw [if_pos (by simpa using hk), idx_nat hk, bnd1_some]
    by_cases r : n.Grid.Cells[k]!.Ref = 0
    · rw [if_neg (ndF r), bnd1_some, chk_nat (by omega), bnd1_some]
      exact ⟨_, rfl, rfl, by dsimp only; omega⟩
    · rw [if_pos (ndT r), app8 (by omega), bnd1_some, bnd1_some, chk_nat (by omega), bnd1_some]
      exact ⟨_, rfl, rfl, by dsimp only; rw [List.length_append, List.length_singleton]; omega⟩
  · rintro ⟨x, out⟩ ⟨rfl, ho⟩
    dsimp only at ho ⊢
    unfold doc_Refs_L1
    rw [if_neg (by simp)]
    exact ⟨_, rfl, by omega⟩
theorem refs_both (n : GNode) (h : okN2 n) : ∃ r, doc_Refs n = some r ∧ ref_RefsOf n = some r ∧ r.length ≤ 2097152 := by
  have hf := h.ok.fl
  obtain ⟨w, h1, h2⟩ := refs_loop n.Flow (by omega)
  obtain ⟨r, h3, h4⟩ := cells_loop n w h.ok.gr.1 (by omega)
  refine ⟨r, ?_, ?_, h4⟩
  · unfold doc_Refs flow_Refs_o
    rw [refs_o_loop, h1, bnd1_some, bnd1_some, h3]; rfl
  · unfold ref_RefsOf
    rw [refsOf_loop, refsOf_loop2, h1, bnd1_some, h3]; rfl
theorem crefs_both (d : GDoc) (kind : Int) (refs : List Int) (hm : d.Nodes.length ≤ 1048576) (hs : sortedN d.Nodes) (hr : refs.length ≤ 2097152) : ∃ e, doc_CheckRefs d kind refs = some e ∧ ref_RefsError d kind refs = some e := by
  obtain ⟨o, h1, h2, _⟩ := find_both (ρ := Int) (f := fun (a : Int) => doc_CheckRefs_L1 d kind refs a) (g := fun (a : Int) => ref_RefsError_L1 d kind refs a) (n := refs.length) (fun _ => True) trivial (fun k hk _ => by
    unfold doc_CheckRefs_L1 ref_RefsError_L1
    obtain ⟨i, hi, hik⟩ := find_eq d refs[k]! hm hs
    rw [if_pos (by simpa using hk), if_pos (by simpa using hk), idx_nat hk, bnd1_some, bnd1_some, hi, bnd2_some, ref_Find_eq _ _ hm, bnd1_some]
    cases hf : findN d.Nodes refs[k]! with
    | none => exact ⟨some 7, rfl, rfl, fun e => by cases e⟩
    | some j =>
      obtain ⟨e1, e2⟩ := findN_lt hf
      have := hik j hf
      subst this
      dsimp only
      rw [if_neg (show ¬ ((!Option.isSome (some i)) = true) by simp), idx_nat e1, bnd1_some, doc_perm, bnd1_some, if_neg (show ¬ decide ((i : Int) < 0) = true by simp), bnd1_some, ref_perm, bnd1_some]
      cases permB kind d.Nodes[i]!.Kind with
      | false => exact ⟨some 8, rfl, rfl, fun e => by cases e⟩
      | true =>
        rw [chk_nat (by omega)]
        exact ⟨none, rfl, rfl, fun _ => trivial⟩) (by unfold doc_CheckRefs_L1; rw [if_neg (by simp)]) (by unfold ref_RefsError_L1; rw [if_neg (by simp)])
  refine ⟨o.getD 0, ?_, ?_⟩
  · unfold doc_CheckRefs; rw [h1, out_getD]
  · unfold ref_RefsError; rw [h2, out_getD]
theorem sorted_of {l : List GNode} (h : ∀ k, 0 < k → k < l.length → l[k - 1]!.ID < l[k]!.ID) : sortedN l := by
  intro a b hab hb
  induction b with
  | zero => omega
  | succ b ih =>
    have h1 := h (b + 1) (by omega) hb
    rw [Nat.add_sub_cancel] at h1
    by_cases e : a = b
    · rw [e]; exact h1
    · have := ih (by omega) (by omega); omega
theorem doc_both (d : GDoc) (h : okDoc2 d) : ∃ e, doc_Check d = some e ∧ ref_DocError d = some e := by
  obtain ⟨hm, hn⟩ := h
  unfold doc_Check ref_DocError
  by_cases h0 : d.Nodes.length = 0
  · rw [if_pos (by rw [decide_eq_true_eq]; omega), if_pos (by rw [decide_eq_true_eq]; omega)]; exact ⟨_, rfl, rfl⟩
  · rw [if_neg (by rw [decide_eq_true_eq]; omega), if_neg (by rw [decide_eq_true_eq]; omega)]
    obtain ⟨o, h1, h2, h3⟩ := find_both (ρ := Int) (f := fun (a : Int) => doc_Check_L1 d a) (g := fun (a : Int) => ref_DocError_L1 d a) (n := d.Nodes.length) (fun k => ∀ j, 0 < j → j < k → d.Nodes[j - 1]!.ID < d.Nodes[j]!.ID) (fun j _ hj => absurd hj (Nat.not_lt_zero _)) (fun k hk hI => by
      unfold doc_Check_L1 ref_DocError_L1
      obtain ⟨e, e1, e2⟩ := node_both _ (hn _ (mem_at hk))
      rw [if_pos (by simpa using hk), if_pos (by simpa using hk), idx_nat hk, bnd1_some, bnd1_some, e1, e2, bnd1_some, bnd1_some]
      by_cases he : e = 0
      · rw [if_neg (ndF he), if_neg (ndF he)]
        by_cases k0 : k = 0
        · subst k0
          rw [decide_eq_true (show ((0 : Nat) : Int) = 0 from rfl), show ((true == true) : Bool) = true from rfl, gd_true, show (0 : Int) = ((0 : Nat) : Int) from rfl, idx_nat hk, bnd1_some, decide_eq_false (show ¬ ((0 : Nat) : Int) < ((0 : Nat) : Int) by omega)]
          by_cases hid : d.Nodes[0]!.ID = 1
          · refine ⟨none, ?_, ?_, fun _ j j1 j2 => by omega⟩
            · rw [decide_eq_true hid]; rfl
            · rw [decide_eq_true hid]; rfl
          · refine ⟨some 5, ?_, ?_, fun e => by cases e⟩
            · rw [decide_eq_false hid]; rfl
            · rw [decide_eq_false hid]; rfl
        · have k1 : 0 < k := by omega
          rw [decide_eq_false (show ¬ ((k : Int) = 0) by omega), decide_eq_true (show (0 : Int) < (k : Int) by omega), show ((false == true) : Bool) = false from rfl, gd_false, bnd1_some]
          show ∃ o : Option Int, (bnd1 (gd true (chk .i64 ((k : Int) - 1))) fun (x10 : Int) => bnd1 (gd true (idx d.Nodes x10)) fun (x11 : GNode) => _) = _ ∧ (bnd1 (gd true (chk .i64 ((k : Int) - 1))) fun (x11 : Int) => bnd1 (gd true (idx d.Nodes x11)) fun (x12 : GNode) => _) = _ ∧ _
          rw [gd_true, chk_pred k1 (by omega), bnd1_some, bnd1_some, gd_true, idx_nat (show k - 1 < d.Nodes.length by omega), bnd1_some, bnd1_some, chk_nat (by omega)]
          by_cases hid : d.Nodes[k]!.ID ≤ d.Nodes[k - 1]!.ID
          · rw [decide_eq_true hid]
            exact ⟨some 5, rfl, rfl, fun e => by cases e⟩
          · rw [decide_eq_false hid]
            refine ⟨none, rfl, rfl, fun _ j j1 j2 => ?_⟩
            by_cases e : j = k
            · rw [e]; omega
            · exact hI j j1 (by omega)
      · rw [if_pos (ndT he), if_pos (ndT he)]
        exact ⟨some e, rfl, rfl, fun e => by cases e⟩) (by unfold doc_Check_L1; rw [if_neg (by simp)]) (by unfold ref_DocError_L1; rw [if_neg (by simp)])
    rw [h1, h2]
    cases o with
    | some e => exact ⟨e, rfl, rfl⟩
    | none =>
      have hs := sorted_of (h3 rfl)
      show ∃ e, (ctl1 (iter (fun (a : Int) => doc_Check_L2 d a) 0) fun (u4 : Unit) => some 0) = some e ∧ (ctl1 (iter (fun (a : Int) => ref_DocError_L2 d a) 0) fun (u4 : Unit) => some 0) = some e
      obtain ⟨o, e1, e2, _⟩ := find_both (ρ := Int) (f := fun (a : Int) => doc_Check_L2 d a) (g := fun (a : Int) => ref_DocError_L2 d a) (n := d.Nodes.length) (fun _ => True) trivial (fun k hk _ => by
        unfold doc_Check_L2 ref_DocError_L2
        obtain ⟨r, r1, r2, r3⟩ := refs_both _ (hn _ (mem_at hk))
        obtain ⟨e, c1, c2⟩ := crefs_both d d.Nodes[k]!.Kind r hm hs r3
        rw [if_pos (by simpa using hk), if_pos (by simpa using hk), idx_nat hk, bnd1_some, bnd1_some, r1, r2, bnd1_some, bnd1_some, c1, c2, bnd1_some]
        by_cases he : e = 0
        · rw [if_neg (ndF he), chk_nat (by omega)]
          exact ⟨none, rfl, rfl, fun _ => trivial⟩
        · rw [if_pos (ndT he)]
          exact ⟨some e, rfl, rfl, fun _ => trivial⟩) (by unfold doc_Check_L2; rw [if_neg (by simp)]) (by unfold ref_DocError_L2; rw [if_neg (by simp)])
      exact ⟨o.getD 0, by rw [e1, out_getD], by rw [e2, out_getD]⟩
theorem law_DocCheck_true (d : GDoc) (a b : Int) (h : okDoc2 d) : law_DocCheckSays d a b = some true := by
  unfold law_DocCheckSays
  obtain ⟨e, h1, h2⟩ := doc_both d h
  have hl : iter (fun (a : Int) => law_DocCheckSays_L1 d a) 0 = some (.nrm ()) := by
    rw [iter_find (n := d.Nodes.length) (fun _ => (none : Option Bool)) (fun k hk => by
      unfold law_DocCheckSays_L1
      obtain ⟨e, e1, e2⟩ := node_both _ (h.2 _ (mem_at hk))
      have := h.1
      rw [if_pos (by simpa using hk), idx_nat hk, bnd1_some, e1, e2, bnd1_some, bnd1_some, if_neg (ndF rfl), chk_nat (by omega)]; rfl) (by unfold law_DocCheckSays_L1; rw [if_neg (by simp)])]
    have : (List.range d.Nodes.length).findSome? (fun _ => (none : Option Bool)) = none := List.findSome?_eq_none_iff.2 fun _ _ => rfl
    rw [this]; rfl
  rw [law_docs_eq, doc_perm, ref_perm, h1, h2, hl]
  simp [bnd1_some, gd]
theorem okDoc2_bulk {μ : GNode → Nat} {γ : GGrid → Nat} {ψ : GCell → Nat} {ρ : GRect → Nat} {δ : GDrawOp → Nat} {ν : GElem → Nat} {κ : GAttr → Nat}
    (hn : ∀ n, (n.Attrs.map κ).sum + (n.Flow.map ν).sum + γ n.Grid + (n.Draw.map δ).sum + 1 ≤ μ n) (hg : ∀ g, (g.Cells.map ψ).sum + (g.Merges.map ρ).sum + 1 ≤ γ g)
    (hc : ∀ c, c.Text.length + (c.Attrs.map κ).sum + 1 ≤ ψ c) (hr : ∀ r, 1 ≤ ρ r) (hd : ∀ o, o.Place.length + o.Name.length + o.Value.length + 1 ≤ δ o) (he : ∀ e, (e.Attrs.map κ).sum + 1 ≤ ν e) (ha : ∀ a, a.Name.length + a.Value.length + 1 ≤ κ a)
    {d : GDoc} (hb : (d.Nodes.map μ).sum ≤ 1048576) : okDoc2 d := by
  have h1 := okDoc_bulk hn hg (fun c => by have := hc c; omega) hr (fun o => by have := hd o; omega) he ha hb
  refine ⟨h1.1, fun n hm => ⟨h1.2 n hm, fun c hcm => ⟨(h1.2 n hm).gr.2.2 c hcm, ?_⟩, fun o hom => ?_⟩⟩
  · have h2 := mem_le_sum (μ := μ) hm
    have h3 := hn n
    have h4 := hg n.Grid
    have h5 := mem_le_sum (μ := ψ) hcm
    have := hc c
    omega
  · have h2 := mem_le_sum (μ := μ) hm
    have h3 := hn n
    have h5 := mem_le_sum (μ := δ) hom
    have := hd o
    exact ⟨by omega, by omega, by omega⟩
end Go.Proofs.YtfkolgjapajekaaDoor.Al

