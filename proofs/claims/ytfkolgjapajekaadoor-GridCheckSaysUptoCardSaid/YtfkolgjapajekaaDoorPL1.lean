/- Plain laws over the models, a part of them. -/
import Derived.Test.YtfkolgjapajekaaDoorMod1
import Derived.Lib.DecodeNEq
import Derived.Lib.TrimUEq
import Derived.Lib.ValidLaws
namespace Go.Proofs.YtfkolgjapajekaaDoor.Al
@[simp] theorem bnd1_some {a α : Type} (x : a) (f : a → Option α) : bnd1 (some x) f = f x := rfl
@[simp] theorem bnd2_some {a b α : Type} (x : a) (y : b) (f : a → b → Option α) : bnd2 (some (x, y)) f = f x y := rfl
@[simp] theorem bnd3_some {a b c α : Type} (x : a) (y : b) (z : c) (f : a → b → c → Option α) : bnd3 (some (x, y, z)) f = f x y z := rfl
@[simp] theorem bnd4_some {a b c d α : Type} (x : a) (y : b) (z : c) (u : d) (f : a → b → c → d → Option α) : bnd4 (some (x, y, z, u)) f = f x y z u := rfl
@[simp] theorem ctl1_nrm {a α : Type} (x : a) (f : a → Option α) : ctl1 (some (.nrm x)) f = f x := rfl
@[simp] theorem ctl1_ext {a α : Type} (t : α) (f : a → Option α) : ctl1 (some (.ext t)) f = some t := rfl
@[simp] theorem ctl2_nrm {a b α : Type} (x : a) (y : b) (f : a → b → Option α) : ctl2 (some (.nrm (x, y))) f = f x y := rfl
@[simp] theorem ctl2_ext {a b α : Type} (t : α) (f : a → b → Option α) : ctl2 (some (.ext t)) f = some t := rfl
@[simp] theorem ctl3_nrm {a b c α : Type} (x : a) (y : b) (z : c) (f : a → b → c → Option α) : ctl3 (some (.nrm (x, y, z))) f = f x y z := rfl
@[simp] theorem ctl3_ext {a b c α : Type} (t : α) (f : a → b → c → Option α) : ctl3 (some (.ext t)) f = some t := rfl
@[simp] theorem gd_true {α : Type} [Inhabited α] (m : Option α) : gd true m = m := rfl
@[simp] theorem gd_false {α : Type} [Inhabited α] (m : Option α) : gd false m = some default := rfl
theorem idx_nat {α : Type} [Inhabited α] {l : List α} {k : Nat} (h : k < l.length) : idx l (k : Int) = some l[k]! := by
  unfold idx
  rw [if_pos (Int.natCast_nonneg k), Int.toNat_natCast, List.getElem?_eq_getElem h, getElem!_pos l k h]
theorem chk_nat {k : Nat} (h : k < 9223372036854775807) : chk .i64 ((k : Int) + 1) = some (((k + 1 : Nat)) : Int) := by
  rw [chk64 (by omega) (by omega)]; rfl
theorem chk_pred {k : Nat} (h : 0 < k) (h2 : k ≤ 9223372036854775807) : chk .i64 ((k : Int) - 1) = some ((k - 1 : Nat) : Int) := by
  rw [chk64 (by omega) (by omega)]; congr 1; omega
def stepOf {ρ : Type} (k : Nat) : Option ρ → Option (Int ⊕ Ctl Unit ρ)
  | none => some (.inl ((k + 1 : Nat) : Int))
  | some r => some (.inr (.ext r))
def outOf {ρ : Type} : Option ρ → Ctl Unit ρ
  | none => .nrm ()
  | some r => .ext r
theorem iter_find {ρ : Type} {f : Int → Option (Int ⊕ Ctl Unit ρ)} {n : Nat} (g : Nat → Option ρ) (h1 : ∀ k : Nat, k < n → f k = stepOf k (g k))
    (h2 : f n = some (.inr (.nrm ()))) : iter f 0 = some (outOf ((List.range n).findSome? g)) := by
  have key : ∀ m k : Nat, k + m = n → iter f (k : Int) = some (outOf ((List.range' k m).findSome? g)) := by
    intro m
    induction m with
    | zero =>
      intro k hk
      obtain rfl : k = n := by omega
      rw [iter_stop h2]; rfl
    | succ m ih =>
      intro k hk
      rw [List.range'_succ, List.findSome?_cons]
      have := h1 k (by omega)
      cases hg : g k with
      | none => rw [hg] at this; rw [iter_next this, ih (k + 1) (by omega)]
      | some r => rw [hg] at this; rw [iter_stop this]; rfl
  rw [List.range_eq_range']
  exact key n 0 (by omega)
theorem findSome_congr {α ρ : Type} {l : List α} {g h : α → Option ρ} (e : ∀ x ∈ l, g x = h x) : l.findSome? g = l.findSome? h := by
  induction l with
  | nil => rfl
  | cons a l ih => rw [List.findSome?_cons, List.findSome?_cons, e a (List.mem_cons_self ..), ih fun x hx => e x (List.mem_cons_of_mem _ hx)]
theorem find_all {α ρ : Type} [Inhabited α] (l : List α) (p : α → Bool) (r : ρ) : (List.range l.length).findSome? (fun k => if p l[k]! then none else some r) = if l.all p then none else some r := by
  induction l with
  | nil => rfl
  | cons a l ih =>
    rw [List.length_cons, List.range_succ_eq_map, List.findSome?_cons, List.findSome?_map]
    have hr : (List.range l.length).findSome? ((fun k => if p (a :: l)[k]! = true then none else some r) ∘ Nat.succ) = if l.all p = true then none else some r := by
      rw [← ih]; exact findSome_congr fun k _ => by simp
    rw [hr]
    by_cases hp : p a = true
    · simp [hp]
    · simp [hp]
theorem ctl_outOf {ρ : Type} (o : Option ρ) (f : Unit → Option ρ) : ctl1 (some (outOf o)) f = match o with | none => f () | some r => some r := by cases o <;> rfl
end Go.Proofs.YtfkolgjapajekaaDoor.Al


namespace Go.Proofs.YtfkolgjapajekaaDoor.Al
def chOK (c : UInt8) : Bool := (decide (97 ≤ c.toNat) && decide (c.toNat ≤ 122)) || (decide (48 ≤ c.toNat) && decide (c.toNat ≤ 57)) || decide (c.toNat = 46) || decide (c.toNat = 45)
def nameOK (s : List UInt8) : Bool := decide (1 ≤ s.length) && decide (s.length ≤ 24) && (decide (97 ≤ s[0]!.toNat) && decide (s[0]!.toNat ≤ 122)) && s.all chOK
def valCh (c : UInt8) : Bool := decide (32 ≤ c.toNat) && decide (c.toNat ≤ 126)
def valOK (s : List UInt8) : Bool := decide (1 ≤ s.length) && decide (s.length ≤ 200) && s.all valCh
theorem attr_Name_step (s : List UInt8) (k : Nat) (hk : k < s.length) (hm : s.length ≤ 9223372036854775807) : attr_Name_L1 s k = stepOf k (if chOK s[k]! then none else some false) := by
  unfold attr_Name_L1
  rw [if_pos (by simpa using hk), idx_nat hk, bnd1_some, chk_nat (by omega)]
  generalize s[k]! = c
  have e : (((((decide ((c.toNat : Int) < 97)) || (decide (122 < (c.toNat : Int)))) && ((decide ((c.toNat : Int) < 48)) || (decide (57 < (c.toNat : Int))))) && (!decide ((c.toNat : Int) = 46))) && (!decide ((c.toNat : Int) = 45))) = !chOK c := by
    unfold chOK
    rw [Bool.eq_iff_iff]
    simp only [Bool.or_eq_true, Bool.and_eq_true, decide_eq_true_eq, Bool.not_eq_true', decide_eq_false_iff_not, Bool.or_eq_false_iff, Bool.and_eq_false_imp]
    omega
  rw [e]
  cases chOK c <;> rfl
theorem attr_Name_eq (s : List UInt8) (hm : s.length ≤ 9223372036854775807) : attr_Name s = some (nameOK s) := by
  unfold attr_Name
  rw [iter_find (n := s.length) (fun k => if chOK s[k]! then none else some false) (fun k hk => attr_Name_step s k hk hm) (by unfold attr_Name_L1; rw [if_neg (by simp)]), find_all]
  unfold nameOK
  cases s with
  | nil => simp
  | cons c t =>
    have h0 : idx (c :: t) 0 = some c := rfl
    rw [h0]
    simp only [List.getElem!_cons_zero, decide_eq_false (List.cons_ne_nil c t), Bool.false_or]
    generalize (c :: t).all chOK = al
    generalize hl : (c :: t).length = L
    have hL : 1 ≤ L := by rw [← hl]; simp
    by_cases h1 : 24 < (L : Int)
    · have e1 : decide (L ≤ 24) = false := by simp; omega
      simp [h1, e1]
    · rw [decide_eq_false h1]
      simp only [Bool.false_or, beq_self_eq_true, gd_true, bnd1_some]
      have e1 : decide (L ≤ 24) = true := by simp; omega
      have e2 : decide (1 ≤ L) = true := by simp; omega
      rw [e1, e2]
      by_cases h2 : (c.toNat : Int) < 97
      · have e3 : decide (97 ≤ c.toNat) = false := by simp; omega
        simp [h2, e3]
      · rw [decide_eq_false h2]
        have e3 : decide (97 ≤ c.toNat) = true := by simp; omega
        simp only [beq_self_eq_true, gd_true, bnd1_some, Bool.false_or]
        by_cases h3 : 122 < (c.toNat : Int)
        · have e4 : decide (c.toNat ≤ 122) = false := by simp; omega
          simp [h3, e4]
        · have e4 : decide (c.toNat ≤ 122) = true := by simp; omega
          rw [if_neg (by simpa using h3), ctl_outOf, e3, e4]
          cases al <;> rfl
def refCh (k : Nat) (c : UInt8) : Bool := (decide (97 ≤ c.toNat) && decide (c.toNat ≤ 122)) || (decide (k ≠ 0) && chOK c)
theorem ref_Name_step (s : List UInt8) (k : Nat) (hk : k < s.length) (hm : s.length ≤ 9223372036854775807) :
    ref_Name_L1 s k = stepOf k (if refCh k s[k]! then none else some false) := by
  unfold ref_Name_L1
  rw [if_pos (by simpa using hk), idx_nat hk, bnd1_some, chk_nat (by omega)]
  generalize s[k]! = c
  have e : ((!((decide (97 ≤ (c.toNat : Int))) && (decide ((c.toNat : Int) ≤ 122)))) && ((decide ((k : Int) = 0)) || (((!decide ((c.toNat : Int) = 46)) && (!decide ((c.toNat : Int) = 45))) && ((decide ((c.toNat : Int) < 48)) || (decide (57 < (c.toNat : Int))))))) = !refCh k c := by
    unfold refCh chOK
    rw [Bool.eq_iff_iff]
    simp only [Bool.or_eq_true, Bool.and_eq_true, decide_eq_true_eq, Bool.not_eq_true', decide_eq_false_iff_not, Bool.or_eq_false_iff, Bool.and_eq_false_imp]
    omega
  rw [e]
  cases refCh k c <;> rfl
theorem all_iff {α : Type} [Inhabited α] (l : List α) (p : α → Bool) : l.all p = true ↔ ∀ k, k < l.length → p l[k]! = true := by
  rw [List.all_eq_true]
  constructor
  · intro h k hk; rw [getElem!_pos l k hk]; exact h _ (List.getElem_mem hk)
  · intro h x hx
    obtain ⟨k, hk, rfl⟩ := List.mem_iff_getElem.1 hx
    rw [← getElem!_pos l k hk]; exact h k hk
theorem find_const {ρ : Type} (n : Nat) (p : Nat → Bool) (r : ρ) : (List.range n).findSome? (fun k => if p k then none else some r) = if (List.range n).all p then none else some r := by
  generalize List.range n = l
  induction l with
  | nil => rfl
  | cons a l ih => rw [List.findSome?_cons, List.all_cons, ]; by_cases h : p a = true <;> simp [h, ih]
theorem ref_Name_eq (s : List UInt8) (hm : s.length ≤ 9223372036854775807) : ref_Name s = some (nameOK s) := by
  unfold ref_Name
  rw [iter_find (n := s.length) (fun k => if refCh k s[k]! then none else some false) (fun k hk => ref_Name_step s k hk hm) (by unfold ref_Name_L1; rw [if_neg (by simp)]), find_const, ctl_outOf]
  have key : ((List.range s.length).all fun k => refCh k s[k]!) = (decide (s = []) || ((decide (97 ≤ s[0]!.toNat) && decide (s[0]!.toNat ≤ 122)) && s.all chOK)) := by
    rw [Bool.eq_iff_iff, List.all_eq_true]
    simp only [List.mem_range, Bool.or_eq_true, decide_eq_true_eq, Bool.and_eq_true, all_iff]
    constructor
    · intro h
      cases hs : s with
      | nil => exact .inl rfl
      | cons c t =>
        rw [← hs]
        have hl : 0 < s.length := by rw [hs]; simp
        have h0 := h 0 hl
        simp only [refCh, Bool.or_eq_true, Bool.and_eq_true, decide_eq_true_eq] at h0
        refine .inr ⟨by omega, fun k hk => ?_⟩
        have := h k hk
        simp only [refCh, chOK, Bool.or_eq_true, Bool.and_eq_true, decide_eq_true_eq] at this ⊢
        omega
    · rintro (rfl | ⟨h1, h2⟩) k hk
      · cases hk
      · have := h2 k hk
        by_cases hk0 : k = 0
        · subst hk0; simp only [refCh, Bool.or_eq_true, Bool.and_eq_true, decide_eq_true_eq]; omega
        · simp only [refCh, Bool.or_eq_true, Bool.and_eq_true, decide_eq_true_eq]; exact .inr ⟨hk0, this⟩
  rw [key]
  unfold nameOK
  cases s with
  | nil => rfl
  | cons c t =>
    rw [decide_eq_false (List.cons_ne_nil c t), Bool.false_or]
    generalize (c :: t).all chOK = al
    generalize (decide (97 ≤ (c :: t)[0]!.toNat) && decide ((c :: t)[0]!.toNat ≤ 122)) = fc
    have e1 : decide (1 ≤ ((c :: t).length : Int)) = decide (1 ≤ (c :: t).length) := by simp; omega
    have e2 : decide (((c :: t).length : Int) ≤ 24) = decide ((c :: t).length ≤ 24) := by simp; omega
    rw [e1, e2]
    cases fc <;> cases al <;> simp
theorem attr_Value_eq (s : List UInt8) (hm : s.length ≤ 9223372036854775807) : attr_Value s = some (valOK s) := by
  unfold attr_Value valOK
  rw [iter_find (n := s.length) (fun k => if valCh s[k]! then none else some false) (fun k hk => by
    unfold attr_Value_L1
    rw [if_pos (by simpa using hk), idx_nat hk, bnd1_some, chk_nat (by omega)]
    generalize s[k]! = c
    have e : ((decide ((c.toNat : Int) < 32)) || (decide (126 < (c.toNat : Int)))) = !valCh c := by
      unfold valCh
      rw [Bool.eq_iff_iff]
      simp only [Bool.or_eq_true, Bool.and_eq_true, decide_eq_true_eq, Bool.not_eq_true', decide_eq_false_iff_not, Bool.and_eq_false_imp]
      omega
    rw [e]
    cases valCh c <;> rfl) (by unfold attr_Value_L1; rw [if_neg (by simp)]), find_all, ctl_outOf]
  generalize s.all valCh = al
  cases s with
  | nil => simp
  | cons c t =>
    rw [decide_eq_false (List.cons_ne_nil c t), Bool.false_or]
    generalize hl : (c :: t).length = L
    have hL : 1 ≤ L := by rw [← hl]; simp
    by_cases h1 : 200 < (L : Int)
    · have e1 : decide (L ≤ 200) = false := by simp; omega
      simp [h1, e1]
    · have e1 : decide (L ≤ 200) = true := by simp; omega
      have e2 : decide (1 ≤ L) = true := by simp; omega
      rw [if_neg (by simpa using h1), e1, e2]
      cases al <;> rfl
theorem ref_Value_eq (s : List UInt8) (hm : s.length ≤ 9223372036854775807) : ref_Value s = some (valOK s) := by
  unfold ref_Value valOK
  rw [iter_find (n := s.length) (fun k => if valCh s[k]! then none else some false) (fun k hk => by
    unfold ref_Value_L1
    rw [if_pos (by simpa using hk), idx_nat hk, bnd1_some, chk_nat (by omega)]
    generalize s[k]! = c
    have e : ((decide ((c.toNat : Int) < 32)) || (decide (126 < (c.toNat : Int)))) = !valCh c := by
      unfold valCh
      rw [Bool.eq_iff_iff]
      simp only [Bool.or_eq_true, Bool.and_eq_true, decide_eq_true_eq, Bool.not_eq_true', decide_eq_false_iff_not, Bool.and_eq_false_imp]
      omega
    rw [e]
    cases valCh c <;> rfl) (by unfold ref_Value_L1; rw [if_neg (by simp)]), find_all, ctl_outOf]
  generalize s.all valCh = al
  have e1 : decide (1 ≤ (s.length : Int)) = decide (1 ≤ s.length) := by simp; omega
  have e2 : decide ((s.length : Int) ≤ 200) = decide (s.length ≤ 200) := by simp; omega
  rw [e1, e2]
  cases al <;> simp
theorem sLt_cons (a b : UInt8) (x y : List UInt8) : sLt (a :: x) (b :: y) = (decide (a < b) || (a == b && sLt x y)) := rfl
theorem sLt_tri : ∀ (a b : List UInt8), (sLt a b || decide (a = b)) = !sLt b a
  | [], [] => rfl
  | [], _ :: _ => rfl
  | _ :: _, [] => rfl
  | a :: x, b :: y => by
    rw [sLt_cons, sLt_cons]
    have ih := sLt_tri x y
    by_cases h : a = b
    · subst h
      have h1 : ¬ a < a := fun h => by simp [UInt8.lt_iff_toNat_lt] at h
      simp only [decide_eq_false h1, beq_self_eq_true, Bool.true_and, Bool.false_or, List.cons.injEq, true_and]
      exact ih
    · have h2 : (a == b) = false := by simpa using h
      have h3 : (b == a) = false := by simpa using fun e : b = a => h e.symm
      have h4 : ¬ (a :: x = b :: y) := fun e => h (List.cons.inj e).1
      rw [h2, h3, decide_eq_false h4]
      simp only [Bool.false_and, Bool.or_false]
      have h5 : a.toNat ≠ b.toNat := fun e => h (UInt8.toNat_inj.1 e)
      by_cases hlt : a < b
      · have : ¬ b < a := by rw [UInt8.lt_iff_toNat_lt] at hlt ⊢; omega
        simp [hlt, this]
      · have : b < a := by rw [UInt8.lt_iff_toNat_lt] at hlt ⊢; omega
        simp [hlt, this]
def okStr (l : List GAttr) : Prop := ∀ a ∈ l, a.Name.length ≤ 9223372036854775807 ∧ a.Value.length ≤ 9223372036854775807
def errA (l : List GAttr) (ch : Bool) (k : Nat) : Option Int :=
  if nameOK l[k]!.Name = false then some 9 else if valOK l[k]!.Value = false ∧ ¬ (ch = true ∧ l[k]!.Value = []) then some 23 else if 0 < k ∧ sLt l[k - 1]!.Name l[k]!.Name = false then some 5 else none
def attrErr (l : List GAttr) (ch : Bool) : Int := ((List.range l.length).findSome? (errA l ch)).getD 0
theorem okStr.at {l : List GAttr} (h : okStr l) {k : Nat} (hk : k < l.length) : l[k]!.Name.length ≤ 9223372036854775807 ∧ l[k]!.Value.length ≤ 9223372036854775807 := by
  rw [getElem!_pos l k hk]; exact h _ (List.getElem_mem hk)
theorem attr_check_step (l : List GAttr) (ch : Bool) (h : okStr l) (hm : l.length ≤ 9223372036854775807) (k : Nat) (hk : k < l.length) : attr_check_L1 l ch k = stepOf k (errA l ch k) := by
  unfold attr_check_L1 errA
  obtain ⟨hn1, hn2⟩ := h.at hk
  rw [if_pos (by simpa using hk), idx_nat hk, bnd1_some]
  generalize l[k]! = x at hn1 hn2 ⊢
  rw [attr_Name_eq _ hn1, bnd1_some]
  cases nameOK x.Name
  · rfl
  rw [if_neg (by decide), if_neg (by decide), attr_Value_eq _ hn2, bnd1_some, chk_nat (by omega)]
  by_cases hv : valOK x.Value = false ∧ ¬ (ch = true ∧ x.Value = [])
  · rw [if_pos hv, if_pos (by simp [hv.1]; cases ch <;> simp_all)]; rfl
  rw [if_neg hv, if_neg (by intro e; simp at e; exact hv ⟨e.1, by rintro ⟨a, b⟩; simp [a, b] at e⟩)]
  by_cases hk0 : k = 0
  · subst hk0; rfl
  · have h0 : decide ((0 : Int) < (k : Int)) = true := by simp; omega
    rw [h0, chk_pred (by omega) (by omega)]
    simp only [beq_self_eq_true, gd_true, bnd1_some, Bool.true_and]
    rw [idx_nat (by omega), bnd1_some, sLt_tri]
    have : (0 < k ∧ sLt l[k - 1]!.Name x.Name = false) ↔ sLt l[k - 1]!.Name x.Name = false := by constructor; exact fun h => h.2; exact fun h => ⟨by omega, h⟩
    simp only [this]
    cases sLt l[k - 1]!.Name x.Name <;> rfl
theorem ref_AttrsError_step (l : List GAttr) (ch : Bool) (h : okStr l) (hm : l.length ≤ 9223372036854775807) (k : Nat) (hk : k < l.length) : ref_AttrsError_L1 l ch k = stepOf k (errA l ch k) := by
  unfold ref_AttrsError_L1 errA
  obtain ⟨hn1, hn2⟩ := h.at hk
  rw [if_pos (by simpa using hk), idx_nat hk, bnd1_some]
  generalize l[k]! = x at hn1 hn2 ⊢
  rw [ref_Name_eq _ hn1, bnd1_some]
  cases nameOK x.Name
  · rfl
  rw [if_neg (by decide), if_neg (by decide), ref_Value_eq _ hn2, bnd1_some, chk_nat (by omega)]
  by_cases hv : valOK x.Value = false ∧ ¬ (ch = true ∧ x.Value = [])
  · rw [if_pos hv, if_pos (by simp [hv.1]; cases ch <;> simp_all)]; rfl
  rw [if_neg hv, if_neg (by intro e; simp at e; exact hv ⟨e.1, by rintro ⟨a, b⟩; simp [a, b] at e⟩)]
  by_cases hk0 : k = 0
  · subst hk0; rfl
  · have h0 : decide ((0 : Int) < (k : Int)) = true := by simp; omega
    rw [h0, chk_pred (by omega) (by omega)]
    simp only [beq_self_eq_true, gd_true, bnd1_some, Bool.true_and]
    rw [idx_nat (by omega), bnd1_some]
    have : (0 < k ∧ sLt l[k - 1]!.Name x.Name = false) ↔ sLt l[k - 1]!.Name x.Name = false := by constructor; exact fun h => h.2; exact fun h => ⟨by omega, h⟩
    simp only [this]
    cases sLt l[k - 1]!.Name x.Name <;> rfl
theorem out_getD {o : Option Int} : (ctl1 (some (outOf o)) fun _ : Unit => some 0) = some (o.getD 0) := by cases o <;> rfl
theorem attr_check_eq (l : List GAttr) (ch : Bool) (h : okStr l) (hm : l.length ≤ 9223372036854775807) : attr_check l ch = some (attrErr l ch) := by
  unfold attr_check
  rw [iter_find (n := l.length) (errA l ch) (fun k hk => attr_check_step l ch h hm k hk) (by unfold attr_check_L1; rw [if_neg (by simp)]), out_getD]; rfl
theorem ref_AttrsError_eq (l : List GAttr) (ch : Bool) (h : okStr l) (hm : l.length ≤ 9223372036854775807) : ref_AttrsError l ch = some (attrErr l ch) := by
  unfold ref_AttrsError
  rw [iter_find (n := l.length) (errA l ch) (fun k hk => ref_AttrsError_step l ch h hm k hk) (by unfold ref_AttrsError_L1; rw [if_neg (by simp)]), out_getD]; rfl
theorem attr_Check_eq (l : List GAttr) (h : okStr l) (hm : l.length ≤ 9223372036854775807) : attr_Check l = some (attrErr l false) := by unfold attr_Check; rw [attr_check_eq l _ h hm]; rfl
def getA (l : List GAttr) (name : List UInt8) : List UInt8 := ((List.range l.length).findSome? fun k => if l[k]!.Name = name then some l[k]!.Value else none).getD []
end Go.Proofs.YtfkolgjapajekaaDoor.Al


namespace Go.Proofs.YtfkolgjapajekaaDoor.Al
def nil2 : GAttr := ⟨[], []⟩
theorem attr_eq_iff (x y : GAttr) : x = y ↔ x.Name = y.Name ∧ x.Value = y.Value := by cases x; cases y; simp
theorem ref_SameAttrs_eq (a b : List GAttr) (hm : a.length ≤ 9223372036854775807) : ref_SameAttrs a b = some (decide (a = b)) := by
  unfold ref_SameAttrs
  by_cases hl : a.length = b.length
  · rw [if_neg (by simp [hl]), iter_find (n := a.length) (fun k => if decide (a[k]! = b[k]!) then none else some false) (fun k hk => by
      unfold ref_SameAttrs_L1
      rw [if_pos (by simpa using hk), idx_nat hk, idx_nat (by omega), bnd1_some, bnd1_some, chk_nat (by omega)]
      generalize a[k]! = x
      generalize b[k]! = y
      by_cases h : x = y
      · subst h; simp [stepOf]
      · have h' := h; rw [attr_eq_iff] at h'
        simp only [decide_eq_false h, Bool.and_true]
        by_cases h1 : x.Name = y.Name
        · have h2 : ¬ x.Value = y.Value := fun e => h' ⟨h1, e⟩
          simp [h1, h2, stepOf]
        · simp [h1, stepOf]) (by unfold ref_SameAttrs_L1; rw [if_neg (by simp)]), find_const, ctl_outOf]
    by_cases h : a = b
    · subst h; simp
    · rw [decide_eq_false h]
      have : ((List.range a.length).all fun k => decide (a[k]! = b[k]!)) = false := by
        rw [← Bool.not_eq_true, List.all_eq_true]
        intro hall
        apply h
        apply List.ext_getElem hl
        intro k h1 h2
        have := hall k (List.mem_range.2 h1)
        simp only [decide_eq_true_eq] at this
        rwa [getElem!_pos a k h1, getElem!_pos b k h2] at this
      rw [this]; rfl
  · rw [if_pos (by simp; omega), decide_eq_false (by rintro rfl; exact hl rfl)]
end Go.Proofs.YtfkolgjapajekaaDoor.Al


namespace Go.Proofs.YtfkolgjapajekaaDoor.Al
end Go.Proofs.YtfkolgjapajekaaDoor.Al


namespace Go.Proofs.YtfkolgjapajekaaDoor.Al
def One (l : List GAttr) (n : List UInt8) (o : Option GAttr) : Prop := l = o.toList ∧ ∀ e, o = some e → e.Name = n
structure GOK (g : GAttr → GAttr → List GAttr) (G : Option GAttr → Option GAttr → Option GAttr) : Prop where
  l : ∀ x : GAttr, x.Name ≠ [] → One (g x nil2) x.Name (G (some x) none)
  r : ∀ y : GAttr, y.Name ≠ [] → One (g nil2 y) y.Name (G none (some y))
  b : ∀ x y : GAttr, x.Name = y.Name → x.Name ≠ [] → One (g x y) x.Name (G (some x) (some y))
  n : G none none = none
end Go.Proofs.YtfkolgjapajekaaDoor.Al


namespace Go.Proofs.YtfkolgjapajekaaDoor.Al
end Go.Proofs.YtfkolgjapajekaaDoor.Al


namespace Go.Proofs.YtfkolgjapajekaaDoor.Al
theorem iter_hoare {σ β : Type} {f : σ → Option (σ ⊕ β)} (n : Nat) (R : Nat → σ → Prop) (Q : β → Prop)
    (h1 : ∀ k s, k < n → R k s → (∃ s', f s = some (.inl s') ∧ R (k + 1) s') ∨ (∃ b, f s = some (.inr b) ∧ Q b))
    (h2 : ∀ s, R n s → ∃ b, f s = some (.inr b) ∧ Q b) {s : σ} (h0 : R 0 s) : ∃ b, iter f s = some b ∧ Q b := by
  have key : ∀ m k s, k + m = n → R k s → ∃ b, iter f s = some b ∧ Q b := by
    intro m
    induction m with
    | zero =>
      intro k s hk hR
      obtain rfl : k = n := by omega
      obtain ⟨b, hb, hq⟩ := h2 s hR
      exact ⟨b, iter_stop hb, hq⟩
    | succ m ih =>
      intro k s hk hR
      rcases h1 k s (by omega) hR with ⟨s', h3, h4⟩ | ⟨b, h3, h4⟩
      · obtain ⟨b, h5, h6⟩ := ih (k + 1) s' (by omega) h4
        exact ⟨b, by rw [iter_next h3, h5], h6⟩
      · exact ⟨b, iter_stop h3, h4⟩
  exact key n 0 s (by omega) h0
theorem drop_at {α : Type} [Inhabited α] {l : List α} {k : Nat} (h : k < l.length) : l.drop k = l[k]! :: l.drop (k + 1) := by
  rw [List.drop_eq_getElem_cons h, getElem!_pos l k h]
theorem take_at {α : Type} [Inhabited α] {l : List α} {k : Nat} (h : k < l.length) : l.take (k + 1) = l.take k ++ [l[k]!] := by
  rw [List.take_add_one, List.getElem?_eq_getElem h, getElem!_pos l k h]; rfl
theorem mem_at {α : Type} [Inhabited α] {l : List α} {k : Nat} (h : k < l.length) : l[k]! ∈ l := by
  rw [getElem!_pos l k h]; exact List.getElem_mem h
def oldN (s : GAxisStep) : Int := if s.Kind = 1 then 0 else s.N
def nowN (s : GAxisStep) : Int := if s.Kind = 2 then 0 else s.N
def oldLen (a : List GAxisStep) : Int := (a.map oldN).sum
def nowLen (a : List GAxisStep) : Int := (a.map nowN).sum
theorem oldLen_at {a : List GAxisStep} {k : Nat} (h : k < a.length) : oldLen (a.take (k + 1)) = oldLen (a.take k) + oldN a[k]! := by
  unfold oldLen; rw [take_at h]; simp
theorem nowLen_at {a : List GAxisStep} {k : Nat} (h : k < a.length) : nowLen (a.take (k + 1)) = nowLen (a.take k) + nowN a[k]! := by
  unfold nowLen; rw [take_at h]; simp
def errS (a : List GAxisStep) (k : Nat) : Option Int :=
  if a[k]!.Kind < 0 ∨ 2 < a[k]!.Kind then some 8 else if a[k]!.N < 1 ∨ 2147483647 < a[k]!.N then some 2
  else if 0 < k ∧ (a[k - 1]!.Kind = a[k]!.Kind ∨ (a[k - 1]!.Kind = 2 ∧ a[k]!.Kind = 1)) then some 5 else none
def axErr (a : List GAxisStep) : Int :=
  match (List.range a.length).findSome? (errS a) with
  | some e => e
  | none => if 2147483647 < oldLen a ∨ 2147483647 < nowLen a then 3 else 0
theorem find_first {ρ : Type} {n k : Nat} {g : Nat → Option ρ} {r : ρ} (hk : k < n) (h1 : ∀ j, j < k → g j = none) (h2 : g k = some r) : (List.range n).findSome? g = some r := by
  obtain ⟨m, rfl⟩ : ∃ m, n = k + (m + 1) := ⟨n - k - 1, by omega⟩
  rw [List.range_eq_range', ← List.range'_append (s := 0) (m := k) (n := m + 1) (step := 1), List.findSome?_append]
  have : (List.range' 0 k).findSome? g = none := by
    rw [List.findSome?_eq_none_iff]; intro x hx; exact h1 x (by simpa using hx)
  rw [this, Nat.one_mul, Nat.zero_add, List.range'_succ, List.findSome?_cons, h2]; rfl
theorem find_none {ρ : Type} {n : Nat} {g : Nat → Option ρ} (h1 : ∀ j, j < n → g j = none) : (List.range n).findSome? g = none := by
  rw [List.findSome?_eq_none_iff]; intro x hx; exact h1 x (by simpa using hx)
def Stp (s : GAxisStep) : Prop := 0 ≤ s.Kind ∧ s.Kind ≤ 2 ∧ 1 ≤ s.N ∧ s.N ≤ 2147483647
theorem stp_of {a : List GAxisStep} {k : Nat} (h : errS a k = none) : Stp a[k]! := by
  unfold errS at h
  unfold Stp
  split at h
  · cases h
  · split at h
    · cases h
    · omega
theorem good_take {a : List GAxisStep} {k : Nat} (hk : k ≤ a.length) (h : ∀ j, j < k → Stp a[j]!) : 0 ≤ oldLen (a.take k) ∧ oldLen (a.take k) ≤ k * 2147483647 ∧ 0 ≤ nowLen (a.take k) ∧ nowLen (a.take k) ≤ k * 2147483647 := by
  induction k with
  | zero => simp [oldLen, nowLen]
  | succ k ih =>
    have := ih (by omega) (fun j hj => h j (by omega))
    have hs := h k (by omega)
    rw [oldLen_at (by omega), nowLen_at (by omega)]
    unfold oldN nowN
    unfold Stp at hs
    omega
theorem axErr_none {a : List GAxisStep} (h1 : ∀ j, j < a.length → errS a j = none) : axErr a = if 2147483647 < oldLen a ∨ 2147483647 < nowLen a then 3 else 0 := by
  unfold axErr; rw [find_none h1]
theorem chk_ok {x : Int} (h1 : -9223372036854775808 ≤ x) (h2 : x ≤ 9223372036854775807) : chk .i64 x = some x := chk64 h1 h2
theorem axis_Check_eq (a : List GAxisStep) (hm : a.length ≤ 9223372036854775807) : axis_Check a = some (axErr a) := by
  unfold axis_Check
  obtain ⟨b, hb, hq⟩ := iter_hoare (f := fun (x : Int × Int × Int) => axis_Check_L1 a x.1 x.2.1 x.2.2) a.length
    (fun k s => s = (min (oldLen (a.take k)) 2147483648, min (nowLen (a.take k)) 2147483648, (k : Int)) ∧ ∀ j, j < k → errS a j = none)
    (fun b => b = match (List.range a.length).findSome? (errS a) with | some e => .ext e | none => .nrm (min (oldLen a) 2147483648, min (nowLen a) 2147483648))
    (fun k s hk hR => by
      obtain ⟨rfl, hg⟩ := hR
      have hlen := good_take (a := a) (k := k) (by omega) (fun j hj => stp_of (hg j hj))
      unfold axis_Check_L1
      simp only
      rw [if_pos (by simpa using hk), idx_nat hk, bnd1_some, chk_nat (by omega)]
      cases he : errS a k with
      | some r =>
        right
        rw [find_first hk hg he]
        refine ⟨_, ?_, rfl⟩
        unfold errS at he
        by_cases c1 : a[k]!.Kind < 0 ∨ 2 < a[k]!.Kind
        · rw [if_pos c1] at he; cases he
          rw [if_pos (by simpa using c1)]; rfl
        rw [if_neg c1] at he
        rw [if_neg (by simpa using c1)]
        by_cases c2 : a[k]!.N < 1 ∨ 2147483647 < a[k]!.N
        · rw [if_pos c2] at he; cases he
          rw [if_pos (by simpa using c2)]; rfl
        rw [if_neg c2] at he
        rw [if_neg (by simpa using c2)]
        by_cases c3 : 0 < k ∧ (a[k - 1]!.Kind = a[k]!.Kind ∨ (a[k - 1]!.Kind = 2 ∧ a[k]!.Kind = 1))
        · rw [if_pos c3] at he; cases he
          have h0 : decide ((0 : Int) < (k : Int)) = true := by simp; omega
          rw [h0, chk_pred c3.1 (by omega)]
          simp only [beq_self_eq_true, gd_true, bnd1_some, Bool.true_and]
          rw [idx_nat (by omega), bnd1_some, if_pos (by simpa using c3.2)]; rfl
        · rw [if_neg c3] at he; cases he
      | none =>
        left
        have hs := stp_of he
        have h0 := he
        unfold errS at he
        by_cases c1 : a[k]!.Kind < 0 ∨ 2 < a[k]!.Kind
        · rw [if_pos c1] at he; cases he
        rw [if_neg c1] at he
        rw [if_neg (by simpa using c1)]
        by_cases c2 : a[k]!.N < 1 ∨ 2147483647 < a[k]!.N
        · rw [if_pos c2] at he; cases he
        rw [if_neg c2] at he
        rw [if_neg (by simpa using c2)]
        by_cases c3 : 0 < k ∧ (a[k - 1]!.Kind = a[k]!.Kind ∨ (a[k - 1]!.Kind = 2 ∧ a[k]!.Kind = 1))
        · rw [if_pos c3] at he; cases he
        clear he
        have e3 : k = 0 ∨ (0 < k ∧ ¬ (a[k - 1]!.Kind = a[k]!.Kind ∨ (a[k - 1]!.Kind = 2 ∧ a[k]!.Kind = 1))) := by
          by_cases h0 : k = 0
          · exact .inl h0
          · exact .inr ⟨by omega, fun h => c3 ⟨by omega, h⟩⟩
        have hR' : ∀ j, j < k + 1 → errS a j = none := fun j hj => by
          rcases Nat.lt_or_ge j k with h | h
          · exact hg j h
          · obtain rfl : j = k := by omega
            exact h0
        have fin : (ctl2 (bnd1 (if (!decide (a[k]!.Kind = 1)) = true then (bnd1 (chk .i64 (min (oldLen (a.take k)) 2147483648 + a[k]!.N)) fun (x9 : Int) => some (min x9 2147483648)) else some (min (oldLen (a.take k)) 2147483648)) fun (before6 : Int) =>
            if (!decide (a[k]!.Kind = 2)) = true then (bnd1 (chk .i64 (min (nowLen (a.take k)) 2147483648 + a[k]!.N)) fun (x8 : Int) => some (.nrm (before6, min x8 2147483648))) else some (.nrm (before6, min (nowLen (a.take k)) 2147483648)))
            fun (before5 : Int) (after5 : Int) => bnd1 (some (((k + 1 : Nat)) : Int)) fun (x4 : Int) => some (Sum.inl (before5, after5, x4)) : Option ((Int × Int × Int) ⊕ (Ctl (Int × Int) Int))) =
            some (.inl (min (oldLen (a.take (k + 1))) 2147483648, min (nowLen (a.take (k + 1))) 2147483648, ((k + 1 : Nat) : Int))) := by
          unfold Stp at hs
          rw [oldLen_at hk, nowLen_at hk]
          clear c1 c2 c3 e3 hR' h0
          generalize a[k]! = x at hs ⊢
          generalize oldLen (a.take k) = o at hlen ⊢
          generalize nowLen (a.take k) = w at hlen ⊢
          rw [chk_ok (by omega) (by omega), chk_ok (by omega) (by omega)]
          unfold oldN nowN
          by_cases d1 : x.Kind = 1
          · have d2 : ¬ x.Kind = 2 := by omega
            simp [d1]; omega
          · by_cases d2 : x.Kind = 2
            · simp [d2]; omega
            · simp [d1, d2]; omega
        rcases e3 with rfl | ⟨hp, e3⟩
        · exact ⟨_, fin, rfl, hR'⟩
        · have h1 : decide ((0 : Int) < (k : Int)) = true := by simp; omega
          rw [h1, chk_pred (by omega) (by omega)]
          simp only [beq_self_eq_true, gd_true, bnd1_some, Bool.true_and]
          rw [idx_nat (by omega), bnd1_some, if_neg (by simpa using e3)]
          exact ⟨_, fin, rfl, hR'⟩)
    (fun s hR => by
      obtain ⟨rfl, hg⟩ := hR
      rw [find_none hg, List.take_length]
      unfold axis_Check_L1
      exact ⟨_, by rw [if_neg (by simp)], rfl⟩)
    (s := (0, 0, 0)) ⟨by simp [oldLen, nowLen]; decide, fun j hj => absurd hj (Nat.not_lt_zero _)⟩
  rw [hb, hq]
  unfold axErr
  cases (List.range a.length).findSome? (errS a) with
  | some e => rfl
  | none =>
    show (if (decide (2147483647 < min (oldLen a) 2147483648) || decide (2147483647 < min (nowLen a) 2147483648)) = true then some 3 else some 0) = _
    by_cases h : 2147483647 < oldLen a ∨ 2147483647 < nowLen a
    · rw [if_pos (by simp; omega), if_pos h]
    · rw [if_neg (by simp; omega), if_neg h]
theorem ref_In_eq (x lo hi : Int) : ref_In x lo hi = some (decide (lo ≤ x) && decide (x ≤ hi)) := by
  unfold ref_In
  rfl
theorem ref_AxisError_eq (a : List GAxisStep) (hm : a.length ≤ 9223372036854775807) : ref_AxisError a = some (axErr a) := by
  unfold ref_AxisError
  obtain ⟨b, hb, hq⟩ := iter_hoare (f := fun (x : Int × Int × Int) => ref_AxisError_L1 a x.1 x.2.1 x.2.2) a.length
    (fun k s => ∃ o w : Int, s = (o, w, (k : Int)) ∧ (∀ j, j < k → errS a j = none) ∧ (oldLen (a.take k) ≤ 2147483647 → o = oldLen (a.take k)) ∧ (2147483647 < oldLen (a.take k) → 2147483647 < o) ∧ 0 ≤ o ∧ o ≤ 4294967296
      ∧ (nowLen (a.take k) ≤ 2147483647 → w = nowLen (a.take k)) ∧ (2147483647 < nowLen (a.take k) → 2147483647 < w) ∧ 0 ≤ w ∧ w ≤ 4294967296)
    (fun b => match (List.range a.length).findSome? (errS a) with | some e => b = .ext e | none => ∃ o w : Int, b = .nrm (o, w) ∧ (2147483647 < o ↔ 2147483647 < oldLen a) ∧ (2147483647 < w ↔ 2147483647 < nowLen a))
    (fun k s hk hR => by
      obtain ⟨o, w, rfl, hg, hR⟩ := hR
      have hlen := good_take (a := a) (k := k) (by omega) (fun j hj => stp_of (hg j hj))
      unfold ref_AxisError_L1
      simp only
      rw [if_pos (by simpa using hk), idx_nat hk, bnd1_some, chk_nat (by omega), ref_In_eq, bnd1_some, ref_In_eq, bnd1_some]
      have q1 : (!(decide (0 ≤ a[k]!.Kind) && decide (a[k]!.Kind ≤ 2))) = decide (a[k]!.Kind < 0 ∨ 2 < a[k]!.Kind) := by
        rw [Bool.eq_iff_iff]; simp only [Bool.not_eq_true', Bool.and_eq_false_imp, decide_eq_true_eq, decide_eq_false_iff_not]; omega
      have q2 : (!(decide (1 ≤ a[k]!.N) && decide (a[k]!.N ≤ 2147483647))) = decide (a[k]!.N < 1 ∨ 2147483647 < a[k]!.N) := by
        rw [Bool.eq_iff_iff]; simp only [Bool.not_eq_true', Bool.and_eq_false_imp, decide_eq_true_eq, decide_eq_false_iff_not]; omega
      rw [q1, q2]
      cases he : errS a k with
      | some r =>
        right
        rw [find_first hk hg he]
        refine ⟨_, ?_, rfl⟩
        unfold errS at he
        by_cases c1 : a[k]!.Kind < 0 ∨ 2 < a[k]!.Kind
        · rw [if_pos c1] at he; cases he
          rw [if_pos (decide_eq_true c1)]; rfl
        rw [if_neg c1] at he
        rw [if_neg (by rw [decide_eq_true_eq]; exact c1)]
        by_cases c2 : a[k]!.N < 1 ∨ 2147483647 < a[k]!.N
        · rw [if_pos c2] at he; cases he
          rw [if_pos (decide_eq_true c2)]; rfl
        rw [if_neg c2] at he
        rw [if_neg (by rw [decide_eq_true_eq]; exact c2)]
        by_cases c3 : 0 < k ∧ (a[k - 1]!.Kind = a[k]!.Kind ∨ (a[k - 1]!.Kind = 2 ∧ a[k]!.Kind = 1))
        · rw [if_pos c3] at he; cases he
          have h0 : decide ((0 : Int) < (k : Int)) = true := by simp; omega
          rw [h0, chk_pred c3.1 (by omega)]
          simp only [beq_self_eq_true, gd_true, bnd1_some, Bool.true_and]
          rw [idx_nat (by omega), bnd1_some]
          rcases c3.2 with d | ⟨d1, d2⟩
          · rw [d, decide_eq_true rfl]; rfl
          · have : ¬ a[k]!.Kind = a[k - 1]!.Kind := by omega
            rw [decide_eq_false this, decide_eq_true d2]
            simp only [beq_self_eq_true, Bool.and_self, gd_true, bnd1_some, Bool.false_or, Bool.true_and]
            rw [idx_nat (by omega), bnd1_some, decide_eq_true d1]; rfl
        · rw [if_neg c3] at he; cases he
      | none =>
        left
        have hs := stp_of he
        have h0 := he
        unfold errS at he
        by_cases c1 : a[k]!.Kind < 0 ∨ 2 < a[k]!.Kind
        · rw [if_pos c1] at he; cases he
        rw [if_neg c1] at he
        rw [if_neg (by rw [decide_eq_true_eq]; exact c1)]
        by_cases c2 : a[k]!.N < 1 ∨ 2147483647 < a[k]!.N
        · rw [if_pos c2] at he; cases he
        rw [if_neg c2] at he
        rw [if_neg (by rw [decide_eq_true_eq]; exact c2)]
        by_cases c3 : 0 < k ∧ (a[k - 1]!.Kind = a[k]!.Kind ∨ (a[k - 1]!.Kind = 2 ∧ a[k]!.Kind = 1))
        · rw [if_pos c3] at he; cases he
        clear he q1 q2
        have e3 : k = 0 ∨ (0 < k ∧ ¬ (a[k - 1]!.Kind = a[k]!.Kind ∨ (a[k - 1]!.Kind = 2 ∧ a[k]!.Kind = 1))) := by
          by_cases h0 : k = 0
          · exact .inl h0
          · exact .inr ⟨by omega, fun h => c3 ⟨by omega, h⟩⟩
        have hR' : ∀ j, j < k + 1 → errS a j = none := fun j hj => by
          rcases Nat.lt_or_ge j k with h | h
          · exact hg j h
          · obtain rfl : j = k := by omega
            exact h0
        have fin : ∃ o2 w2 : Int, (ctl2 (bnd1 (if (!decide (a[k]!.Kind = 1) && decide (o < 2147483648)) = true then (bnd1 (chk .i64 (o + a[k]!.N)) fun (x9 : Int) => some x9) else some o) fun (before6 : Int) =>
            if (!decide (a[k]!.Kind = 2) && decide (w < 2147483648)) = true then (bnd1 (chk .i64 (w + a[k]!.N)) fun (x8 : Int) => some (.nrm (before6, x8))) else some (.nrm (before6, w)))
            fun (before5 : Int) (after5 : Int) => bnd1 (some (((k + 1 : Nat)) : Int)) fun (x4 : Int) => some (Sum.inl (before5, after5, x4)) : Option ((Int × Int × Int) ⊕ (Ctl (Int × Int) Int))) =
            some (.inl (o2, w2, ((k + 1 : Nat) : Int))) ∧ ((oldLen (a.take (k + 1)) ≤ 2147483647 → o2 = oldLen (a.take (k + 1))) ∧ (2147483647 < oldLen (a.take (k + 1)) → 2147483647 < o2) ∧ 0 ≤ o2 ∧ o2 ≤ 4294967296
      ∧ (nowLen (a.take (k + 1)) ≤ 2147483647 → w2 = nowLen (a.take (k + 1))) ∧ (2147483647 < nowLen (a.take (k + 1)) → 2147483647 < w2) ∧ 0 ≤ w2 ∧ w2 ≤ 4294967296) := by
          unfold Stp at hs
          rw [oldLen_at hk, nowLen_at hk]
          clear c1 c2 c3 e3 hR' h0
          generalize a[k]! = x at hs ⊢
          generalize oldLen (a.take k) = o1 at hlen hR ⊢
          generalize nowLen (a.take k) = w1 at hlen hR ⊢
          rw [chk_ok (by omega) (by omega), chk_ok (by omega) (by omega)]
          unfold oldN nowN
          refine ⟨if x.Kind ≠ 1 ∧ o < 2147483648 then o + x.N else o, if x.Kind ≠ 2 ∧ w < 2147483648 then w + x.N else w, ?_, ?_⟩
          · by_cases d1 : x.Kind = 1
            · by_cases d3 : w < 2147483648 <;> simp [d1, d3]
            · by_cases d2 : x.Kind = 2
              · by_cases d3 : o < 2147483648 <;> simp [d2, d3]
              · by_cases d3 : o < 2147483648 <;> by_cases d4 : w < 2147483648 <;> simp [d1, d2, d3, d4]
          · split <;> split <;> split <;> split <;> omega
        obtain ⟨o2, w2, f1, f2⟩ := fin
        rcases e3 with rfl | ⟨hp, e3⟩
        · exact ⟨_, f1, o2, w2, rfl, hR', f2⟩
        · have h1 : decide ((0 : Int) < (k : Int)) = true := by simp; omega
          rw [h1, chk_pred (by omega) (by omega)]
          simp only [beq_self_eq_true, gd_true, bnd1_some, Bool.true_and]
          rw [idx_nat (by omega), bnd1_some]
          have n1 : ¬ a[k]!.Kind = a[k - 1]!.Kind := fun e => e3 (.inl e.symm)
          rw [decide_eq_false n1]
          simp only [Bool.false_or, beq_self_eq_true, Bool.true_and]
          by_cases d2 : a[k]!.Kind = 1
          · rw [decide_eq_true d2]
            simp only [beq_self_eq_true, gd_true, bnd1_some]
            rw [idx_nat (by omega), bnd1_some]
            have n2 : ¬ a[k - 1]!.Kind = 2 := fun e => e3 (.inr ⟨e, d2⟩)
            rw [decide_eq_false n2, if_neg (by decide)]
            rw [decide_eq_true d2] at f1
            exact ⟨_, f1, o2, w2, rfl, hR', f2⟩
          · rw [decide_eq_false d2]
            rw [decide_eq_false d2] at f1
            exact ⟨_, f1, o2, w2, rfl, hR', f2⟩)
    (fun s hR => by
      obtain ⟨o, w, rfl, hg, hR⟩ := hR
      rw [find_none hg]
      rw [List.take_length] at hR
      unfold ref_AxisError_L1
      exact ⟨_, by rw [if_neg (by simp)], o, w, rfl, by omega, by omega⟩)
    (s := (0, 0, 0)) ⟨0, 0, rfl, fun j hj => absurd hj (Nat.not_lt_zero _), by simp [oldLen, nowLen]⟩
  rw [hb]
  unfold axErr
  cases hf : (List.range a.length).findSome? (errS a) with
  | some e => rw [hf] at hq; rw [hq]; rfl
  | none =>
    rw [hf] at hq
    obtain ⟨o, w, rfl, h1, h2⟩ := hq
    show (if (decide (2147483647 < o) || decide (2147483647 < w)) = true then some 3 else some 0) = _
    rw [show (decide (2147483647 < o) || decide (2147483647 < w)) = decide (2147483647 < oldLen a ∨ 2147483647 < nowLen a) by simp [h1, h2]]
    by_cases h : 2147483647 < oldLen a ∨ 2147483647 < nowLen a
    · rw [if_pos (decide_eq_true h), if_pos h]
    · rw [if_neg (by rw [decide_eq_true_eq]; exact h), if_neg h]
end Go.Proofs.YtfkolgjapajekaaDoor.Al


namespace Go.Proofs.YtfkolgjapajekaaDoor.Al
theorem iter_walk {α σ β γ : Type} [Inhabited α] {f : σ → Option (σ ⊕ β)} (l : List α) (mk : γ → Nat → σ) (sp : List α → γ → β) (I : Nat → γ → Prop)
    (h1 : ∀ k c, k < l.length → I k c → (∃ c', f (mk c k) = some (.inl (mk c' (k + 1))) ∧ I (k + 1) c' ∧ sp (l[k]! :: l.drop (k + 1)) c = sp (l.drop (k + 1)) c') ∨ f (mk c k) = some (.inr (sp (l[k]! :: l.drop (k + 1)) c)))
    (h2 : ∀ c, I l.length c → f (mk c l.length) = some (.inr (sp [] c))) (c : γ) (h0 : I 0 c) (s : σ) (hs : s = mk c 0) : iter f s = some (sp l c) := by
  subst hs
  have key : ∀ m k c, k + m = l.length → I k c → iter f (mk c k) = some (sp (l.drop k) c) := by
    intro m
    induction m with
    | zero =>
      intro k c hk hI
      obtain rfl : k = l.length := by omega
      rw [List.drop_length]
      exact iter_stop (h2 c hI)
    | succ m ih =>
      intro k c hk hI
      rw [drop_at (by omega)]
      rcases h1 k c (by omega) hI with ⟨c', h3, h4, h5⟩ | h3
      · rw [iter_next h3, ih (k + 1) c' (by omega) h4, h5]
      · exact iter_stop h3
  have := key l.length 0 c (by omega) h0
  rwa [List.drop_zero] at this
structure GoodA (a : List GAxisStep) : Prop where
  stp : ∀ s ∈ a, Stp s
  olds : oldLen a ≤ 2147483647
  nows : nowLen a ≤ 2147483647
theorem errS_ne0 {a : List GAxisStep} {k : Nat} {r : Int} (h : errS a k = some r) : r ≠ 0 := by
  unfold errS at h
  split at h
  · cases h; decide
  · split at h
    · cases h; decide
    · split at h
      · cases h; decide
      · cases h
theorem errS_all {a : List GAxisStep} (h : axErr a = 0) : ∀ j, j < a.length → errS a j = none := by
  cases hf : (List.range a.length).findSome? (errS a) with
  | some e =>
    unfold axErr at h
    rw [hf] at h
    simp only at h
    subst h
    obtain ⟨x, _, hx⟩ := List.exists_of_findSome?_eq_some hf
    exact absurd rfl (errS_ne0 hx)
  | none =>
    rw [List.findSome?_eq_none_iff] at hf
    exact fun j hj => hf j (List.mem_range.2 hj)
theorem goodA_of {a : List GAxisStep} (h : axErr a = 0) : GoodA a := by
  have hn := errS_all h
  rw [axErr_none hn] at h
  have hs : ∀ s ∈ a, Stp s := fun s hs => by
    obtain ⟨k, hk, rfl⟩ := List.mem_iff_getElem.1 hs
    rw [← getElem!_pos a k hk]
    exact stp_of (hn k hk)
  by_cases hc : 2147483647 < oldLen a ∨ 2147483647 < nowLen a
  · rw [if_pos hc] at h; cases h
  · exact ⟨hs, by omega, by omega⟩
theorem oldLen_cons (s : GAxisStep) (a : List GAxisStep) : oldLen (s :: a) = oldN s + oldLen a := by simp [oldLen]
theorem nowLen_cons (s : GAxisStep) (a : List GAxisStep) : nowLen (s :: a) = nowN s + nowLen a := by simp [nowLen]
theorem stp_at {a : List GAxisStep} (h : ∀ s ∈ a, Stp s) {k : Nat} (hk : k < a.length) : Stp a[k]! := h _ (mem_at hk)
theorem lens_pos {a : List GAxisStep} (h : ∀ s ∈ a, Stp s) : 0 ≤ oldLen a ∧ 0 ≤ nowLen a := by
  induction a with
  | nil => simp [oldLen, nowLen]
  | cons s a ih =>
    have h1 := ih fun x hx => h x (List.mem_cons_of_mem _ hx)
    have h2 := h s (List.mem_cons_self ..)
    rw [oldLen_cons, nowLen_cons]
    unfold oldN nowN
    unfold Stp at h2
    split <;> split <;> omega
theorem GoodA.len {a : List GAxisStep} (h : GoodA a) : (a.length : Int) ≤ 4294967294 := by
  have key : ∀ l : List GAxisStep, (∀ s ∈ l, Stp s) → (l.length : Int) ≤ oldLen l + nowLen l := by
    intro l
    induction l with
    | nil => intro _; simp [oldLen, nowLen]
    | cons s l ih =>
      intro h
      have h1 := ih fun x hx => h x (List.mem_cons_of_mem _ hx)
      have h2 := h s (List.mem_cons_self ..)
      rw [oldLen_cons, nowLen_cons, List.length_cons]
      unfold oldN nowN
      unfold Stp at h2
      split <;> split <;> omega
  have h1 := key a h.stp
  have h2 := h.olds
  have h3 := h.nows
  omega
def Run (a : List GAxisStep) (k : Nat) (f t : Int) : Prop := 0 ≤ f ∧ f + oldLen (a.drop k) ≤ 2147483647 ∧ 0 ≤ t ∧ t + nowLen (a.drop k) ≤ 2147483647
theorem GoodA.run {a : List GAxisStep} (h : GoodA a) : Run a 0 0 0 := by
  have h2 := h.olds
  have h3 := h.nows
  unfold Run
  rw [List.drop_zero]
  omega
theorem Run.nx {a : List GAxisStep} (h : GoodA a) {k : Nat} (hk : k < a.length) {f t : Int} (hr : Run a k f t) : 0 ≤ f ∧ f + oldN a[k]! ≤ 2147483647 ∧ f ≤ 2147483647 ∧ 0 ≤ t ∧ t + nowN a[k]! ≤ 2147483647 ∧ t ≤ 2147483647 ∧
    ∀ f' t', f ≤ f' → f' ≤ f + oldN a[k]! → t ≤ t' → t' ≤ t + nowN a[k]! → Run a (k + 1) f' t' := by
  have hd := lens_pos (a := a.drop (k + 1)) (fun s hs => h.stp s (List.mem_of_mem_drop hs))
  have hs := stp_at h.stp hk
  unfold Run at hr
  rw [drop_at hk, oldLen_cons, nowLen_cons] at hr
  have h0 : 0 ≤ oldN a[k]! ∧ 0 ≤ nowN a[k]! := by unfold Stp at hs; unfold oldN nowN; split <;> split <;> omega
  refine ⟨by omega, by omega, by omega, by omega, by omega, by omega, fun f' t' a1 a2 a3 a4 => ?_⟩
  unfold Run
  omega
theorem axis_lengths_eq (a : List GAxisStep) (hg : GoodA a) : axis_lengths a = some (oldLen a, nowLen a) := by
  unfold axis_lengths
  rw [iter_walk (f := fun (a_1 : Int × Int × Int) => axis_lengths_L1 a a_1.1 a_1.2.1 a_1.2.2) a (fun (c : Int × Int) k => (c.1, c.2, (k : Int))) (fun l (c : Int × Int) => (c.1 + oldLen l, c.2 + nowLen l)) (fun k c => Run a k c.1 c.2)
    (fun k c hk hI => by
      left
      have hs := stp_at hg.stp hk
      have hnx := hI.nx hg hk
      have hgl := hg.len
      unfold axis_lengths_L1
      simp only
      rw [if_pos (by simpa using hk), idx_nat hk, bnd1_some, chk_nat (by omega)]
      simp only [oldLen_cons, nowLen_cons]
      obtain ⟨o, w⟩ := c
      simp only at hnx ⊢
      generalize a[k]! = x at hs hnx ⊢
      obtain ⟨q1, q2, q3, q4, q5, q6, q7⟩ := hnx
      have h0 : 0 ≤ oldN x ∧ 0 ≤ nowN x := by unfold Stp at hs; unfold oldN nowN; split <;> split <;> omega
      unfold Stp at hs
      rw [chk_ok (by omega) (by omega), chk_ok (by omega) (by omega)]
      refine ⟨(o + oldN x, w + nowN x), ?_, q7 _ _ (by omega) (by omega) (by omega) (by omega), ?_⟩
      · unfold oldN nowN
        by_cases d1 : x.Kind = 1
        · simp [d1]
        · by_cases d2 : x.Kind = 2 <;> simp [d1, d2]
      · simp only; rw [Int.add_assoc, Int.add_assoc])
    (fun c hI => by unfold axis_lengths_L1; rw [if_neg (by simp)]; simp [oldLen, nowLen]) (0, 0) hg.run (0, 0, 0) rfl]
  simp
def plo (p : Int) : List GAxisStep → Int × Int → Ctl Unit Int
  | [], _ => .nrm ()
  | s :: l, c => if s.Kind = 1 then plo p l (c.1, c.2 + s.N) else if p < c.1 + s.N then .ext (if s.Kind = 0 then c.2 + p - c.1 else -1) else plo p l (c.1 + s.N, if s.Kind = 0 then c.2 + s.N else c.2)
theorem plo_cons (p : Int) (s : GAxisStep) (l : List GAxisStep) (c : Int × Int) : plo p (s :: l) c = if s.Kind = 1 then plo p l (c.1, c.2 + s.N) else if p < c.1 + s.N then .ext (if s.Kind = 0 then c.2 + p - c.1 else -1) else plo p l (c.1 + s.N, if s.Kind = 0 then c.2 + s.N else c.2) := rfl
def ctlV : Ctl Unit Int → Int
  | .nrm _ => -1
  | .ext x => x
theorem axis_place_eq (a : List GAxisStep) (p : Int) (hg : GoodA a) (h0 : 0 ≤ p) (hp : p ≤ 2147483647) : axis_place a p = some (ctlV (plo p a (0, 0))) := by
  unfold axis_place
  rw [iter_walk (f := fun (a_1 : Int × Int × Int) => axis_place_L1 a p a_1.1 a_1.2.1 a_1.2.2) a (fun (c : Int × Int) k => (c.1, c.2, (k : Int))) (plo p) (fun k c => Run a k c.1 c.2)
    (fun k c hk hI => by
      have hs := stp_at hg.stp hk
      have hnx := hI.nx hg hk
      have hgl := hg.len
      unfold axis_place_L1
      rw [plo_cons]
      simp only
      rw [if_pos (by simpa using hk), idx_nat hk, bnd1_some, chk_nat (by omega)]
      obtain ⟨f, t⟩ := c
      simp only at hnx ⊢
      generalize a[k]! = x at hs hnx ⊢
      obtain ⟨q1, q2, q3, q4, q5, q6, q7⟩ := hnx
      unfold Stp at hs
      simp only [oldN, nowN] at q7
      rw [chk_ok (x := t + x.N) (by omega) (by omega), chk_ok (x := f + x.N) (by omega) (by omega), chk_ok (x := t + p) (by omega) (by omega)]
      simp only [bnd1_some]
      rw [chk_ok (x := t + p - f) (by omega) (by omega)]
      by_cases d1 : x.Kind = 1
      · left
        refine ⟨(f, t + x.N), ?_, ?_, ?_⟩
        · simp [d1]
        · exact q7 _ _ (by simp [d1]) (by simp [d1]) (by simp [d1]; omega) (by simp [d1])
        · simp [d1]
      · by_cases d0 : x.Kind = 0
        · by_cases d2 : p < f + x.N
          · right; simp [d0, d2]
          · left
            refine ⟨(f + x.N, t + x.N), ?_, ?_, ?_⟩
            · simp [d0, d2]
            · exact q7 _ _ (by simp [d0]; omega) (by simp [d0]) (by simp [d0]; omega) (by simp [d0])
            · simp [d0, d2]
        · by_cases d2 : p < f + x.N
          · right; simp [d0, d1, d2]
          · left
            refine ⟨(f + x.N, t), ?_, ?_, ?_⟩
            · simp [d0, d1, d2]
            · exact q7 _ _ (by simp [d1]; omega) (by simp [d1]) (by simp) (by simp; split <;> omega)
            · simp [d0, d1, d2])
    (fun c hI => by unfold axis_place_L1; rw [if_neg (by simp)]; rfl) (0, 0) hg.run (0, 0, 0) rfl]
  cases plo p a (0, 0) <;> rfl
theorem app8 {o : List Int} {x : Int} (h : o.length + 1 ≤ 1099511627776) : app 8 o [x] = some (o ++ [x]) := by
  unfold app; rw [if_pos (by simp; omega)]
def apo (a : List GAxisStep) (r : Int) : List Int → List Int → Ctl (List Int) (List Int × Int)
  | [], out => .nrm out
  | x :: l, out => if x < 0 ∨ r ≤ x then .ext ([], 2) else apo a r l (out ++ [ctlV (plo x a (0, 0))])
theorem apo_cons (a : List GAxisStep) (r x : Int) (l out : List Int) : apo a r (x :: l) out = if x < 0 ∨ r ≤ x then .ext ([], 2) else apo a r l (out ++ [ctlV (plo x a (0, 0))]) := rfl
theorem axis_Apply_eq (a : List GAxisStep) (ps : List Int) (hm : a.length ≤ 9223372036854775807) (hp : ps.length ≤ 1048576) : axis_Apply a ps = if axErr a ≠ 0 then some ([], axErr a) else ctl1 (some (apo a (oldLen a) ps [])) fun out => some (out, 0) := by
  unfold axis_Apply
  rw [axis_Check_eq a (by omega), bnd1_some]
  by_cases he : axErr a = 0
  · have hg := goodA_of he
    have hl := lens_pos hg.stp
    have hol := hg.olds
    rw [he, if_neg (by decide), if_neg (by simp), axis_lengths_eq a hg, bnd2_some]
    rw [iter_walk (f := fun (a_1 : Int × List Int) => axis_Apply_L1 a ps (oldLen a) a_1.1 a_1.2) ps (fun (c : List Int) k => ((k : Int), c)) (apo a (oldLen a)) (fun k c => c.length ≤ k)
      (fun k c hk hI => by
        unfold axis_Apply_L1
        rw [apo_cons]
        simp only
        rw [if_pos (by simpa using hk), idx_nat hk, bnd1_some, chk_nat (by omega)]
        generalize ps[k]! = x
        by_cases d : x < 0 ∨ oldLen a ≤ x
        · right
          rw [if_pos d, if_pos (by simpa using d)]
        · left
          rw [if_neg d, if_neg (by simpa using d), axis_place_eq a x hg (by omega) (by omega), bnd1_some, app8 (by omega)]
          exact ⟨_, rfl, by simp; omega, rfl⟩)
      (fun c hI => by unfold axis_Apply_L1; rw [if_neg (by simp)]; rfl) [] (by simp) (0, []) rfl]
  · rw [if_pos (by simpa using he), if_pos he]
def sizeLen (a : List GAxisStep) : Int := (a.map (·.N)).sum
end Go.Proofs.YtfkolgjapajekaaDoor.Al


namespace Go.Proofs.YtfkolgjapajekaaDoor.Al
def charOK (c : Int) : Bool := decide (c = 9) || decide (c = 10) || (decide (32 ≤ c) && decide (c ≤ 126)) || (decide (160 ≤ c) && decide (c ≤ 55295)) || (decide (57344 ≤ c) && decide (c ≤ 1114111))
def elemErr (x : GElem) : Int :=
  if (x.Char = 0 ∧ x.Ref = 0) ∨ (x.Char ≠ 0 ∧ x.Ref ≠ 0) then 4 else if (x.Char ≠ 0 ∧ charOK x.Char = false) ∨ (x.Ref ≠ 0 ∧ ¬ (1 ≤ x.Ref ∧ x.Ref ≤ 1073741824)) then 2 else attrErr x.Attrs false
def okE (x : GElem) : Prop := x.Attrs.length ≤ 9223372036854775807 ∧ okStr x.Attrs
theorem flow_Char_eq (c : Int) : flow_Char c = some (charOK c) := by
  unfold flow_Char charOK
  congr 1
  rw [Bool.eq_iff_iff]
  simp only [Bool.or_eq_true, Bool.and_eq_true, decide_eq_true_eq]
  omega
theorem ref_Char_eq (c : Int) : ref_Char c = some (charOK c) := by
  unfold ref_Char charOK
  rw [ref_In_eq, ref_In_eq, ref_In_eq]
  generalize decide (c = 9) = a1
  generalize decide (c = 10) = a2
  generalize (decide (32 ≤ c) && decide (c ≤ 126)) = a3
  generalize (decide (160 ≤ c) && decide (c ≤ 55295)) = a4
  generalize (decide (57344 ≤ c) && decide (c ≤ 1114111)) = a5
  cases a1 <;> cases a2 <;> cases a3 <;> cases a4 <;> cases a5 <;> rfl
def errE (f : List GElem) (k : Nat) : Option Int := if elemErr f[k]! = 0 then none else some (elemErr f[k]!)
def partErr (f : List GElem) : Int := ((List.range f.length).findSome? (errE f)).getD 0
theorem elem_attrs {x : GElem} (h : elemErr x = 0) : attrErr x.Attrs false = 0 := by
  unfold elemErr at h
  split at h
  · cases h
  · split at h
    · cases h
    · exact h
def sHidden : List UInt8 := [104, 105, 100, 100, 101, 110]
def sOn : List UInt8 := [111, 110]
def sCut : List UInt8 := [99, 117, 116]
def sAdd : List UInt8 := [97, 100, 100]
def hid (x : GElem) (mode : Int) : Bool := decide (getA x.Attrs sHidden = sOn) || (decide (mode = 0) && !decide (getA x.Attrs sCut = [])) || (decide (mode = 1) && !decide (getA x.Attrs sAdd = []))
end Go.Proofs.YtfkolgjapajekaaDoor.Al


namespace Go.Proofs.YtfkolgjapajekaaDoor.Al
theorem ndT {p : Prop} [Decidable p] (h : ¬ p) : (!decide p) = true := by simp [h]
theorem ndF {p : Prop} [Decidable p] (h : p) : ¬ ((!decide p) = true) := by simp [h]
def okA (l : List GAttr) : Prop := l.length ≤ 1073741824 ∧ okStr l
theorem okA.e {x : GElem} (h : okA x.Attrs) : okE x := ⟨by have := h.1; omega, h.2⟩
structure OkSt (s : GStep) : Prop where
  at_ : okA s.Attrs
  el : s.Elems.length ≤ 1073741824
  ea : ∀ e ∈ s.Elems, okA e.Attrs
structure OkD (d : List GStep) : Prop where
  len : d.length ≤ 1099511627776
  st : ∀ s ∈ d, OkSt s
  sum : (d.map fun s => s.Elems.length).sum ≤ 1073741824
structure GoodS (s : GStep) : Prop where
  kind : (s.Kind = 0 ∧ s.Elems = [] ∧ 1 ≤ s.N ∧ s.N ≤ 2147483647 ∧ attrErr s.Attrs true = 0) ∨ (s.Kind = 2 ∧ s.Elems = [] ∧ s.Attrs = [] ∧ 1 ≤ s.N ∧ s.N ≤ 2147483647) ∨
    (s.Kind = 1 ∧ s.N = 0 ∧ s.Attrs = [] ∧ s.Elems ≠ [] ∧ partErr s.Elems = 0)
def ordBad (p s : GStep) : Bool := (decide (p.Kind = s.Kind) && (!decide (s.Kind = 0) || decide (p.Attrs = s.Attrs))) || (decide (p.Kind = 2) && decide (s.Kind = 1))
def oldS (s : GStep) : Int := if s.Kind = 1 then 0 else s.N
def nowS (s : GStep) : Int := if s.Kind = 2 then 0 else if s.Kind = 1 then s.Elems.length else s.N
def oldD (d : List GStep) : Int := (d.map oldS).sum
def nowD (d : List GStep) : Int := (d.map nowS).sum
end Go.Proofs.YtfkolgjapajekaaDoor.Al


namespace Go.Proofs.YtfkolgjapajekaaDoor.Al
end Go.Proofs.YtfkolgjapajekaaDoor.Al


namespace Go.Proofs.YtfkolgjapajekaaDoor.Al
inductive Un where
  | a (e : GElem)
  | r (cut : Bool) (at_ : List GAttr)
def uOf : List (List GElem) → List Bool → List (List GAttr) → List Un
  | A :: As, c :: cs, t :: ts => A.map Un.a ++ Un.r c t :: uOf As cs ts
  | A :: _, _, _ => A.map Un.a
  | [], _, _ => []
structure WfA (x : Ref_Act) : Prop where
  adds : x.Adds.length = x.Cuts.length + 1
  attrs : x.Attrs.length = x.Cuts.length
def Ref_Act.us (x : Ref_Act) : List Un := uOf x.Adds x.Cuts x.Attrs
end Go.Proofs.YtfkolgjapajekaaDoor.Al


namespace Go.Proofs.YtfkolgjapajekaaDoor.Al
end Go.Proofs.YtfkolgjapajekaaDoor.Al


namespace Go.Proofs.YtfkolgjapajekaaDoor.Al
structure DS where
  out : List GStep
  adds : List GElem
  cuts : Nat
structure DB (m : Nat) (s : DS) : Prop where
  len : s.out.length + s.adds.length + s.cuts ≤ m
  mem : ∀ x ∈ s.out, 0 ≤ x.N ∧ x.N ≤ m ∧ x.Elems.length ≤ m ∧ x.Attrs.length ≤ 1099511627776
end Go.Proofs.YtfkolgjapajekaaDoor.Al


namespace Go.Proofs.YtfkolgjapajekaaDoor.Al
structure GoodD (d : List GStep) : Prop where
  st : ∀ s ∈ d, GoodS s
  ord : ∀ k, 0 < k → k < d.length → ordBad d[k - 1]! d[k]! = false
  olds : oldD d ≤ 2147483647
  nows : nowD d ≤ 2147483647
theorem app32 {l : List GAttr} (h : l.length ≤ 1073741824) : app 32 [] l = some l := by
  unfold app; rw [if_pos]; rfl; simp; omega
theorem slc_to {α : Type} (l : List α) (n : Int) (h0 : 0 ≤ n) (h : n ≤ l.length) : slc l 0 n = some (l.take n.toNat) := by
  unfold slc; rw [if_pos (by omega)]; simp
end Go.Proofs.YtfkolgjapajekaaDoor.Al


namespace Go.Proofs.YtfkolgjapajekaaDoor.Al
end Go.Proofs.YtfkolgjapajekaaDoor.Al


namespace Go.Proofs.YtfkolgjapajekaaDoor.Al
def Okk2 (a : Nat) (s : GStep) : Prop := ((s.Kind = 0 ∧ s.Elems = [] ∧ 1 ≤ s.N ∧ attrErr s.Attrs true = 0) ∨ (s.Kind = 2 ∧ s.Elems = [] ∧ s.Attrs = [] ∧ 1 ≤ s.N) ∨
    (s.Kind = 1 ∧ s.N = 0 ∧ s.Attrs = [] ∧ s.Elems ≠ [] ∧ ∀ e ∈ s.Elems, elemErr e = 0)) ∧ okA s.Attrs ∧ s.Elems.length ≤ a ∧ ∀ e ∈ s.Elems, okA e.Attrs
def AdjD (l : List GStep) : Prop := ∀ k, 0 < k → k < l.length → ordBad l[k - 1]! l[k]! = false
structure CD (m a r n : Nat) (s : DS) : Prop where
  ok : ∀ x ∈ s.out, Okk2 a x
  adj : AdjD s.out
  last : 0 < s.out.length → s.out[s.out.length - 1]!.Kind = 0
  add : ∀ e ∈ s.adds, elemErr e = 0 ∧ okA e.Attrs
  olds : oldD s.out + s.cuts = r
  nows : nowD s.out + s.adds.length = n
  len : s.out.length + s.adds.length + s.cuts ≤ m
  al : s.adds.length ≤ a
theorem Okk2.mono {a b : Nat} {s : GStep} (h : Okk2 a s) (hab : a ≤ b) : Okk2 b s := ⟨h.1, h.2.1, Nat.le_trans h.2.2.1 hab, h.2.2.2⟩
theorem okA_nil : okA [] := ⟨by simp, fun a ha => by simp at ha⟩
end Go.Proofs.YtfkolgjapajekaaDoor.Al


namespace Go.Proofs.YtfkolgjapajekaaDoor.Al
end Go.Proofs.YtfkolgjapajekaaDoor.Al


namespace Go.Proofs.YtfkolgjapajekaaDoor.Al
def OkF (f : List GElem) : Prop := ∀ e ∈ f, elemErr e = 0 ∧ e.Attrs.length ≤ 1048576
def OkU2 (us : List Un) : Prop := ∀ u ∈ us, match u with | .a e => elemErr e = 0 ∧ e.Attrs.length ≤ 1048576 | .r c t => (c = false → attrErr t true = 0) ∧ t.length ≤ 1048576
def OkFA (f : List GElem) : Prop := ∀ e ∈ f, attrErr e.Attrs false = 0 ∧ e.Attrs.length ≤ 1048576
theorem okE_attrs {e : GElem} (h : elemErr e = 0) : attrErr e.Attrs false = 0 := elem_attrs h
theorem OkF.fa {f : List GElem} (h : OkF f) : OkFA f := fun e he => ⟨okE_attrs (h e he).1, (h e he).2⟩
end Go.Proofs.YtfkolgjapajekaaDoor.Al


namespace Go.Proofs.YtfkolgjapajekaaDoor.Al
theorem okA_bulk {κ : GAttr → Nat} (h3 : ∀ a, a.Name.length + a.Value.length + 1 ≤ κ a) {l : List GAttr} (hb : (l.map κ).sum ≤ 1048576) : okA l := by
  have h1 := len_le_sum (μ := κ) (fun a => by have := h3 a; omega) l
  refine ⟨by omega, fun a ha => ?_⟩
  have h2 := mem_le_sum (μ := κ) ha
  have := h3 a
  omega
end Go.Proofs.YtfkolgjapajekaaDoor.Al


namespace Go.Proofs.YtfkolgjapajekaaDoor.Al
structure SmD (d : List GStep) : Prop where
  at_ : ∀ s ∈ d, s.Attrs.length ≤ 1048576
  ea : ∀ s ∈ d, ∀ e ∈ s.Elems, e.Attrs.length ≤ 1048576
  sum : (d.map fun s => s.Elems.length).sum ≤ 1048576
  len : d.length ≤ 1048576
end Go.Proofs.YtfkolgjapajekaaDoor.Al


namespace Go.Proofs.YtfkolgjapajekaaDoor.Al
def OkU3 (us : List Un) : Prop := ∀ u ∈ us, match u with | .a e => elemErr e = 0 ∧ e.Attrs.length ≤ 1048576 | .r c t => (c = false → attrErr t true = 0) ∧ (c = true → t = []) ∧ t.length ≤ 1048576
theorem OkU3.two {us : List Un} (h : OkU3 us) : OkU2 us := by
  intro u hu
  have := h u hu
  match u, this with
  | .a e, he => exact he
  | .r c t, ht => exact ⟨ht.1, ht.2.2⟩
def szS (s : GStep) : Int := if s.Kind = 1 then s.Elems.length else s.N
structure RdD (p : Delta_Reader) : Prop where
  stp : ∀ s ∈ p.steps, GoodS s ∧ OkSt s
  u0 : 0 ≤ p.used
  fit : ∀ s rest, p.steps = s :: rest → p.used < szS s
end Go.Proofs.YtfkolgjapajekaaDoor.Al


namespace Go.Proofs.YtfkolgjapajekaaDoor.Al
end Go.Proofs.YtfkolgjapajekaaDoor.Al


namespace Go.Proofs.YtfkolgjapajekaaDoor.Al
theorem axis_Lengths_eq (a : List GAxisStep) (hm : a.length ≤ 9223372036854775807) : axis_Lengths a = some (if axErr a ≠ 0 then (0, 0, axErr a) else (oldLen a, nowLen a, 0)) := by
  unfold axis_Lengths
  rw [axis_Check_eq a hm, bnd1_some]
  by_cases he : axErr a = 0
  · rw [if_neg (show ¬ ((!decide (axErr a = 0)) = true) by simpa using he), if_neg (show ¬ (axErr a ≠ 0) by simpa using he), axis_lengths_eq a (goodA_of he), bnd2_some]
  · rw [if_pos (by simpa using he), if_pos he]
end Go.Proofs.YtfkolgjapajekaaDoor.Al


namespace Go.Proofs.YtfkolgjapajekaaDoor.Al
def Adj (l : List GAxisStep) : Prop := ∀ k, k + 1 < l.length → l[k]!.Kind ≠ l[k + 1]!.Kind ∧ ¬ (l[k]!.Kind = 2 ∧ l[k + 1]!.Kind = 1)
def Okk (s : GAxisStep) : Prop := 0 ≤ s.Kind ∧ s.Kind ≤ 2 ∧ 1 ≤ s.N
structure WB (m : Int) (w : Axis_Writer) : Prop where
  a0 : 0 ≤ w.add
  c0 : 0 ≤ w.cut
  ok : ∀ s ∈ w.out, Okk s
  sum : sizeLen w.out + w.add + w.cut = m
  adj : Adj w.out
  last : 0 < w.out.length → w.out[w.out.length - 1]!.Kind = 0
end Go.Proofs.YtfkolgjapajekaaDoor.Al


namespace Go.Proofs.YtfkolgjapajekaaDoor.Al
structure RdOK (p : Axis_Reader) : Prop where
  stp : ∀ s ∈ p.steps, Stp s
  u0 : 0 ≤ p.used
  fit : ∀ s rest, p.steps = s :: rest → p.used < s.N
end Go.Proofs.YtfkolgjapajekaaDoor.Al


namespace Go.Proofs.YtfkolgjapajekaaDoor.Al
end Go.Proofs.YtfkolgjapajekaaDoor.Al


namespace Go.Proofs.YtfkolgjapajekaaDoor.Al
theorem OkU3.app {a b : List Un} (h : OkU3 (a ++ b)) : OkU3 b := fun u hu => h u (List.mem_append_right _ hu)
end Go.Proofs.YtfkolgjapajekaaDoor.Al


namespace Go.Proofs.YtfkolgjapajekaaDoor.Al
end Go.Proofs.YtfkolgjapajekaaDoor.Al


namespace Go.Proofs.YtfkolgjapajekaaDoor.Al
instance : Inhabited Un := ⟨.r false []⟩
def off (n : List UInt8) : GAttr := ⟨n, []⟩
end Go.Proofs.YtfkolgjapajekaaDoor.Al


namespace Go.Proofs.YtfkolgjapajekaaDoor.Al
theorem first_len : tabFirst.length = 256 := by decide +kernel
theorem slc_from8 (s : List UInt8) (k : Nat) (hk : k ≤ s.length) : slc s (k : Int) (s.length : Int) = some (s.drop k) := by
  unfold slc
  rw [if_pos (by omega)]
  congr 1
  rw [List.take_of_length_le (by simp), Int.toNat_natCast]
structure TextR (at_ : List GAttr) (m : Nat) (R : Ctl (List GElem) (List GElem × Int)) : Prop where
  nrm : ∀ l, R = .nrm l → l.length ≤ m ∧ ∀ e ∈ l, e.Attrs = at_
  ext : ∀ l e, R = .ext (l, e) → l = []
end Go.Proofs.YtfkolgjapajekaaDoor.Al


namespace Go.Proofs.YtfkolgjapajekaaDoor.Al
end Go.Proofs.YtfkolgjapajekaaDoor.Al


namespace Go.Proofs.YtfkolgjapajekaaDoor.Al
end Go.Proofs.YtfkolgjapajekaaDoor.Al


namespace Go.Proofs.YtfkolgjapajekaaDoor.Al
end Go.Proofs.YtfkolgjapajekaaDoor.Al


namespace Go.Proofs.YtfkolgjapajekaaDoor.Al
theorem ref_cell_eq (x y : GCell) (hm : x.Attrs.length ≤ 1073741824) : ref_SameCell x y = some (decide (x = y)) := by
  unfold ref_SameCell
  rw [ref_SameAttrs_eq _ _ (by omega)]
  obtain ⟨x1, x2, x3, x4, x5⟩ := x
  obtain ⟨y1, y2, y3, y4, y5⟩ := y
  by_cases h1 : x1 = y1 <;> by_cases h2 : x2 = y2 <;> by_cases h3 : x3 = y3 <;> by_cases h4 : x4 = y4 <;> by_cases h5 : x5 = y5 <;> simp [h1, h2, h3, h4, h5, gd, bnd1_some]
def okG (g : GGrid) : Prop := g.Cells.length ≤ 1048576 ∧ g.Merges.length ≤ 1048576 ∧ ∀ x ∈ g.Cells, okA x.Attrs
structure okN (n : GNode) : Prop where
  at_ : okA n.Attrs
  fl : n.Flow.length ≤ 1048576
  fa : ∀ e ∈ n.Flow, okA e.Attrs
  gr : okG n.Grid
  dr : n.Draw.length ≤ 1048576
theorem findSome_map {β : Type} (p : Nat → Bool) (F : Nat → β) (l : List Nat) : (l.findSome? fun k => if p k then some (F k) else none) = (l.find? p).map F := by
  induction l with
  | nil => rfl
  | cons a l ih => rw [List.findSome?_cons, List.find?_cons]; by_cases h : p a = true <;> simp [h, ih]
end Go.Proofs.YtfkolgjapajekaaDoor.Al


namespace Go.Proofs.YtfkolgjapajekaaDoor.Al
end Go.Proofs.YtfkolgjapajekaaDoor.Al


namespace Go.Proofs.YtfkolgjapajekaaDoor.Al
end Go.Proofs.YtfkolgjapajekaaDoor.Al


namespace Go.Proofs.YtfkolgjapajekaaDoor.Al
theorem wrap32 {n : Nat} (h : n < 2147483648) : IntKind.i32.wrap (n : Int) = (n : Int) := by
  have e : (n : Int) % (2 ^ (32 : Nat) : Int) = (n : Int) := Int.emod_eq_of_lt (by omega) (by omega)
  show (if (true && decide ((n : Int) % (2 ^ (32 : Nat) : Int) ≥ (2 ^ (31 : Nat) : Int))) = true then (n : Int) % (2 ^ (32 : Nat) : Int) - (2 ^ (32 : Nat) : Int) else (n : Int) % (2 ^ (32 : Nat) : Int)) = _
  rw [e, if_neg]
  simp only [Bool.true_and, decide_eq_true_eq]
  omega
theorem wrap64 {n : Nat} (h : n < 9223372036854775808) : IntKind.i64.wrap (n : Int) = (n : Int) := by
  have e : (n : Int) % (2 ^ (64 : Nat) : Int) = (n : Int) := Int.emod_eq_of_lt (by omega) (by omega)
  show (if (true && decide ((n : Int) % (2 ^ (64 : Nat) : Int) ≥ (2 ^ (63 : Nat) : Int))) = true then (n : Int) % (2 ^ (64 : Nat) : Int) - (2 ^ (64 : Nat) : Int) else (n : Int) % (2 ^ (64 : Nat) : Int)) = _
  rw [e, if_neg]
  simp only [Bool.true_and, decide_eq_true_eq]
  omega
theorem bOr_nat (i a b : Nat) (hb : b < 2 ^ i) (hs : a * 2 ^ i + b < 2147483648) : bOr .i32 ((a * 2 ^ i : Nat) : Int) (b : Int) = ((a * 2 ^ i + b : Nat) : Int) := by
  unfold bOr
  have h1 : (BitVec.ofInt 32 ((a * 2 ^ i : Nat) : Int) ||| BitVec.ofInt 32 (b : Int)).toNat = a * 2 ^ i + b := by
    rw [BitVec.toNat_or, BitVec.ofInt_natCast, BitVec.ofInt_natCast, BitVec.toNat_ofNat, BitVec.toNat_ofNat, Nat.mod_eq_of_lt (by omega), Nat.mod_eq_of_lt (by omega)]
    rw [← Nat.shiftLeft_eq, Nat.shiftLeft_add_eq_or_of_lt hb]
  show IntKind.i32.wrap ((BitVec.ofInt 32 ((a * 2 ^ i : Nat) : Int) ||| BitVec.ofInt 32 (b : Int)).toNat : Int) = _
  rw [h1]; exact wrap32 hs
theorem and31 : ∀ b : Fin 256, bAnd .u8 ((b.val : Nat) : Int) 31 = ((b.val % 32 : Nat) : Int) := by decide +kernel
theorem and15 : ∀ b : Fin 256, bAnd .u8 ((b.val : Nat) : Int) 15 = ((b.val % 16 : Nat) : Int) := by decide +kernel
theorem and7 : ∀ b : Fin 256, bAnd .u8 ((b.val : Nat) : Int) 7 = ((b.val % 8 : Nat) : Int) := by decide +kernel
theorem and63 : ∀ b : Fin 256, bAnd .u8 ((b.val : Nat) : Int) 63 = ((b.val % 64 : Nat) : Int) := by decide +kernel
theorem shl_nat (i a : Nat) (hi : i ≤ 32) (hs : a * 2 ^ i < 2147483648) : shlC .i32 (a : Int) i = ((a * 2 ^ i : Nat) : Int) := by
  unfold shlC
  show IntKind.i32.wrap ((a : Int) * 2 ^ (min i 32)) = _
  rw [Nat.min_eq_left hi, show (a : Int) * 2 ^ i = ((a * 2 ^ i : Nat) : Int) by push_cast; rfl, wrap32 hs]
theorem firstT_eq : ∀ c : Fin 256, tabFirst[c.val]! = (Lib.firstT c.val : Int) := by decide +kernel
theorem bad_bits : ∀ c : Fin 256, bOr .i32 (bAndNot .i32 (IntKind.i32.wrap (c.val : Int)) (shrC .i32 (shlC .i32 (IntKind.i32.wrap 241) 31) 31)) (bAnd .i32 65533 (shrC .i32 (shlC .i32 (IntKind.i32.wrap 241) 31) 31)) = 65533 := by decide +kernel
theorem sz_bits : ∀ c : Fin 256, IntKind.i64.wrap (bAnd .u8 (Lib.firstT c.val : Int) 7) = ((Lib.firstT c.val % 8 : Nat) : Int) := by decide +kernel
theorem acc_bits : ∀ c : Fin 256, idx tabAccept (shrC .u8 (Lib.firstT c.val : Int) 4) = some (Utf8_AcceptRange.mk (Lib.accLo (Lib.firstT c.val / 16)) (Lib.accHi (Lib.firstT c.val / 16))) := by decide +kernel
theorem first_cases : ∀ c : Fin 256, 128 ≤ c.val → Lib.firstT c.val = 241 ∨ (2 ≤ Lib.firstT c.val % 8 ∧ Lib.firstT c.val % 8 ≤ 4 ∧ Lib.firstT c.val < 240) := by decide +kernel
theorem b2_bits (c d : Fin 256) : bOr .i32 (shlC .i32 (IntKind.i32.wrap (bAnd .u8 ((c.val : Nat) : Int) 31)) 6) (IntKind.i32.wrap (bAnd .u8 ((d.val : Nat) : Int) 63)) = ((c.val % 32 * 64 + d.val % 64 : Nat) : Int) := by
  rw [and31, and63, wrap32 (by omega), wrap32 (by omega), shl_nat 6 _ (by omega) (by omega), bOr_nat 6 _ _ (by omega) (by omega)]
theorem b3_bits (c d e : Fin 256) : bOr .i32 (bOr .i32 (shlC .i32 (IntKind.i32.wrap (bAnd .u8 ((c.val : Nat) : Int) 15)) 12) (shlC .i32 (IntKind.i32.wrap (bAnd .u8 ((d.val : Nat) : Int) 63)) 6)) (IntKind.i32.wrap (bAnd .u8 ((e.val : Nat) : Int) 63)) =
    ((c.val % 16 * 4096 + d.val % 64 * 64 + e.val % 64 : Nat) : Int) := by
  rw [and15, and63, and63, wrap32 (by omega), wrap32 (by omega), wrap32 (by omega), shl_nat 12 _ (by omega) (by omega), shl_nat 6 _ (by omega) (by omega), bOr_nat 12 _ _ (by omega) (by omega),
    show c.val % 16 * 2 ^ 12 + d.val % 64 * 2 ^ 6 = (c.val % 16 * 64 + d.val % 64) * 2 ^ 6 by omega, bOr_nat 6 _ _ (by omega) (by omega)]
theorem b4_bits (c d e f : Fin 256) : bOr .i32 (bOr .i32 (bOr .i32 (shlC .i32 (IntKind.i32.wrap (bAnd .u8 ((c.val : Nat) : Int) 7)) 18) (shlC .i32 (IntKind.i32.wrap (bAnd .u8 ((d.val : Nat) : Int) 63)) 12)) (shlC .i32 (IntKind.i32.wrap (bAnd .u8 ((e.val : Nat) : Int) 63)) 6)) (IntKind.i32.wrap (bAnd .u8 ((f.val : Nat) : Int) 63)) =
    ((c.val % 8 * 262144 + d.val % 64 * 4096 + e.val % 64 * 64 + f.val % 64 : Nat) : Int) := by
  rw [and7, and63, and63, and63, wrap32 (by omega), wrap32 (by omega), wrap32 (by omega), wrap32 (by omega), shl_nat 18 _ (by omega) (by omega), shl_nat 12 _ (by omega) (by omega), shl_nat 6 _ (by omega) (by omega), bOr_nat 18 _ _ (by omega) (by omega),
    show c.val % 8 * 2 ^ 18 + d.val % 64 * 2 ^ 12 = (c.val % 8 * 64 + d.val % 64) * 2 ^ 12 by omega, bOr_nat 12 _ _ (by omega) (by omega),
    show (c.val % 8 * 64 + d.val % 64) * 2 ^ 12 + e.val % 64 * 2 ^ 6 = ((c.val % 8 * 64 + d.val % 64) * 64 + e.val % 64) * 2 ^ 6 by omega, bOr_nat 6 _ _ (by omega) (by omega)]
theorem getD_bang (s : List UInt8) (k : Nat) (h : k < s.length) : s.getD k 0 = s[k]! := by
  rw [getElem!_pos s k h, List.getD_eq_getElem?_getD, List.getElem?_eq_getElem h]; rfl
theorem slow_eqN (s : List UInt8) (h : s ≠ []) (h128 : 128 ≤ (s.getD 0 0).toNat) : unicode_utf8_decodeRuneInStringSlow s = some (((Lib.decodeL s).1 : Int), ((Lib.decodeL s).2 : Int)) := by
  have h0 : 0 < s.length := List.length_pos_iff.2 h
  rw [Lib.decodeL_N]
  unfold unicode_utf8_decodeRuneInStringSlow
  rw [if_neg (by rw [decide_eq_true_eq]; omega), show (0 : Int) = ((0 : Nat) : Int) from rfl, idx_nat h0, bnd1_some]
  rw [getD_bang s 0 h0] at h128 ⊢
  generalize s[0]! = c at h128 ⊢
  obtain ⟨C, hC⟩ : ∃ C : Fin 256, C.val = c.toNat := ⟨⟨c.toNat, c.toNat_lt⟩, rfl⟩
  rw [← hC] at h128 ⊢
  rw [idx_nat (l := tabFirst) (by rw [first_len]; exact C.isLt), bnd1_some, firstT_eq, acc_bits, sz_bits]
  rcases first_cases C h128 with hf | ⟨hf1, hf2, hf3⟩
  · rw [if_pos (by rw [decide_eq_true_eq]; omega), Lib.bad_eq _ _ _ _ _ C.isLt hf, hf]
    show some (_, (1 : Int)) = _
    rw [show ((241 : Nat) : Int) = 241 from rfl, bad_bits C]; rfl
  · rw [if_neg (by rw [decide_eq_true_eq]; omega), bnd1_some]
    have hsl := Lib.slow_eq s.length C.val (s.getD 1 0).toNat (s.getD 2 0).toNat (s.getD 3 0).toNat h0 (UInt8.toNat_lt _) (UInt8.toNat_lt _) (UInt8.toNat_lt _) hf3
    rw [← hsl]
    generalize hsz : Lib.firstT C.val % 8 = sz at hf1 hf2 ⊢
    generalize Lib.accLo (Lib.firstT C.val / 16) = lo
    generalize Lib.accHi (Lib.firstT C.val / 16) = hi
    unfold Lib.slowN
    by_cases hl : s.length < sz
    · rw [if_pos (by rw [decide_eq_true_eq]; omega), if_pos hl]; rfl
    rw [if_neg (by rw [decide_eq_true_eq]; omega), if_neg hl, show (1 : Int) = ((1 : Nat) : Int) from rfl, idx_nat (by omega), bnd1_some, getD_bang s 1 (by omega)]
    generalize s[1]! = d
    obtain ⟨D, hD⟩ : ∃ D : Fin 256, D.val = d.toNat := ⟨⟨d.toNat, d.toNat_lt⟩, rfl⟩
    rw [← hD]
    by_cases c1 : D.val < lo ∨ hi < D.val
    · rw [if_pos (by simp only [Bool.or_eq_true, decide_eq_true_eq]; omega), if_pos c1]; rfl
    rw [if_neg (by simp only [Bool.or_eq_true, decide_eq_true_eq]; omega), if_neg c1]
    by_cases e2 : sz ≤ 2
    · rw [if_pos (by rw [decide_eq_true_eq]; omega), if_pos e2, b2_bits]; rfl
    rw [if_neg (by rw [decide_eq_true_eq]; omega), if_neg e2, show (2 : Int) = ((2 : Nat) : Int) from rfl, idx_nat (by omega), bnd1_some, getD_bang s 2 (by omega)]
    generalize s[2]! = e
    obtain ⟨E, hE⟩ : ∃ E : Fin 256, E.val = e.toNat := ⟨⟨e.toNat, e.toNat_lt⟩, rfl⟩
    rw [← hE]
    by_cases c2 : E.val < 128 ∨ 191 < E.val
    · rw [if_pos (by simp only [Bool.or_eq_true, decide_eq_true_eq]; omega), if_pos c2]; rfl
    rw [if_neg (by simp only [Bool.or_eq_true, decide_eq_true_eq]; omega), if_neg c2]
    by_cases e3 : sz ≤ 3
    · rw [if_pos (by rw [decide_eq_true_eq]; omega), if_pos e3, b3_bits]; rfl
    rw [if_neg (by rw [decide_eq_true_eq]; omega), if_neg e3, show (3 : Int) = ((3 : Nat) : Int) from rfl, idx_nat (by omega), bnd1_some, getD_bang s 3 (by omega)]
    generalize s[3]! = f
    obtain ⟨F, hF⟩ : ∃ F : Fin 256, F.val = f.toNat := ⟨⟨f.toNat, f.toNat_lt⟩, rfl⟩
    rw [← hF]
    by_cases c3 : F.val < 128 ∨ 191 < F.val
    · rw [if_pos (by simp only [Bool.or_eq_true, decide_eq_true_eq]; omega), if_pos c3]; rfl
    rw [if_neg (by simp only [Bool.or_eq_true, decide_eq_true_eq]; omega), if_neg c3, b4_bits]; rfl
theorem decode_eqL (s : List UInt8) (h : s ≠ []) : unicode_utf8_DecodeRuneInString s = some (((Lib.decodeL s).1 : Int), ((Lib.decodeL s).2 : Int)) := by
  have h0 : 0 < s.length := List.length_pos_iff.2 h
  unfold unicode_utf8_DecodeRuneInString
  rw [decide_eq_false h, show ((!false) == true) = true from rfl, gd_true, show (0 : Int) = ((0 : Nat) : Int) from rfl, idx_nat h0, bnd1_some, Bool.not_false, Bool.true_and]
  by_cases hc : (s[0]!).toNat < 128
  · rw [if_pos (by rw [decide_eq_true_eq]; omega), bnd1_some, wrap32 (by omega)]
    obtain ⟨c, t, rfl⟩ := List.exists_cons_of_ne_nil h
    have hc' : c.toNat < 128 := hc
    rw [Lib.decodeL_ascii c t hc']; rfl
  · rw [if_neg (by rw [decide_eq_true_eq]; omega), slow_eqN s h (by rw [getD_bang s 0 h0]; omega), bnd2_some]
def badR (r : Nat) : Bool := decide (r = 10) || !charOK (r : Int)
def textF : Nat → List UInt8 → Bool
  | 0, _ => true
  | n + 1, s => if s = [] then true else if ((Lib.decodeL s).1 = 65533 ∧ (Lib.decodeL s).2 = 1) ∨ badR (Lib.decodeL s).1 = true then false else textF n (s.drop (Lib.decodeL s).2)
theorem textF_s (n : Nat) (s : List UInt8) : textF (n + 1) s = if s = [] then true else if ((Lib.decodeL s).1 = 65533 ∧ (Lib.decodeL s).2 = 1) ∨ badR (Lib.decodeL s).1 = true then false else textF n (s.drop (Lib.decodeL s).2) := rfl
def runeF : Nat → List UInt8 → Bool
  | 0, _ => true
  | n + 1, s => if s = [] then true else if badR (Lib.decodeL s).1 = true then false else runeF n (s.drop (Lib.decodeL s).2)
theorem runeF_s (n : Nat) (s : List UInt8) : runeF (n + 1) s = if s = [] then true else if badR (Lib.decodeL s).1 = true then false else runeF n (s.drop (Lib.decodeL s).2) := rfl
theorem text_rune : ∀ (n : Nat) (s : List UInt8), s.length ≤ n → (Lib.validD s && runeF n s) = textF n s := by
  intro n
  induction n with
  | zero => intro s hs; obtain rfl := List.eq_nil_of_length_eq_zero (Nat.le_zero.1 hs); rfl
  | succ n ih =>
    intro s hs
    rw [textF_s, runeF_s]
    by_cases hn : s = []
    · subst hn; rfl
    · have hw := Lib.decodeL_width s
      have hl := List.length_pos_iff.2 hn
      rw [if_neg hn, if_neg hn, Lib.validD_step s hn]
      by_cases hv : (Lib.decodeL s).1 = 65533 ∧ (Lib.decodeL s).2 = 1
      · rw [if_pos hv, if_pos (show ((Lib.decodeL s).1 = 65533 ∧ (Lib.decodeL s).2 = 1) ∨ badR (Lib.decodeL s).1 = true from .inl hv)]; rfl
      · rw [if_neg hv]
        by_cases hb : badR (Lib.decodeL s).1 = true
        · rw [if_pos hb, if_pos (.inr hb), Bool.and_false]
        · rw [if_neg hb, if_neg (by rintro (h | h); exact hv h; exact hb h)]
          exact ih _ (by rw [List.length_drop]; omega)
theorem charOK_wrap (r : Nat) (h : r ≤ 1114111) : IntKind.i64.wrap (r : Int) = (r : Int) := wrap64 (by omega)
theorem grid_Text_eq (s : List UInt8) : grid_Text s = some (textF s.length s) := by
  unfold grid_Text
  have key : ∀ (n : Nat) (s : List UInt8), s.length ≤ n → (ctl1 (iter (fun (a : (List UInt8)) => grid_Text_L1 a) s) fun (_ : Unit) => some true) = some (textF n s) := by
    intro n
    induction n with
    | zero =>
      intro s hs
      obtain rfl := List.eq_nil_of_length_eq_zero (Nat.le_zero.1 hs)
      have h1 : (fun (a : (List UInt8)) => grid_Text_L1 a) [] = some (.inr (.nrm ())) := by
        show grid_Text_L1 [] = _
        unfold grid_Text_L1; rfl
      rw [iter_stop h1]; rfl
    | succ n ih =>
      intro s hs
      rw [textF_s]
      by_cases hn : s = []
      · subst hn
        have h1 : (fun (a : (List UInt8)) => grid_Text_L1 a) [] = some (.inr (.nrm ())) := by
          show grid_Text_L1 [] = _
          unfold grid_Text_L1; rfl
        rw [iter_stop h1]; rfl
      · have hw := Lib.decodeL_width s
        have hle := Lib.decodeL_le s hn
        have hr := Lib.decodeL_rune s
        have hstep : grid_Text_L1 s = if ((Lib.decodeL s).1 = 65533 ∧ (Lib.decodeL s).2 = 1) ∨ badR (Lib.decodeL s).1 = true then some (.inr (.ext false)) else some (.inl (s.drop (Lib.decodeL s).2)) := by
          unfold grid_Text_L1 badR
          rw [if_pos (ndT hn), decode_eqL s hn, bnd2_some, charOK_wrap _ hr, flow_Char_eq]
          generalize (Lib.decodeL s).1 = r at *
          generalize (Lib.decodeL s).2 = w at *
          by_cases h1 : r = 65533 ∧ w = 1
          · obtain ⟨rfl, rfl⟩ := h1
            rw [if_pos (.inl ⟨rfl, rfl⟩)]; rfl
          · have e1 : ((decide ((r : Int) = 65533)) && (decide ((w : Int) = 1))) = false := by
              rw [← Bool.not_eq_true, Bool.and_eq_true, decide_eq_true_eq, decide_eq_true_eq]; omega
            by_cases h2 : r = 10
            · subst h2
              rw [if_pos (.inr (by rfl)), e1]; rfl
            · have e2 : (decide ((r : Int) = 10)) = false := decide_eq_false (by omega)
              rw [e1, e2, decide_eq_false h2]
              show (bnd1 (gd true (some (charOK (r : Int)))) fun (r3 : Bool) => _) = _
              rw [gd_true, bnd1_some, slc_from8 s w hle, bnd1_some]
              cases charOK (r : Int)
              · rw [if_pos (show (r = 65533 ∧ w = 1) ∨ (false || !false) = true from .inr rfl)]; rfl
              · rw [if_neg (show ¬ ((r = 65533 ∧ w = 1) ∨ (false || !true) = true) by rintro (h | h); exact h1 h; exact absurd h (by decide))]; rfl
        by_cases hb : ((Lib.decodeL s).1 = 65533 ∧ (Lib.decodeL s).2 = 1) ∨ badR (Lib.decodeL s).1 = true
        · rw [if_pos hb] at hstep
          rw [iter_stop (f := fun (a : (List UInt8)) => grid_Text_L1 a) hstep, if_neg hn, if_pos hb]; rfl
        · rw [if_neg hb] at hstep
          rw [iter_next (f := fun (a : (List UInt8)) => grid_Text_L1 a) hstep, if_neg hn, if_neg hb]
          exact ih _ (by rw [List.length_drop]; omega)
  exact key s.length s (Nat.le_refl _)
theorem runeAt_eq (s : List UInt8) (p : Nat) : runeAt s p = Lib.decodeL (s.drop p) := (Lib.decodeL_drop ⟨s.toArray⟩ p).symm
theorem ref_CellText_eq (s : List UInt8) (hs : s.length ≤ 9223372036854775807) : ref_CellText s = some (textF s.length s) := by
  unfold ref_CellText unicode_utf8_ValidString validS
  rw [if_pos hs, bnd1_some, ← text_rune s.length s (Nat.le_refl _)]
  cases Lib.validD s with
  | false => rfl
  | true =>
    rw [if_neg (by decide), Bool.true_and]
    have key : ∀ (n p : Nat), s.length - p ≤ n → (ctl1 (iter (fun (a : (Nat)) => ref_CellText_L1 s a) p) fun (_ : Unit) => some true) = some (runeF n (s.drop p)) := by
      intro n
      induction n with
      | zero =>
        intro p hp
        have h1 : (fun (a : (Nat)) => ref_CellText_L1 s a) p = some (.inr (.nrm ())) := by
          show ref_CellText_L1 s p = _
          unfold ref_CellText_L1; rw [if_neg (by rw [decide_eq_true_eq]; omega)]
        rw [iter_stop h1]; rfl
      | succ n ih =>
        intro p hp
        rw [runeF_s]
        by_cases hn : s.length ≤ p
        · have h1 : (fun (a : (Nat)) => ref_CellText_L1 s a) p = some (.inr (.nrm ())) := by
            show ref_CellText_L1 s p = _
            unfold ref_CellText_L1; rw [if_neg (by rw [decide_eq_true_eq]; omega)]
          rw [iter_stop h1, if_pos (List.drop_eq_nil_of_le hn)]; rfl
        · have hne : s.drop p ≠ [] := by
            intro e
            have := congrArg List.length e
            rw [List.length_drop, List.length_nil] at this
            omega
          have hw := Lib.decodeL_width (s.drop p)
          have hr := Lib.decodeL_rune (s.drop p)
          have hstep : ref_CellText_L1 s p = if badR (Lib.decodeL (s.drop p)).1 = true then some (.inr (.ext false)) else some (.inl (p + (Lib.decodeL (s.drop p)).2)) := by
            unfold ref_CellText_L1 badR
            rw [if_pos (by rw [decide_eq_true_eq]; omega), runeAt_eq, charOK_wrap _ hr, ref_Char_eq]
            generalize (Lib.decodeL (s.drop p)).1 = r at *
            generalize (Lib.decodeL (s.drop p)).2 = w at *
            by_cases h2 : r = 10
            · subst h2; rfl
            · rw [decide_eq_false h2, decide_eq_false (show ¬ ((r : Int) = 10) by omega)]
              show (bnd1 (gd true (some (charOK (r : Int)))) fun (r3 : Bool) => _) = _
              rw [gd_true, bnd1_some]
          rw [if_neg hne]
          by_cases hb : badR (Lib.decodeL (s.drop p)).1 = true
          · rw [if_pos hb] at hstep
            rw [iter_stop (f := fun (a : (Nat)) => ref_CellText_L1 s a) hstep, if_pos hb]; rfl
          · rw [if_neg hb] at hstep
            rw [iter_next (f := fun (a : (Nat)) => ref_CellText_L1 s a) hstep, if_neg hb, List.drop_drop]
            exact ih _ (by omega)
    have := key s.length 0 (by omega)
    rw [List.drop_zero] at this
    exact this
end Go.Proofs.YtfkolgjapajekaaDoor.Al


namespace Go.Proofs.YtfkolgjapajekaaDoor.Al
theorem cmp_eq (x y : Int) : cmp_Compare_int x y = some (if x < y then -1 else if y < x then 1 else 0) := by
  unfold cmp_Compare_int cmp_isNaN_int
  rw [decide_eq_true (rfl : x = x), decide_eq_true (rfl : y = y), bnd1_some, bnd1_some, if_neg (by decide), if_neg (by decide)]
  by_cases h1 : x < y
  · rw [if_pos (decide_eq_true h1), if_pos h1]
  · rw [if_neg (by simpa using h1), if_neg h1]
    by_cases h2 : y < x
    · rw [if_pos (decide_eq_true h2), if_pos h2]
    · rw [if_neg (by simpa using h2), if_neg h2]
theorem cmp_Or_eq (a b : Int) : cmp_Or_int [a, b] = some (if a ≠ 0 then a else b) := by
  unfold cmp_Or_int
  by_cases ha : a ≠ 0
  · have h1 : (fun (x : Int) => cmp_Or_int_L1 [a, b] x) 0 = some (.inr (.ext a)) := by
      show cmp_Or_int_L1 [a, b] 0 = _
      unfold cmp_Or_int_L1
      rw [if_pos (by simp), show idx [a, b] 0 = some a from rfl, bnd1_some, if_pos (ndT ha)]
    rw [iter_stop h1, if_pos ha]; rfl
  · have ha' : a = 0 := Classical.not_not.1 ha
    have h1 : (fun (x : Int) => cmp_Or_int_L1 [a, b] x) 0 = some (.inl 1) := by
      show cmp_Or_int_L1 [a, b] 0 = _
      unfold cmp_Or_int_L1
      rw [if_pos (by simp), show idx [a, b] 0 = some a from rfl, bnd1_some, if_neg (ndF ha')]; rfl
    by_cases hb : b ≠ 0
    · have h2 : (fun (x : Int) => cmp_Or_int_L1 [a, b] x) 1 = some (.inr (.ext b)) := by
        show cmp_Or_int_L1 [a, b] 1 = _
        unfold cmp_Or_int_L1
        rw [if_pos (by simp), show idx [a, b] 1 = some b from rfl, bnd1_some, if_pos (ndT hb)]
      rw [iter_next h1, iter_stop h2, if_neg ha]; rfl
    · have hb' : b = 0 := Classical.not_not.1 hb
      have h2 : (fun (x : Int) => cmp_Or_int_L1 [a, b] x) 1 = some (.inl 2) := by
        show cmp_Or_int_L1 [a, b] 1 = _
        unfold cmp_Or_int_L1
        rw [if_pos (by simp), show idx [a, b] 1 = some b from rfl, bnd1_some, if_neg (ndF hb')]; rfl
      have h3 : (fun (x : Int) => cmp_Or_int_L1 [a, b] x) 2 = some (.inr (.nrm ())) := by
        show cmp_Or_int_L1 [a, b] 2 = _
        unfold cmp_Or_int_L1
        rw [if_neg (by simp)]
      rw [iter_next h1, iter_next h2, iter_stop h3, if_neg ha, hb']; rfl
def ord2 (a b c d : Int) : Int := if a < b then -1 else if b < a then 1 else if c < d then -1 else if d < c then 1 else 0
theorem or2 (a b c d : Int) : (if (if a < b then -1 else if b < a then 1 else 0) ≠ (0 : Int) then (if a < b then -1 else if b < a then 1 else 0) else if c < d then -1 else if d < c then 1 else (0 : Int)) = ord2 a b c d := by
  unfold ord2
  by_cases h1 : a < b
  · simp [h1]
  · by_cases h2 : b < a
    · simp [h1, h2]
    · simp [h1, h2]
theorem ord2_ge (a b c d : Int) : 0 ≤ ord2 a b c d ↔ (b < a ∨ (b = a ∧ d ≤ c)) := by
  unfold ord2
  split
  · constructor <;> intro h <;> omega
  · split
    · constructor <;> intro h <;> omega
    · split
      · constructor <;> intro h <;> omega
      · split
        · constructor <;> intro h <;> omega
        · constructor <;> intro h <;> omega
theorem grid_order_eq (a b : GCell) : grid_order a b = some (ord2 a.Row b.Row a.Col b.Col) := by
  unfold grid_order
  rw [cmp_eq, cmp_eq, bnd1_some, bnd1_some, cmp_Or_eq, bnd1_some, or2]
theorem ref_In_dec (x a b : Int) : ref_In x a b = some (decide (a ≤ x ∧ x ≤ b)) := by
  rw [ref_In_eq]
  congr 1
  rw [Bool.eq_iff_iff]; simp
def inC (rows cols : Int) (c : GCell) : Prop := 0 ≤ c.Row ∧ c.Row < rows ∧ 0 ≤ c.Col ∧ c.Col < cols ∧ 0 ≤ c.Ref ∧ c.Ref ≤ 1073741824
instance (rows cols : Int) (c : GCell) : Decidable (inC rows cols c) := by unfold inC; infer_instance
def emptyC (c : GCell) : Bool := decide (c.Text = []) && decide (c.Ref = 0) && decide (c.Attrs = [])
def cellE (rows cols : Int) (none_ : Bool) (c : GCell) : Int :=
  if ¬ inC rows cols c then 2 else if textF c.Text.length c.Text = false then 23 else if attrErr c.Attrs false ≠ 0 then attrErr c.Attrs false else if (!none_ && emptyC c) = true then 4 else 0
def errC (rows cols : Int) (none_ : Bool) (l : List GCell) (k : Nat) : Option Int :=
  if cellE rows cols none_ l[k]! ≠ 0 then some (cellE rows cols none_ l[k]!) else if 0 < k ∧ 0 ≤ ord2 l[k - 1]!.Row l[k]!.Row l[k - 1]!.Col l[k]!.Col then some 5 else none
def cellsErr (rows cols : Int) (none_ : Bool) (l : List GCell) : Int := ((List.range l.length).findSome? (errC rows cols none_ l)).getD 0
theorem lenA_zero (l : List GAttr) : decide ((l.length : Int) = 0) = decide (l = []) := by
  rw [Bool.eq_iff_iff, decide_eq_true_eq, decide_eq_true_eq, ← List.length_eq_zero_iff]; omega
def okC (c : GCell) : Prop := okA c.Attrs ∧ c.Text.length ≤ 1073741824
theorem tail_order (l : List GCell) (k : Nat) (hk : k < l.length) (hm : l.length ≤ 9223372036854775806) :
    (bnd1 (gd ((decide (0 < (k : Int))) == true) (chk .i64 ((k : Int) - 1))) fun (x5 : Int) =>
      bnd1 (gd ((decide (0 < (k : Int))) == true) (idx l x5)) fun (x6 : GCell) =>
      bnd1 (gd ((decide (0 < (k : Int))) == true) (grid_order x6 l[k]!)) fun (r3 : Int) =>
      if ((decide (0 < (k : Int))) && (decide (0 ≤ r3))) then (some (.inr (.ext 5)) : Option (Int ⊕ (Ctl Unit Int))) else (
        bnd1 (chk .i64 ((k : Int) + 1)) fun (x7 : Int) => some (.inl x7))) = stepOf k (if 0 < k ∧ 0 ≤ ord2 l[k - 1]!.Row l[k]!.Row l[k - 1]!.Col l[k]!.Col then some 5 else none) := by
  by_cases h0 : 0 < k
  · rw [decide_eq_true (show (0 : Int) < k by omega), show ((true == true) : Bool) = true from rfl, gd_true, chk_pred h0 (by omega), bnd1_some, gd_true, idx_nat (by omega), bnd1_some, gd_true, grid_order_eq, bnd1_some]
    by_cases h1 : 0 ≤ ord2 l[k - 1]!.Row l[k]!.Row l[k - 1]!.Col l[k]!.Col
    · rw [if_pos (show (true && decide (0 ≤ ord2 l[k - 1]!.Row l[k]!.Row l[k - 1]!.Col l[k]!.Col)) = true by rw [decide_eq_true h1]; rfl), if_pos ⟨h0, h1⟩]; rfl
    · rw [if_neg (show ¬ (true && decide (0 ≤ ord2 l[k - 1]!.Row l[k]!.Row l[k - 1]!.Col l[k]!.Col)) = true by rw [decide_eq_false h1]; decide), if_neg (fun h => h1 h.2), chk_nat (by omega)]; rfl
  · obtain rfl : k = 0 := by omega
    rw [if_neg (show ¬ (0 < 0 ∧ _) from fun h => absurd h.1 (by decide))]; rfl
theorem grid_cells_eq (rows cols : Int) (nn : Bool) (l : List GCell) (hm : l.length ≤ 1073741824) (hl : ∀ c ∈ l, okC c) : grid_cells l rows cols nn = some (cellsErr rows cols nn l) := by
  unfold grid_cells
  rw [iter_find (n := l.length) (errC rows cols nn l) (fun k hk => by
    obtain ⟨ha, ht⟩ := hl _ (mem_at hk)
    have hto := tail_order l k hk (by omega)
    unfold grid_cells_L1 errC cellE
    rw [if_pos (by simpa using hk), idx_nat hk, bnd1_some]
    by_cases h1 : inC rows cols l[k]!
    · have h1' := h1
      unfold inC at h1'
      rw [if_neg (by simp only [Bool.or_eq_true, decide_eq_true_eq]; omega), if_neg (by simp only [Bool.or_eq_true, decide_eq_true_eq]; omega), grid_Text_eq, bnd1_some, attr_Check_eq _ ha.2 (by have := ha.1; omega), bnd1_some, hto]
      rw [if_neg (Classical.not_not.2 h1)]
      cases htx : textF l[k]!.Text.length l[k]!.Text with
      | false => rfl
      | true =>
        rw [if_neg (show ¬ ((!true) = true) by decide), if_neg (show ¬ (true = false) by decide)]
        by_cases h3 : attrErr l[k]!.Attrs false = 0
        · rw [if_neg (ndF h3), if_neg (Classical.not_not.2 h3)]
          have he : grid_empty l[k]! = some (emptyC l[k]!) := by unfold grid_empty emptyC; rw [lenA_zero]
          rw [he, bnd1_some]
          by_cases h4 : (!nn && emptyC l[k]!) = true
          · rw [if_pos (by rw [Bool.and_comm]; exact h4), if_pos h4]; rfl
          · rw [if_neg (by rw [Bool.and_comm]; exact h4), if_neg h4, if_neg (show ¬ ((0 : Int) ≠ 0) from fun h => h rfl)]
        · rw [if_pos (ndT h3), if_pos h3, if_pos h3]; rfl
    · rw [if_pos h1]
      unfold inC at h1
      by_cases h2 : ((((decide (l[k]!.Row < 0)) || (decide (rows ≤ l[k]!.Row))) || (decide (l[k]!.Col < 0))) || (decide (cols ≤ l[k]!.Col))) = true
      · rw [if_pos h2]; rfl
      · rw [if_neg h2, if_pos (by simp only [Bool.or_eq_true, decide_eq_true_eq] at h2 ⊢; omega)]; rfl) (by unfold grid_cells_L1; rw [if_neg (by simp)]), out_getD]
  rfl
theorem ref_tail_order (l : List GCell) (k : Nat) (hk : k < l.length) (hm : l.length ≤ 9223372036854775806) :
    (bnd1 (gd ((decide (0 < (k : Int))) == true) (chk .i64 ((k : Int) - 1))) fun (x7 : Int) =>
            bnd1 (gd ((decide (0 < (k : Int))) == true) (idx l x7)) fun (x8 : GCell) =>
            bnd1 (gd ((((decide (0 < (k : Int))) == true) && ((decide (l[k]!.Row < x8.Row)) == false)) && ((decide (l[k]!.Row = x8.Row)) == true)) (chk .i64 ((k : Int) - 1))) fun (x9 : Int) =>
            bnd1 (gd ((((decide (0 < (k : Int))) == true) && ((decide (l[k]!.Row < x8.Row)) == false)) && ((decide (l[k]!.Row = x8.Row)) == true)) (idx l x9)) fun (x10 : GCell) =>
            if ((decide (0 < (k : Int))) && ((decide (l[k]!.Row < x8.Row)) || ((decide (l[k]!.Row = x8.Row)) && (decide (l[k]!.Col ≤ x10.Col))))) then (some (.inr (.ext 5)) : Option (Int ⊕ (Ctl Unit Int))) else (
              bnd1 (chk .i64 ((k : Int) + 1)) fun (x11 : Int) => some (.inl x11))) = stepOf k (if 0 < k ∧ 0 ≤ ord2 l[k - 1]!.Row l[k]!.Row l[k - 1]!.Col l[k]!.Col then some 5 else none) := by
  have ho := ord2_ge l[k - 1]!.Row l[k]!.Row l[k - 1]!.Col l[k]!.Col
  by_cases h0 : 0 < k
  · rw [decide_eq_true (show (0 : Int) < k by omega), show ((true == true) : Bool) = true from rfl, gd_true, chk_pred h0 (by omega), bnd1_some, gd_true, idx_nat (show k - 1 < l.length by omega), bnd1_some]
    by_cases h1 : l[k]!.Row < l[k - 1]!.Row
    · rw [decide_eq_true h1, if_pos (show 0 < k ∧ 0 ≤ ord2 l[k - 1]!.Row l[k]!.Row l[k - 1]!.Col l[k]!.Col from ⟨h0, ho.2 (.inl h1)⟩)]; rfl
    · by_cases h2 : l[k]!.Row = l[k - 1]!.Row
      · rw [decide_eq_false h1, decide_eq_true h2, show (((true && (false == false)) && (true == true)) : Bool) = true from rfl, gd_true, bnd1_some, gd_true, idx_nat (show k - 1 < l.length by omega), bnd1_some]
        by_cases h3 : l[k]!.Col ≤ l[k - 1]!.Col
        · rw [decide_eq_true h3, if_pos (show 0 < k ∧ 0 ≤ ord2 l[k - 1]!.Row l[k]!.Row l[k - 1]!.Col l[k]!.Col from ⟨h0, ho.2 (.inr ⟨h2, h3⟩)⟩)]; rfl
        · rw [decide_eq_false h3, if_neg (show ¬ (0 < k ∧ 0 ≤ ord2 l[k - 1]!.Row l[k]!.Row l[k - 1]!.Col l[k]!.Col) from fun h => by have := ho.1 h.2; omega), chk_nat (by omega)]; rfl
      · rw [decide_eq_false h1, decide_eq_false h2, if_neg (show ¬ (0 < k ∧ 0 ≤ ord2 l[k - 1]!.Row l[k]!.Row l[k - 1]!.Col l[k]!.Col) from fun h => by have := ho.1 h.2; omega), chk_nat (by omega)]; rfl
  · obtain rfl : k = 0 := by omega
    rw [if_neg (show ¬ (0 < 0 ∧ _) from fun h => absurd h.1 (by decide))]; rfl
theorem ref_CellsError_eq (rows cols : Int) (nn : Bool) (l : List GCell) (hm : l.length ≤ 1073741824) (hl : ∀ c ∈ l, okC c) (hr : 0 ≤ rows ∧ rows ≤ 2147483647) (hcc : 0 ≤ cols ∧ cols ≤ 2147483647) : ref_CellsError l rows cols nn = some (cellsErr rows cols nn l) := by
  unfold ref_CellsError
  rw [iter_find (n := l.length) (errC rows cols nn l) (fun k hk => by
    obtain ⟨ha, ht⟩ := hl _ (mem_at hk)
    have hto := ref_tail_order l k hk (by omega)
    unfold ref_CellsError_L1 errC cellE
    rw [if_pos (by simpa using hk), idx_nat hk, bnd1_some, chk64 (by omega) (by omega), bnd1_some, ref_In_dec, bnd1_some, ref_In_dec, hto]
    by_cases h1 : inC rows cols l[k]!
    · have h1' := h1
      unfold inC at h1'
      rw [if_neg (Classical.not_not.2 h1), decide_eq_true (show 0 ≤ l[k]!.Row ∧ l[k]!.Row ≤ rows - 1 by omega), show ((!true) == false) = true from rfl, gd_true, chk64 (by omega) (by omega), bnd1_some, gd_true, ref_In_dec, bnd1_some, decide_eq_true (show 0 ≤ l[k]!.Col ∧ l[k]!.Col ≤ cols - 1 by omega),
        show (((!true) || (!true)) == false) = true from rfl, gd_true, bnd1_some, decide_eq_true (show 0 ≤ l[k]!.Ref ∧ l[k]!.Ref ≤ 1073741824 by omega), if_neg (by decide), ref_CellText_eq _ (by omega), bnd1_some, ref_AttrsError_eq _ _ ha.2 (by have := ha.1; omega), bnd1_some]
      cases htx : textF l[k]!.Text.length l[k]!.Text with
      | false => rfl
      | true =>
        rw [if_neg (show ¬ ((!true) = true) by decide), if_neg (show ¬ (true = false) by decide)]
        by_cases h3 : attrErr l[k]!.Attrs false = 0
        · rw [if_neg (ndF h3), if_neg (Classical.not_not.2 h3)]
          have he : ref_EmptyCell l[k]! = some (emptyC l[k]!) := by unfold ref_EmptyCell emptyC; rw [lenA_zero]
          rw [he]
          cases nn with
          | true => rfl
          | false =>
            show (bnd1 (gd true (some (emptyC l[k]!))) fun (r5 : Bool) => _) = _
            rw [gd_true, bnd1_some]
            cases emptyC l[k]! <;> rfl
        · rw [if_pos (ndT h3), if_pos h3, if_pos h3]; rfl
    · rw [if_pos h1]
      unfold inC at h1
      by_cases e1 : 0 ≤ l[k]!.Row ∧ l[k]!.Row ≤ rows - 1
      · rw [decide_eq_true e1, show ((!true) == false) = true from rfl, gd_true, chk64 (by omega) (by omega), bnd1_some, gd_true, ref_In_dec, bnd1_some]
        by_cases e2 : 0 ≤ l[k]!.Col ∧ l[k]!.Col ≤ cols - 1
        · rw [decide_eq_true e2, show (((!true) || (!true)) == false) = true from rfl, gd_true, bnd1_some, decide_eq_false (show ¬ (0 ≤ l[k]!.Ref ∧ l[k]!.Ref ≤ 1073741824) by omega)]; rfl
        · rw [decide_eq_false e2]; rfl
      · rw [decide_eq_false e1]; rfl) (by unfold ref_CellsError_L1; rw [if_neg (by simp)]), out_getD]
  rfl
end Go.Proofs.YtfkolgjapajekaaDoor.Al


namespace Go.Proofs.YtfkolgjapajekaaDoor.Al
theorem iter_findI {ρ : Type} {f : Int → Option (Int ⊕ Ctl Unit ρ)} {n : Nat} (g : Nat → Option ρ) (h1 : ∀ k : Nat, k < n → (∀ j, j < k → g j = none) → f k = stepOf k (g k))
    (h2 : f n = some (.inr (.nrm ()))) : iter f 0 = some (outOf ((List.range n).findSome? g)) := by
  have key : ∀ m k : Nat, k + m = n → (∀ j, j < k → g j = none) → iter f (k : Int) = some (outOf ((List.range' k m).findSome? g)) := by
    intro m
    induction m with
    | zero =>
      intro k hk _
      obtain rfl : k = n := by omega
      rw [iter_stop h2]; rfl
    | succ m ih =>
      intro k hk hj
      have hs := h1 k (by omega) hj
      rw [List.range'_succ, List.findSome?_cons]
      cases hg : g k with
      | some r => rw [hg] at hs; rw [iter_stop hs]; rfl
      | none =>
        rw [hg] at hs
        rw [iter_next hs]
        exact ih (k + 1) (by omega) (fun j hj' => by
          by_cases e : j = k
          · rw [e]; exact hg
          · exact hj j (by omega))
  have := key n 0 (by omega) (fun j hj => absurd hj (Nat.not_lt_zero _))
  rw [List.range_eq_range']
  exact this
def insR (rows cols : Int) (r : GRect) : Prop := 0 ≤ r.Row ∧ r.Row < rows ∧ 0 ≤ r.Col ∧ r.Col < cols ∧ 1 ≤ r.H ∧ r.H ≤ rows - r.Row ∧ 1 ≤ r.W ∧ r.W ≤ cols - r.Col
instance (rows cols : Int) (r : GRect) : Decidable (insR rows cols r) := by unfold insR; infer_instance
def mtR (a b : GRect) : Bool := decide (a.Row < b.Row + b.H ∧ b.Row < a.Row + a.H ∧ a.Col < b.Col + b.W ∧ b.Col < a.Col + a.W)
def okRC (rows cols : Int) : Prop := 0 ≤ rows ∧ rows ≤ 2147483647 ∧ 0 ≤ cols ∧ cols ≤ 2147483647
instance (rows cols : Int) : Decidable (okRC rows cols) := by unfold okRC; infer_instance
theorem inside_eq (r : GRect) (rows cols : Int) (h : okRC rows cols) : grid_inside r rows cols = some (decide (insR rows cols r)) := by
  obtain ⟨h1, h2, h3, h4⟩ := h
  unfold grid_inside
  by_cases c1 : 0 ≤ r.Row ∧ 0 ≤ r.Col ∧ 1 ≤ r.H ∧ 1 ≤ r.W ∧ r.Row < rows ∧ r.Col < cols
  · obtain ⟨a1, a2, a3, a4, a5, a6⟩ := c1
    rw [decide_eq_true a1, decide_eq_true a2, decide_eq_true a3, decide_eq_true a4, decide_eq_true a5, decide_eq_true a6, show ((((((true && true) && true) && true) && true) && true) == true) = true from rfl, gd_true, chk64 (by omega) (by omega), bnd1_some]
    by_cases c2 : r.H ≤ rows - r.Row
    · rw [decide_eq_true c2, show (((((((true && true) && true) && true) && true) && true) && true) == true) = true from rfl, gd_true, chk64 (by omega) (by omega), bnd1_some]
      by_cases c3 : r.W ≤ cols - r.Col
      · rw [decide_eq_true c3, decide_eq_true (show insR rows cols r from ⟨a1, a5, a2, a6, a3, c2, a4, c3⟩)]; rfl
      · rw [decide_eq_false c3, decide_eq_false (show ¬ insR rows cols r from fun h => c3 h.2.2.2.2.2.2.2)]; rfl
    · rw [decide_eq_false c2, decide_eq_false (show ¬ insR rows cols r from fun h => c2 h.2.2.2.2.2.1)]; rfl
  · have hf : ((((((decide (0 ≤ r.Row)) && (decide (0 ≤ r.Col))) && (decide (1 ≤ r.H))) && (decide (1 ≤ r.W))) && (decide (r.Row < rows))) && (decide (r.Col < cols))) = false := by
      rw [← Bool.not_eq_true]
      simp only [Bool.and_eq_true, decide_eq_true_eq]
      intro h; exact c1 (by omega)
    rw [hf, decide_eq_false (show ¬ insR rows cols r from fun h => c1 ⟨h.1, h.2.2.1, h.2.2.2.2.1, h.2.2.2.2.2.2.1, h.2.1, h.2.2.2.1⟩)]; rfl
theorem lies_eq (r : GRect) (rows cols : Int) (h : okRC rows cols) : ref_Lies r rows cols = some (decide (insR rows cols r)) := by
  obtain ⟨h1, h2, h3, h4⟩ := h
  unfold ref_Lies
  rw [chk64 (by omega) (by omega), bnd1_some, ref_In_dec, bnd1_some]
  by_cases a1 : 0 ≤ r.Row ∧ r.Row ≤ rows - 1
  · rw [decide_eq_true a1, show ((true == true) : Bool) = true from rfl, gd_true, chk64 (by omega) (by omega), bnd1_some, gd_true, ref_In_dec, bnd1_some]
    by_cases a2 : 0 ≤ r.Col ∧ r.Col ≤ cols - 1
    · rw [decide_eq_true a2, show ((true && true) == true) = true from rfl, gd_true, chk64 (by omega) (by omega), bnd1_some, gd_true, ref_In_dec, bnd1_some]
      by_cases a3 : 1 ≤ r.H ∧ r.H ≤ rows - r.Row
      · rw [decide_eq_true a3, show (((true && true) && true) == true) = true from rfl, gd_true, chk64 (by omega) (by omega), bnd1_some, gd_true, ref_In_dec, bnd1_some]
        by_cases a4 : 1 ≤ r.W ∧ r.W ≤ cols - r.Col
        · rw [decide_eq_true a4, decide_eq_true (show insR rows cols r from ⟨a1.1, by omega, a2.1, by omega, a3.1, a3.2, a4.1, a4.2⟩)]; rfl
        · rw [decide_eq_false a4, decide_eq_false (show ¬ insR rows cols r from fun h => a4 ⟨h.2.2.2.2.2.2.1, h.2.2.2.2.2.2.2⟩)]; rfl
      · rw [decide_eq_false a3, decide_eq_false (show ¬ insR rows cols r from fun h => a3 ⟨h.2.2.2.2.1, h.2.2.2.2.2.1⟩)]; rfl
    · rw [decide_eq_false a2, decide_eq_false (show ¬ insR rows cols r from fun h => a2 ⟨h.2.2.1, by have := h.2.2.2.1; omega⟩)]; rfl
  · rw [decide_eq_false a1, decide_eq_false (show ¬ insR rows cols r from fun h => a1 ⟨h.1, by have := h.2.1; omega⟩)]; rfl
theorem meets_eq {rows cols : Int} (h : okRC rows cols) {a b : GRect} (ha : insR rows cols a) (hb : insR rows cols b) : grid_meets a b = some (mtR a b) := by
  obtain ⟨h1, h2, h3, h4⟩ := h
  obtain ⟨a1, a2, a3, a4, a5, a6, a7, a8⟩ := ha
  obtain ⟨b1, b2, b3, b4, b5, b6, b7, b8⟩ := hb
  unfold grid_meets mtR
  rw [chk64 (by omega) (by omega), bnd1_some]
  by_cases c1 : a.Row < b.Row + b.H
  · rw [decide_eq_true c1, show ((true == true) : Bool) = true from rfl, gd_true, chk64 (by omega) (by omega), bnd1_some]
    by_cases c2 : b.Row < a.Row + a.H
    · rw [decide_eq_true c2, show ((true && true) == true) = true from rfl, gd_true, chk64 (by omega) (by omega), bnd1_some]
      by_cases c3 : a.Col < b.Col + b.W
      · rw [decide_eq_true c3, show (((true && true) && true) == true) = true from rfl, gd_true, chk64 (by omega) (by omega), bnd1_some]
        by_cases c4 : b.Col < a.Col + a.W
        · rw [decide_eq_true c4, decide_eq_true (show _ ∧ _ ∧ _ ∧ _ from ⟨c1, c2, c3, c4⟩)]; rfl
        · rw [decide_eq_false c4, decide_eq_false (show ¬ (a.Row < b.Row + b.H ∧ b.Row < a.Row + a.H ∧ a.Col < b.Col + b.W ∧ b.Col < a.Col + a.W) from fun h => c4 h.2.2.2)]; rfl
      · rw [decide_eq_false c3, decide_eq_false (show ¬ (a.Row < b.Row + b.H ∧ b.Row < a.Row + a.H ∧ a.Col < b.Col + b.W ∧ b.Col < a.Col + a.W) from fun h => c3 h.2.2.1)]; rfl
    · rw [decide_eq_false c2, decide_eq_false (show ¬ (a.Row < b.Row + b.H ∧ b.Row < a.Row + a.H ∧ a.Col < b.Col + b.W ∧ b.Col < a.Col + a.W) from fun h => c2 h.2.1)]; rfl
  · rw [decide_eq_false c1, decide_eq_false (show ¬ (a.Row < b.Row + b.H ∧ b.Row < a.Row + a.H ∧ a.Col < b.Col + b.W ∧ b.Col < a.Col + a.W) from fun h => c1 h.1)]; rfl
theorem share_eq {rows cols : Int} (h : okRC rows cols) {a b : GRect} (ha : insR rows cols a) (hb : insR rows cols b) : ref_Share a b = some (mtR b a) := by
  obtain ⟨h1, h2, h3, h4⟩ := h
  obtain ⟨a1, a2, a3, a4, a5, a6, a7, a8⟩ := ha
  obtain ⟨b1, b2, b3, b4, b5, b6, b7, b8⟩ := hb
  unfold ref_Share mtR
  rw [chk64 (by omega) (by omega), bnd1_some, chk64 (by omega) (by omega), bnd1_some]
  by_cases c1 : max a.Row b.Row < min (a.Row + a.H) (b.Row + b.H)
  · rw [decide_eq_true c1, show ((true == true) : Bool) = true from rfl, gd_true, chk64 (by omega) (by omega), bnd1_some, gd_true, chk64 (by omega) (by omega), bnd1_some]
    by_cases c2 : max a.Col b.Col < min (a.Col + a.W) (b.Col + b.W)
    · rw [decide_eq_true c2, decide_eq_true (show b.Row < a.Row + a.H ∧ a.Row < b.Row + b.H ∧ b.Col < a.Col + a.W ∧ a.Col < b.Col + b.W by omega)]; rfl
    · rw [decide_eq_false c2, decide_eq_false (show ¬ (b.Row < a.Row + a.H ∧ a.Row < b.Row + b.H ∧ b.Col < a.Col + a.W ∧ a.Col < b.Col + b.W) by omega)]; rfl
  · rw [decide_eq_false c1, decide_eq_false (show ¬ (b.Row < a.Row + a.H ∧ a.Row < b.Row + b.H ∧ b.Col < a.Col + a.W ∧ a.Col < b.Col + b.W) by omega)]; rfl
theorem takeBM {α : Type} [Inhabited α] {l : List α} {k j : Nat} (hj : j < k) (hk : k ≤ l.length) : (l.take k)[j]! = l[j]! := by
  rw [getElem!_pos (l.take k) j (by rw [List.length_take]; omega), getElem!_pos l j (by omega), List.getElem_take]
def findM (l : List GRect) (k : Nat) (w : GRect) : Option Nat := (List.range k).find? fun j => mtR l[j]! w
theorem contains_eq {rows cols : Int} (h : okRC rows cols) (l : List GRect) (k : Nat) (hk : k ≤ l.length) (hm : l.length ≤ 1073741824) (hl : ∀ j, j < k → insR rows cols l[j]!) {w : GRect} (hw : insR rows cols w) :
    slices_ContainsFunc_api_Rect_api_Rect__Check_f1 w (l.take k) = some (findM l k w).isSome := by
  unfold slices_ContainsFunc_api_Rect_api_Rect__Check_f1 slices_IndexFunc_api_Rect_api_Rect__Check_f1
  have hlen : (l.take k).length = k := by rw [List.length_take]; omega
  rw [iter_find (n := k) (fun j => if mtR l[j]! w then some (j : Int) else none) (fun j hj => by
    unfold slices_IndexFunc_api_Rect_api_Rect__Check_f1_L1 grid_Check_f1
    rw [if_pos (by rw [hlen, decide_eq_true_eq]; omega), idx_nat (by rw [hlen]; exact hj), bnd1_some, takeBM hj hk, meets_eq h (hl j hj) hw, bnd1_some, bnd1_some, chk_nat (by omega)]
    cases mtR l[j]! w <;> rfl) (by unfold slices_IndexFunc_api_Rect_api_Rect__Check_f1_L1; rw [if_neg (by rw [hlen]; simp)]), findSome_map, ctl_outOf]
  unfold findM
  cases (List.range k).find? fun j => mtR l[j]! w with
  | none => rfl
  | some j =>
    show (bnd1 (some (j : Int)) fun (r1 : Int) => some (decide (0 ≤ r1))) = _
    rw [bnd1_some, decide_eq_true (Int.natCast_nonneg j)]; rfl
def errM (rows cols : Int) (l : List GRect) (k : Nat) : Option Int :=
  if ¬ insR rows cols l[k]! then some 2 else if l[k]!.H = 1 ∧ l[k]!.W = 1 then some 4 else if 0 < k ∧ 0 ≤ ord2 l[k - 1]!.Row l[k]!.Row l[k - 1]!.Col l[k]!.Col then some 5 else if (findM l k l[k]!).isSome = true then some 21 else none
theorem errM_ins {rows cols : Int} {l : List GRect} {k : Nat} (h : errM rows cols l k = none) : insR rows cols l[k]! := by
  unfold errM at h
  by_cases hi : insR rows cols l[k]!
  · exact hi
  · rw [if_pos hi] at h; cases h
def gridErr (g : GGrid) : Int :=
  if ¬ okRC g.Rows g.Cols then 2 else if cellsErr g.Rows g.Cols false g.Cells ≠ 0 then cellsErr g.Rows g.Cols false g.Cells else ((List.range g.Merges.length).findSome? (errM g.Rows g.Cols g.Merges)).getD 0
def okGd (g : GGrid) : Prop := g.Cells.length ≤ 1048576 ∧ g.Merges.length ≤ 1048576 ∧ ∀ c ∈ g.Cells, okC c
theorem before_eq (a b : GRect) : grid_before a b = some (!decide (0 ≤ ord2 a.Row b.Row a.Col b.Col)) := by
  unfold grid_before
  congr 1
  rw [Bool.eq_iff_iff]
  have := ord2_ge a.Row b.Row a.Col b.Col
  simp only [Bool.or_eq_true, Bool.and_eq_true, decide_eq_true_eq, Bool.not_eq_true', decide_eq_false_iff_not, this]
  omega
theorem grid_Check_eq (g : GGrid) (h : okGd g) : grid_Check g = some (gridErr g) := by
  obtain ⟨hc, hm, hcs⟩ := h
  unfold grid_Check gridErr
  by_cases hr : okRC g.Rows g.Cols
  · have hr' := hr
    obtain ⟨r1, r2, r3, r4⟩ := hr'
    rw [if_neg (by simp only [Bool.or_eq_true, decide_eq_true_eq]; omega), grid_cells_eq _ _ _ _ (by omega) hcs, bnd1_some, if_neg (Classical.not_not.2 hr)]
    by_cases he : cellsErr g.Rows g.Cols false g.Cells = 0
    · rw [if_neg (ndF he), if_neg (Classical.not_not.2 he), iter_findI (n := g.Merges.length) (errM g.Rows g.Cols g.Merges) (fun k hk hj => by
        unfold grid_Check_L1
        rw [if_pos (by simpa using hk), idx_nat hk, bnd1_some, inside_eq _ _ _ hr, bnd1_some]
        unfold errM
        by_cases h1 : insR g.Rows g.Cols g.Merges[k]!
        · rw [decide_eq_true h1, if_neg (show ¬ ((!true) = true) by decide), if_neg (Classical.not_not.2 h1)]
          by_cases h2 : g.Merges[k]!.H = 1 ∧ g.Merges[k]!.W = 1
          · rw [if_pos (by rw [decide_eq_true h2.1, decide_eq_true h2.2]; rfl), if_pos h2]; rfl
          · rw [if_neg (by simp only [Bool.and_eq_true, decide_eq_true_eq]; exact h2), if_neg h2]
            have hcont := contains_eq hr g.Merges k (by omega) (by omega) (fun j hj' => errM_ins (hj j hj')) h1
            have hs : slc g.Merges 0 (k : Int) = some (g.Merges.take k) := by
              rw [slc_to g.Merges k (by omega) (by omega)]; simp
            have hfin : (bnd1 (slc g.Merges 0 (k : Int)) fun (l1 : List GRect) =>
                bnd1 (slices_ContainsFunc_api_Rect_api_Rect__Check_f1 g.Merges[k]! l1) fun (r3 : Bool) =>
                if r3 then (some (.inr (.ext 21)) : Option (Int ⊕ (Ctl Unit Int))) else (
                  bnd1 (chk .i64 ((k : Int) + 1)) fun (x7 : Int) => some (.inl x7))) = stepOf k (if (findM g.Merges k g.Merges[k]!).isSome = true then some 21 else none) := by
              rw [hs, bnd1_some, hcont, bnd1_some, chk_nat (by omega)]
              cases (findM g.Merges k g.Merges[k]!).isSome <;> rfl
            by_cases h0 : 0 < k
            · rw [decide_eq_true (show (0 : Int) < k by omega), show ((true == true) : Bool) = true from rfl, gd_true, chk_pred h0 (by omega), bnd1_some, gd_true, idx_nat (show k - 1 < g.Merges.length by omega), bnd1_some, gd_true, before_eq, bnd1_some]
              by_cases h3 : 0 ≤ ord2 g.Merges[k - 1]!.Row g.Merges[k]!.Row g.Merges[k - 1]!.Col g.Merges[k]!.Col
              · rw [decide_eq_true h3, if_pos (show 0 < k ∧ 0 ≤ ord2 g.Merges[k - 1]!.Row g.Merges[k]!.Row g.Merges[k - 1]!.Col g.Merges[k]!.Col from ⟨h0, h3⟩)]; rfl
              · rw [decide_eq_false h3, if_neg (show ¬ (0 < k ∧ 0 ≤ ord2 g.Merges[k - 1]!.Row g.Merges[k]!.Row g.Merges[k - 1]!.Col g.Merges[k]!.Col) from fun h => h3 h.2)]
                exact hfin
            · have e0 : k = 0 := by omega
              rw [if_neg (show ¬ (0 < k ∧ 0 ≤ ord2 g.Merges[k - 1]!.Row g.Merges[k]!.Row g.Merges[k - 1]!.Col g.Merges[k]!.Col) from fun h => h0 h.1), decide_eq_false (show ¬ (0 : Int) < k by omega)]
              exact hfin
        · rw [decide_eq_false h1, if_pos h1]; rfl) (by unfold grid_Check_L1; rw [if_neg (by simp)]), out_getD]
    · rw [if_pos (ndT he), if_pos he]
  · rw [if_pos hr, if_pos (by unfold okRC at hr; simp only [Bool.or_eq_true, decide_eq_true_eq]; omega)]
theorem ref_order_tail {X : Type} (l : List GRect) (k : Nat) (hk : k < l.length) (hm : l.length ≤ 9223372036854775806) (a b : Option X) :
    (bnd1 (gd ((decide (0 < (k : Int))) == true) (chk .i64 ((k : Int) - 1))) fun (x5 : Int) =>
        bnd1 (gd ((decide (0 < (k : Int))) == true) (idx l x5)) fun (x6 : GRect) =>
        bnd1 (gd ((((decide (0 < (k : Int))) == true) && ((decide (l[k]!.Row < x6.Row)) == false)) && ((decide (l[k]!.Row = x6.Row)) == true)) (chk .i64 ((k : Int) - 1))) fun (x7 : Int) =>
        bnd1 (gd ((((decide (0 < (k : Int))) == true) && ((decide (l[k]!.Row < x6.Row)) == false)) && ((decide (l[k]!.Row = x6.Row)) == true)) (idx l x7)) fun (x8 : GRect) =>
        if ((decide (0 < (k : Int))) && ((decide (l[k]!.Row < x6.Row)) || ((decide (l[k]!.Row = x6.Row)) && (decide (l[k]!.Col ≤ x8.Col))))) then a else b) =
      if 0 < k ∧ 0 ≤ ord2 l[k - 1]!.Row l[k]!.Row l[k - 1]!.Col l[k]!.Col then a else b := by
  have ho := ord2_ge l[k - 1]!.Row l[k]!.Row l[k - 1]!.Col l[k]!.Col
  by_cases h0 : 0 < k
  · rw [decide_eq_true (show (0 : Int) < k by omega), show ((true == true) : Bool) = true from rfl, gd_true, chk_pred h0 (by omega), bnd1_some, gd_true, idx_nat (show k - 1 < l.length by omega), bnd1_some]
    by_cases h1 : l[k]!.Row < l[k - 1]!.Row
    · rw [decide_eq_true h1, if_pos (show 0 < k ∧ 0 ≤ ord2 l[k - 1]!.Row l[k]!.Row l[k - 1]!.Col l[k]!.Col from ⟨h0, ho.2 (.inl h1)⟩)]; rfl
    · by_cases h2 : l[k]!.Row = l[k - 1]!.Row
      · rw [decide_eq_false h1, decide_eq_true h2, show (((true && (false == false)) && (true == true)) : Bool) = true from rfl, gd_true, bnd1_some, gd_true, idx_nat (show k - 1 < l.length by omega), bnd1_some]
        by_cases h3 : l[k]!.Col ≤ l[k - 1]!.Col
        · rw [decide_eq_true h3, if_pos (show 0 < k ∧ 0 ≤ ord2 l[k - 1]!.Row l[k]!.Row l[k - 1]!.Col l[k]!.Col from ⟨h0, ho.2 (.inr ⟨h2, h3⟩)⟩)]; rfl
        · rw [decide_eq_false h3, if_neg (show ¬ (0 < k ∧ 0 ≤ ord2 l[k - 1]!.Row l[k]!.Row l[k - 1]!.Col l[k]!.Col) from fun h => by have := ho.1 h.2; omega)]; rfl
      · rw [decide_eq_false h1, decide_eq_false h2, if_neg (show ¬ (0 < k ∧ 0 ≤ ord2 l[k - 1]!.Row l[k]!.Row l[k - 1]!.Col l[k]!.Col) from fun h => by have := ho.1 h.2; omega)]; rfl
  · rw [if_neg (show ¬ (0 < k ∧ 0 ≤ ord2 l[k - 1]!.Row l[k]!.Row l[k - 1]!.Col l[k]!.Col) from fun h => h0 h.1), decide_eq_false (show ¬ (0 : Int) < k by omega)]; rfl
theorem ref_GridError_eq (g : GGrid) (h : okGd g) : ref_GridError g = some (gridErr g) := by
  obtain ⟨hc, hm, hcs⟩ := h
  unfold ref_GridError gridErr
  rw [ref_In_dec, bnd1_some]
  by_cases hr : okRC g.Rows g.Cols
  · have hr' := hr
    obtain ⟨r1, r2, r3, r4⟩ := hr'
    rw [decide_eq_true (show 0 ≤ g.Rows ∧ g.Rows ≤ 2147483647 from ⟨r1, r2⟩), show ((!true) == false) = true from rfl, gd_true, ref_In_dec, bnd1_some, decide_eq_true (show 0 ≤ g.Cols ∧ g.Cols ≤ 2147483647 from ⟨r3, r4⟩), if_neg (by decide),
      ref_CellsError_eq _ _ _ _ (by omega) hcs ⟨r1, r2⟩ ⟨r3, r4⟩, bnd1_some, if_neg (Classical.not_not.2 hr)]
    by_cases he : cellsErr g.Rows g.Cols false g.Cells = 0
    · rw [if_neg (ndF he), if_neg (Classical.not_not.2 he), iter_findI (n := g.Merges.length) (errM g.Rows g.Cols g.Merges) (fun k hk hj => by
        unfold ref_GridError_L1
        rw [if_pos (by simpa using hk), idx_nat hk, bnd1_some, lies_eq _ _ _ hr, bnd1_some]
        unfold errM
        by_cases h1 : insR g.Rows g.Cols g.Merges[k]!
        · rw [decide_eq_true h1, if_neg (show ¬ ((!true) = true) by decide), if_neg (Classical.not_not.2 h1)]
          by_cases h2 : g.Merges[k]!.H = 1 ∧ g.Merges[k]!.W = 1
          · rw [if_pos (by rw [decide_eq_true h2.1, decide_eq_true h2.2]; rfl), if_pos h2]; rfl
          · rw [if_neg (by simp only [Bool.and_eq_true, decide_eq_true_eq]; exact h2), if_neg h2, ref_order_tail _ k hk (by omega)]
            by_cases h3 : 0 < k ∧ 0 ≤ ord2 g.Merges[k - 1]!.Row g.Merges[k]!.Row g.Merges[k - 1]!.Col g.Merges[k]!.Col
            · rw [if_pos h3, if_pos h3]; rfl
            · rw [if_neg h3, if_neg h3, iter_find (n := k) (fun j => if mtR g.Merges[j]! g.Merges[k]! then some (.inr (.ext 21)) else none) (fun j hjk => by
                unfold ref_GridError_L2
                rw [if_pos (by rw [decide_eq_true_eq]; omega), idx_nat (by omega), bnd1_some, share_eq hr h1 (errM_ins (hj j hjk)), bnd1_some, chk_nat (by omega)]
                cases mtR g.Merges[j]! g.Merges[k]! <;> rfl) (by unfold ref_GridError_L2; rw [if_neg (by rw [decide_eq_true_eq]; omega)]), findSome_map, ctl_outOf]
              unfold findM
              cases (List.range k).find? fun j => mtR g.Merges[j]! g.Merges[k]! with
              | none => rw [chk_nat (by omega)]; rfl
              | some j => rfl
        · rw [decide_eq_false h1, if_pos h1]; rfl) (by unfold ref_GridError_L1; rw [if_neg (by simp)]), out_getD]
    · rw [if_pos (ndT he), if_pos he]
  · rw [if_pos hr]
    unfold okRC at hr
    by_cases a : 0 ≤ g.Rows ∧ g.Rows ≤ 2147483647
    · rw [decide_eq_true a, show ((!true) == false) = true from rfl, gd_true, ref_In_dec, bnd1_some, decide_eq_false (show ¬ (0 ≤ g.Cols ∧ g.Cols ≤ 2147483647) by omega)]; rfl
    · rw [decide_eq_false a]; rfl
end Go.Proofs.YtfkolgjapajekaaDoor.Al


namespace Go.Proofs.YtfkolgjapajekaaDoor.Al
def rangeD (o : GDrawOp) : Prop := (1 ≤ o.Clock ∧ o.Clock ≤ 1073741824) ∧ (0 ≤ o.Site ∧ o.Site ≤ 1000) ∧ (1 ≤ o.Item ∧ o.Item ≤ 1073741824)
instance (o : GDrawOp) : Decidable (rangeD o) := by unfold rangeD; infer_instance
def okDr (o : GDrawOp) : Prop := o.Place.length ≤ 1073741824 ∧ o.Name.length ≤ 1073741824 ∧ o.Value.length ≤ 1073741824
end Go.Proofs.YtfkolgjapajekaaDoor.Al


namespace Go.Proofs.YtfkolgjapajekaaDoor.Al
structure okN2 (n : GNode) : Prop where
  ok : okN n
  ce : ∀ c ∈ n.Grid.Cells, okC c
  dr : ∀ o ∈ n.Draw, okDr o
theorem okN2.gd {n : GNode} (h : okN2 n) : okGd n.Grid := ⟨h.ok.gr.1, h.ok.gr.2.1, h.ce⟩
end Go.Proofs.YtfkolgjapajekaaDoor.Al


namespace Go.Proofs.YtfkolgjapajekaaDoor.Al
end Go.Proofs.YtfkolgjapajekaaDoor.Al


namespace Go.Proofs.YtfkolgjapajekaaDoor.Al
end Go.Proofs.YtfkolgjapajekaaDoor.Al


namespace Go.Proofs.YtfkolgjapajekaaDoor.Al
def splitG (l : List GRect) (k : Nat) : Option Int := if ¬ insR 2147483647 2147483647 l[k]! then some 2 else none
def mergeG (l : List GRect) (k : Nat) : Option Int := if ¬ insR 2147483647 2147483647 l[k]! then some 2 else if l[k]!.H = 1 ∧ l[k]!.W = 1 then some 4 else none
def splitErr (l : List GRect) : Option Int := (List.range l.length).findSome? (splitG l)
def mergeErr (l : List GRect) : Option Int := (List.range l.length).findSome? (mergeG l)
def rectsErr (e : GGridEdit) : Int := match splitErr e.Split with | some r => r | none => (mergeErr e.Merge).getD 0
def editErr (e : GGridEdit) : Int := if axErr e.Rows ≠ 0 then axErr e.Rows else if axErr e.Cols ≠ 0 then axErr e.Cols else
  if cellsErr 2147483647 2147483647 true e.Cells ≠ 0 then cellsErr 2147483647 2147483647 true e.Cells else rectsErr e
structure okEd (e : GGridEdit) : Prop where
  rows : e.Rows.length ≤ 1048576
  cols : e.Cols.length ≤ 1048576
  cells : e.Cells.length ≤ 1048576
  split : e.Split.length ≤ 1048576
  merge : e.Merge.length ≤ 1048576
  oc : ∀ c ∈ e.Cells, okC c
theorem okRC_max : okRC 2147483647 2147483647 := by decide
theorem findSome_mapO {α β ρ : Type} (l : List α) (G : α → Option β) (w : β → ρ) : (l.findSome? fun k => (G k).map w) = (l.findSome? G).map w := by
  induction l with
  | nil => rfl
  | cons a l ih =>
    rw [List.findSome?_cons, List.findSome?_cons]
    cases G a with
    | none => exact ih
    | some b => rfl
theorem edit_split (l : List GRect) (hm : l.length ≤ 1048576) : iter (fun (a : Int) => grid_CheckEdit_L3 0 l a) 0 = some (outOf ((splitErr l).map fun v => (.inr (.ext v) : Int ⊕ Ctl Unit Int))) := by
  unfold splitErr
  rw [← findSome_mapO]
  refine iter_find (f := fun (a : Int) => grid_CheckEdit_L3 0 l a) (n := l.length) (fun k => (splitG l k).map fun v => (.inr (.ext v) : Int ⊕ Ctl Unit Int)) (fun k hk => ?_) ?_
  · unfold grid_CheckEdit_L3 splitG
    rw [if_pos (by simpa using hk), idx_nat hk, bnd1_some, inside_eq _ _ _ okRC_max, bnd1_some]
    by_cases hi : insR 2147483647 2147483647 l[k]!
    · rw [if_neg (show ¬ (!decide (insR 2147483647 2147483647 l[k]!)) = true by rw [decide_eq_true hi]; decide), if_neg (show ¬ (((decide ((0 : Int) = 1)) && (decide (l[k]!.H = 1))) && (decide (l[k]!.W = 1))) = true by simp), if_neg (show ¬ ¬ insR 2147483647 2147483647 l[k]! from fun h => h hi), chk_nat (by omega), bnd1_some]; rfl
    · rw [if_pos (by rw [decide_eq_false hi]; rfl), if_pos hi]; rfl
  · show grid_CheckEdit_L3 0 l (l.length : Int) = _
    unfold grid_CheckEdit_L3
    rw [if_neg (by simp)]
theorem edit_merge (l : List GRect) (hm : l.length ≤ 1048576) : iter (fun (a : Int) => grid_CheckEdit_L3 1 l a) 0 = some (outOf ((mergeErr l).map fun v => (.inr (.ext v) : Int ⊕ Ctl Unit Int))) := by
  unfold mergeErr
  rw [← findSome_mapO]
  refine iter_find (f := fun (a : Int) => grid_CheckEdit_L3 1 l a) (n := l.length) (fun k => (mergeG l k).map fun v => (.inr (.ext v) : Int ⊕ Ctl Unit Int)) (fun k hk => ?_) ?_
  · unfold grid_CheckEdit_L3 mergeG
    rw [if_pos (by simpa using hk), idx_nat hk, bnd1_some, inside_eq _ _ _ okRC_max, bnd1_some]
    by_cases hi : insR 2147483647 2147483647 l[k]!
    · rw [if_neg (show ¬ (!decide (insR 2147483647 2147483647 l[k]!)) = true by rw [decide_eq_true hi]; decide), if_neg (show ¬ ¬ insR 2147483647 2147483647 l[k]! from fun h => h hi)]
      by_cases h1 : l[k]!.H = 1 ∧ l[k]!.W = 1
      · rw [if_pos (show (((decide ((1 : Int) = 1)) && (decide (l[k]!.H = 1))) && (decide (l[k]!.W = 1))) = true by rw [decide_eq_true h1.1, decide_eq_true h1.2]; rfl), if_pos h1]; rfl
      · rw [if_neg (show ¬ (((decide ((1 : Int) = 1)) && (decide (l[k]!.H = 1))) && (decide (l[k]!.W = 1))) = true by simp only [Bool.and_eq_true, decide_eq_true_eq]; rintro ⟨⟨_, a⟩, b⟩; exact h1 ⟨a, b⟩), if_neg h1, chk_nat (by omega), bnd1_some]; rfl
    · rw [if_pos (by rw [decide_eq_false hi]; rfl), if_pos hi]; rfl
  · show grid_CheckEdit_L3 1 l (l.length : Int) = _
    unfold grid_CheckEdit_L3
    rw [if_neg (by simp)]
theorem edit_rects (e : GGridEdit) (h : okEd e) : (ctl1 (iter (fun (a : Int) => grid_CheckEdit_L2 e a) 0) fun (_ : Unit) => some (0 : Int)) = some (rectsErr e) := by
  have hs := edit_split e.Split h.split
  have hm := edit_merge e.Merge h.merge
  have i0 : idx ([e.Split, e.Merge] : List (List GRect)) 0 = some e.Split := rfl
  have i1 : idx ([e.Split, e.Merge] : List (List GRect)) 1 = some e.Merge := rfl
  have s0 : grid_CheckEdit_L2 e 0 = match splitErr e.Split with | some r => some (.inr (.ext r)) | none => some (.inl 1) := by
    unfold grid_CheckEdit_L2
    rw [if_pos (by decide), i0, bnd1_some, hs]
    cases splitErr e.Split with
    | some r => rfl
    | none => rw [show outOf ((none : Option Int).map fun v => (.inr (.ext v) : Int ⊕ Ctl Unit Int)) = .nrm () from rfl, ctl1_nrm, chk64 (by decide) (by decide), bnd1_some]; rfl
  have s1 : grid_CheckEdit_L2 e 1 = match mergeErr e.Merge with | some r => some (.inr (.ext r)) | none => some (.inl 2) := by
    unfold grid_CheckEdit_L2
    rw [if_pos (by decide), i1, bnd1_some, hm]
    cases mergeErr e.Merge with
    | some r => rfl
    | none => rw [show outOf ((none : Option Int).map fun v => (.inr (.ext v) : Int ⊕ Ctl Unit Int)) = .nrm () from rfl, ctl1_nrm, chk64 (by decide) (by decide), bnd1_some]; rfl
  have s2 : grid_CheckEdit_L2 e 2 = some (.inr (.nrm ())) := by
    unfold grid_CheckEdit_L2
    rw [if_neg (by decide)]
  unfold rectsErr
  cases hsp : splitErr e.Split with
  | some r =>
    rw [hsp] at s0
    rw [iter_stop (f := fun (a : Int) => grid_CheckEdit_L2 e a) s0, ctl1_ext]
  | none =>
    rw [hsp] at s0
    rw [iter_next (f := fun (a : Int) => grid_CheckEdit_L2 e a) s0]
    cases hmg : mergeErr e.Merge with
    | some r =>
      rw [hmg] at s1
      rw [iter_stop (f := fun (a : Int) => grid_CheckEdit_L2 e a) s1, ctl1_ext]; rfl
    | none =>
      rw [hmg] at s1
      rw [iter_next (f := fun (a : Int) => grid_CheckEdit_L2 e a) s1, iter_stop (f := fun (a : Int) => grid_CheckEdit_L2 e a) s2, ctl1_nrm]; rfl
theorem grid_CheckEdit_eq (e : GGridEdit) (h : okEd e) : grid_CheckEdit e = some (editErr e) := by
  have h1 := h.rows
  have h2 := h.cols
  have h3 := h.cells
  have i0 : idx ([e.Rows, e.Cols] : List (List GAxisStep)) 0 = some e.Rows := rfl
  have i1 : idx ([e.Rows, e.Cols] : List (List GAxisStep)) 1 = some e.Cols := rfl
  have s0 : grid_CheckEdit_L1 e 0 = if axErr e.Rows ≠ 0 then some (.inr (.ext (axErr e.Rows))) else some (.inl 1) := by
    unfold grid_CheckEdit_L1
    rw [if_pos (by decide), i0, bnd1_some, axis_Check_eq _ (by omega), bnd1_some]
    by_cases hz : axErr e.Rows = 0
    · rw [if_neg (ndF hz), if_neg (by simpa using hz), chk64 (by decide) (by decide), bnd1_some]; rfl
    · rw [if_pos (ndT hz), if_pos hz]
  have s1 : grid_CheckEdit_L1 e 1 = if axErr e.Cols ≠ 0 then some (.inr (.ext (axErr e.Cols))) else some (.inl 2) := by
    unfold grid_CheckEdit_L1
    rw [if_pos (by decide), i1, bnd1_some, axis_Check_eq _ (by omega), bnd1_some]
    by_cases hz : axErr e.Cols = 0
    · rw [if_neg (ndF hz), if_neg (by simpa using hz), chk64 (by decide) (by decide), bnd1_some]; rfl
    · rw [if_pos (ndT hz), if_pos hz]
  have s2 : grid_CheckEdit_L1 e 2 = some (.inr (.nrm ())) := by
    unfold grid_CheckEdit_L1
    rw [if_neg (by decide)]
  unfold grid_CheckEdit editErr
  by_cases hr : axErr e.Rows = 0
  · rw [if_neg (by simpa using hr)] at s0
    rw [if_neg (show ¬ (axErr e.Rows ≠ 0) by simpa using hr), iter_next (f := fun (a : Int) => grid_CheckEdit_L1 e a) s0]
    by_cases hc : axErr e.Cols = 0
    · rw [if_neg (by simpa using hc)] at s1
      rw [if_neg (show ¬ (axErr e.Cols ≠ 0) by simpa using hc), iter_next (f := fun (a : Int) => grid_CheckEdit_L1 e a) s1, iter_stop (f := fun (a : Int) => grid_CheckEdit_L1 e a) s2, ctl1_nrm, grid_cells_eq _ _ _ _ (by omega) h.oc, bnd1_some]
      by_cases hz : cellsErr 2147483647 2147483647 true e.Cells = 0
      · rw [if_neg (ndF hz), if_neg (show ¬ (cellsErr 2147483647 2147483647 true e.Cells ≠ 0) by simpa using hz)]
        exact edit_rects e h
      · rw [if_pos (ndT hz), if_pos hz]
    · rw [if_pos hc] at s1
      rw [if_pos hc, iter_stop (f := fun (a : Int) => grid_CheckEdit_L1 e a) s1, ctl1_ext]
  · rw [if_pos hr] at s0
    rw [if_pos hr, iter_stop (f := fun (a : Int) => grid_CheckEdit_L1 e a) s0, ctl1_ext]
theorem ref_EditError_eq (e : GGridEdit) (h : okEd e) : ref_EditError e = some (editErr e) := by
  have h1 := h.rows
  have h2 := h.cols
  have h3 := h.cells
  have h4 := h.split
  have h5 := h.merge
  have l1 : iter (fun (a : Int) => ref_EditError_L1 e a) 0 = some (outOf (splitErr e.Split)) := by
    refine iter_find (f := fun (a : Int) => ref_EditError_L1 e a) (n := e.Split.length) (splitG e.Split) (fun k hk => ?_) ?_
    · unfold ref_EditError_L1 splitG
      rw [if_pos (by simpa using hk), idx_nat hk, bnd1_some, lies_eq _ _ _ okRC_max, bnd1_some]
      by_cases hi : insR 2147483647 2147483647 e.Split[k]!
      · rw [if_neg (show ¬ (!decide (insR 2147483647 2147483647 e.Split[k]!)) = true by rw [decide_eq_true hi]; decide), if_neg (show ¬ ¬ insR 2147483647 2147483647 e.Split[k]! from fun h => h hi), chk_nat (by omega), bnd1_some]; rfl
      · rw [if_pos (by rw [decide_eq_false hi]; rfl), if_pos hi]; rfl
    · show ref_EditError_L1 e (e.Split.length : Int) = _
      unfold ref_EditError_L1
      rw [if_neg (by simp)]
  have l2 : iter (fun (a : Int) => ref_EditError_L2 e a) 0 = some (outOf (mergeErr e.Merge)) := by
    refine iter_find (f := fun (a : Int) => ref_EditError_L2 e a) (n := e.Merge.length) (mergeG e.Merge) (fun k hk => ?_) ?_
    · unfold ref_EditError_L2 mergeG
      rw [if_pos (by simpa using hk), idx_nat hk, bnd1_some, lies_eq _ _ _ okRC_max, bnd1_some]
      by_cases hi : insR 2147483647 2147483647 e.Merge[k]!
      · rw [if_neg (show ¬ (!decide (insR 2147483647 2147483647 e.Merge[k]!)) = true by rw [decide_eq_true hi]; decide), if_neg (show ¬ ¬ insR 2147483647 2147483647 e.Merge[k]! from fun h => h hi)]
        by_cases h1 : e.Merge[k]!.H = 1 ∧ e.Merge[k]!.W = 1
        · rw [if_pos (show ((decide (e.Merge[k]!.H = 1)) && (decide (e.Merge[k]!.W = 1))) = true by rw [decide_eq_true h1.1, decide_eq_true h1.2]; rfl), if_pos h1]; rfl
        · rw [if_neg (show ¬ ((decide (e.Merge[k]!.H = 1)) && (decide (e.Merge[k]!.W = 1))) = true by rw [Bool.and_eq_true, decide_eq_true_eq, decide_eq_true_eq]; exact h1), if_neg h1, chk_nat (by omega), bnd1_some]; rfl
      · rw [if_pos (by rw [decide_eq_false hi]; rfl), if_pos hi]; rfl
    · show ref_EditError_L2 e (e.Merge.length : Int) = _
      unfold ref_EditError_L2
      rw [if_neg (by simp)]
  unfold ref_EditError editErr
  rw [ref_AxisError_eq _ (by omega), bnd1_some]
  by_cases hr : axErr e.Rows = 0
  · rw [if_neg (ndF hr), if_neg (show ¬ (axErr e.Rows ≠ 0) by simpa using hr), ref_AxisError_eq _ (by omega), bnd1_some]
    by_cases hc : axErr e.Cols = 0
    · rw [if_neg (ndF hc), if_neg (show ¬ (axErr e.Cols ≠ 0) by simpa using hc), ref_CellsError_eq _ _ _ _ (by omega) h.oc (by decide) (by decide), bnd1_some]
      by_cases hz : cellsErr 2147483647 2147483647 true e.Cells = 0
      · rw [if_neg (ndF hz), if_neg (show ¬ (cellsErr 2147483647 2147483647 true e.Cells ≠ 0) by simpa using hz), l1, ctl_outOf]
        unfold rectsErr
        cases splitErr e.Split with
        | some r => rfl
        | none =>
          dsimp only
          rw [l2, ctl_outOf]
          cases mergeErr e.Merge <;> rfl
      · rw [if_pos (ndT hz), if_pos hz]
    · rw [if_pos (ndT hc), if_pos hc]
  · rw [if_pos (ndT hr), if_pos hr]
def g0 : GGrid := GGrid.mk 2 1 [(GCell.mk 1 0 [120] 0 [])] []
def e0 : GGridEdit := GGridEdit.mk [(GAxisStep.mk 1 1), (GAxisStep.mk 0 2)] [] [] [] []
theorem g0_ok : okGd g0 := ⟨by decide, by decide, fun c hc => by
  have : c = GCell.mk 1 0 [120] 0 [] := by simpa [g0] using hc
  subst this
  exact ⟨okA_nil, by decide⟩⟩
theorem e0_ok : okEd e0 := ⟨by decide, by decide, by decide, by decide, by decide, fun c hc => by cases hc⟩
theorem size_rows : grid_size 2 e0.Rows = some (3, true) := by
  have h1 : axErr e0.Rows = 0 := by decide
  have h2 : oldLen e0.Rows = 2 ∧ nowLen e0.Rows = 3 := by decide
  unfold grid_size
  rw [if_neg (by decide), axis_Lengths_eq _ (by decide), if_neg (by rw [h1]; simp), bnd3_some, h2.1, h2.2]; rfl
theorem size_cols : grid_size 1 e0.Cols = some (1, true) := by
  unfold grid_size
  rw [if_pos (by decide)]
theorem fits0 : grid_fits g0 e0 = some (3, 1, 0) := by
  have hg : gridErr g0 = 0 := by decide +kernel
  have he : editErr e0 = 0 := by decide +kernel
  have s1 : grid_fits_L1 e0 3 1 0 = some (.inr (.nrm ())) := by
    unfold grid_fits_L1; rw [if_neg (by decide)]
  have t0 : grid_fits_L3 3 1 ([] : List GRect) 0 = some (.inr (.nrm ())) := by
    unfold grid_fits_L3; rw [if_neg (by decide)]
  have t1 : grid_fits_L2 e0 3 1 0 = some (.inl 1) := by
    unfold grid_fits_L2
    rw [if_pos (by decide), show idx ([e0.Split, e0.Merge] : List (List GRect)) 0 = some [] from rfl, bnd1_some, iter_stop (f := fun (a : Int) => grid_fits_L3 3 1 ([] : List GRect) a) t0, ctl1_nrm, chk64 (by decide) (by decide), bnd1_some]; rfl
  have t2 : grid_fits_L2 e0 3 1 1 = some (.inl 2) := by
    unfold grid_fits_L2
    rw [if_pos (by decide), show idx ([e0.Split, e0.Merge] : List (List GRect)) 1 = some [] from rfl, bnd1_some, iter_stop (f := fun (a : Int) => grid_fits_L3 3 1 ([] : List GRect) a) t0, ctl1_nrm, chk64 (by decide) (by decide), bnd1_some]; rfl
  have t3 : grid_fits_L2 e0 3 1 2 = some (.inr (.nrm ())) := by
    unfold grid_fits_L2; rw [if_neg (by decide)]
  unfold grid_fits
  rw [grid_Check_eq _ g0_ok, bnd1_some, if_neg (ndF hg), grid_CheckEdit_eq _ e0_ok, bnd1_some, if_neg (ndF he)]
  show bnd2 (grid_size 2 e0.Rows) _ = _
  rw [size_rows, bnd2_some]
  show bnd2 (grid_size 1 e0.Cols) _ = _
  rw [size_cols, bnd2_some, if_neg (by decide), iter_stop (f := fun (a : Int) => grid_fits_L1 e0 3 1 a) s1, ctl1_nrm, iter_next (f := fun (a : Int) => grid_fits_L2 e0 3 1 a) t1, iter_next (f := fun (a : Int) => grid_fits_L2 e0 3 1 a) t2, iter_stop (f := fun (a : Int) => grid_fits_L2 e0 3 1 a) t3, ctl1_nrm]
def c1' : GCell := GCell.mk 1 0 [120] 0 []
def c2' : GCell := GCell.mk 2 0 [120] 0 []
theorem moved0 : grid_Moved [c1'] e0.Rows e0.Cols = some [c2'] := by
  have ha : axis_Apply e0.Rows [1] = some ([2], 0) := by
    have h1 : axErr e0.Rows = 0 := by decide
    have h2 : apo e0.Rows (oldLen e0.Rows) [1] [] = .nrm [2] := by rfl
    rw [axis_Apply_eq _ _ (by decide) (by decide), if_neg (by rw [h1]; simp), h2, ctl1_nrm]
  have hcl : grid_clone c1' = some c1' := rfl
  have s0 : grid_Moved_L1 [c1'] e0.Rows e0.Cols 0 [] = some (.inl (1, [c2'])) := by
    unfold grid_Moved_L1
    rw [if_pos (by decide), show idx [c1'] 0 = some c1' from rfl, bnd1_some, hcl, bnd1_some, if_pos (by decide)]
    show bnd1 (ctl1 (bnd2 (axis_Apply e0.Rows [1]) _) _) _ = _
    rw [ha, bnd2_some]
    rfl
  have s1 : grid_Moved_L1 [c1'] e0.Rows e0.Cols 1 [c2'] = some (.inr [c2']) := by
    unfold grid_Moved_L1
    rw [if_neg (by decide)]
  unfold grid_Moved
  rw [iter_next (f := fun (a : Int × (List GCell)) => grid_Moved_L1 [c1'] e0.Rows e0.Cols a.1 a.2) s0, iter_stop (f := fun (a : Int × (List GCell)) => grid_Moved_L1 [c1'] e0.Rows e0.Cols a.1 a.2) s1, bnd1_some]
theorem put0 : grid_put [c2'] [] = some [c2'] := by
  have s0 : grid_put_L1 [c2'] [] 0 0 [] = some (.inr (0, [])) := by
    unfold grid_put_L1; rw [if_neg (by decide)]
  unfold grid_put
  rw [iter_stop (f := fun (a : Int × Int × (List GCell)) => grid_put_L1 [c2'] [] a.1 a.2.1 a.2.2) s0, bnd2_some]
  rfl
theorem sort0 : slices_SortFunc_api_Rect_api_Rect__Raw_f2 [] = some () := by
  have s1 : slices_insertionSortCmpFunc_api_Rect__Raw_f2_L1 0 1 () = some (.inr (.ext ())) := by
    unfold slices_insertionSortCmpFunc_api_Rect__Raw_f2_L1; rw [if_neg (by decide)]
  have i1 : slices_insertionSortCmpFunc_api_Rect__Raw_f2 [] 0 0 = some () := by
    unfold slices_insertionSortCmpFunc_api_Rect__Raw_f2
    rw [chk64 (by decide) (by decide), bnd1_some]
    show ctl1 (iter (fun (a : Unit) => slices_insertionSortCmpFunc_api_Rect__Raw_f2_L1 0 1 a) ()) _ = _
    rw [iter_stop (f := fun (a : Unit) => slices_insertionSortCmpFunc_api_Rect__Raw_f2_L1 0 1 a) s1, ctl1_ext]
  have s2 : slices_pdqsortCmpFunc_api_Rect__Raw_f2_L1 [] 0 0 () = some (.inr (.ext ())) := by
    unfold slices_pdqsortCmpFunc_api_Rect__Raw_f2_L1
    rw [chk64 (by decide) (by decide), bnd1_some, if_pos (by decide), i1, bnd1_some]
  have s3 : ∀ l : Int, slices_pdqsortCmpFunc_api_Rect__Raw_f2 [] 0 0 l = some () := by
    intro l
    unfold slices_pdqsortCmpFunc_api_Rect__Raw_f2
    rw [iter_stop (f := fun (a : Unit) => slices_pdqsortCmpFunc_api_Rect__Raw_f2_L1 [] 0 0 a) s2, ctl1_ext]
  have hl : ∃ r, math_bits_Len 0 = some r := ⟨0, by
    unfold math_bits_Len math_bits_Len64
    rw [if_neg (by decide), bnd2_some, if_neg (by decide), bnd2_some, if_neg (by decide), bnd2_some]
    rfl⟩
  obtain ⟨r, hr⟩ := hl
  unfold slices_SortFunc_api_Rect_api_Rect__Raw_f2
  show bnd1 (math_bits_Len 0) _ = _
  rw [hr, bnd1_some]
  show bnd1 (slices_pdqsortCmpFunc_api_Rect__Raw_f2 [] 0 0 r) _ = _
  rw [s3, bnd1_some]
theorem raw0 : grid_Raw g0 e0 = some (GGrid.mk 3 1 [c2'] []) := by
  have s1 : grid_Raw_L1 g0 e0 0 (GGrid.mk 3 1 [c2'] []) = some (.inr (GGrid.mk 3 1 [c2'] [])) := by
    unfold grid_Raw_L1; rw [if_neg (by decide)]
  have s2 : grid_Raw_L2 e0 () = some (.inr ()) := by
    unfold grid_Raw_L2; rw [if_neg (by decide)]
  unfold grid_Raw
  show bnd2 (grid_size 2 e0.Rows) _ = _
  rw [size_rows, bnd2_some]
  show bnd2 (grid_size 1 e0.Cols) _ = _
  rw [size_cols, bnd2_some]
  show bnd1 (grid_Moved [c1'] e0.Rows e0.Cols) _ = _
  rw [moved0, bnd1_some]
  show bnd1 (grid_put [c2'] []) _ = _
  rw [put0, bnd1_some, iter_stop (f := fun (a : Int × GGrid) => grid_Raw_L1 g0 e0 a.1 a.2) s1, bnd1_some, iter_stop (f := fun (a : Unit) => grid_Raw_L2 e0 a) s2, bnd1_some]
  show bnd1 (slices_SortFunc_api_Rect_api_Rect__Raw_f2 []) _ = _
  rw [sort0, bnd1_some]
theorem law_grids_eq : law_grids = some true := by
  unfold law_grids
  show bnd2 (grid_Apply g0 e0) _ = _
  unfold grid_Apply
  rw [fits0, bnd3_some, if_neg (by decide), raw0, bnd1_some, bnd2_some]
  rfl
end Go.Proofs.YtfkolgjapajekaaDoor.Al


namespace Go.Proofs.YtfkolgjapajekaaDoor.Al
theorem wrapu64 {n : Nat} (h : n < 18446744073709551616) : IntKind.u64.wrap (n : Int) = (n : Int) := by
  have e : (n : Int) % (2 ^ (64 : Nat) : Int) = (n : Int) := Int.emod_eq_of_lt (by omega) (by omega)
  show (if (false && decide ((n : Int) % (2 ^ (64 : Nat) : Int) ≥ (2 ^ (63 : Nat) : Int))) = true then (n : Int) % (2 ^ (64 : Nat) : Int) - (2 ^ (64 : Nat) : Int) else (n : Int) % (2 ^ (64 : Nat) : Int)) = _
  rw [e, if_neg (by simp)]
theorem half_eq (n : Nat) (h : n < 9223372036854775808) : IntKind.i64.wrap (shrC .u64 (IntKind.u64.wrap (n : Int)) 1) = ((n / 2 : Nat) : Int) := by
  rw [wrapu64 (by omega)]
  have : shrC .u64 (n : Int) 1 = ((n / 2 : Nat) : Int) := by
    show ((n : Int)).fdiv (2 ^ (min 1 64)) = _
    rw [show (2 : Int) ^ (min 1 64) = 2 from rfl, Int.fdiv_eq_ediv_of_nonneg _ (by decide)]
    omega
  rw [this, wrap64 (by omega)]
def cmpC (c t : GCell) : Int := ord2 c.Row t.Row c.Col t.Col
theorem cmpC_lt (c t : GCell) : cmpC c t < 0 ↔ (c.Row < t.Row ∨ (c.Row = t.Row ∧ c.Col < t.Col)) := by
  have := ord2_ge c.Row t.Row c.Col t.Col
  unfold cmpC
  omega
theorem cmpC_zero (c t : GCell) : cmpC c t = 0 ↔ (c.Row = t.Row ∧ c.Col = t.Col) := by
  unfold cmpC ord2
  constructor
  · intro h
    split at h
    · cases h
    · split at h
      · cases h
      · split at h
        · cases h
        · split at h
          · cases h
          · omega
  · rintro ⟨h1, h2⟩
    rw [if_neg (by omega), if_neg (by omega), if_neg (by omega), if_neg (by omega)]
def SrtC (l : List GCell) : Prop := ∀ k, k + 1 < l.length → cmpC l[k]! l[k + 1]! < 0
theorem cmpC_trans {a b c : GCell} (h1 : cmpC a b < 0) (h2 : cmpC b c < 0) : cmpC a c < 0 := by
  rw [cmpC_lt] at *
  omega
theorem srtC_lt {l : List GCell} (h : SrtC l) : ∀ (d i : Nat), i + d + 1 < l.length → cmpC l[i]! l[i + d + 1]! < 0
  | 0, i, hi => h i hi
  | d + 1, i, hi => cmpC_trans (srtC_lt h d i (by omega)) (h (i + d + 1) hi)
theorem srtC_at {l : List GCell} (h : SrtC l) {i j : Nat} (hij : i < j) (hj : j < l.length) : cmpC l[i]! l[j]! < 0 := by
  have := srtC_lt h (j - i - 1) i (by omega)
  rwa [show i + (j - i - 1) + 1 = j by omega] at this
theorem search_loop (l : List GCell) (t : GCell) (hs : SrtC l) (hm : l.length ≤ 1048576) : ∀ (n i j : Nat), j - i = n → i ≤ j → j ≤ l.length → (∀ k, k < i → cmpC l[k]! t < 0) → (∀ k, j ≤ k → k < l.length → ¬ cmpC l[k]! t < 0) →
    ∃ m : Nat, iter (fun (a : Int × Int) => slices_BinarySearchFunc_api_Cell_api_Cell_api_Cell__order_L1 l t a.1 a.2) ((i : Int), (j : Int)) = some (m : Int) ∧ m ≤ l.length ∧ (∀ k, k < m → cmpC l[k]! t < 0) ∧ (∀ k, m ≤ k → k < l.length → ¬ cmpC l[k]! t < 0) := by
  intro n
  induction n using Nat.strongRecOn with
  | _ n ih =>
    intro i j hn hij hj h1 h2
    by_cases hlt : i < j
    · have hmid : (i + j) / 2 < l.length := by omega
      have hround : slices_BinarySearchFunc_api_Cell_api_Cell_api_Cell__order_L1 l t (i : Int) (j : Int) = if cmpC l[(i + j) / 2]! t < 0 then some (.inl ((((i + j) / 2 + 1 : Nat) : Int), (j : Int))) else some (.inl ((i : Int), (((i + j) / 2 : Nat) : Int))) := by
        unfold slices_BinarySearchFunc_api_Cell_api_Cell_api_Cell__order_L1
        rw [if_pos (by rw [decide_eq_true_eq]; omega), chk64 (by omega) (by omega), bnd1_some, show ((i : Int) + (j : Int)) = ((i + j : Nat) : Int) by omega, half_eq _ (by omega), idx_nat hmid, bnd1_some, grid_order_eq, bnd1_some]
        show (if decide (cmpC l[(i + j) / 2]! t < 0) = true then _ else _) = _
        by_cases hc : cmpC l[(i + j) / 2]! t < 0
        · rw [if_pos (decide_eq_true hc), if_pos hc, chk_nat (by omega), bnd1_some]
        · rw [if_neg (by rw [decide_eq_true_eq]; exact hc), if_neg hc]
      by_cases hc : cmpC l[(i + j) / 2]! t < 0
      · rw [if_pos hc] at hround
        rw [iter_next (f := fun (a : Int × Int) => slices_BinarySearchFunc_api_Cell_api_Cell_api_Cell__order_L1 l t a.1 a.2) hround]
        refine ih (j - ((i + j) / 2 + 1)) (by omega) _ _ rfl (by omega) hj (fun k hk => ?_) h2
        by_cases hk2 : k = (i + j) / 2
        · rw [hk2]; exact hc
        · exact cmpC_trans (srtC_at hs (show k < (i + j) / 2 by omega) hmid) hc
      · rw [if_neg hc] at hround
        rw [iter_next (f := fun (a : Int × Int) => slices_BinarySearchFunc_api_Cell_api_Cell_api_Cell__order_L1 l t a.1 a.2) hround]
        refine ih ((i + j) / 2 - i) (by omega) _ _ rfl (by omega) (by omega) h1 (fun k hk hkl => ?_)
        by_cases hk2 : k = (i + j) / 2
        · rw [hk2]; exact hc
        · intro hlt2
          exact hc (cmpC_trans (srtC_at hs (show (i + j) / 2 < k by omega) hkl) hlt2)
    · obtain rfl : i = j := by omega
      refine ⟨i, ?_, hj, h1, h2⟩
      refine iter_stop (f := fun (a : Int × Int) => slices_BinarySearchFunc_api_Cell_api_Cell_api_Cell__order_L1 l t a.1 a.2) ?_
      show slices_BinarySearchFunc_api_Cell_api_Cell_api_Cell__order_L1 l t (i : Int) (i : Int) = _
      unfold slices_BinarySearchFunc_api_Cell_api_Cell_api_Cell__order_L1
      rw [if_neg (by simp)]
def atC (l : List GCell) (row col : Int) : GCell := (l.find? fun c => decide (c.Row = row) && decide (c.Col = col)).getD (GCell.mk row col [] 0 [])
theorem find_none_at (l : List GCell) (row col : Int) (h : ∀ k, k < l.length → ¬ (l[k]!.Row = row ∧ l[k]!.Col = col)) : atC l row col = GCell.mk row col [] 0 [] := by
  have : (l.find? fun c => decide (c.Row = row) && decide (c.Col = col)) = none := by
    rw [List.find?_eq_none]
    intro c hc
    obtain ⟨k, hk, rfl⟩ := List.mem_iff_getElem.1 hc
    have := h k hk
    rw [getElem!_pos l k hk] at this
    simpa using this
  unfold atC
  rw [this]; rfl
theorem find_some_at {l : List GCell} (hs : SrtC l) {row col : Int} {m : Nat} (hm : m < l.length) (h : l[m]!.Row = row ∧ l[m]!.Col = col) : atC l row col = l[m]! := by
  have hu : ∀ k, k < l.length → (l[k]!.Row = row ∧ l[k]!.Col = col) → k = m := by
    intro k hk hkr
    apply Classical.byContradiction
    intro hne
    rcases Nat.lt_or_gt_of_ne hne with hlt | hgt
    · have := srtC_at hs hlt hm
      rw [cmpC_lt] at this
      omega
    · have := srtC_at hs hgt hk
      rw [cmpC_lt] at this
      omega
  have hx : ∃ c, (l.find? fun c => decide (c.Row = row) && decide (c.Col = col)) = some c := by
    cases hf : l.find? fun c => decide (c.Row = row) && decide (c.Col = col) with
    | some c => exact ⟨c, rfl⟩
    | none =>
      rw [List.find?_eq_none] at hf
      have := hf l[m]! (mem_at hm)
      rw [h.1, h.2] at this
      simp at this
  obtain ⟨c, hc⟩ := hx
  have h1 := List.find?_some hc
  have h2 := List.mem_of_find?_eq_some hc
  obtain ⟨k, hk, hkc⟩ := List.mem_iff_getElem.1 h2
  have h3 : l[k]! = c := by rw [getElem!_pos l k hk, hkc]
  simp only [Bool.and_eq_true, decide_eq_true_eq] at h1
  have := hu k hk (by rw [h3]; exact h1)
  unfold atC
  rw [hc, ← this, h3]; rfl
theorem grid_At_eq (g : GGrid) (row col : Int) (hs : SrtC g.Cells) (hm : g.Cells.length ≤ 1048576) (hc : ∀ c ∈ g.Cells, okC c) : grid_At g row col = some (atC g.Cells row col) := by
  obtain ⟨m, m1, m2, m3, m4⟩ := search_loop g.Cells (GCell.mk row col [] 0 []) hs hm _ 0 g.Cells.length rfl (Nat.zero_le _) (Nat.le_refl _) (fun k hk => absurd hk (Nat.not_lt_zero k)) (fun k h1 h2 => absurd h2 (by omega))
  unfold grid_At grid_find slices_BinarySearchFunc_api_Cell_api_Cell_api_Cell__order
  rw [show (((0 : Int), (g.Cells.length : Int))) = (((0 : Nat) : Int), (g.Cells.length : Int)) from rfl, m1, bnd1_some]
  by_cases hml : m < g.Cells.length
  · rw [decide_eq_true (show (m : Int) < (g.Cells.length : Int) by omega)]
    simp only [beq_self_eq_true, gd_true, Bool.true_and]
    rw [idx_nat hml, bnd1_some, grid_order_eq, bnd1_some, bnd2_some, bnd2_some]
    show (if (!decide (cmpC g.Cells[m]! (GCell.mk row col [] 0 []) = 0)) = true then _ else _) = _
    by_cases h0 : cmpC g.Cells[m]! (GCell.mk row col [] 0 []) = 0
    · rw [if_neg (ndF h0)]
      rw [cmpC_zero] at h0
      unfold grid_clone
      rw [idx_nat hml, bnd1_some, app32 (hc _ (mem_at hml)).1.1, bnd1_some, bnd1_some, find_some_at hs hml h0]
    · rw [if_pos (ndT h0), find_none_at]
      intro k hk hkr
      have e0 : cmpC g.Cells[k]! (GCell.mk row col [] 0 []) = 0 := (cmpC_zero _ _).2 hkr
      by_cases h1 : k < m
      · have := m3 k h1; omega
      · by_cases h2 : k = m
        · rw [h2] at e0; exact h0 e0
        · have h3 := srtC_at hs (show m < k by omega) hk
          have h4 := m4 m (Nat.le_refl _) hml
          rw [cmpC_lt] at h3
          have h5 : ¬ (g.Cells[m]!.Row < row ∨ (g.Cells[m]!.Row = row ∧ g.Cells[m]!.Col < col)) := fun q => h4 ((cmpC_lt g.Cells[m]! (GCell.mk row col [] 0 [])).2 q)
          have h6 : ¬ (g.Cells[m]!.Row = row ∧ g.Cells[m]!.Col = col) := fun q => h0 ((cmpC_zero g.Cells[m]! (GCell.mk row col [] 0 [])).2 q)
          omega
  · rw [decide_eq_false (show ¬ (m : Int) < (g.Cells.length : Int) by omega)]
    simp only [show (false == true) = false from rfl, gd_false, bnd1_some, bnd2_some, Bool.false_and]
    rw [if_pos (by rfl), find_none_at]
    intro k hk hkr
    have e0 : cmpC g.Cells[k]! (GCell.mk row col [] 0 []) = 0 := (cmpC_zero _ _).2 hkr
    have := m3 k (by omega)
    omega
theorem want_eq (g : GGrid) (row col : Int) (hs : SrtC g.Cells) (hm : g.Cells.length ≤ 1048576) : iter (fun (a : Int × GCell) => law_GridCheckSays_L1 g row col a.1 a.2) (0, (GCell.mk row col [] 0 [])) = some (atC g.Cells row col) := by
  have key : ∃ r, iter (fun (a : Int × GCell) => law_GridCheckSays_L1 g row col a.1 a.2) (0, (GCell.mk row col [] 0 [])) = some r ∧ r = atC g.Cells row col := by
    refine iter_hoare g.Cells.length (fun k st => st.1 = (k : Int) ∧ ((st.2 = GCell.mk row col [] 0 [] ∧ ∀ j, j < k → ¬ (g.Cells[j]!.Row = row ∧ g.Cells[j]!.Col = col)) ∨ ∃ j, j < k ∧ (g.Cells[j]!.Row = row ∧ g.Cells[j]!.Col = col) ∧ st.2 = g.Cells[j]!)) _ ?_ ?_ ⟨rfl, .inl ⟨rfl, fun j hj => absurd hj (Nat.not_lt_zero j)⟩⟩
    · rintro k ⟨x, w⟩ hk ⟨rfl, hw⟩
      dsimp only at hw ⊢
      left
      unfold law_GridCheckSays_L1
      rw [if_pos (by simpa using hk), idx_nat hk, bnd1_some]
      by_cases h : g.Cells[k]!.Row = row ∧ g.Cells[k]!.Col = col
      · rw [if_pos (by rw [decide_eq_true h.1, decide_eq_true h.2]; rfl), bnd1_some, chk_nat (by omega), bnd1_some]
        exact ⟨_, rfl, rfl, .inr ⟨k, by omega, h, rfl⟩⟩
      · rw [if_neg (by rw [Bool.and_eq_true, decide_eq_true_eq, decide_eq_true_eq]; exact h), bnd1_some, chk_nat (by omega), bnd1_some]
        refine ⟨_, rfl, rfl, ?_⟩
        rcases hw with ⟨h1, h2⟩ | ⟨j, h1, h2, h3⟩
        · left
          refine ⟨h1, fun j hj => ?_⟩
          by_cases hjk : j = k
          · rw [hjk]; exact h
          · exact h2 j (by omega)
        · exact .inr ⟨j, by omega, h2, h3⟩
    · rintro ⟨x, w⟩ ⟨rfl, hw⟩
      dsimp only at hw ⊢
      unfold law_GridCheckSays_L1
      rw [if_neg (by simp)]
      refine ⟨_, rfl, ?_⟩
      rcases hw with ⟨h1, h2⟩ | ⟨j, h1, h2, h3⟩
      · rw [h1, find_none_at _ _ _ h2]
      · rw [h3, find_some_at hs h1 h2]
  obtain ⟨r, h1, h2⟩ := key
  rw [h1, h2]
def coverR (r : GRect) (row col : Int) : Bool := decide (r.Row ≤ row ∧ row < r.Row + r.H ∧ r.Col ≤ col ∧ col < r.Col + r.W)
def coverG (l : List GRect) (row col : Int) (k : Nat) : Option GRect := if coverR l[k]! row col = true then some l[k]! else none
theorem cover_both (g : GGrid) (row col : Int) (hR : okRC g.Rows g.Cols) (hi : ∀ k, k < g.Merges.length → insR g.Rows g.Cols g.Merges[k]!) (hm : g.Merges.length ≤ 1048576) (hr : row ≤ 9223372036854775807) (hc : col ≤ 9223372036854775807) :
    ∃ o : Option GRect, iter (fun (a : Int) => grid_Cover_L1 g row col a) 0 = some (outOf o) ∧ iter (fun (a : Int) => ref_Cover_L1 g row col a) 0 = some (outOf o) := by
  refine ⟨(List.range g.Merges.length).findSome? (coverG g.Merges row col), ?_, ?_⟩
  · refine iter_find (f := fun (a : Int) => grid_Cover_L1 g row col a) (n := g.Merges.length) (coverG g.Merges row col) (fun k hk => ?_) ?_
    · obtain ⟨i1, i2, i3, i4, i5, i6, i7, i8⟩ := hi k hk
      unfold grid_Cover_L1 coverG coverR
      rw [if_pos (by simpa using hk), idx_nat hk, bnd1_some]
      generalize g.Merges[k]! = r at i1 i2 i3 i4 i5 i6 i7 i8
      obtain ⟨R1, R2, R3, R4⟩ := hR
      by_cases h1 : r.Row ≤ row
      · rw [decide_eq_true h1]
        simp only [beq_self_eq_true, gd_true, Bool.true_and]
        rw [chk64 (by omega) (by omega), bnd1_some]
        by_cases h2 : row - r.Row < r.H ∧ r.Col ≤ col
        · rw [decide_eq_true h2.1, decide_eq_true h2.2]
          simp only [Bool.and_self, beq_self_eq_true, gd_true, Bool.true_and]
          rw [chk64 (by omega) (by omega), bnd1_some]
          by_cases h3 : col - r.Col < r.W
          · rw [if_pos (decide_eq_true h3), if_pos (by rw [decide_eq_true_eq]; omega)]; rfl
          · rw [if_neg (by rw [decide_eq_true_eq]; exact h3), if_neg (by rw [decide_eq_true_eq]; omega), chk_nat (by omega), bnd1_some]; rfl
        · have e : (decide (row - r.Row < r.H) && decide (r.Col ≤ col)) = false := by
            rw [← Bool.not_eq_true, Bool.and_eq_true, decide_eq_true_eq, decide_eq_true_eq]; exact h2
          rw [e]
          simp only [show (false == true) = false from rfl, gd_false, bnd1_some, Bool.false_and]
          rw [if_neg (by decide), if_neg (by rw [decide_eq_true_eq]; omega), chk_nat (by omega), bnd1_some]; rfl
      · rw [decide_eq_false h1]
        simp only [show (false == true) = false from rfl, gd_false, bnd1_some, Bool.false_and]
        rw [if_neg (by decide), if_neg (by rw [decide_eq_true_eq]; omega), chk_nat (by omega), bnd1_some]; rfl
    · show grid_Cover_L1 g row col (g.Merges.length : Int) = _
      unfold grid_Cover_L1
      rw [if_neg (by simp)]
  · refine iter_find (f := fun (a : Int) => ref_Cover_L1 g row col a) (n := g.Merges.length) (coverG g.Merges row col) (fun k hk => ?_) ?_
    · obtain ⟨i1, i2, i3, i4, i5, i6, i7, i8⟩ := hi k hk
      unfold ref_Cover_L1 coverG coverR
      rw [if_pos (by simpa using hk), idx_nat hk, bnd1_some]
      generalize g.Merges[k]! = r at i1 i2 i3 i4 i5 i6 i7 i8
      obtain ⟨R1, R2, R3, R4⟩ := hR
      rw [chk64 (by omega) (by omega), bnd1_some, chk64 (by omega) (by omega), bnd1_some, ref_In_dec, bnd1_some]
      by_cases h1 : r.Row ≤ row ∧ row ≤ r.Row + r.H - 1
      · rw [decide_eq_true h1]
        simp only [beq_self_eq_true, gd_true, Bool.true_and]
        rw [chk64 (by omega) (by omega), bnd1_some, chk64 (by omega) (by omega), bnd1_some, ref_In_dec, bnd1_some]
        by_cases h2 : r.Col ≤ col ∧ col ≤ r.Col + r.W - 1
        · rw [if_pos (decide_eq_true h2), if_pos (by rw [decide_eq_true_eq]; omega)]; rfl
        · rw [if_neg (by rw [decide_eq_true_eq]; exact h2), if_neg (by rw [decide_eq_true_eq]; omega), chk_nat (by omega), bnd1_some]; rfl
      · rw [decide_eq_false h1]
        simp only [show (false == true) = false from rfl, gd_false, bnd1_some, Bool.false_and]
        rw [if_neg (by decide), if_neg (by rw [decide_eq_true_eq]; omega), chk_nat (by omega), bnd1_some]; rfl
    · show ref_Cover_L1 g row col (g.Merges.length : Int) = _
      unfold ref_Cover_L1
      rw [if_neg (by simp)]
theorem findSome_noneD {l : Nat} {G : Nat → Option Int} (h : ((List.range l).findSome? G).getD 0 = 0) (hn : ∀ k, k < l → G k ≠ some 0) : ∀ k, k < l → G k = none := by
  intro k hk
  cases hf : (List.range l).findSome? G with
  | none =>
    rw [List.findSome?_eq_none_iff] at hf
    exact hf k (List.mem_range.2 hk)
  | some v =>
    rw [hf] at h
    obtain ⟨j, hj, hjv⟩ := List.exists_of_findSome?_eq_some hf
    have h0 : v = 0 := h
    rw [h0] at hjv
    exact absurd hjv (hn j (List.mem_range.1 hj))
theorem gridErr_good {g : GGrid} (h : gridErr g = 0) : okRC g.Rows g.Cols ∧ SrtC g.Cells ∧ ∀ k, k < g.Merges.length → insR g.Rows g.Cols g.Merges[k]! := by
  unfold gridErr at h
  by_cases h1 : okRC g.Rows g.Cols
  · rw [if_neg (by simpa using h1)] at h
    by_cases h2 : cellsErr g.Rows g.Cols false g.Cells = 0
    · rw [if_neg (by simpa using h2)] at h
      refine ⟨h1, fun k hk => ?_, fun k hk => ?_⟩
      · have := findSome_noneD h2 (fun k _ he => by
          unfold errC at he
          split at he
          · rename_i hne
            injection he with he
            exact hne he
          · split at he
            · cases he
            · cases he) (k + 1) (by omega)
        unfold errC at this
        split at this
        · cases this
        · split at this
          · cases this
          · rename_i hq
            rw [Nat.add_sub_cancel] at hq
            show ord2 _ _ _ _ < 0
            have := fun h => hq ⟨by omega, h⟩
            omega
      · have := findSome_noneD h (fun k _ he => by
          unfold errM at he
          split at he
          · cases he
          · split at he
            · cases he
            · split at he
              · cases he
              · split at he
                · cases he
                · cases he) k hk
        exact errM_ins this
    · rw [if_pos h2] at h; exact absurd h h2
  · rw [if_pos h1] at h; cases h
theorem law_GridCheck_true (g : GGrid) (e : GGridEdit) (row col : Int) (hg : okGd g) (he : okEd e) (hr : row ≤ 9223372036854775807) (hc : col ≤ 9223372036854775807) : law_GridCheckSays g e row col = some true := by
  unfold law_GridCheckSays
  rw [law_grids_eq, bnd1_some]
  simp only [Bool.not_true, show (false == false) = true from rfl, gd_true, Bool.false_or]
  rw [grid_Check_eq g hg, bnd1_some, ref_GridError_eq g hg, bnd1_some]
  have e1 : (!decide (gridErr g = gridErr g)) = false := by simp
  rw [e1]
  simp only [show (false == false) = true from rfl, gd_true, Bool.false_or]
  rw [grid_CheckEdit_eq e he, bnd1_some, ref_EditError_eq e he, bnd1_some, if_neg (by simp), bnd1_some]
  by_cases h0 : gridErr g = 0
  · rw [if_neg (ndF h0)]
    obtain ⟨h1, h2, h3⟩ := gridErr_good h0
    obtain ⟨o, o1, o2⟩ := cover_both g row col h1 h3 hg.2.1 hr hc
    have hcov : grid_Cover g row col = ref_Cover g row col := by
      unfold grid_Cover ref_Cover
      rw [o1, o2]
    have hsome : ∃ q, grid_Cover g row col = some q := by
      unfold grid_Cover
      rw [o1, ctl_outOf]
      cases o with
      | none => exact ⟨_, rfl⟩
      | some q => exact ⟨q, rfl⟩
    obtain ⟨q, hq⟩ := hsome
    have hal : (atC g.Cells row col).Attrs.length ≤ 1073741824 := by
      unfold atC
      cases hf : g.Cells.find? fun c => decide (c.Row = row) && decide (c.Col = col) with
      | none => exact Nat.zero_le _
      | some c => exact (hg.2.2 c (List.mem_of_find?_eq_some hf)).1.1
    rw [want_eq g row col h2 hg.1, bnd1_some, grid_At_eq g row col h2 hg.1 hg.2.2, bnd1_some, ref_cell_eq _ _ hal, bnd1_some, decide_eq_true rfl]
    simp only [show (true == true) = true from rfl, gd_true, if_true]
    rw [hq, bnd1_some, ← hcov, hq, bnd1_some, bnd1_some]
    simp
  · rw [if_pos (ndT h0)]
end Go.Proofs.YtfkolgjapajekaaDoor.Al


namespace Go.Proofs.YtfkolgjapajekaaDoor.Al
theorem okGd_bulk {γ : GGrid → Nat} {ψ : GCell → Nat} {ρ : GRect → Nat} {κ : GAttr → Nat}
    (hg : ∀ g, (g.Cells.map ψ).sum + (g.Merges.map ρ).sum + 1 ≤ γ g) (hc : ∀ c, c.Text.length + (c.Attrs.map κ).sum + 1 ≤ ψ c) (hr : ∀ r, 1 ≤ ρ r) (ha : ∀ a, a.Name.length + a.Value.length + 1 ≤ κ a)
    {g : GGrid} (hb : γ g ≤ 1048576) : okGd g := by
  have h4 := hg g
  have h6 := len_le_sum (μ := ψ) (fun c => by have := hc c; omega) g.Cells
  have h7 := len_le_sum (μ := ρ) hr g.Merges
  refine ⟨by omega, by omega, fun c hcm => ?_⟩
  have h9 := mem_le_sum (μ := ψ) hcm
  have := hc c
  exact ⟨okA_bulk ha (by omega), by omega⟩
theorem okEd_bulk {η : GGridEdit → Nat} {σ : GAxisStep → Nat} {ψ : GCell → Nat} {ρ : GRect → Nat} {κ : GAttr → Nat}
    (hg : ∀ e, (e.Rows.map σ).sum + (e.Cols.map σ).sum + (e.Cells.map ψ).sum + (e.Split.map ρ).sum + (e.Merge.map ρ).sum + 1 ≤ η e) (hs : ∀ s, 1 ≤ σ s) (hc : ∀ c, c.Text.length + (c.Attrs.map κ).sum + 1 ≤ ψ c) (hr : ∀ r, 1 ≤ ρ r) (ha : ∀ a, a.Name.length + a.Value.length + 1 ≤ κ a)
    {e : GGridEdit} (hb : η e ≤ 1048576) : okEd e := by
  have h4 := hg e
  have h1 := len_le_sum (μ := σ) hs e.Rows
  have h2 := len_le_sum (μ := σ) hs e.Cols
  have h6 := len_le_sum (μ := ψ) (fun c => by have := hc c; omega) e.Cells
  have h7 := len_le_sum (μ := ρ) hr e.Split
  have h8 := len_le_sum (μ := ρ) hr e.Merge
  refine ⟨by omega, by omega, by omega, by omega, by omega, fun c hcm => ?_⟩
  have h9 := mem_le_sum (μ := ψ) hcm
  have := hc c
  exact ⟨okA_bulk ha (by omega), by omega⟩
end Go.Proofs.YtfkolgjapajekaaDoor.Al

