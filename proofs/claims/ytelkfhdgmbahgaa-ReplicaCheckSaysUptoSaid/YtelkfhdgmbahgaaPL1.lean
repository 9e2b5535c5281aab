/- Plain laws over the models, a part of them. -/
import Derived.Test.YtelkfhdgmbahgaaMod1
namespace Go.Proofs.Ytelkfhdgmbahgaa.Al
@[simp] theorem bnd1_some {a α : Type} (x : a) (f : a → Option α) : bnd1 (some x) f = f x := rfl
@[simp] theorem bnd2_some {a b α : Type} (x : a) (y : b) (f : a → b → Option α) : bnd2 (some (x, y)) f = f x y := rfl
@[simp] theorem bnd3_some {a b c α : Type} (x : a) (y : b) (z : c) (f : a → b → c → Option α) : bnd3 (some (x, y, z)) f = f x y z := rfl
@[simp] theorem bnd4_some {a b c d α : Type} (x : a) (y : b) (z : c) (u : d) (f : a → b → c → d → Option α) : bnd4 (some (x, y, z, u)) f = f x y z u := rfl
@[simp] theorem ctl1_nrm {a α : Type} (x : a) (f : a → Option α) : ctl1 (some (.nrm x)) f = f x := rfl
@[simp] theorem ctl1_ext {a α : Type} (t : α) (f : a → Option α) : ctl1 (some (.ext t)) f = some t := rfl
@[simp] theorem ctl2_nrm {a b α : Type} (x : a) (y : b) (f : a → b → Option α) : ctl2 (some (.nrm (x, y))) f = f x y := rfl
@[simp] theorem ctl2_ext {a b α : Type} (t : α) (f : a → b → Option α) : ctl2 (some (.ext t)) f = some t := rfl
@[simp] theorem ctl3_nrm {a b c α : Type} (x : a) (y : b) (z : c) (f : a → b → c → Option α) : ctl3 (some (.nrm (x, y, z))) f = f x y z := rfl
@[simp] theorem ctl3_ext {a b c α : Type} (t : α) (f : a → b → c → Option α) : ctl3 (some (.ext t)) f = some t := rfl
@[simp] theorem gd_true {α : Type} [Inhabited α] (m : Option α) : gd true m = m := rfl
@[simp] theorem gd_false {α : Type} [Inhabited α] (m : Option α) : gd false m = some default := rfl
theorem idx_nat {α : Type} [Inhabited α] {l : List α} {k : Nat} (h : k < l.length) : idx l (k : Int) = some l[k]! := by
  unfold idx
  rw [if_pos (Int.natCast_nonneg k), Int.toNat_natCast, List.getElem?_eq_getElem h, getElem!_pos l k h]
theorem chk_nat {k : Nat} (h : k < 9223372036854775807) : chk .i64 ((k : Int) + 1) = some (((k + 1 : Nat)) : Int) := by
  rw [chk64 (by omega) (by omega)]; rfl
theorem chk_pred {k : Nat} (h : 0 < k) (h2 : k ≤ 9223372036854775807) : chk .i64 ((k : Int) - 1) = some ((k - 1 : Nat) : Int) := by
  rw [chk64 (by omega) (by omega)]; congr 1; omega
def stepOf {ρ : Type} (k : Nat) : Option ρ → Option (Int ⊕ Ctl Unit ρ)
  | none => some (.inl ((k + 1 : Nat) : Int))
  | some r => some (.inr (.ext r))
def outOf {ρ : Type} : Option ρ → Ctl Unit ρ
  | none => .nrm ()
  | some r => .ext r
theorem iter_find {ρ : Type} {f : Int → Option (Int ⊕ Ctl Unit ρ)} {n : Nat} (g : Nat → Option ρ) (h1 : ∀ k : Nat, k < n → f k = stepOf k (g k))
    (h2 : f n = some (.inr (.nrm ()))) : iter f 0 = some (outOf ((List.range n).findSome? g)) := by
  have key : ∀ m k : Nat, k + m = n → iter f (k : Int) = some (outOf ((List.range' k m).findSome? g)) := by
    intro m
    induction m with
    | zero =>
      intro k hk
      obtain rfl : k = n := by omega
      rw [iter_stop h2]; rfl
    | succ m ih =>
      intro k hk
      rw [List.range'_succ, List.findSome?_cons]
      have := h1 k (by omega)
      cases hg : g k with
      | none => rw [hg] at this; rw [iter_next this, ih (k + 1) (by omega)]
      | some r => rw [hg] at this; rw [iter_stop this]; rfl
  rw [List.range_eq_range']
  exact key n 0 (by omega)
theorem findSome_congr {α ρ : Type} {l : List α} {g h : α → Option ρ} (e : ∀ x ∈ l, g x = h x) : l.findSome? g = l.findSome? h := by
  induction l with
  | nil => rfl
  | cons a l ih => rw [List.findSome?_cons, List.findSome?_cons, e a (List.mem_cons_self ..), ih fun x hx => e x (List.mem_cons_of_mem _ hx)]
theorem find_all {α ρ : Type} [Inhabited α] (l : List α) (p : α → Bool) (r : ρ) : (List.range l.length).findSome? (fun k => if p l[k]! then none else some r) = if l.all p then none else some r := by
  induction l with
  | nil => rfl
  | cons a l ih =>
    rw [List.length_cons, List.range_succ_eq_map, List.findSome?_cons, List.findSome?_map]
    have hr : (List.range l.length).findSome? ((fun k => if p (a :: l)[k]! = true then none else some r) ∘ Nat.succ) = if l.all p = true then none else some r := by
      rw [← ih]; exact findSome_congr fun k _ => by simp
    rw [hr]
    by_cases hp : p a = true
    · simp [hp]
    · simp [hp]
theorem ctl_outOf {ρ : Type} (o : Option ρ) (f : Unit → Option ρ) : ctl1 (some (outOf o)) f = match o with | none => f () | some r => some r := by cases o <;> rfl
end Go.Proofs.Ytelkfhdgmbahgaa.Al


namespace Go.Proofs.Ytelkfhdgmbahgaa.Al
theorem drop_at {α : Type} [Inhabited α] {l : List α} {k : Nat} (h : k < l.length) : l.drop k = l[k]! :: l.drop (k + 1) := by
  rw [List.drop_eq_getElem_cons h, getElem!_pos l k h]
theorem mem_at {α : Type} [Inhabited α] {l : List α} {k : Nat} (h : k < l.length) : l[k]! ∈ l := by
  rw [getElem!_pos l k h]; exact List.getElem_mem h
def oldN (s : GAxisStep) : Int := if s.Kind = 1 then 0 else s.N
def nowN (s : GAxisStep) : Int := if s.Kind = 2 then 0 else s.N
def oldLen (a : List GAxisStep) : Int := (a.map oldN).sum
def nowLen (a : List GAxisStep) : Int := (a.map nowN).sum
def Stp (s : GAxisStep) : Prop := 0 ≤ s.Kind ∧ s.Kind ≤ 2 ∧ 1 ≤ s.N ∧ s.N ≤ 2147483647
theorem ref_In_eq (x lo hi : Int) : ref_In x lo hi = some (decide (lo ≤ x) && decide (x ≤ hi)) := by
  unfold ref_In
  rfl
end Go.Proofs.Ytelkfhdgmbahgaa.Al


namespace Go.Proofs.Ytelkfhdgmbahgaa.Al
def chOK (c : UInt8) : Bool := (decide (97 ≤ c.toNat) && decide (c.toNat ≤ 122)) || (decide (48 ≤ c.toNat) && decide (c.toNat ≤ 57)) || decide (c.toNat = 46) || decide (c.toNat = 45)
def nameOK (s : List UInt8) : Bool := decide (1 ≤ s.length) && decide (s.length ≤ 24) && (decide (97 ≤ s[0]!.toNat) && decide (s[0]!.toNat ≤ 122)) && s.all chOK
def valCh (c : UInt8) : Bool := decide (32 ≤ c.toNat) && decide (c.toNat ≤ 126)
def valOK (s : List UInt8) : Bool := decide (1 ≤ s.length) && decide (s.length ≤ 200) && s.all valCh
theorem attr_Name_step (s : List UInt8) (k : Nat) (hk : k < s.length) (hm : s.length ≤ 9223372036854775807) : attr_Name_L1 s k = stepOf k (if chOK s[k]! then none else some false) := by
  unfold attr_Name_L1
  rw [if_pos (by simpa using hk), idx_nat hk, bnd1_some, chk_nat (by omega)]
  generalize s[k]! = c
  have e : (((((decide ((c.toNat : Int) < 97)) || (decide (122 < (c.toNat : Int)))) && ((decide ((c.toNat : Int) < 48)) || (decide (57 < (c.toNat : Int))))) && (!decide ((c.toNat : Int) = 46))) && (!decide ((c.toNat : Int) = 45))) = !chOK c := by
    unfold chOK
    rw [Bool.eq_iff_iff]
    simp only [Bool.or_eq_true, Bool.and_eq_true, decide_eq_true_eq, Bool.not_eq_true', decide_eq_false_iff_not, Bool.or_eq_false_iff, Bool.and_eq_false_imp]
    omega
  rw [e]
  cases chOK c <;> rfl
theorem attr_Name_eq (s : List UInt8) (hm : s.length ≤ 9223372036854775807) : attr_Name s = some (nameOK s) := by
  unfold attr_Name
  rw [iter_find (n := s.length) (fun k => if chOK s[k]! then none else some false) (fun k hk => attr_Name_step s k hk hm) (by unfold attr_Name_L1; rw [if_neg (by simp)]), find_all]
  unfold nameOK
  cases s with
  | nil => simp
  | cons c t =>
    have h0 : idx (c :: t) 0 = some c := rfl
    rw [h0]
    simp only [List.getElem!_cons_zero, decide_eq_false (List.cons_ne_nil c t), Bool.false_or]
    generalize (c :: t).all chOK = al
    generalize hl : (c :: t).length = L
    have hL : 1 ≤ L := by rw [← hl]; simp
    by_cases h1 : 24 < (L : Int)
    · have e1 : decide (L ≤ 24) = false := by simp; omega
      simp [h1, e1]
    · rw [decide_eq_false h1]
      simp only [Bool.false_or, beq_self_eq_true, gd_true, bnd1_some]
      have e1 : decide (L ≤ 24) = true := by simp; omega
      have e2 : decide (1 ≤ L) = true := by simp; omega
      rw [e1, e2]
      by_cases h2 : (c.toNat : Int) < 97
      · have e3 : decide (97 ≤ c.toNat) = false := by simp; omega
        simp [h2, e3]
      · rw [decide_eq_false h2]
        have e3 : decide (97 ≤ c.toNat) = true := by simp; omega
        simp only [beq_self_eq_true, gd_true, bnd1_some, Bool.false_or]
        by_cases h3 : 122 < (c.toNat : Int)
        · have e4 : decide (c.toNat ≤ 122) = false := by simp; omega
          simp [h3, e4]
        · have e4 : decide (c.toNat ≤ 122) = true := by simp; omega
          rw [if_neg (by simpa using h3), ctl_outOf, e3, e4]
          cases al <;> rfl
def refCh (k : Nat) (c : UInt8) : Bool := (decide (97 ≤ c.toNat) && decide (c.toNat ≤ 122)) || (decide (k ≠ 0) && chOK c)
theorem ref_Name_step (s : List UInt8) (k : Nat) (hk : k < s.length) (hm : s.length ≤ 9223372036854775807) :
    ref_Name_L1 s k = stepOf k (if refCh k s[k]! then none else some false) := by
  unfold ref_Name_L1
  rw [if_pos (by simpa using hk), idx_nat hk, bnd1_some, chk_nat (by omega)]
  generalize s[k]! = c
  have e : ((!((decide (97 ≤ (c.toNat : Int))) && (decide ((c.toNat : Int) ≤ 122)))) && ((decide ((k : Int) = 0)) || (((!decide ((c.toNat : Int) = 46)) && (!decide ((c.toNat : Int) = 45))) && ((decide ((c.toNat : Int) < 48)) || (decide (57 < (c.toNat : Int))))))) = !refCh k c := by
    unfold refCh chOK
    rw [Bool.eq_iff_iff]
    simp only [Bool.or_eq_true, Bool.and_eq_true, decide_eq_true_eq, Bool.not_eq_true', decide_eq_false_iff_not, Bool.or_eq_false_iff, Bool.and_eq_false_imp]
    omega
  rw [e]
  cases refCh k c <;> rfl
theorem findSome_none_iff {ρ : Type} (n : Nat) (g : Nat → Option ρ) : (List.range n).findSome? g = none ↔ ∀ k, k < n → g k = none := by
  rw [List.findSome?_eq_none_iff]; simp
theorem all_iff {α : Type} [Inhabited α] (l : List α) (p : α → Bool) : l.all p = true ↔ ∀ k, k < l.length → p l[k]! = true := by
  rw [List.all_eq_true]
  constructor
  · intro h k hk; rw [getElem!_pos l k hk]; exact h _ (List.getElem_mem hk)
  · intro h x hx
    obtain ⟨k, hk, rfl⟩ := List.mem_iff_getElem.1 hx
    rw [← getElem!_pos l k hk]; exact h k hk
theorem find_const {ρ : Type} (n : Nat) (p : Nat → Bool) (r : ρ) : (List.range n).findSome? (fun k => if p k then none else some r) = if (List.range n).all p then none else some r := by
  generalize List.range n = l
  induction l with
  | nil => rfl
  | cons a l ih => rw [List.findSome?_cons, List.all_cons, ]; by_cases h : p a = true <;> simp [h, ih]
theorem ref_Name_eq (s : List UInt8) (hm : s.length ≤ 9223372036854775807) : ref_Name s = some (nameOK s) := by
  unfold ref_Name
  rw [iter_find (n := s.length) (fun k => if refCh k s[k]! then none else some false) (fun k hk => ref_Name_step s k hk hm) (by unfold ref_Name_L1; rw [if_neg (by simp)]), find_const, ctl_outOf]
  have key : ((List.range s.length).all fun k => refCh k s[k]!) = (decide (s = []) || ((decide (97 ≤ s[0]!.toNat) && decide (s[0]!.toNat ≤ 122)) && s.all chOK)) := by
    rw [Bool.eq_iff_iff, List.all_eq_true]
    simp only [List.mem_range, Bool.or_eq_true, decide_eq_true_eq, Bool.and_eq_true, all_iff]
    constructor
    · intro h
      cases hs : s with
      | nil => exact .inl rfl
      | cons c t =>
        rw [← hs]
        have hl : 0 < s.length := by rw [hs]; simp
        have h0 := h 0 hl
        simp only [refCh, Bool.or_eq_true, Bool.and_eq_true, decide_eq_true_eq] at h0
        refine .inr ⟨by omega, fun k hk => ?_⟩
        have := h k hk
        simp only [refCh, chOK, Bool.or_eq_true, Bool.and_eq_true, decide_eq_true_eq] at this ⊢
        omega
    · rintro (rfl | ⟨h1, h2⟩) k hk
      · cases hk
      · have := h2 k hk
        by_cases hk0 : k = 0
        · subst hk0; simp only [refCh, Bool.or_eq_true, Bool.and_eq_true, decide_eq_true_eq]; omega
        · simp only [refCh, Bool.or_eq_true, Bool.and_eq_true, decide_eq_true_eq]; exact .inr ⟨hk0, this⟩
  rw [key]
  unfold nameOK
  cases s with
  | nil => rfl
  | cons c t =>
    rw [decide_eq_false (List.cons_ne_nil c t), Bool.false_or]
    generalize (c :: t).all chOK = al
    generalize (decide (97 ≤ (c :: t)[0]!.toNat) && decide ((c :: t)[0]!.toNat ≤ 122)) = fc
    have e1 : decide (1 ≤ ((c :: t).length : Int)) = decide (1 ≤ (c :: t).length) := by simp; omega
    have e2 : decide (((c :: t).length : Int) ≤ 24) = decide ((c :: t).length ≤ 24) := by simp; omega
    rw [e1, e2]
    cases fc <;> cases al <;> simp
theorem attr_Value_eq (s : List UInt8) (hm : s.length ≤ 9223372036854775807) : attr_Value s = some (valOK s) := by
  unfold attr_Value valOK
  rw [iter_find (n := s.length) (fun k => if valCh s[k]! then none else some false) (fun k hk => by
    unfold attr_Value_L1
    rw [if_pos (by simpa using hk), idx_nat hk, bnd1_some, chk_nat (by omega)]
    generalize s[k]! = c
    have e : ((decide ((c.toNat : Int) < 32)) || (decide (126 < (c.toNat : Int)))) = !valCh c := by
      unfold valCh
      rw [Bool.eq_iff_iff]
      simp only [Bool.or_eq_true, Bool.and_eq_true, decide_eq_true_eq, Bool.not_eq_true', decide_eq_false_iff_not, Bool.and_eq_false_imp]
      omega
    rw [e]
    cases valCh c <;> rfl) (by unfold attr_Value_L1; rw [if_neg (by simp)]), find_all, ctl_outOf]
  generalize s.all valCh = al
  cases s with
  | nil => simp
  | cons c t =>
    rw [decide_eq_false (List.cons_ne_nil c t), Bool.false_or]
    generalize hl : (c :: t).length = L
    have hL : 1 ≤ L := by rw [← hl]; simp
    by_cases h1 : 200 < (L : Int)
    · have e1 : decide (L ≤ 200) = false := by simp; omega
      simp [h1, e1]
    · have e1 : decide (L ≤ 200) = true := by simp; omega
      have e2 : decide (1 ≤ L) = true := by simp; omega
      rw [if_neg (by simpa using h1), e1, e2]
      cases al <;> rfl
theorem ref_Value_eq (s : List UInt8) (hm : s.length ≤ 9223372036854775807) : ref_Value s = some (valOK s) := by
  unfold ref_Value valOK
  rw [iter_find (n := s.length) (fun k => if valCh s[k]! then none else some false) (fun k hk => by
    unfold ref_Value_L1
    rw [if_pos (by simpa using hk), idx_nat hk, bnd1_some, chk_nat (by omega)]
    generalize s[k]! = c
    have e : ((decide ((c.toNat : Int) < 32)) || (decide (126 < (c.toNat : Int)))) = !valCh c := by
      unfold valCh
      rw [Bool.eq_iff_iff]
      simp only [Bool.or_eq_true, Bool.and_eq_true, decide_eq_true_eq, Bool.not_eq_true', decide_eq_false_iff_not, Bool.and_eq_false_imp]
      omega
    rw [e]
    cases valCh c <;> rfl) (by unfold ref_Value_L1; rw [if_neg (by simp)]), find_all, ctl_outOf]
  generalize s.all valCh = al
  have e1 : decide (1 ≤ (s.length : Int)) = decide (1 ≤ s.length) := by simp; omega
  have e2 : decide ((s.length : Int) ≤ 200) = decide (s.length ≤ 200) := by simp; omega
  rw [e1, e2]
  cases al <;> simp
def okStr (l : List GAttr) : Prop := ∀ a ∈ l, a.Name.length ≤ 9223372036854775807 ∧ a.Value.length ≤ 9223372036854775807
theorem okStr.at {l : List GAttr} (h : okStr l) {k : Nat} (hk : k < l.length) : l[k]!.Name.length ≤ 9223372036854775807 ∧ l[k]!.Value.length ≤ 9223372036854775807 := by
  rw [getElem!_pos l k hk]; exact h _ (List.getElem_mem hk)
theorem out_getD {o : Option Int} : (ctl1 (some (outOf o)) fun _ : Unit => some 0) = some (o.getD 0) := by cases o <;> rfl
end Go.Proofs.Ytelkfhdgmbahgaa.Al


namespace Go.Proofs.Ytelkfhdgmbahgaa.Al
structure GoodA (a : List GAxisStep) : Prop where
  stp : ∀ s ∈ a, Stp s
  olds : oldLen a ≤ 2147483647
  nows : nowLen a ≤ 2147483647
theorem oldLen_cons (s : GAxisStep) (a : List GAxisStep) : oldLen (s :: a) = oldN s + oldLen a := by simp [oldLen]
theorem nowLen_cons (s : GAxisStep) (a : List GAxisStep) : nowLen (s :: a) = nowN s + nowLen a := by simp [nowLen]
theorem GoodA.len {a : List GAxisStep} (h : GoodA a) : (a.length : Int) ≤ 4294967294 := by
  have key : ∀ l : List GAxisStep, (∀ s ∈ l, Stp s) → (l.length : Int) ≤ oldLen l + nowLen l := by
    intro l
    induction l with
    | nil => intro _; simp [oldLen, nowLen]
    | cons s l ih =>
      intro h
      have h1 := ih fun x hx => h x (List.mem_cons_of_mem _ hx)
      have h2 := h s (List.mem_cons_self ..)
      rw [oldLen_cons, nowLen_cons, List.length_cons]
      unfold oldN nowN
      unfold Stp at h2
      split <;> split <;> omega
  have h1 := key a h.stp
  have h2 := h.olds
  have h3 := h.nows
  omega
def Run (a : List GAxisStep) (k : Nat) (f t : Int) : Prop := 0 ≤ f ∧ f + oldLen (a.drop k) ≤ 2147483647 ∧ 0 ≤ t ∧ t + nowLen (a.drop k) ≤ 2147483647
theorem GoodA.run {a : List GAxisStep} (h : GoodA a) : Run a 0 0 0 := by
  have h2 := h.olds
  have h3 := h.nows
  unfold Run
  rw [List.drop_zero]
  omega
end Go.Proofs.Ytelkfhdgmbahgaa.Al


namespace Go.Proofs.Ytelkfhdgmbahgaa.Al
def plCh (c : UInt8) : Bool := decide (97 ≤ c.toNat) && decide (c.toNat ≤ 122)
def placeB (s : List UInt8) : Bool := s.all plCh && decide (1 ≤ s.length) && decide (s.length ≤ 200) && !decide (s[s.length - 1]!.toNat = 97)
theorem plCh_eq (c : UInt8) : ((decide ((c.toNat : Int) < 97)) || (decide (122 < (c.toNat : Int)))) = !plCh c := by
  unfold plCh
  rw [Bool.eq_iff_iff]
  simp only [Bool.or_eq_true, decide_eq_true_eq, Bool.not_eq_true', Bool.and_eq_false_imp, decide_eq_false_iff_not]
  omega
theorem replica_Place_iter (s : List UInt8) (hm : s.length ≤ 1048576) : iter (fun (a : Int) => replica_Place_L1 s a) 0 = some (outOf (if s.all plCh then none else some false)) := by
  rw [iter_find (n := s.length) (fun k => if plCh s[k]! then none else some false) (fun k hk => by
    unfold replica_Place_L1
    rw [if_pos (by simpa using hk), idx_nat hk, bnd1_some, chk_nat (by omega), plCh_eq]
    cases plCh s[k]! <;> rfl) (by unfold replica_Place_L1; rw [if_neg (by simp)]), find_all]
theorem ref_Place_iter (s : List UInt8) (hm : s.length ≤ 1048576) : iter (fun (a : Int) => ref_Place_L1 s a) 0 = some (outOf (if s.all plCh then none else some false)) := replica_Place_iter s hm
theorem toNat97 (c : UInt8) : decide ((c.toNat : Int) = 97) = decide (c.toNat = 97) := by
  rw [Bool.eq_iff_iff]; simp only [decide_eq_true_eq]; omega
theorem replica_Place_eq (s : List UInt8) (hm : s.length ≤ 1048576) : replica_Place s = some (placeB s) := by
  unfold replica_Place
  rw [replica_Place_iter s hm]
  unfold placeB
  by_cases h0 : s = []
  · subst h0; rfl
  · have hl : 1 ≤ s.length := List.length_pos_iff.2 h0
    rw [decide_eq_false h0, Bool.false_or]
    by_cases h1 : s.length ≤ 200
    · have e1 : decide (200 < (s.length : Int)) = false := by simp; omega
      rw [e1, show ((false == false) = true) from rfl, gd_true, chk_pred hl (by omega), bnd1_some, gd_true, idx_nat (by omega), bnd1_some, Bool.false_or, toNat97]
      rw [decide_eq_true hl, decide_eq_true h1]
      generalize s.all plCh = al
      cases decide (s[s.length - 1]!.toNat = 97) <;> cases al <;> rfl
    · have e1 : decide (200 < (s.length : Int)) = true := by simp; omega
      rw [e1, show ((true == false) = false) from rfl, gd_false, bnd1_some, gd_false, bnd1_some, Bool.true_or, if_pos rfl, decide_eq_false h1]
      simp
theorem ref_Place_eq (s : List UInt8) (hm : s.length ≤ 1048576) : ref_Place s = some (placeB s) := by
  unfold ref_Place
  rw [ref_Place_iter s hm]
  unfold placeB
  generalize hal : s.all plCh = al
  cases al
  · rfl
  · rw [show (if true = true then (none : Option Bool) else some false) = none from rfl, show (outOf (none : Option Bool)) = .nrm () from rfl, ctl1_nrm]
    by_cases hl : 1 ≤ s.length
    · by_cases h1 : s.length ≤ 200
      · have e1 : decide (1 ≤ (s.length : Int)) = true := by simp; omega
        have e2 : decide ((s.length : Int) ≤ 200) = true := by simp; omega
        rw [e1, e2, show ((true && true) == true) = true from rfl, gd_true, chk_pred hl (by omega), bnd1_some, gd_true, idx_nat (by omega), bnd1_some, toNat97, decide_eq_true hl, decide_eq_true h1]
        rfl
      · have e2 : decide ((s.length : Int) ≤ 200) = false := by simp; omega
        rw [e2, Bool.and_false, show (false == true) = false from rfl, gd_false, bnd1_some, gd_false, bnd1_some, decide_eq_false h1]
        simp
    · have e1 : decide (1 ≤ (s.length : Int)) = false := by simp; omega
      rw [e1, Bool.false_and, show (false == true) = false from rfl, gd_false, bnd1_some, gd_false, bnd1_some, decide_eq_false hl]
      simp
def opE (x : GDrawOp) : Int :=
  if x.Kind ≠ 0 ∧ x.Kind ≠ 1 then 8
  else if ¬ (((1 ≤ x.Clock ∧ x.Clock ≤ 1073741824) ∧ (0 ≤ x.Site ∧ x.Site ≤ 1000)) ∧ (1 ≤ x.Item ∧ x.Item ≤ 1073741824)) then 2
  else if x.Kind = 0 then (if x.Name ≠ [] ∨ x.Value ≠ [] then 4 else if ¬ (-1 ≤ x.Parent ∧ x.Parent ≤ 1073741824) then 2 else if placeB x.Place then 0 else 9)
  else (if x.Parent ≠ 0 ∨ x.Place ≠ [] then 4 else if nameOK x.Name then (if x.Value ≠ [] ∧ valOK x.Value = false then 23 else 0) else 9)
structure OkOp (x : GDrawOp) : Prop where
  place : x.Place.length ≤ 1048576
  name : x.Name.length ≤ 1048576
  value : x.Value.length ≤ 1048576
theorem replica_op_eq (x : GDrawOp) (h : OkOp x) : replica_op x = some (opE x) := by
  unfold replica_op opE
  rw [replica_Place_eq _ h.place, attr_Name_eq _ (by have := h.name; omega), attr_Value_eq _ (by have := h.value; omega)]
  obtain ⟨Clock, Site, Kind, Item, Parent, Place, Name, Value⟩ := x
  dsimp only
  by_cases hk : Kind ≠ 0 ∧ Kind ≠ 1
  · rw [if_pos hk, if_pos (by simp [hk.1, hk.2])]
  rw [if_neg hk, if_neg (by simpa using hk)]
  by_cases hr : ((1 ≤ Clock ∧ Clock ≤ 1073741824) ∧ (0 ≤ Site ∧ Site ≤ 1000)) ∧ (1 ≤ Item ∧ Item ≤ 1073741824)
  · rw [if_neg (Classical.not_not.2 hr), if_neg (by simp only [Bool.or_eq_true, decide_eq_true_eq]; omega)]
    by_cases h0 : Kind = 0
    · subst h0
      rw [if_pos rfl]
      by_cases hn : Name ≠ [] ∨ Value ≠ []
      · rw [if_pos hn, if_pos (by rcases hn with h | h <;> simp [h])]
        rcases hn with h | h <;> simp [h]
      · have hn1 : Name = [] := Classical.byContradiction fun h => hn (.inl h)
        have hn2 : Value = [] := Classical.byContradiction fun h => hn (.inr h)
        subst hn1; subst hn2
        rw [if_neg hn]
        simp only [decide_true, Bool.not_true, Bool.or_self, Bool.and_false, Bool.false_eq_true, if_false, bnd1_some, show (decide ((0 : Int) = 1)) = false from rfl, Bool.false_and, Bool.true_and, beq_self_eq_true, gd_true]
        by_cases hp : -1 ≤ Parent ∧ Parent ≤ 1073741824
        · rw [if_neg (Classical.not_not.2 hp), if_neg (by simp only [Bool.or_eq_true, decide_eq_true_eq]; omega)]
          cases placeB Place <;> simp [gd_false]
        · rw [if_pos hp, if_pos (by simp only [Bool.or_eq_true, decide_eq_true_eq]; omega)]
    · have h1 : Kind = 1 := Classical.byContradiction fun h => hk ⟨h0, h⟩
      subst h1
      rw [if_neg h0]
      simp only [show (decide ((1 : Int) = 0)) = false from rfl, Bool.false_and, Bool.false_eq_true, if_false, bnd1_some, decide_true, Bool.true_and, show (false == true) = false from rfl, gd_false, beq_self_eq_true, gd_true]
      by_cases hn : Parent ≠ 0 ∨ Place ≠ []
      · rw [if_pos hn, if_pos (by rcases hn with h | h <;> simp [h])]
      · have hn1 : Parent = 0 := Classical.byContradiction fun h => hn (.inl h)
        have hn2 : Place = [] := Classical.byContradiction fun h => hn (.inr h)
        subst hn1; subst hn2
        rw [if_neg hn, if_neg (by simp)]
        cases nameOK Name
        · simp
        · by_cases hv : Value = []
          · subst hv; simp [gd_false]
          · simp [hv]
            cases valOK Value <;> rfl
  · rw [if_pos hr, if_pos (by simp only [Bool.or_eq_true, decide_eq_true_eq]; omega)]
def earlier (a b : GDrawOp) : Bool := (decide (a.Clock < b.Clock)) || ((decide (a.Clock = b.Clock)) && (decide (a.Site < b.Site)))
theorem ref_Earlier_eq (a b : GDrawOp) : ref_Earlier a b = some (earlier a b) := rfl
def cmpI (x y : Int) : Int := if x < y then -1 else if y < x then 1 else 0
theorem cmp_Compare_eq (x y : Int) : cmp_Compare_int x y = some (cmpI x y) := by
  unfold cmp_Compare_int cmpI cmp_isNaN_int
  simp only [decide_true, Bool.not_true, bnd1_some, Bool.false_eq_true, if_false, decide_eq_true_eq]
  split
  · rfl
  · split <;> rfl
theorem cmp_Or_two (x y : Int) : cmp_Or_int [x, y] = some (if x ≠ 0 then x else y) := by
  unfold cmp_Or_int
  rw [iter_find (n := 2) (fun k => if [x, y][k]! ≠ 0 then some [x, y][k]! else none) (fun k hk => by
    unfold cmp_Or_int_L1
    rw [if_pos (by simp; omega), idx_nat (by simpa using hk), bnd1_some, chk_nat (by omega)]
    by_cases h : [x, y][k]! = 0
    · rw [if_neg (by rw [h]; decide), if_neg (Classical.not_not.2 h)]; rfl
    · rw [if_pos (by rw [decide_eq_false h]; rfl), if_pos h]; rfl) (by unfold cmp_Or_int_L1; rw [if_neg (by simp)])]
  by_cases hx : x = 0
  · by_cases hy : y = 0
    · subst hx; subst hy; rfl
    · subst hx; simp [List.range_succ, hy, outOf]
  · simp [List.range_succ, hx, outOf]
theorem replica_stamps_eq (a b : GDrawOp) : ∃ r, replica_stamps a b = some r ∧ decide (r < 0) = earlier a b ∧ decide (0 ≤ r) = !earlier a b := by
  unfold replica_stamps
  rw [cmp_Compare_eq, cmp_Compare_eq, bnd1_some, bnd1_some, cmp_Or_two, bnd1_some]
  refine ⟨_, rfl, ?_⟩
  have key : (if cmpI a.Clock b.Clock ≠ 0 then cmpI a.Clock b.Clock else cmpI a.Site b.Site) < 0 ↔ earlier a b = true := by
    unfold earlier cmpI
    simp only [Bool.or_eq_true, Bool.and_eq_true, decide_eq_true_eq]
    by_cases h1 : a.Clock < b.Clock
    · simp [h1]
    · by_cases h2 : b.Clock < a.Clock
      · simp [h1, h2]; omega
      · by_cases h3 : a.Site < b.Site
        · simp [h1, h2, h3]; omega
        · by_cases h4 : b.Site < a.Site
          · simp [h1, h2, h3, h4]
          · simp [h1, h2, h3, h4]
  constructor
  · rw [Bool.eq_iff_iff, decide_eq_true_eq]; exact key
  · rw [Bool.eq_iff_iff, decide_eq_true_eq, Bool.not_eq_true', ← Bool.not_eq_true, ← key]; omega
def OkOps (l : List GDrawOp) : Prop := ∀ x ∈ l, OkOp x
def errD (l : List GDrawOp) (k : Nat) : Option Int := if opE l[k]! ≠ 0 then some (opE l[k]!) else if 0 < k ∧ earlier l[k - 1]! l[k]! = false then some 5 else none
def drawErr (l : List GDrawOp) : Int := ((List.range l.length).findSome? (errD l)).getD 0
theorem replica_Check_eq (l : List GDrawOp) (h : OkOps l) (hm : l.length ≤ 1048576) : replica_Check l = some (drawErr l) := by
  unfold replica_Check
  rw [iter_find (n := l.length) (errD l) (fun k hk => by
    unfold replica_Check_L1 errD
    rw [if_pos (by simpa using hk), idx_nat hk, bnd1_some, replica_op_eq _ (h _ (mem_at hk)), bnd1_some, chk_nat (by omega)]
    by_cases he : opE l[k]! = 0
    · rw [if_neg (by rw [he]; decide), if_neg (Classical.not_not.2 he)]
      by_cases hk0 : k = 0
      · subst hk0; rfl
      · have h0 : decide ((0 : Int) < (k : Int)) = true := by simp; omega
        obtain ⟨r, e1, _, e2⟩ := replica_stamps_eq l[k - 1]! l[k]!
        rw [h0, show ((true == true) = true) from rfl, gd_true, chk_pred (by omega) (by omega), bnd1_some, gd_true, idx_nat (by omega), bnd1_some, gd_true, e1, bnd1_some, e2, Bool.true_and]
        cases he : earlier l[k - 1]! l[k]!
        · rw [if_pos (by decide), if_pos ⟨by omega, rfl⟩]; rfl
        · rw [if_neg (by simp), if_neg (by simp)]; rfl
    · rw [if_pos (by rw [decide_eq_false he]; rfl), if_pos he]; rfl) (by unfold replica_Check_L1; rw [if_neg (by simp)]), out_getD]
  rfl
theorem ref_DrawError_eq (l : List GDrawOp) (h : OkOps l) (hm : l.length ≤ 1048576) : ref_DrawError l = some (drawErr l) := by
  unfold ref_DrawError
  rw [iter_find (n := l.length) (errD l) (fun k hk => by
    unfold ref_DrawError_L1 errD
    have hok := h _ (mem_at hk)
    rw [if_pos (by simpa using hk), idx_nat hk, bnd1_some]
    have hlast : (bnd1 (gd ((decide ((0 : Int) < (k : Int))) == true) (chk .i64 ((k : Int) - 1))) fun (x5 : Int) => bnd1 (gd ((decide ((0 : Int) < (k : Int))) == true) (idx l x5)) fun (x6 : GDrawOp) =>
        bnd1 (gd ((decide ((0 : Int) < (k : Int))) == true) (ref_Earlier x6 l[k]!)) fun (r4 : Bool) => if ((decide ((0 : Int) < (k : Int))) && (!r4)) then (some (.inr (.ext 5))) else (bnd1 (chk .i64 ((k : Int) + 1)) fun (x7 : Int) => some (.inl x7))) =
        stepOf (ρ := Int) k (if 0 < k ∧ earlier l[k - 1]! l[k]! = false then some 5 else none) := by
      rw [chk_nat (by omega)]
      by_cases hk0 : k = 0
      · subst hk0; rfl
      · have h0 : decide ((0 : Int) < (k : Int)) = true := by simp; omega
        rw [h0, show ((true == true) = true) from rfl, gd_true, chk_pred (by omega) (by omega), bnd1_some, gd_true, idx_nat (by omega), bnd1_some, gd_true, ref_Earlier_eq, bnd1_some, Bool.true_and]
        cases he : earlier l[k - 1]! l[k]!
        · rw [if_pos (by decide), if_pos ⟨by omega, rfl⟩]; rfl
        · rw [if_neg (by simp), if_neg (by simp)]; rfl
    rw [ref_In_eq, ref_In_eq, ref_In_eq, ref_In_eq, ref_Place_eq _ hok.place, ref_Name_eq _ (by have := hok.name; omega), ref_Value_eq _ (by have := hok.value; omega)]
    unfold opE
    generalize l[k]! = x at hlast ⊢
    by_cases hkd : x.Kind ≠ 0 ∧ x.Kind ≠ 1
    · rw [if_pos hkd, if_pos (by simp [hkd.1, hkd.2]), if_pos (by decide)]; rfl
    rw [if_neg hkd, if_neg (by simpa using hkd)]
    by_cases hr : ((1 ≤ x.Clock ∧ x.Clock ≤ 1073741824) ∧ (0 ≤ x.Site ∧ x.Site ≤ 1000)) ∧ (1 ≤ x.Item ∧ x.Item ≤ 1073741824)
    · have e1 : (decide (1 ≤ x.Clock) && decide (x.Clock ≤ 1073741824)) = true := by simp [hr.1.1]
      have e2 : (decide (0 ≤ x.Site) && decide (x.Site ≤ 1000)) = true := by simp [hr.1.2]
      have e3 : (decide (1 ≤ x.Item) && decide (x.Item ≤ 1073741824)) = true := by simp [hr.2]
      rw [e1, e2, e3, if_neg (Classical.not_not.2 hr)]
      simp only [Bool.not_true, beq_self_eq_true, gd_true, bnd1_some, Bool.or_self, Bool.false_eq_true, if_false]
      by_cases h0 : x.Kind = 0
      · rw [if_pos h0, if_pos (by simp [h0])]
        by_cases hn : x.Name ≠ [] ∨ x.Value ≠ []
        · rw [if_pos hn, if_pos (by rcases hn with h | h <;> simp [h]), ctl1_ext, if_pos (by decide)]; rfl
        · rw [if_neg hn, if_neg (by simpa using hn)]
          by_cases hp : -1 ≤ x.Parent ∧ x.Parent ≤ 1073741824
          · have e4 : (decide (-1 ≤ x.Parent) && decide (x.Parent ≤ 1073741824)) = true := by simp [hp]
            rw [if_neg (Classical.not_not.2 hp), e4, if_neg (by simp)]
            cases placeB x.Place
            · rw [if_pos (by decide), ctl1_ext, if_pos (by decide)]; rfl
            · rw [if_neg (by simp), ctl1_nrm, if_pos rfl, if_neg (by simp)]; exact hlast
          · have e4 : (decide (-1 ≤ x.Parent) && decide (x.Parent ≤ 1073741824)) = false := by rw [← Bool.not_eq_true]; simpa using hp
            rw [if_pos hp, e4, if_pos (by decide), ctl1_ext, if_pos (by decide)]; rfl
      · rw [if_neg h0, if_neg (by simp [h0])]
        by_cases hn : x.Parent ≠ 0 ∨ x.Place ≠ []
        · rw [if_pos hn, if_pos (by rcases hn with h | h <;> simp [h]), ctl1_ext, if_pos (by decide)]; rfl
        · rw [if_neg hn, if_neg (by simpa using hn)]
          cases nameOK x.Name
          · rw [if_pos (by decide), ctl1_ext, if_pos (by simp)]; rfl
          · rw [if_neg (by simp), if_pos rfl]
            by_cases hv : x.Value = []
            · rw [if_neg (c := x.Value ≠ [] ∧ _) (by simp [hv])]
              simp only [hv, decide_true, Bool.not_true, show (false == true) = false from rfl, gd_false, bnd1_some, Bool.false_and, Bool.false_eq_true, if_false, ctl1_nrm]
              rw [if_neg (by simp)]; exact hlast
            · simp only [decide_eq_false hv, Bool.not_false, beq_self_eq_true, gd_true, bnd1_some, Bool.true_and]
              cases valOK x.Value
              · rw [if_pos (by decide), ctl1_ext, if_pos (c := x.Value ≠ [] ∧ _) ⟨hv, rfl⟩, if_pos (by decide)]; rfl
              · rw [if_neg (by simp), ctl1_nrm, if_neg (c := x.Value ≠ [] ∧ _) (by simp), if_neg (by simp)]; exact hlast
    · rw [if_pos hr]
      by_cases g1 : 1 ≤ x.Clock ∧ x.Clock ≤ 1073741824
      · have e1 : (decide (1 ≤ x.Clock) && decide (x.Clock ≤ 1073741824)) = true := by simp [g1]
        by_cases g2 : 0 ≤ x.Site ∧ x.Site ≤ 1000
        · have e2 : (decide (0 ≤ x.Site) && decide (x.Site ≤ 1000)) = true := by simp [g2]
          have e3 : (decide (1 ≤ x.Item) && decide (x.Item ≤ 1073741824)) = false := by
            rw [← Bool.not_eq_true]; simp only [Bool.and_eq_true, decide_eq_true_eq]; exact fun g3 => hr ⟨⟨g1, g2⟩, g3⟩
          rw [e1, e2, e3, if_pos (show (2 : Int) ≠ 0 by decide)]; rfl
        · have e2 : (decide (0 ≤ x.Site) && decide (x.Site ≤ 1000)) = false := by
            rw [← Bool.not_eq_true]; simp only [Bool.and_eq_true, decide_eq_true_eq]; exact g2
          rw [e1, e2, if_pos (show (2 : Int) ≠ 0 by decide)]; rfl
      · have e1 : (decide (1 ≤ x.Clock) && decide (x.Clock ≤ 1073741824)) = false := by
          rw [← Bool.not_eq_true]; simp only [Bool.and_eq_true, decide_eq_true_eq]; exact g1
        rw [e1, if_pos (show (2 : Int) ≠ 0 by decide)]; rfl) (by unfold ref_DrawError_L1; rw [if_neg (by simp)]), out_getD]
  rfl
end Go.Proofs.Ytelkfhdgmbahgaa.Al


namespace Go.Proofs.Ytelkfhdgmbahgaa.Al
theorem earlier_trans {a b c : GDrawOp} (h1 : earlier a b = true) (h2 : earlier b c = true) : earlier a c = true := by
  unfold earlier at *
  simp only [Bool.or_eq_true, Bool.and_eq_true, decide_eq_true_eq] at *
  omega
def srtD : List GDrawOp → Prop
  | [] => True
  | x :: l => (∀ y ∈ l, earlier x y = true) ∧ srtD l
theorem srtD_of : ∀ (l : List GDrawOp), (∀ k, 0 < k → k < l.length → earlier l[k - 1]! l[k]! = true) → srtD l
  | [], _ => trivial
  | x :: l, h => by
    have hs : srtD l := srtD_of l fun k h0 hk => by
      have := h (k + 1) (by omega) (by simp <;> omega)
      obtain ⟨j, rfl⟩ : ∃ j, k = j + 1 := ⟨k - 1, by omega⟩
      simpa using this
    refine ⟨fun y hy => ?_, hs⟩
    cases l with
    | nil => simp at hy
    | cons z l =>
      have hz : earlier x z = true := by have := h 1 (by omega) (by simp); simpa using this
      rcases List.mem_cons.1 hy with rfl | hy
      · exact hz
      · exact earlier_trans hz (hs.1 y hy)
theorem drawErr_srt {l : List GDrawOp} (h : drawErr l = 0) : srtD l := by
  apply srtD_of
  intro k h0 hk
  have hn : errD l k = none := by
    unfold drawErr at h
    cases hf : (List.range l.length).findSome? (errD l) with
    | none => exact (findSome_none_iff _ _).1 hf k hk
    | some r =>
      rw [hf] at h
      simp only [Option.getD_some] at h
      obtain ⟨j, _, hj⟩ := List.exists_of_findSome?_eq_some hf
      unfold errD at hj
      split at hj
      · cases hj; rename_i h1; exact absurd h h1
      · split at hj
        · cases hj; cases h
        · cases hj
  unfold errD at hn
  split at hn
  · cases hn
  · split at hn
    · cases hn
    · rename_i h2
      rw [← Bool.not_eq_false]
      exact fun e => h2 ⟨h0, e⟩
def mrgD : List GDrawOp → List GDrawOp → Option (List GDrawOp)
  | [], b => some b
  | x :: a, [] => some (x :: a)
  | x :: a, y :: b => if earlier x y then (mrgD a (y :: b)).map (x :: ·) else if earlier y x then (mrgD (x :: a) b).map (y :: ·) else if x = y then (mrgD a b).map (x :: ·) else none
  termination_by a b => a.length + b.length
def insD : List GDrawOp → GDrawOp → Option (List GDrawOp)
  | [], y => some [y]
  | x :: l, y => if earlier x y then (insD l y).map (x :: ·) else if earlier y x then some (y :: x :: l) else if x = y then some (x :: l) else none
def unionD : List GDrawOp → List GDrawOp → Option (List GDrawOp)
  | a, [] => some a
  | a, y :: b => (insD a y).bind fun o => unionD o b
theorem unionD_front (x : GDrawOp) : ∀ (b a : List GDrawOp), (∀ y ∈ b, earlier x y = true) → unionD (x :: a) b = (unionD a b).map (x :: ·)
  | [], a, _ => rfl
  | y :: b, a, h => by
    simp only [unionD, insD, h y (List.mem_cons_self ..), if_true]
    cases insD a y with
    | none => rfl
    | some o => exact unionD_front x b o fun z hz => h z (List.mem_cons_of_mem _ hz)
theorem unionD_nil : ∀ (b : List GDrawOp), srtD b → unionD [] b = some b
  | [], _ => rfl
  | y :: b, h => by
    simp only [unionD, insD, Option.bind_some]
    rw [unionD_front y b [] h.1, unionD_nil b h.2]; rfl
theorem unionD_eq : ∀ (a b : List GDrawOp), srtD a → srtD b → unionD a b = mrgD a b
  | [], b, _, hb => by rw [unionD_nil b hb, mrgD]
  | x :: a, [], _, _ => by rw [mrgD]; rfl
  | x :: a, y :: b, ha, hb => by
    rw [mrgD]
    by_cases h1 : earlier x y = true
    · rw [if_pos h1, unionD_front x (y :: b) a (fun z hz => by
        rcases List.mem_cons.1 hz with rfl | hz
        · exact h1
        · exact earlier_trans h1 (hb.1 z hz)), unionD_eq a (y :: b) ha.2 hb]
    · rw [if_neg h1]
      by_cases h2 : earlier y x = true
      · rw [if_pos h2]
        simp only [unionD, insD, h1, h2, if_true, Bool.false_eq_true, if_false, Option.bind_some]
        rw [unionD_front y b (x :: a) hb.1, unionD_eq (x :: a) b ha hb.2]
      · rw [if_neg h2]
        simp only [unionD, insD, h1, h2, Bool.false_eq_true, if_false]
        by_cases h3 : x = y
        · subst h3
          simp only [if_true, Option.bind_some]
          rw [unionD_front x b a hb.1, unionD_eq a b ha.2 hb.2]
        · simp only [h3, if_false, Option.bind_none]
  termination_by a b => a.length + b.length
theorem drawOp_eq (x y : GDrawOp) : (decide (x.Clock = y.Clock) && (decide (x.Site = y.Site) && (decide (x.Kind = y.Kind) && (decide (x.Item = y.Item) && (decide (x.Parent = y.Parent) && (decide (x.Place = y.Place) && (decide (x.Name = y.Name) && (decide (x.Value = y.Value) && true)))))))) = decide (x = y) := by
  rw [Bool.eq_iff_iff]
  obtain ⟨a1, a2, a3, a4, a5, a6, a7, a8⟩ := x
  obtain ⟨b1, b2, b3, b4, b5, b6, b7, b8⟩ := y
  simp only [Bool.and_eq_true, decide_eq_true_eq, GDrawOp.mk.injEq, and_true]
def outD (r : Option (List GDrawOp)) (out : List GDrawOp) : Ctl (List GDrawOp) (List GDrawOp × Int) := match r with
  | some l => .nrm (out ++ l)
  | none => .ext ([], 6)
theorem app88 {o : List GDrawOp} {x : GDrawOp} (h : o.length ≤ 4194304) : app 88 o [x] = some (o ++ [x]) := by
  unfold app; rw [if_pos (by simp <;> omega)]
theorem slc_tl {x : GDrawOp} {a : List GDrawOp} (h : a.length ≤ 4194304) : slc (x :: a) 1 ((x :: a).length : Int) = some a := by
  unfold slc; rw [if_pos (by simp <;> omega)]; simp
theorem outD_map (r : Option (List GDrawOp)) (x : GDrawOp) (out : List GDrawOp) : outD (r.map (x :: ·)) out = outD r (out ++ [x]) := by
  cases r <;> simp [outD]
theorem replica_Both_iter : ∀ (m : Nat) (a b out : List GDrawOp), a.length + b.length = m → out.length + m ≤ 4194304 → iter (fun (a : (List GDrawOp) × (List GDrawOp) × (List GDrawOp)) => replica_Both_L1 a.1 a.2.1 a.2.2) (a, b, out) = some (outD (mrgD a b) out)
  | m, [], [], out, hm, ho => by
    refine iter_stop ?_
    rw [mrgD]
    simp [replica_Both_L1, outD]
  | m, x :: a, [], out, hm, ho => by
    simp only [List.length_cons, List.length_nil] at hm
    refine (iter_next (s' := (a, [], out ++ [x])) ?_).trans ?_
    · show replica_Both_L1 (x :: a) [] out = _
      unfold replica_Both_L1
      rw [if_pos (by simp)]
      have h0 : decide ((([] : List GDrawOp).length : Int) = 0) = true := rfl
      rw [h0, show ((true == false) = false) from rfl, Bool.false_and, gd_false, bnd1_some, gd_false, bnd1_some, gd_false, bnd1_some, Bool.true_or, if_pos rfl, show idx (x :: a) 0 = some x from rfl, bnd1_some, app88 (by omega), bnd1_some, slc_tl (by omega), bnd1_some]
    · rw [replica_Both_iter (m - 1) a [] (out ++ [x]) (by simp <;> omega) (by simp <;> omega), mrgD]
      cases a with
      | nil => rw [mrgD]; simp [outD]
      | cons z a => rw [mrgD]; simp [outD]
  | m, [], y :: b, out, hm, ho => by
    simp only [List.length_cons, List.length_nil] at hm
    refine (iter_next (s' := ([], b, out ++ [y])) ?_).trans ?_
    · show replica_Both_L1 [] (y :: b) out = _
      unfold replica_Both_L1
      rw [if_pos (by simp <;> omega)]
      have h0 : decide (((y :: b).length : Int) = 0) = false := by simp <;> omega
      have h1 : decide (0 < (([] : List GDrawOp).length : Int)) = false := rfl
      have h2 : decide ((([] : List GDrawOp).length : Int) = 0) = true := rfl
      rw [h0, h1, h2, show (false == true) = false from rfl, Bool.and_false, gd_false, bnd1_some, gd_false, bnd1_some, gd_false, bnd1_some, Bool.false_and, Bool.false_or, if_neg (by simp), show (true == false) = false from rfl, gd_false, bnd1_some, gd_false, bnd1_some, gd_false, bnd1_some, Bool.true_or, if_pos rfl, show idx (y :: b) 0 = some y from rfl, bnd1_some, app88 (by omega), bnd1_some, slc_tl (by omega), bnd1_some]
    · rw [replica_Both_iter (m - 1) [] b (out ++ [y]) (by simp <;> omega) (by simp <;> omega), mrgD, mrgD]
      simp [outD]
  | m, x :: a, y :: b, out, hm, ho => by
    simp only [List.length_cons] at hm
    have hL : replica_Both_L1 (x :: a) (y :: b) out = if earlier x y then some (.inl (a, y :: b, out ++ [x])) else if earlier y x then some (.inl (x :: a, b, out ++ [y])) else if x = y then some (.inl (a, b, out ++ [x])) else some (.inr (.ext ([], 6))) := by
      unfold replica_Both_L1
      rw [if_pos (by simp <;> omega)]
      have h0 : decide (((y :: b).length : Int) = 0) = false := by simp <;> omega
      have h1 : decide (0 < ((x :: a).length : Int)) = true := by simp <;> omega
      have h2 : decide (((x :: a).length : Int) = 0) = false := by simp <;> omega
      obtain ⟨r, e1, e2, _⟩ := replica_stamps_eq x y
      obtain ⟨q, f1, f2, _⟩ := replica_stamps_eq y x
      have i0 : idx (x :: a) 0 = some x := rfl
      have i1 : idx (y :: b) 0 = some y := rfl
      have hA : ∀ z, app 88 out [z] = some (out ++ [z]) := fun z => app88 (by omega)
      rw [h0, h1, h2, i0, i1, slc_tl (by omega), slc_tl (by omega)]
      simp only [hA, beq_self_eq_true, Bool.and_self, gd_true, bnd1_some, e1, f1, e2, f2, Bool.false_or, Bool.true_and, drawOp_eq]
      by_cases g1 : earlier x y = true
      · rw [if_pos g1, if_pos g1]
      · rw [if_neg g1, if_neg g1]
        by_cases g2 : earlier y x = true
        · rw [if_pos g2, if_pos g2]
        · rw [if_neg g2, if_neg g2]
          by_cases g3 : x = y
          · rw [if_neg (by simp [g3]), if_pos g3]
          · rw [if_pos (by simp [g3]), if_neg g3]
    rw [mrgD]
    by_cases g1 : earlier x y = true
    · rw [if_pos g1] at hL ⊢
      rw [iter_next hL, replica_Both_iter (m - 1) a (y :: b) (out ++ [x]) (by simp <;> omega) (by simp <;> omega), outD_map]
    · rw [if_neg g1] at hL ⊢
      by_cases g2 : earlier y x = true
      · rw [if_pos g2] at hL ⊢
        rw [iter_next hL, replica_Both_iter (m - 1) (x :: a) b (out ++ [y]) (by simp <;> omega) (by simp <;> omega), outD_map]
      · rw [if_neg g2] at hL ⊢
        by_cases g3 : x = y
        · rw [if_pos g3] at hL ⊢
          rw [iter_next hL, replica_Both_iter (m - 2) a b (out ++ [x]) (by omega) (by simp <;> omega), outD_map]
        · rw [if_neg g3] at hL ⊢
          exact iter_stop hL
  termination_by _ a b => a.length + b.length
  decreasing_by all_goals (simp only [List.length_cons, List.length_nil]; omega)
def resD (r : Option (List GDrawOp)) : List GDrawOp × Int := match r with
  | some l => (l, 0)
  | none => ([], 6)
theorem replica_Both_eq (a b : List GDrawOp) (h : a.length + b.length ≤ 4194304) : replica_Both a b = some (resD (mrgD a b)) := by
  unfold replica_Both
  rw [replica_Both_iter _ a b [] rfl (by simpa using h)]
  cases mrgD a b <;> rfl
def posD (o : List GDrawOp) (y : GDrawOp) : Nat := (o.takeWhile (fun x => earlier x y)).length
theorem posD_cons (x : GDrawOp) (o : List GDrawOp) (y : GDrawOp) : posD (x :: o) y = if earlier x y then posD o y + 1 else 0 := by
  unfold posD; rw [List.takeWhile_cons]; split <;> simp_all
theorem posD_le (o : List GDrawOp) (y : GDrawOp) : posD o y ≤ o.length := by
  induction o with
  | nil => exact Nat.le_refl _
  | cons x o ih => rw [posD_cons]; split <;> simp <;> omega
theorem insD_eq (o : List GDrawOp) (y : GDrawOp) : insD o y = if posD o y < o.length ∧ earlier y o[posD o y]! = false then (if o[posD o y]! = y then some o else none) else some (o.take (posD o y) ++ y :: o.drop (posD o y)) := by
  induction o with
  | nil => simp [insD, posD]
  | cons x o ih =>
    rw [insD, posD_cons]
    by_cases h1 : earlier x y = true
    · rw [if_pos h1, if_pos h1, ih]
      simp only [List.length_cons, Nat.add_lt_add_iff_right, List.take_succ_cons, List.drop_succ_cons]
      have e : (x :: o)[posD o y + 1]! = o[posD o y]! := by simp
      rw [e]
      split
      · split <;> rfl
      · rfl
    · rw [if_neg h1, if_neg h1]
      have e : (x :: o)[0]! = x := rfl
      rw [e]
      by_cases h2 : earlier y x = true
      · rw [if_pos h2, if_neg (by rw [h2]; simp)]; rfl
      · rw [if_neg h2, if_pos (c := 0 < (x :: o).length ∧ earlier y x = false) ⟨by simp, by simpa using h2⟩]
theorem ref_Union_pos (b out : List GDrawOp) (k : Nat) (hk : k < b.length) (ho : out.length ≤ 4194304) : iter (fun (a : Int) => ref_Union_L2 b out k a) 0 = some ((posD out b[k]! : Nat) : Int) := by
  have key : ∀ m j, j + m = out.length → iter (fun (a : Int) => ref_Union_L2 b out k a) (j : Int) = some (((j + posD (out.drop j) b[k]! : Nat)) : Int) := by
    intro m
    induction m with
    | zero =>
      intro j hj
      obtain rfl : j = out.length := by omega
      refine iter_stop ?_
      have h0 : decide ((out.length : Int) < (out.length : Int)) = false := by simp
      unfold ref_Union_L2
      rw [h0, show (false == true) = false from rfl, gd_false, bnd1_some, gd_false, bnd1_some, gd_false, bnd1_some, Bool.false_and, if_neg (by simp), List.drop_length]
      rfl
    | succ m ih =>
      intro j hj
      have hlt : j < out.length := by omega
      have h0 : decide ((j : Int) < (out.length : Int)) = true := by simp <;> omega
      have hL : ref_Union_L2 b out k j = if earlier out[j]! b[k]! then some (.inl ((j + 1 : Nat) : Int)) else some (.inr (j : Int)) := by
        unfold ref_Union_L2
        rw [h0, show (true == true) = true from rfl, gd_true, idx_nat hlt, bnd1_some, gd_true, idx_nat hk, bnd1_some, gd_true, ref_Earlier_eq, bnd1_some, Bool.true_and, chk_nat (by omega), bnd1_some]
      rw [drop_at hlt, posD_cons]
      by_cases h1 : earlier out[j]! b[k]! = true
      · rw [if_pos h1] at hL ⊢
        rw [iter_next hL, ih (j + 1) (by omega)]
        congr 2; omega
      · rw [if_neg h1] at hL ⊢
        exact iter_stop hL
  have := key out.length 0 (by omega)
  simpa using this
theorem insD_len {o l : List GDrawOp} {y : GDrawOp} (h : insD o y = some l) : l.length ≤ o.length + 1 := by
  rw [insD_eq] at h
  split at h
  · split at h
    · cases h; omega
    · cases h
  · cases h
    have := posD_le o y
    simp <;> omega
theorem ref_Union_step (b out : List GDrawOp) (k : Nat) (hk : k < b.length) (hb : b.length ≤ 2097152) (ho : out.length ≤ 2097152) : ref_Union_L1 b out k = match insD out b[k]! with
    | some o => some (.inl (o, ((k + 1 : Nat) : Int)))
    | none => some (.inr (.ext ([], 6))) := by
  unfold ref_Union_L1
  rw [if_pos (by simpa using hk), ref_Union_pos b out k hk (by omega), bnd1_some, idx_nat hk, chk_nat (by omega), insD_eq]
  have hp := posD_le out b[k]!
  generalize posD out b[k]! = p at hp ⊢
  generalize b[k]! = y
  by_cases h1 : p < out.length
  · have h0 : decide ((p : Int) < (out.length : Int)) = true := by simp <;> omega
    rw [h0, show (true == true) = true from rfl, gd_true, bnd1_some, gd_true, idx_nat h1, bnd1_some, gd_true, ref_Earlier_eq, bnd1_some, Bool.true_and]
    by_cases h2 : earlier y out[p]! = true
    · rw [h2, if_neg (by simp), if_neg (by simp)]
      have s1 : slc out 0 (p : Int) = some (out.take p) := by unfold slc; rw [if_pos (by omega)]; simp
      have s2 : slc out (p : Int) (out.length : Int) = some (out.drop p) := by
        unfold slc; rw [if_pos (by omega), Int.toNat_natCast, Int.toNat_natCast, List.take_of_length_le (by rw [List.length_drop]; omega)]
      have s3 : app 88 [y] (out.drop p) = some (y :: out.drop p) := by unfold app; rw [if_pos (by simp <;> omega)]; rfl
      have s4 : appF 88 (out.take p) (y :: out.drop p) = some (out.take p ++ y :: out.drop p) := by unfold appF app; rw [if_pos (by simp <;> omega)]
      rw [s1, bnd1_some, bnd1_some, s2, bnd1_some, s3, bnd1_some, s4, bnd1_some, ctl1_nrm, bnd1_some]
    · have h2' : earlier y out[p]! = false := by simpa using h2
      rw [h2', if_pos (by simp), if_pos ⟨h1, rfl⟩, bnd1_some, bnd1_some, drawOp_eq]
      by_cases h3 : out[p]! = y
      · rw [decide_eq_true h3, if_neg (by decide), if_pos h3, ctl1_nrm, bnd1_some]
      · rw [decide_eq_false h3, if_pos (by decide), if_neg h3, ctl1_ext]
  · obtain rfl : p = out.length := by omega
    have h0 : decide ((out.length : Int) < (out.length : Int)) = false := by simp
    rw [h0, show (false == true) = false from rfl, gd_false, bnd1_some, gd_false, bnd1_some, gd_false, bnd1_some, Bool.false_and, if_neg (by simp), if_neg (by omega)]
    have s1 : slc out 0 (out.length : Int) = some out := by unfold slc; rw [if_pos (by omega)]; simp
    have s2 : slc out (out.length : Int) (out.length : Int) = some [] := by unfold slc; rw [if_pos (by omega)]; simp
    have s3 : app 88 [y] [] = some [y] := by unfold app; rw [if_pos (by simp)]; rfl
    have s4 : appF 88 out [y] = some (out ++ [y]) := by unfold appF app; rw [if_pos (by simp <;> omega)]
    rw [s1, bnd1_some, bnd1_some, s2, bnd1_some, s3, bnd1_some, s4, bnd1_some, ctl1_nrm, bnd1_some]
    simp
theorem ref_Union_eq (a b : List GDrawOp) (ha : a.length ≤ 1048576) (hb : b.length ≤ 1048576) : ref_Union a b = some (resD (unionD a b)) := by
  unfold ref_Union
  rw [show app 88 [] a = some a by unfold app; rw [if_pos (by simp <;> omega)]; rfl, bnd1_some]
  have key : ∀ m k out, k + m = b.length → out.length ≤ 1048576 + k → iter (fun (a : (List GDrawOp) × Int) => ref_Union_L1 b a.1 a.2) (out, (k : Int)) = some (outD (unionD out (b.drop k)) []) := by
    intro m
    induction m with
    | zero =>
      intro k out hk ho
      obtain rfl : k = b.length := by omega
      refine iter_stop ?_
      show ref_Union_L1 b out (b.length : Int) = _
      unfold ref_Union_L1
      rw [if_neg (by simp), List.drop_length]
      rfl
    | succ m ih =>
      intro k out hk ho
      have hs := ref_Union_step b out k (by omega) (by omega) (by omega)
      rw [drop_at (by omega), unionD]
      cases hi : insD out b[k]! with
      | none =>
        rw [hi] at hs
        exact iter_stop hs
      | some o =>
        rw [hi] at hs
        have hl := insD_len hi
        rw [iter_next (f := fun (a : (List GDrawOp) × Int) => ref_Union_L1 b a.1 a.2) (s := (out, (k : Int))) hs, Option.bind_some]
        exact ih (k + 1) o (by omega) (by omega)
  have h := key b.length 0 a (by omega) (by omega)
  rw [List.drop_zero] at h
  rw [show ((a, (0 : Int))) = (a, ((0 : Nat) : Int)) from rfl, h]
  cases unionD a b <;> rfl
theorem ref_SameOps_refl (a : List GDrawOp) (h : a.length ≤ 4194304) : ref_SameOps a a = some true := by
  unfold ref_SameOps
  rw [if_neg (by simp), iter_find (n := a.length) (fun _ => none) (fun k hk => by
    unfold ref_SameOps_L1
    rw [if_pos (by simpa using hk), idx_nat hk, bnd1_some, bnd1_some, drawOp_eq, if_neg (by simp), chk_nat (by omega)]; rfl) (by unfold ref_SameOps_L1; rw [if_neg (by simp)]), ctl_outOf]
  have : (List.range a.length).findSome? (fun _ => (none : Option Bool)) = none := by rw [List.findSome?_eq_none_iff]; simp
  rw [this]
theorem mrgD_len {l : List GDrawOp} : ∀ {a b : List GDrawOp}, mrgD a b = some l → l.length ≤ a.length + b.length := by
  intro a b h
  have key : ∀ (m : Nat) (a b l : List GDrawOp), a.length + b.length = m → mrgD a b = some l → l.length ≤ m := by
    intro m
    induction m using Nat.strongRecOn with
    | _ m ih =>
      intro a b l hm h
      cases a with
      | nil => rw [mrgD] at h; cases h; simp at hm; omega
      | cons x a =>
        cases b with
        | nil => rw [mrgD] at h; cases h; simp at hm ⊢; omega
        | cons y b =>
          simp only [List.length_cons] at hm
          rw [mrgD] at h
          split at h
          · obtain ⟨l', h1, rfl⟩ := Option.map_eq_some_iff.1 h
            have := ih (m - 1) (by omega) a (y :: b) l' (by simp <;> omega) h1
            simp <;> omega
          · split at h
            · obtain ⟨l', h1, rfl⟩ := Option.map_eq_some_iff.1 h
              have := ih (m - 1) (by omega) (x :: a) b l' (by simp <;> omega) h1
              simp <;> omega
            · split at h
              · obtain ⟨l', h1, rfl⟩ := Option.map_eq_some_iff.1 h
                have := ih (m - 2) (by omega) a b l' (by omega) h1
                simp <;> omega
              · cases h
  exact key _ a b l rfl h
theorem law_ReplicaCheckSays_true (s : List UInt8) (a b : List GDrawOp) (hs : s.length ≤ 1048576) (ha : OkOps a) (hb : OkOps b) (la : a.length ≤ 1048576) (lb : b.length ≤ 1048576) : law_ReplicaCheckSays s a b = some true := by
  unfold law_ReplicaCheckSays
  rw [show law_draws = some true from rfl, bnd1_some, show ((!true) == false) = true from rfl, gd_true, replica_Place_eq s hs, bnd1_some, gd_true, ref_Place_eq s hs, bnd1_some]
  rw [show (((!true) || (!(placeB s == placeB s))) == false) = true by simp, gd_true, replica_Check_eq a ha la, bnd1_some, gd_true, ref_DrawError_eq a ha la, bnd1_some, if_neg (by simp)]
  unfold replica_Join
  rw [replica_Check_eq a ha la, bnd1_some]
  by_cases h1 : drawErr a = 0
  · rw [if_neg (by simp [h1]), replica_Check_eq b hb lb, bnd1_some]
    by_cases h2 : drawErr b = 0
    · rw [if_neg (by simp [h2]), replica_Both_eq a b (by omega)]
      rw [show (bnd2 (some (resD (mrgD a b))) fun (r1 : List GDrawOp) (r2 : Int) => some (r1, r2)) = some (resD (mrgD a b)) from rfl]
      rw [ref_Union_eq a b la lb, unionD_eq a b (drawErr_srt h1) (drawErr_srt h2), ref_DrawError_eq b hb lb]
      generalize hm : mrgD a b = r
      cases r with
      | none =>
        rw [show resD none = (([] : List GDrawOp), (6 : Int)) from rfl, bnd2_some, bnd1_some, if_pos (by simp [h1]), bnd1_some, bnd1_some, if_neg (by simp [h2]), bnd2_some]
        rw [show (decide ((6 : Int) = 6) == true) = true from rfl, gd_true, ref_SameOps_refl [] (by simp), bnd1_some]; rfl
      | some l =>
        have hl := mrgD_len hm
        rw [show resD (some l) = (l, (0 : Int)) from rfl, bnd2_some, bnd1_some, if_pos (by simp [h1]), bnd1_some, bnd1_some, if_neg (by simp [h2]), bnd2_some]
        rw [show (decide ((0 : Int) = 0) == true) = true from rfl, gd_true, ref_SameOps_refl l (by omega), bnd1_some]; rfl
    · rw [if_pos (by simp [h2]), bnd2_some, bnd1_some, if_pos (by simp [h1]), ref_DrawError_eq b hb lb, bnd1_some, bnd1_some, if_pos (by simp [h2])]
      simp
  · rw [if_pos (by simp [h1]), bnd2_some, bnd1_some, if_neg (by simp [h1]), bnd1_some, if_pos (by simp [h1])]
    simp
end Go.Proofs.Ytelkfhdgmbahgaa.Al


namespace Go.Proofs.Ytelkfhdgmbahgaa.Al
theorem okOps_of {μ : GDrawOp → Nat} (h : ∀ x, x.Place.length + x.Name.length + x.Value.length + 1 ≤ μ x) : ∀ (l : List GDrawOp), (l.map μ).sum ≤ 1048576 → OkOps l ∧ l.length ≤ 1048576 := by
  have key : ∀ l : List GDrawOp, l.length ≤ (l.map μ).sum ∧ ∀ x ∈ l, μ x ≤ (l.map μ).sum := by
    intro l
    induction l with
    | nil => exact ⟨Nat.le_refl _, fun x hx => by simp at hx⟩
    | cons y l ih =>
      have h0 := h y
      rw [List.map_cons, List.sum_cons, List.length_cons]
      refine ⟨by omega, fun x hx => ?_⟩
      rcases List.mem_cons.1 hx with rfl | hx
      · omega
      · have := ih.2 x hx; omega
  intro l hb
  obtain ⟨h1, h2⟩ := key l
  refine ⟨fun x hx => ?_, by omega⟩
  have h3 := h2 x hx
  have h4 := h x
  exact ⟨by omega, by omega, by omega⟩
end Go.Proofs.Ytelkfhdgmbahgaa.Al

