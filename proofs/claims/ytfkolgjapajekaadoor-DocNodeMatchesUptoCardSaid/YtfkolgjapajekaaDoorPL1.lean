/- Plain laws over the models, a part of them. -/
import Derived.Test.YtfkolgjapajekaaDoorMod1
namespace Go.Proofs.YtfkolgjapajekaaDoor.Al
@[simp] theorem bnd1_some {a α : Type} (x : a) (f : a → Option α) : bnd1 (some x) f = f x := rfl
@[simp] theorem bnd2_some {a b α : Type} (x : a) (y : b) (f : a → b → Option α) : bnd2 (some (x, y)) f = f x y := rfl
@[simp] theorem bnd3_some {a b c α : Type} (x : a) (y : b) (z : c) (f : a → b → c → Option α) : bnd3 (some (x, y, z)) f = f x y z := rfl
@[simp] theorem bnd4_some {a b c d α : Type} (x : a) (y : b) (z : c) (u : d) (f : a → b → c → d → Option α) : bnd4 (some (x, y, z, u)) f = f x y z u := rfl
@[simp] theorem ctl1_nrm {a α : Type} (x : a) (f : a → Option α) : ctl1 (some (.nrm x)) f = f x := rfl
@[simp] theorem ctl1_ext {a α : Type} (t : α) (f : a → Option α) : ctl1 (some (.ext t)) f = some t := rfl
@[simp] theorem ctl2_nrm {a b α : Type} (x : a) (y : b) (f : a → b → Option α) : ctl2 (some (.nrm (x, y))) f = f x y := rfl
@[simp] theorem ctl2_ext {a b α : Type} (t : α) (f : a → b → Option α) : ctl2 (some (.ext t)) f = some t := rfl
@[simp] theorem ctl3_nrm {a b c α : Type} (x : a) (y : b) (z : c) (f : a → b → c → Option α) : ctl3 (some (.nrm (x, y, z))) f = f x y z := rfl
@[simp] theorem ctl3_ext {a b c α : Type} (t : α) (f : a → b → c → Option α) : ctl3 (some (.ext t)) f = some t := rfl
@[simp] theorem gd_true {α : Type} [Inhabited α] (m : Option α) : gd true m = m := rfl
@[simp] theorem gd_false {α : Type} [Inhabited α] (m : Option α) : gd false m = some default := rfl
theorem idx_nat {α : Type} [Inhabited α] {l : List α} {k : Nat} (h : k < l.length) : idx l (k : Int) = some l[k]! := by
  unfold idx
  rw [if_pos (Int.natCast_nonneg k), Int.toNat_natCast, List.getElem?_eq_getElem h, getElem!_pos l k h]
theorem chk_nat {k : Nat} (h : k < 9223372036854775807) : chk .i64 ((k : Int) + 1) = some (((k + 1 : Nat)) : Int) := by
  rw [chk64 (by omega) (by omega)]; rfl
theorem chk_pred {k : Nat} (h : 0 < k) (h2 : k ≤ 9223372036854775807) : chk .i64 ((k : Int) - 1) = some ((k - 1 : Nat) : Int) := by
  rw [chk64 (by omega) (by omega)]; congr 1; omega
def stepOf {ρ : Type} (k : Nat) : Option ρ → Option (Int ⊕ Ctl Unit ρ)
  | none => some (.inl ((k + 1 : Nat) : Int))
  | some r => some (.inr (.ext r))
def outOf {ρ : Type} : Option ρ → Ctl Unit ρ
  | none => .nrm ()
  | some r => .ext r
theorem iter_find {ρ : Type} {f : Int → Option (Int ⊕ Ctl Unit ρ)} {n : Nat} (g : Nat → Option ρ) (h1 : ∀ k : Nat, k < n → f k = stepOf k (g k))
    (h2 : f n = some (.inr (.nrm ()))) : iter f 0 = some (outOf ((List.range n).findSome? g)) := by
  have key : ∀ m k : Nat, k + m = n → iter f (k : Int) = some (outOf ((List.range' k m).findSome? g)) := by
    intro m
    induction m with
    | zero =>
      intro k hk
      obtain rfl : k = n := by omega
      rw [iter_stop h2]; rfl
    | succ m ih =>
      intro k hk
      rw [List.range'_succ, List.findSome?_cons]
      have := h1 k (by omega)
      cases hg : g k with
      | none => rw [hg] at this; rw [iter_next this, ih (k + 1) (by omega)]
      | some r => rw [hg] at this; rw [iter_stop this]; rfl
  rw [List.range_eq_range']
  exact key n 0 (by omega)
theorem findSome_congr {α ρ : Type} {l : List α} {g h : α → Option ρ} (e : ∀ x ∈ l, g x = h x) : l.findSome? g = l.findSome? h := by
  induction l with
  | nil => rfl
  | cons a l ih => rw [List.findSome?_cons, List.findSome?_cons, e a (List.mem_cons_self ..), ih fun x hx => e x (List.mem_cons_of_mem _ hx)]
theorem find_all {α ρ : Type} [Inhabited α] (l : List α) (p : α → Bool) (r : ρ) : (List.range l.length).findSome? (fun k => if p l[k]! then none else some r) = if l.all p then none else some r := by
  induction l with
  | nil => rfl
  | cons a l ih =>
    rw [List.length_cons, List.range_succ_eq_map, List.findSome?_cons, List.findSome?_map]
    have hr : (List.range l.length).findSome? ((fun k => if p (a :: l)[k]! = true then none else some r) ∘ Nat.succ) = if l.all p = true then none else some r := by
      rw [← ih]; exact findSome_congr fun k _ => by simp
    rw [hr]
    by_cases hp : p a = true
    · simp [hp]
    · simp [hp]
theorem ctl_outOf {ρ : Type} (o : Option ρ) (f : Unit → Option ρ) : ctl1 (some (outOf o)) f = match o with | none => f () | some r => some r := by cases o <;> rfl
end Go.Proofs.YtfkolgjapajekaaDoor.Al


namespace Go.Proofs.YtfkolgjapajekaaDoor.Al
def chOK (c : UInt8) : Bool := (decide (97 ≤ c.toNat) && decide (c.toNat ≤ 122)) || (decide (48 ≤ c.toNat) && decide (c.toNat ≤ 57)) || decide (c.toNat = 46) || decide (c.toNat = 45)
def nameOK (s : List UInt8) : Bool := decide (1 ≤ s.length) && decide (s.length ≤ 24) && (decide (97 ≤ s[0]!.toNat) && decide (s[0]!.toNat ≤ 122)) && s.all chOK
def valCh (c : UInt8) : Bool := decide (32 ≤ c.toNat) && decide (c.toNat ≤ 126)
def valOK (s : List UInt8) : Bool := decide (1 ≤ s.length) && decide (s.length ≤ 200) && s.all valCh
theorem attr_Name_step (s : List UInt8) (k : Nat) (hk : k < s.length) (hm : s.length ≤ 9223372036854775807) : attr_Name_L1 s k = stepOf k (if chOK s[k]! then none else some false) := by
  unfold attr_Name_L1
  rw [if_pos (by simpa using hk), idx_nat hk, bnd1_some, chk_nat (by omega)]
  generalize s[k]! = c
  have e : (((((decide ((c.toNat : Int) < 97)) || (decide (122 < (c.toNat : Int)))) && ((decide ((c.toNat : Int) < 48)) || (decide (57 < (c.toNat : Int))))) && (!decide ((c.toNat : Int) = 46))) && (!decide ((c.toNat : Int) = 45))) = !chOK c := by
    unfold chOK
    rw [Bool.eq_iff_iff]
    simp only [Bool.or_eq_true, Bool.and_eq_true, decide_eq_true_eq, Bool.not_eq_true', decide_eq_false_iff_not, Bool.or_eq_false_iff, Bool.and_eq_false_imp]
    omega
  rw [e]
  cases chOK c <;> rfl
theorem attr_Name_eq (s : List UInt8) (hm : s.length ≤ 9223372036854775807) : attr_Name s = some (nameOK s) := by
  unfold attr_Name
  rw [iter_find (n := s.length) (fun k => if chOK s[k]! then none else some false) (fun k hk => attr_Name_step s k hk hm) (by unfold attr_Name_L1; rw [if_neg (by simp)]), find_all]
  unfold nameOK
  cases s with
  | nil => simp
  | cons c t =>
    have h0 : idx (c :: t) 0 = some c := rfl
    rw [h0]
    simp only [List.getElem!_cons_zero, decide_eq_false (List.cons_ne_nil c t), Bool.false_or]
    generalize (c :: t).all chOK = al
    generalize hl : (c :: t).length = L
    have hL : 1 ≤ L := by rw [← hl]; simp
    by_cases h1 : 24 < (L : Int)
    · have e1 : decide (L ≤ 24) = false := by simp; omega
      simp [h1, e1]
    · rw [decide_eq_false h1]
      simp only [Bool.false_or, beq_self_eq_true, gd_true, bnd1_some]
      have e1 : decide (L ≤ 24) = true := by simp; omega
      have e2 : decide (1 ≤ L) = true := by simp; omega
      rw [e1, e2]
      by_cases h2 : (c.toNat : Int) < 97
      · have e3 : decide (97 ≤ c.toNat) = false := by simp; omega
        simp [h2, e3]
      · rw [decide_eq_false h2]
        have e3 : decide (97 ≤ c.toNat) = true := by simp; omega
        simp only [beq_self_eq_true, gd_true, bnd1_some, Bool.false_or]
        by_cases h3 : 122 < (c.toNat : Int)
        · have e4 : decide (c.toNat ≤ 122) = false := by simp; omega
          simp [h3, e4]
        · have e4 : decide (c.toNat ≤ 122) = true := by simp; omega
          rw [if_neg (by simpa using h3), ctl_outOf, e3, e4]
          cases al <;> rfl
theorem find_const {ρ : Type} (n : Nat) (p : Nat → Bool) (r : ρ) : (List.range n).findSome? (fun k => if p k then none else some r) = if (List.range n).all p then none else some r := by
  generalize List.range n = l
  induction l with
  | nil => rfl
  | cons a l ih => rw [List.findSome?_cons, List.all_cons, ]; by_cases h : p a = true <;> simp [h, ih]
theorem attr_Value_eq (s : List UInt8) (hm : s.length ≤ 9223372036854775807) : attr_Value s = some (valOK s) := by
  unfold attr_Value valOK
  rw [iter_find (n := s.length) (fun k => if valCh s[k]! then none else some false) (fun k hk => by
    unfold attr_Value_L1
    rw [if_pos (by simpa using hk), idx_nat hk, bnd1_some, chk_nat (by omega)]
    generalize s[k]! = c
    have e : ((decide ((c.toNat : Int) < 32)) || (decide (126 < (c.toNat : Int)))) = !valCh c := by
      unfold valCh
      rw [Bool.eq_iff_iff]
      simp only [Bool.or_eq_true, Bool.and_eq_true, decide_eq_true_eq, Bool.not_eq_true', decide_eq_false_iff_not, Bool.and_eq_false_imp]
      omega
    rw [e]
    cases valCh c <;> rfl) (by unfold attr_Value_L1; rw [if_neg (by simp)]), find_all, ctl_outOf]
  generalize s.all valCh = al
  cases s with
  | nil => simp
  | cons c t =>
    rw [decide_eq_false (List.cons_ne_nil c t), Bool.false_or]
    generalize hl : (c :: t).length = L
    have hL : 1 ≤ L := by rw [← hl]; simp
    by_cases h1 : 200 < (L : Int)
    · have e1 : decide (L ≤ 200) = false := by simp; omega
      simp [h1, e1]
    · have e1 : decide (L ≤ 200) = true := by simp; omega
      have e2 : decide (1 ≤ L) = true := by simp; omega
      rw [if_neg (by simpa using h1), e1, e2]
      cases al <;> rfl
theorem sLt_cons (a b : UInt8) (x y : List UInt8) : sLt (a :: x) (b :: y) = (decide (a < b) || (a == b && sLt x y)) := rfl
theorem sLt_tri : ∀ (a b : List UInt8), (sLt a b || decide (a = b)) = !sLt b a
  | [], [] => rfl
  | [], _ :: _ => rfl
  | _ :: _, [] => rfl
  | a :: x, b :: y => by
    rw [sLt_cons, sLt_cons]
    have ih := sLt_tri x y
    by_cases h : a = b
    · subst h
      have h1 : ¬ a < a := fun h => by simp [UInt8.lt_iff_toNat_lt] at h
      simp only [decide_eq_false h1, beq_self_eq_true, Bool.true_and, Bool.false_or, List.cons.injEq, true_and]
      exact ih
    · have h2 : (a == b) = false := by simpa using h
      have h3 : (b == a) = false := by simpa using fun e : b = a => h e.symm
      have h4 : ¬ (a :: x = b :: y) := fun e => h (List.cons.inj e).1
      rw [h2, h3, decide_eq_false h4]
      simp only [Bool.false_and, Bool.or_false]
      have h5 : a.toNat ≠ b.toNat := fun e => h (UInt8.toNat_inj.1 e)
      by_cases hlt : a < b
      · have : ¬ b < a := by rw [UInt8.lt_iff_toNat_lt] at hlt ⊢; omega
        simp [hlt, this]
      · have : b < a := by rw [UInt8.lt_iff_toNat_lt] at hlt ⊢; omega
        simp [hlt, this]
def okStr (l : List GAttr) : Prop := ∀ a ∈ l, a.Name.length ≤ 9223372036854775807 ∧ a.Value.length ≤ 9223372036854775807
def errA (l : List GAttr) (ch : Bool) (k : Nat) : Option Int :=
  if nameOK l[k]!.Name = false then some 9 else if valOK l[k]!.Value = false ∧ ¬ (ch = true ∧ l[k]!.Value = []) then some 23 else if 0 < k ∧ sLt l[k - 1]!.Name l[k]!.Name = false then some 5 else none
def attrErr (l : List GAttr) (ch : Bool) : Int := ((List.range l.length).findSome? (errA l ch)).getD 0
theorem okStr.at {l : List GAttr} (h : okStr l) {k : Nat} (hk : k < l.length) : l[k]!.Name.length ≤ 9223372036854775807 ∧ l[k]!.Value.length ≤ 9223372036854775807 := by
  rw [getElem!_pos l k hk]; exact h _ (List.getElem_mem hk)
theorem attr_check_step (l : List GAttr) (ch : Bool) (h : okStr l) (hm : l.length ≤ 9223372036854775807) (k : Nat) (hk : k < l.length) : attr_check_L1 l ch k = stepOf k (errA l ch k) := by
  unfold attr_check_L1 errA
  obtain ⟨hn1, hn2⟩ := h.at hk
  rw [if_pos (by simpa using hk), idx_nat hk, bnd1_some]
  generalize l[k]! = x at hn1 hn2 ⊢
  rw [attr_Name_eq _ hn1, bnd1_some]
  cases nameOK x.Name
  · rfl
  rw [if_neg (by decide), if_neg (by decide), attr_Value_eq _ hn2, bnd1_some, chk_nat (by omega)]
  by_cases hv : valOK x.Value = false ∧ ¬ (ch = true ∧ x.Value = [])
  · rw [if_pos hv, if_pos (by simp [hv.1]; cases ch <;> simp_all)]; rfl
  rw [if_neg hv, if_neg (by intro e; simp at e; exact hv ⟨e.1, by rintro ⟨a, b⟩; simp [a, b] at e⟩)]
  by_cases hk0 : k = 0
  · subst hk0; rfl
  · have h0 : decide ((0 : Int) < (k : Int)) = true := by simp; omega
    rw [h0, chk_pred (by omega) (by omega)]
    simp only [beq_self_eq_true, gd_true, bnd1_some, Bool.true_and]
    rw [idx_nat (by omega), bnd1_some, sLt_tri]
    have : (0 < k ∧ sLt l[k - 1]!.Name x.Name = false) ↔ sLt l[k - 1]!.Name x.Name = false := by constructor; exact fun h => h.2; exact fun h => ⟨by omega, h⟩
    simp only [this]
    cases sLt l[k - 1]!.Name x.Name <;> rfl
theorem out_getD {o : Option Int} : (ctl1 (some (outOf o)) fun _ : Unit => some 0) = some (o.getD 0) := by cases o <;> rfl
theorem attr_check_eq (l : List GAttr) (ch : Bool) (h : okStr l) (hm : l.length ≤ 9223372036854775807) : attr_check l ch = some (attrErr l ch) := by
  unfold attr_check
  rw [iter_find (n := l.length) (errA l ch) (fun k hk => attr_check_step l ch h hm k hk) (by unfold attr_check_L1; rw [if_neg (by simp)]), out_getD]; rfl
theorem attr_Check_eq (l : List GAttr) (h : okStr l) (hm : l.length ≤ 9223372036854775807) : attr_Check l = some (attrErr l false) := by unfold attr_Check; rw [attr_check_eq l _ h hm]; rfl
def getA (l : List GAttr) (name : List UInt8) : List UInt8 := ((List.range l.length).findSome? fun k => if l[k]!.Name = name then some l[k]!.Value else none).getD []
end Go.Proofs.YtfkolgjapajekaaDoor.Al


namespace Go.Proofs.YtfkolgjapajekaaDoor.Al
def nil2 : GAttr := ⟨[], []⟩
theorem attr_eq_iff (x y : GAttr) : x = y ↔ x.Name = y.Name ∧ x.Value = y.Value := by cases x; cases y; simp
theorem attr_Same_eq (a b : List GAttr) (hm : a.length ≤ 9223372036854775807) : attr_Same a b = some (decide (a = b)) := by
  unfold attr_Same
  by_cases hl : a.length = b.length
  · rw [if_neg (by simp [hl]), iter_find (n := a.length) (fun k => if decide (a[k]! = b[k]!) then none else some false) (fun k hk => by
      unfold attr_Same_L1
      rw [if_pos (by simpa using hk), idx_nat hk, idx_nat (by omega), bnd1_some, bnd1_some, chk_nat (by omega)]
      generalize a[k]! = x
      generalize b[k]! = y
      by_cases h : x = y
      · subst h; simp [stepOf]
      · have h' := h; rw [attr_eq_iff] at h'
        simp only [decide_eq_false h, Bool.and_true]
        by_cases h1 : x.Name = y.Name
        · have h2 : ¬ x.Value = y.Value := fun e => h' ⟨h1, e⟩
          simp [h1, h2, stepOf]
        · simp [h1, stepOf]) (by unfold attr_Same_L1; rw [if_neg (by simp)]), find_const, ctl_outOf]
    by_cases h : a = b
    · subst h; simp
    · rw [decide_eq_false h]
      have : ((List.range a.length).all fun k => decide (a[k]! = b[k]!)) = false := by
        rw [← Bool.not_eq_true, List.all_eq_true]
        intro hall
        apply h
        apply List.ext_getElem hl
        intro k h1 h2
        have := hall k (List.mem_range.2 h1)
        simp only [decide_eq_true_eq] at this
        rwa [getElem!_pos a k h1, getElem!_pos b k h2] at this
      rw [this]; rfl
  · rw [if_pos (by simp; omega), decide_eq_false (by rintro rfl; exact hl rfl)]
theorem ref_SameAttrs_eq (a b : List GAttr) (hm : a.length ≤ 9223372036854775807) : ref_SameAttrs a b = some (decide (a = b)) := by
  unfold ref_SameAttrs
  by_cases hl : a.length = b.length
  · rw [if_neg (by simp [hl]), iter_find (n := a.length) (fun k => if decide (a[k]! = b[k]!) then none else some false) (fun k hk => by
      unfold ref_SameAttrs_L1
      rw [if_pos (by simpa using hk), idx_nat hk, idx_nat (by omega), bnd1_some, bnd1_some, chk_nat (by omega)]
      generalize a[k]! = x
      generalize b[k]! = y
      by_cases h : x = y
      · subst h; simp [stepOf]
      · have h' := h; rw [attr_eq_iff] at h'
        simp only [decide_eq_false h, Bool.and_true]
        by_cases h1 : x.Name = y.Name
        · have h2 : ¬ x.Value = y.Value := fun e => h' ⟨h1, e⟩
          simp [h1, h2, stepOf]
        · simp [h1, stepOf]) (by unfold ref_SameAttrs_L1; rw [if_neg (by simp)]), find_const, ctl_outOf]
    by_cases h : a = b
    · subst h; simp
    · rw [decide_eq_false h]
      have : ((List.range a.length).all fun k => decide (a[k]! = b[k]!)) = false := by
        rw [← Bool.not_eq_true, List.all_eq_true]
        intro hall
        apply h
        apply List.ext_getElem hl
        intro k h1 h2
        have := hall k (List.mem_range.2 h1)
        simp only [decide_eq_true_eq] at this
        rwa [getElem!_pos a k h1, getElem!_pos b k h2] at this
      rw [this]; rfl
  · rw [if_pos (by simp; omega), decide_eq_false (by rintro rfl; exact hl rfl)]
end Go.Proofs.YtfkolgjapajekaaDoor.Al


namespace Go.Proofs.YtfkolgjapajekaaDoor.Al
end Go.Proofs.YtfkolgjapajekaaDoor.Al


namespace Go.Proofs.YtfkolgjapajekaaDoor.Al
def One (l : List GAttr) (n : List UInt8) (o : Option GAttr) : Prop := l = o.toList ∧ ∀ e, o = some e → e.Name = n
structure GOK (g : GAttr → GAttr → List GAttr) (G : Option GAttr → Option GAttr → Option GAttr) : Prop where
  l : ∀ x : GAttr, x.Name ≠ [] → One (g x nil2) x.Name (G (some x) none)
  r : ∀ y : GAttr, y.Name ≠ [] → One (g nil2 y) y.Name (G none (some y))
  b : ∀ x y : GAttr, x.Name = y.Name → x.Name ≠ [] → One (g x y) x.Name (G (some x) (some y))
  n : G none none = none
end Go.Proofs.YtfkolgjapajekaaDoor.Al


namespace Go.Proofs.YtfkolgjapajekaaDoor.Al
end Go.Proofs.YtfkolgjapajekaaDoor.Al


namespace Go.Proofs.YtfkolgjapajekaaDoor.Al
theorem iter_hoare {σ β : Type} {f : σ → Option (σ ⊕ β)} (n : Nat) (R : Nat → σ → Prop) (Q : β → Prop)
    (h1 : ∀ k s, k < n → R k s → (∃ s', f s = some (.inl s') ∧ R (k + 1) s') ∨ (∃ b, f s = some (.inr b) ∧ Q b))
    (h2 : ∀ s, R n s → ∃ b, f s = some (.inr b) ∧ Q b) {s : σ} (h0 : R 0 s) : ∃ b, iter f s = some b ∧ Q b := by
  have key : ∀ m k s, k + m = n → R k s → ∃ b, iter f s = some b ∧ Q b := by
    intro m
    induction m with
    | zero =>
      intro k s hk hR
      obtain rfl : k = n := by omega
      obtain ⟨b, hb, hq⟩ := h2 s hR
      exact ⟨b, iter_stop hb, hq⟩
    | succ m ih =>
      intro k s hk hR
      rcases h1 k s (by omega) hR with ⟨s', h3, h4⟩ | ⟨b, h3, h4⟩
      · obtain ⟨b, h5, h6⟩ := ih (k + 1) s' (by omega) h4
        exact ⟨b, by rw [iter_next h3, h5], h6⟩
      · exact ⟨b, iter_stop h3, h4⟩
  exact key n 0 s (by omega) h0
theorem take_at {α : Type} [Inhabited α] {l : List α} {k : Nat} (h : k < l.length) : l.take (k + 1) = l.take k ++ [l[k]!] := by
  rw [List.take_add_one, List.getElem?_eq_getElem h, getElem!_pos l k h]; rfl
theorem mem_at {α : Type} [Inhabited α] {l : List α} {k : Nat} (h : k < l.length) : l[k]! ∈ l := by
  rw [getElem!_pos l k h]; exact List.getElem_mem h
def oldN (s : GAxisStep) : Int := if s.Kind = 1 then 0 else s.N
def nowN (s : GAxisStep) : Int := if s.Kind = 2 then 0 else s.N
def oldLen (a : List GAxisStep) : Int := (a.map oldN).sum
def nowLen (a : List GAxisStep) : Int := (a.map nowN).sum
def Stp (s : GAxisStep) : Prop := 0 ≤ s.Kind ∧ s.Kind ≤ 2 ∧ 1 ≤ s.N ∧ s.N ≤ 2147483647
end Go.Proofs.YtfkolgjapajekaaDoor.Al


namespace Go.Proofs.YtfkolgjapajekaaDoor.Al
structure GoodA (a : List GAxisStep) : Prop where
  stp : ∀ s ∈ a, Stp s
  olds : oldLen a ≤ 2147483647
  nows : nowLen a ≤ 2147483647
theorem oldLen_cons (s : GAxisStep) (a : List GAxisStep) : oldLen (s :: a) = oldN s + oldLen a := by simp [oldLen]
theorem nowLen_cons (s : GAxisStep) (a : List GAxisStep) : nowLen (s :: a) = nowN s + nowLen a := by simp [nowLen]
theorem GoodA.len {a : List GAxisStep} (h : GoodA a) : (a.length : Int) ≤ 4294967294 := by
  have key : ∀ l : List GAxisStep, (∀ s ∈ l, Stp s) → (l.length : Int) ≤ oldLen l + nowLen l := by
    intro l
    induction l with
    | nil => intro _; simp [oldLen, nowLen]
    | cons s l ih =>
      intro h
      have h1 := ih fun x hx => h x (List.mem_cons_of_mem _ hx)
      have h2 := h s (List.mem_cons_self ..)
      rw [oldLen_cons, nowLen_cons, List.length_cons]
      unfold oldN nowN
      unfold Stp at h2
      split <;> split <;> omega
  have h1 := key a h.stp
  have h2 := h.olds
  have h3 := h.nows
  omega
def Run (a : List GAxisStep) (k : Nat) (f t : Int) : Prop := 0 ≤ f ∧ f + oldLen (a.drop k) ≤ 2147483647 ∧ 0 ≤ t ∧ t + nowLen (a.drop k) ≤ 2147483647
theorem GoodA.run {a : List GAxisStep} (h : GoodA a) : Run a 0 0 0 := by
  have h2 := h.olds
  have h3 := h.nows
  unfold Run
  rw [List.drop_zero]
  omega
def sizeLen (a : List GAxisStep) : Int := (a.map (·.N)).sum
end Go.Proofs.YtfkolgjapajekaaDoor.Al


namespace Go.Proofs.YtfkolgjapajekaaDoor.Al
def charOK (c : Int) : Bool := decide (c = 9) || decide (c = 10) || (decide (32 ≤ c) && decide (c ≤ 126)) || (decide (160 ≤ c) && decide (c ≤ 55295)) || (decide (57344 ≤ c) && decide (c ≤ 1114111))
def elemErr (x : GElem) : Int :=
  if (x.Char = 0 ∧ x.Ref = 0) ∨ (x.Char ≠ 0 ∧ x.Ref ≠ 0) then 4 else if (x.Char ≠ 0 ∧ charOK x.Char = false) ∨ (x.Ref ≠ 0 ∧ ¬ (1 ≤ x.Ref ∧ x.Ref ≤ 1073741824)) then 2 else attrErr x.Attrs false
def okE (x : GElem) : Prop := x.Attrs.length ≤ 9223372036854775807 ∧ okStr x.Attrs
theorem flow_Char_eq (c : Int) : flow_Char c = some (charOK c) := by
  unfold flow_Char charOK
  congr 1
  rw [Bool.eq_iff_iff]
  simp only [Bool.or_eq_true, Bool.and_eq_true, decide_eq_true_eq]
  omega
theorem flow_elem_eq (x : GElem) (h : okE x) : flow_elem x = some (elemErr x) := by
  unfold flow_elem elemErr
  rw [flow_Char_eq, attr_Check_eq _ h.2 h.1]
  by_cases c : x.Char = 0
  · by_cases r : x.Ref = 0
    · simp [c, r]
    · by_cases q : 1 ≤ x.Ref ∧ x.Ref ≤ 1073741824
      · have q1 : ¬ x.Ref < 1 := by omega
        have q2 : ¬ 1073741824 < x.Ref := by omega
        simp [c, r, q, q1, q2]
      · have q1 : x.Ref < 1 ∨ 1073741824 < x.Ref := by omega
        simp [c, r, q, q1]
  · by_cases r : x.Ref = 0
    · cases hc : charOK x.Char <;> simp [c, r, hc]
    · simp [c, r]
def errE (f : List GElem) (k : Nat) : Option Int := if elemErr f[k]! = 0 then none else some (elemErr f[k]!)
def partErr (f : List GElem) : Int := ((List.range f.length).findSome? (errE f)).getD 0
theorem elem_attrs {x : GElem} (h : elemErr x = 0) : attrErr x.Attrs false = 0 := by
  unfold elemErr at h
  split at h
  · cases h
  · split at h
    · cases h
    · exact h
def sHidden : List UInt8 := [104, 105, 100, 100, 101, 110]
def sOn : List UInt8 := [111, 110]
def sCut : List UInt8 := [99, 117, 116]
def sAdd : List UInt8 := [97, 100, 100]
def hid (x : GElem) (mode : Int) : Bool := decide (getA x.Attrs sHidden = sOn) || (decide (mode = 0) && !decide (getA x.Attrs sCut = [])) || (decide (mode = 1) && !decide (getA x.Attrs sAdd = []))
end Go.Proofs.YtfkolgjapajekaaDoor.Al


namespace Go.Proofs.YtfkolgjapajekaaDoor.Al
theorem ndT {p : Prop} [Decidable p] (h : ¬ p) : (!decide p) = true := by simp [h]
theorem ndF {p : Prop} [Decidable p] (h : p) : ¬ ((!decide p) = true) := by simp [h]
def okA (l : List GAttr) : Prop := l.length ≤ 1073741824 ∧ okStr l
theorem okA.e {x : GElem} (h : okA x.Attrs) : okE x := ⟨by have := h.1; omega, h.2⟩
structure OkSt (s : GStep) : Prop where
  at_ : okA s.Attrs
  el : s.Elems.length ≤ 1073741824
  ea : ∀ e ∈ s.Elems, okA e.Attrs
structure OkD (d : List GStep) : Prop where
  len : d.length ≤ 1099511627776
  st : ∀ s ∈ d, OkSt s
  sum : (d.map fun s => s.Elems.length).sum ≤ 1073741824
structure GoodS (s : GStep) : Prop where
  kind : (s.Kind = 0 ∧ s.Elems = [] ∧ 1 ≤ s.N ∧ s.N ≤ 2147483647 ∧ attrErr s.Attrs true = 0) ∨ (s.Kind = 2 ∧ s.Elems = [] ∧ s.Attrs = [] ∧ 1 ≤ s.N ∧ s.N ≤ 2147483647) ∨
    (s.Kind = 1 ∧ s.N = 0 ∧ s.Attrs = [] ∧ s.Elems ≠ [] ∧ partErr s.Elems = 0)
def ordBad (p s : GStep) : Bool := (decide (p.Kind = s.Kind) && (!decide (s.Kind = 0) || decide (p.Attrs = s.Attrs))) || (decide (p.Kind = 2) && decide (s.Kind = 1))
def oldS (s : GStep) : Int := if s.Kind = 1 then 0 else s.N
def nowS (s : GStep) : Int := if s.Kind = 2 then 0 else if s.Kind = 1 then s.Elems.length else s.N
def oldD (d : List GStep) : Int := (d.map oldS).sum
def nowD (d : List GStep) : Int := (d.map nowS).sum
end Go.Proofs.YtfkolgjapajekaaDoor.Al


namespace Go.Proofs.YtfkolgjapajekaaDoor.Al
end Go.Proofs.YtfkolgjapajekaaDoor.Al


namespace Go.Proofs.YtfkolgjapajekaaDoor.Al
inductive Un where
  | a (e : GElem)
  | r (cut : Bool) (at_ : List GAttr)
def uOf : List (List GElem) → List Bool → List (List GAttr) → List Un
  | A :: As, c :: cs, t :: ts => A.map Un.a ++ Un.r c t :: uOf As cs ts
  | A :: _, _, _ => A.map Un.a
  | [], _, _ => []
structure WfA (x : Ref_Act) : Prop where
  adds : x.Adds.length = x.Cuts.length + 1
  attrs : x.Attrs.length = x.Cuts.length
def Ref_Act.us (x : Ref_Act) : List Un := uOf x.Adds x.Cuts x.Attrs
theorem set_eq {α : Type} {l : List α} {k : Nat} {x : α} : l.set ((k : Int).toNat) x = l.set k x := by simp
end Go.Proofs.YtfkolgjapajekaaDoor.Al


namespace Go.Proofs.YtfkolgjapajekaaDoor.Al
end Go.Proofs.YtfkolgjapajekaaDoor.Al


namespace Go.Proofs.YtfkolgjapajekaaDoor.Al
structure DS where
  out : List GStep
  adds : List GElem
  cuts : Nat
structure DB (m : Nat) (s : DS) : Prop where
  len : s.out.length + s.adds.length + s.cuts ≤ m
  mem : ∀ x ∈ s.out, 0 ≤ x.N ∧ x.N ≤ m ∧ x.Elems.length ≤ m ∧ x.Attrs.length ≤ 1099511627776
end Go.Proofs.YtfkolgjapajekaaDoor.Al


namespace Go.Proofs.YtfkolgjapajekaaDoor.Al
structure GoodD (d : List GStep) : Prop where
  st : ∀ s ∈ d, GoodS s
  ord : ∀ k, 0 < k → k < d.length → ordBad d[k - 1]! d[k]! = false
  olds : oldD d ≤ 2147483647
  nows : nowD d ≤ 2147483647
theorem loop_map {α β : Type} [Inhabited α] {f : Int × List β → Option ((Int × List β) ⊕ List β)} (l : List α) (g : α → β) (z : β)
    (h : ∀ (k : Nat) (out : List β), k < l.length → out.length = l.length → f ((k : Int), out) = some (.inl (((k + 1 : Nat) : Int), out.set k (g l[k]!)))) (hend : ∀ out, f ((l.length : Int), out) = some (.inr out)) :
    iter f (0, List.replicate l.length z) = some (l.map g) := by
  have key : ∃ r, iter f (0, List.replicate l.length z) = some r ∧ r = l.map g := by
    refine iter_hoare l.length (fun k st => st = ((k : Int), (l.take k).map g ++ List.replicate (l.length - k) z)) _ ?_ ?_ (by simp)
    · rintro k st hk rfl
      refine .inl ⟨_, h k _ hk (by simp; omega), ?_⟩
      congr 1
      obtain ⟨m, hm⟩ : ∃ m, l.length - k = m + 1 := ⟨l.length - k - 1, by omega⟩
      rw [hm, List.replicate_succ, take_at hk, List.map_append, List.set_append_right _ _ (by rw [List.length_map, List.length_take]; omega), show l.length - (k + 1) = m by omega]
      have : k - ((l.take k).map g).length = 0 := by simp; omega
      rw [this, List.set_cons_zero, List.append_assoc]; rfl
    · rintro st rfl
      refine ⟨_, hend _, by simp⟩
  obtain ⟨r, h1, h2⟩ := key
  rw [h1, h2]
theorem app32 {l : List GAttr} (h : l.length ≤ 1073741824) : app 32 [] l = some l := by
  unfold app; rw [if_pos]; rfl; simp; omega
theorem mk40 {α : Type} {n : Nat} (z : α) (h : n ≤ 4294967296) : mk 40 (n : Int) z = some (List.replicate n z) := by
  unfold mk; rw [if_pos (by omega)]; simp
theorem flow_Copy_eq (f : List GElem) (hm : f.length ≤ 4294967296) (h : ∀ e ∈ f, okA e.Attrs) : flow_Copy f = some f := by
  unfold flow_Copy
  rw [mk40 _ hm, bnd1_some]
  have := loop_map (f := fun (a : Int × (List GElem)) => flow_Copy_L1 f a.1 a.2) f id (GElem.mk 0 0 []) (fun k out hk hl => by
    have ha := (h _ (mem_at hk)).1
    show flow_Copy_L1 f (k : Int) out = _
    unfold flow_Copy_L1
    rw [if_pos (by simpa using hk), idx_nat hk, bnd1_some, app32 ha, bnd1_some, idx_nat (by omega), bnd1_some, chk_nat (by omega), bnd1_some, set_eq]
    rfl) (fun out => by
    show flow_Copy_L1 f (f.length : Int) out = _
    unfold flow_Copy_L1
    rw [if_neg (by simp)])
  rw [this, List.map_id]; rfl
end Go.Proofs.YtfkolgjapajekaaDoor.Al


namespace Go.Proofs.YtfkolgjapajekaaDoor.Al
end Go.Proofs.YtfkolgjapajekaaDoor.Al


namespace Go.Proofs.YtfkolgjapajekaaDoor.Al
def Okk2 (a : Nat) (s : GStep) : Prop := ((s.Kind = 0 ∧ s.Elems = [] ∧ 1 ≤ s.N ∧ attrErr s.Attrs true = 0) ∨ (s.Kind = 2 ∧ s.Elems = [] ∧ s.Attrs = [] ∧ 1 ≤ s.N) ∨
    (s.Kind = 1 ∧ s.N = 0 ∧ s.Attrs = [] ∧ s.Elems ≠ [] ∧ ∀ e ∈ s.Elems, elemErr e = 0)) ∧ okA s.Attrs ∧ s.Elems.length ≤ a ∧ ∀ e ∈ s.Elems, okA e.Attrs
def AdjD (l : List GStep) : Prop := ∀ k, 0 < k → k < l.length → ordBad l[k - 1]! l[k]! = false
structure CD (m a r n : Nat) (s : DS) : Prop where
  ok : ∀ x ∈ s.out, Okk2 a x
  adj : AdjD s.out
  last : 0 < s.out.length → s.out[s.out.length - 1]!.Kind = 0
  add : ∀ e ∈ s.adds, elemErr e = 0 ∧ okA e.Attrs
  olds : oldD s.out + s.cuts = r
  nows : nowD s.out + s.adds.length = n
  len : s.out.length + s.adds.length + s.cuts ≤ m
  al : s.adds.length ≤ a
theorem Okk2.mono {a b : Nat} {s : GStep} (h : Okk2 a s) (hab : a ≤ b) : Okk2 b s := ⟨h.1, h.2.1, Nat.le_trans h.2.2.1 hab, h.2.2.2⟩
end Go.Proofs.YtfkolgjapajekaaDoor.Al


namespace Go.Proofs.YtfkolgjapajekaaDoor.Al
end Go.Proofs.YtfkolgjapajekaaDoor.Al


namespace Go.Proofs.YtfkolgjapajekaaDoor.Al
theorem ref_SameElem_eq (x y : GElem) (h : x.Attrs.length ≤ 1073741824) : ref_SameElem x y = some (decide (x = y)) := by
  unfold ref_SameElem
  rw [ref_SameAttrs_eq _ _ (by omega)]
  obtain ⟨x1, x2, x3⟩ := x
  obtain ⟨y1, y2, y3⟩ := y
  by_cases h1 : x1 = y1 <;> by_cases h2 : x2 = y2 <;> by_cases h3 : x3 = y3 <;> simp [h1, h2, h3, default]
theorem all_eq_of {α : Type} [Inhabited α] [DecidableEq α] {a b : List α} (hl : a.length = b.length) (h : ((List.range a.length).all fun k => decide (a[k]! = b[k]!)) = true) : a = b := by
  apply List.ext_getElem hl
  intro k h1 h2
  have := List.all_eq_true.1 h k (List.mem_range.2 h1)
  simp only [decide_eq_true_eq] at this
  rwa [getElem!_pos a k h1, getElem!_pos b k h2] at this
theorem all_refl {α : Type} [Inhabited α] [DecidableEq α] (a : List α) : ((List.range a.length).all fun k => decide (a[k]! = a[k]!)) = true := by
  rw [List.all_eq_true]; intro k _; rw [decide_eq_true rfl]
theorem ref_SameFlow_eq (a b : List GElem) (hm : a.length ≤ 9223372036854775806) (h : ∀ e ∈ a, e.Attrs.length ≤ 1073741824) : ref_SameFlow a b = some (decide (a = b)) := by
  unfold ref_SameFlow
  by_cases hl : a.length = b.length
  · rw [if_neg (by simp [hl]), iter_find (n := a.length) (fun k => if decide (a[k]! = b[k]!) then none else some false) (fun k hk => by
      unfold ref_SameFlow_L1
      rw [if_pos (by simpa using hk), idx_nat hk, idx_nat (by omega), bnd1_some, bnd1_some, ref_SameElem_eq _ _ (h _ (mem_at hk)), bnd1_some, chk_nat (by omega)]
      generalize a[k]! = x
      generalize b[k]! = y
      by_cases h : x = y <;> simp [h, stepOf]) (by unfold ref_SameFlow_L1; rw [if_neg (by simp)]), find_const, ctl_outOf]
    by_cases h : a = b
    · subst h; rw [all_refl, decide_eq_true rfl]; rfl
    · rw [decide_eq_false h]
      have : ((List.range a.length).all fun k => decide (a[k]! = b[k]!)) = false := by
        rw [← Bool.not_eq_true]; exact fun hh => h (all_eq_of hl hh)
      rw [this]; rfl
  · rw [if_pos (by simp; omega), decide_eq_false (by rintro rfl; exact hl rfl)]
def OkF (f : List GElem) : Prop := ∀ e ∈ f, elemErr e = 0 ∧ e.Attrs.length ≤ 1048576
def OkU2 (us : List Un) : Prop := ∀ u ∈ us, match u with | .a e => elemErr e = 0 ∧ e.Attrs.length ≤ 1048576 | .r c t => (c = false → attrErr t true = 0) ∧ t.length ≤ 1048576
def OkFA (f : List GElem) : Prop := ∀ e ∈ f, attrErr e.Attrs false = 0 ∧ e.Attrs.length ≤ 1048576
theorem okE_attrs {e : GElem} (h : elemErr e = 0) : attrErr e.Attrs false = 0 := elem_attrs h
theorem OkF.fa {f : List GElem} (h : OkF f) : OkFA f := fun e he => ⟨okE_attrs (h e he).1, (h e he).2⟩
end Go.Proofs.YtfkolgjapajekaaDoor.Al


namespace Go.Proofs.YtfkolgjapajekaaDoor.Al
theorem okA_bulk {κ : GAttr → Nat} (h3 : ∀ a, a.Name.length + a.Value.length + 1 ≤ κ a) {l : List GAttr} (hb : (l.map κ).sum ≤ 1048576) : okA l := by
  have h1 := len_le_sum (μ := κ) (fun a => by have := h3 a; omega) l
  refine ⟨by omega, fun a ha => ?_⟩
  have h2 := mem_le_sum (μ := κ) ha
  have := h3 a
  omega
theorem okF_bulk {ν : GElem → Nat} {κ : GAttr → Nat} (h2 : ∀ e, (e.Attrs.map κ).sum + 1 ≤ ν e) (h3 : ∀ a, a.Name.length + a.Value.length + 1 ≤ κ a) {f : List GElem} (hb : (f.map ν).sum ≤ 1048576) : f.length ≤ 1048576 ∧ ∀ e ∈ f, okA e.Attrs := by
  have h1 := len_le_sum (μ := ν) (fun e => by have := h2 e; omega) f
  refine ⟨by omega, fun e he => okA_bulk h3 ?_⟩
  have h4 := mem_le_sum (μ := ν) he
  have := h2 e
  omega
end Go.Proofs.YtfkolgjapajekaaDoor.Al


namespace Go.Proofs.YtfkolgjapajekaaDoor.Al
structure SmD (d : List GStep) : Prop where
  at_ : ∀ s ∈ d, s.Attrs.length ≤ 1048576
  ea : ∀ s ∈ d, ∀ e ∈ s.Elems, e.Attrs.length ≤ 1048576
  sum : (d.map fun s => s.Elems.length).sum ≤ 1048576
  len : d.length ≤ 1048576
end Go.Proofs.YtfkolgjapajekaaDoor.Al


namespace Go.Proofs.YtfkolgjapajekaaDoor.Al
def OkU3 (us : List Un) : Prop := ∀ u ∈ us, match u with | .a e => elemErr e = 0 ∧ e.Attrs.length ≤ 1048576 | .r c t => (c = false → attrErr t true = 0) ∧ (c = true → t = []) ∧ t.length ≤ 1048576
theorem OkU3.two {us : List Un} (h : OkU3 us) : OkU2 us := by
  intro u hu
  have := h u hu
  match u, this with
  | .a e, he => exact he
  | .r c t, ht => exact ⟨ht.1, ht.2.2⟩
def szS (s : GStep) : Int := if s.Kind = 1 then s.Elems.length else s.N
structure RdD (p : Delta_Reader) : Prop where
  stp : ∀ s ∈ p.steps, GoodS s ∧ OkSt s
  u0 : 0 ≤ p.used
  fit : ∀ s rest, p.steps = s :: rest → p.used < szS s
end Go.Proofs.YtfkolgjapajekaaDoor.Al


namespace Go.Proofs.YtfkolgjapajekaaDoor.Al
end Go.Proofs.YtfkolgjapajekaaDoor.Al


namespace Go.Proofs.YtfkolgjapajekaaDoor.Al
end Go.Proofs.YtfkolgjapajekaaDoor.Al


namespace Go.Proofs.YtfkolgjapajekaaDoor.Al
def Adj (l : List GAxisStep) : Prop := ∀ k, k + 1 < l.length → l[k]!.Kind ≠ l[k + 1]!.Kind ∧ ¬ (l[k]!.Kind = 2 ∧ l[k + 1]!.Kind = 1)
def Okk (s : GAxisStep) : Prop := 0 ≤ s.Kind ∧ s.Kind ≤ 2 ∧ 1 ≤ s.N
structure WB (m : Int) (w : Axis_Writer) : Prop where
  a0 : 0 ≤ w.add
  c0 : 0 ≤ w.cut
  ok : ∀ s ∈ w.out, Okk s
  sum : sizeLen w.out + w.add + w.cut = m
  adj : Adj w.out
  last : 0 < w.out.length → w.out[w.out.length - 1]!.Kind = 0
end Go.Proofs.YtfkolgjapajekaaDoor.Al


namespace Go.Proofs.YtfkolgjapajekaaDoor.Al
structure RdOK (p : Axis_Reader) : Prop where
  stp : ∀ s ∈ p.steps, Stp s
  u0 : 0 ≤ p.used
  fit : ∀ s rest, p.steps = s :: rest → p.used < s.N
end Go.Proofs.YtfkolgjapajekaaDoor.Al


namespace Go.Proofs.YtfkolgjapajekaaDoor.Al
end Go.Proofs.YtfkolgjapajekaaDoor.Al


namespace Go.Proofs.YtfkolgjapajekaaDoor.Al
theorem OkU3.app {a b : List Un} (h : OkU3 (a ++ b)) : OkU3 b := fun u hu => h u (List.mem_append_right _ hu)
end Go.Proofs.YtfkolgjapajekaaDoor.Al


namespace Go.Proofs.YtfkolgjapajekaaDoor.Al
end Go.Proofs.YtfkolgjapajekaaDoor.Al


namespace Go.Proofs.YtfkolgjapajekaaDoor.Al
def flowErr (f : List GElem) : Int := if partErr f ≠ 0 then partErr f else if f = [] ∨ f[f.length - 1]!.Char ≠ 10 then 11 else 0
theorem errE_ne {f : List GElem} {k : Nat} {r : Int} (h : errE f k = some r) : r ≠ 0 := by
  unfold errE at h
  split at h
  · cases h
  · rename_i hne; cases h; exact hne
theorem flowErr_of (f : List GElem) (hm : f.length ≤ 1073741824) : (ctl1 (some (outOf ((List.range f.length).findSome? (errE f)))) fun (_ : Unit) =>
    bnd1 (gd ((true == true) && ((decide ((f.length : Int) = 0)) == false)) (chk .i64 ((f.length : Int) - 1))) fun (x4 : Int) =>
    bnd1 (gd ((true == true) && ((decide ((f.length : Int) = 0)) == false)) (idx f x4)) fun (x5 : GElem) =>
    if (true && ((decide ((f.length : Int) = 0)) || (!decide (x5.Char = 10)))) then some (11 : Int) else some 0) = some (flowErr f) := by
  rw [ctl_outOf]
  unfold flowErr partErr
  cases hr : (List.range f.length).findSome? (errE f) with
  | some r =>
    have hne : r ≠ 0 := by
      obtain ⟨k, hk⟩ := List.exists_of_findSome?_eq_some hr
      exact errE_ne hk.2
    dsimp only [Option.getD]
    rw [if_pos hne]
  | none =>
    dsimp only [Option.getD]
    rw [if_neg (by decide)]
    by_cases hl : f = []
    · subst hl; rfl
    · have h0 : 0 < f.length := List.length_pos_iff.2 hl
      have hd : decide ((f.length : Int) = 0) = false := decide_eq_false (by omega)
      rw [hd, show ((true == true) && (false == false)) = true from rfl, gd_true, show ((f.length : Int) - 1) = ((f.length - 1 : Nat) : Int) by omega, chk64 (by omega) (by omega), bnd1_some, gd_true, idx_nat (by omega), bnd1_some]
      by_cases hc : f[f.length - 1]!.Char = 10
      · rw [if_neg (by rw [decide_eq_true hc]; decide), if_neg (fun h => h.elim hl fun h => h hc)]
      · rw [if_pos (by rw [decide_eq_false hc]; decide), if_pos (.inr hc)]
theorem flow_Check_eq (f : List GElem) (h : ∀ x ∈ f, okE x) (hm : f.length ≤ 1073741824) : flow_Check f true = some (flowErr f) := by
  unfold flow_Check
  rw [iter_find (n := f.length) (errE f) (fun k hk => by
    unfold flow_Check_L1 errE
    rw [if_pos (by simpa using hk), idx_nat hk, bnd1_some, chk_nat (by omega), flow_elem_eq _ (h _ (mem_at hk)), bnd1_some]
    by_cases e : elemErr f[k]! = 0
    · rw [if_neg (ndF e), if_pos e]; rfl
    · rw [if_pos (ndT e), if_neg e]; rfl) (by unfold flow_Check_L1; rw [if_neg (by simp)])]
  exact flowErr_of f hm
instance : Inhabited Un := ⟨.r false []⟩
def off (n : List UInt8) : GAttr := ⟨n, []⟩
end Go.Proofs.YtfkolgjapajekaaDoor.Al


namespace Go.Proofs.YtfkolgjapajekaaDoor.Al
structure TextR (at_ : List GAttr) (m : Nat) (R : Ctl (List GElem) (List GElem × Int)) : Prop where
  nrm : ∀ l, R = .nrm l → l.length ≤ m ∧ ∀ e ∈ l, e.Attrs = at_
  ext : ∀ l e, R = .ext (l, e) → l = []
end Go.Proofs.YtfkolgjapajekaaDoor.Al


namespace Go.Proofs.YtfkolgjapajekaaDoor.Al
end Go.Proofs.YtfkolgjapajekaaDoor.Al


namespace Go.Proofs.YtfkolgjapajekaaDoor.Al
def errT (t : Bool) (f : List GElem) (k : Nat) : Option Int := if elemErr f[k]! = 0 then (if t = false ∧ f[k]!.Ref = 0 then some 8 else none) else some (elemErr f[k]!)
theorem flow_Check_F (f : List GElem) (h : ∀ x ∈ f, okE x) (hm : f.length ≤ 1073741824) : flow_Check f false = some (((List.range f.length).findSome? (errT false f)).getD 0) := by
  unfold flow_Check
  rw [iter_find (n := f.length) (errT false f) (fun k hk => by
    unfold flow_Check_L1 errT
    rw [if_pos (by simpa using hk), idx_nat hk, bnd1_some, chk_nat (by omega), flow_elem_eq _ (h _ (mem_at hk)), bnd1_some]
    generalize f[k]! = x
    by_cases e : elemErr x = 0
    · rw [if_neg (ndF e), if_pos e]
      by_cases r : x.Ref = 0
      · rw [if_pos (show (!false && decide (x.Ref = 0)) = true by rw [decide_eq_true r]; rfl), if_pos ⟨rfl, r⟩]; rfl
      · rw [if_neg (show ¬ (!false && decide (x.Ref = 0)) = true by rw [decide_eq_false r]; decide), if_neg (fun h => r h.2)]; rfl
    · rw [if_pos (ndT e), if_neg e]; rfl) (by unfold flow_Check_L1; rw [if_neg (by simp)])]
  cases (List.range f.length).findSome? (errT false f) <;> rfl
theorem flow_Same_eq (a b : List GElem) (hm : a.length ≤ 9223372036854775806) (h : ∀ e ∈ a, e.Attrs.length ≤ 1073741824) : flow_Same a b = some (decide (a = b)) := by
  unfold flow_Same
  by_cases hl : a.length = b.length
  · rw [if_neg (by simp [hl]), iter_find (n := a.length) (fun k => if decide (a[k]! = b[k]!) then none else some false) (fun k hk => by
      unfold flow_Same_L1
      have ha := h _ (mem_at hk)
      rw [if_pos (by simpa using hk), idx_nat hk, idx_nat (by omega), bnd1_some, bnd1_some, attr_Same_eq _ _ (by omega), chk_nat (by omega)]
      generalize a[k]! = x
      generalize b[k]! = y
      obtain ⟨x1, x2, x3⟩ := x
      obtain ⟨y1, y2, y3⟩ := y
      by_cases h1 : x1 = y1 <;> by_cases h2 : x2 = y2 <;> by_cases h3 : x3 = y3 <;> simp [h1, h2, h3, stepOf, default]) (by unfold flow_Same_L1; rw [if_neg (by simp)]), find_const, ctl_outOf]
    by_cases h : a = b
    · subst h; rw [all_refl, decide_eq_true rfl]; rfl
    · rw [decide_eq_false h]
      have : ((List.range a.length).all fun k => decide (a[k]! = b[k]!)) = false := by
        rw [← Bool.not_eq_true]; exact fun hh => h (all_eq_of hl hh)
      rw [this]; rfl
  · rw [if_pos (by simp; omega), decide_eq_false (by rintro rfl; exact hl rfl)]
end Go.Proofs.YtfkolgjapajekaaDoor.Al


namespace Go.Proofs.YtfkolgjapajekaaDoor.Al
end Go.Proofs.YtfkolgjapajekaaDoor.Al


namespace Go.Proofs.YtfkolgjapajekaaDoor.Al
theorem same_loop {α : Type} [Inhabited α] [DecidableEq α] {f : Int → Option (Int ⊕ Ctl Unit Bool)} (a b : List α) (hl : a.length = b.length)
    (h1 : ∀ k : Nat, k < a.length → f k = stepOf k (if decide (a[k]! = b[k]!) then none else some false)) (h2 : f a.length = some (.inr (.nrm ()))) :
    (ctl1 (iter f 0) fun (_ : Unit) => some true) = some (decide (a = b)) := by
  rw [iter_find (n := a.length) (fun k => if decide (a[k]! = b[k]!) then none else some false) h1 h2, find_const, ctl_outOf]
  by_cases h : a = b
  · subst h; rw [all_refl, decide_eq_true rfl]; rfl
  · rw [decide_eq_false h]
    have : ((List.range a.length).all fun k => decide (a[k]! = b[k]!)) = false := by
      rw [← Bool.not_eq_true]; exact fun hh => h (all_eq_of hl hh)
    rw [this]; rfl
theorem rect_eqb (x y : GRect) : (decide (x.Row = y.Row) && (decide (x.Col = y.Col) && (decide (x.H = y.H) && (decide (x.W = y.W) && true)))) = decide (x = y) := by
  obtain ⟨x1, x2, x3, x4⟩ := x
  obtain ⟨y1, y2, y3, y4⟩ := y
  rw [Bool.eq_iff_iff]; simp
theorem draw_eqb (x y : GDrawOp) : (decide (x.Clock = y.Clock) && (decide (x.Site = y.Site) && (decide (x.Kind = y.Kind) && (decide (x.Item = y.Item) && (decide (x.Parent = y.Parent) && (decide (x.Place = y.Place) && (decide (x.Name = y.Name) && (decide (x.Value = y.Value) && true)))))))) = decide (x = y) := by
  obtain ⟨x1, x2, x3, x4, x5, x6, x7, x8⟩ := x
  obtain ⟨y1, y2, y3, y4, y5, y6, y7, y8⟩ := y
  rw [Bool.eq_iff_iff]; simp
theorem rects_eq (a b : List GRect) (hm : a.length ≤ 9223372036854775806) : slices_Equal_api_Rect_api_Rect a b = some (decide (a = b)) := by
  unfold slices_Equal_api_Rect_api_Rect
  by_cases hl : a.length = b.length
  · rw [if_neg (by simp [hl])]
    exact same_loop a b hl (fun k hk => by
      unfold slices_Equal_api_Rect_api_Rect_L1
      rw [if_pos (by simpa using hk), idx_nat hk, idx_nat (by omega), bnd1_some, bnd1_some, rect_eqb, chk_nat (by omega)]
      generalize a[k]! = x
      generalize b[k]! = y
      by_cases h : x = y <;> simp [h, stepOf]) (by unfold slices_Equal_api_Rect_api_Rect_L1; rw [if_neg (by simp)])
  · rw [if_pos (by simp; omega), decide_eq_false (by rintro rfl; exact hl rfl)]
theorem ref_rects_eq (a b : List GRect) (hm : a.length ≤ 9223372036854775806) : ref_SameRects a b = some (decide (a = b)) := by
  unfold ref_SameRects
  by_cases hl : a.length = b.length
  · rw [if_neg (by simp [hl])]
    exact same_loop a b hl (fun k hk => by
      unfold ref_SameRects_L1
      rw [if_pos (by simpa using hk), idx_nat hk, idx_nat (by omega), bnd1_some, bnd1_some, rect_eqb, chk_nat (by omega)]
      generalize a[k]! = x
      generalize b[k]! = y
      by_cases h : x = y <;> simp [h, stepOf]) (by unfold ref_SameRects_L1; rw [if_neg (by simp)])
  · rw [if_pos (by simp; omega), decide_eq_false (by rintro rfl; exact hl rfl)]
theorem draws_eq (a b : List GDrawOp) (hm : a.length ≤ 9223372036854775806) : slices_Equal_api_DrawOp_api_DrawOp a b = some (decide (a = b)) := by
  unfold slices_Equal_api_DrawOp_api_DrawOp
  by_cases hl : a.length = b.length
  · rw [if_neg (by simp [hl])]
    exact same_loop a b hl (fun k hk => by
      unfold slices_Equal_api_DrawOp_api_DrawOp_L1
      rw [if_pos (by simpa using hk), idx_nat hk, idx_nat (by omega), bnd1_some, bnd1_some, draw_eqb, chk_nat (by omega)]
      generalize a[k]! = x
      generalize b[k]! = y
      by_cases h : x = y <;> simp [h, stepOf]) (by unfold slices_Equal_api_DrawOp_api_DrawOp_L1; rw [if_neg (by simp)])
  · rw [if_pos (by simp; omega), decide_eq_false (by rintro rfl; exact hl rfl)]
theorem ref_ops_eq (a b : List GDrawOp) (hm : a.length ≤ 9223372036854775806) : ref_SameOps a b = some (decide (a = b)) := by
  unfold ref_SameOps
  by_cases hl : a.length = b.length
  · rw [if_neg (by simp [hl])]
    exact same_loop a b hl (fun k hk => by
      unfold ref_SameOps_L1
      rw [if_pos (by simpa using hk), idx_nat hk, idx_nat (by omega), bnd1_some, bnd1_some, draw_eqb, chk_nat (by omega)]
      generalize a[k]! = x
      generalize b[k]! = y
      by_cases h : x = y <;> simp [h, stepOf]) (by unfold ref_SameOps_L1; rw [if_neg (by simp)])
  · rw [if_pos (by simp; omega), decide_eq_false (by rintro rfl; exact hl rfl)]
theorem cell_eq (x y : GCell) (hm : x.Attrs.length ≤ 1073741824) : grid_SameCell x y = some (decide (x = y)) := by
  unfold grid_SameCell
  rw [attr_Same_eq _ _ (by omega)]
  obtain ⟨x1, x2, x3, x4, x5⟩ := x
  obtain ⟨y1, y2, y3, y4, y5⟩ := y
  by_cases h1 : x1 = y1 <;> by_cases h2 : x2 = y2 <;> by_cases h3 : x3 = y3 <;> by_cases h4 : x4 = y4 <;> by_cases h5 : x5 = y5 <;> simp [h1, h2, h3, h4, h5, gd, bnd1_some]
theorem ref_cell_eq (x y : GCell) (hm : x.Attrs.length ≤ 1073741824) : ref_SameCell x y = some (decide (x = y)) := by
  unfold ref_SameCell
  rw [ref_SameAttrs_eq _ _ (by omega)]
  obtain ⟨x1, x2, x3, x4, x5⟩ := x
  obtain ⟨y1, y2, y3, y4, y5⟩ := y
  by_cases h1 : x1 = y1 <;> by_cases h2 : x2 = y2 <;> by_cases h3 : x3 = y3 <;> by_cases h4 : x4 = y4 <;> by_cases h5 : x5 = y5 <;> simp [h1, h2, h3, h4, h5, gd, bnd1_some]
theorem cells_eq (a b : List GCell) (hm : a.length ≤ 9223372036854775806) (h : ∀ x ∈ a, x.Attrs.length ≤ 1073741824) : slices_EqualFunc_api_Cell_api_Cell_api_Cell_api_Cell__SameCell a b = some (decide (a = b)) := by
  unfold slices_EqualFunc_api_Cell_api_Cell_api_Cell_api_Cell__SameCell
  by_cases hl : a.length = b.length
  · rw [if_neg (by simp [hl])]
    exact same_loop a b hl (fun k hk => by
      unfold slices_EqualFunc_api_Cell_api_Cell_api_Cell_api_Cell__SameCell_L1
      rw [if_pos (by simpa using hk), idx_nat hk, idx_nat (by omega), bnd1_some, bnd1_some, cell_eq _ _ (h _ (mem_at hk)), bnd1_some, chk_nat (by omega)]
      generalize a[k]! = x
      generalize b[k]! = y
      by_cases h : x = y <;> simp [h, stepOf]) (by unfold slices_EqualFunc_api_Cell_api_Cell_api_Cell_api_Cell__SameCell_L1; rw [if_neg (by simp)])
  · rw [if_pos (by simp; omega), decide_eq_false (by rintro rfl; exact hl rfl)]
theorem ref_cells_eq (a b : List GCell) (hm : a.length ≤ 9223372036854775806) (h : ∀ x ∈ a, x.Attrs.length ≤ 1073741824) : ref_SameCells a b = some (decide (a = b)) := by
  unfold ref_SameCells
  by_cases hl : a.length = b.length
  · rw [if_neg (by simp [hl])]
    exact same_loop a b hl (fun k hk => by
      unfold ref_SameCells_L1
      rw [if_pos (by simpa using hk), idx_nat hk, idx_nat (by omega), bnd1_some, bnd1_some, ref_cell_eq _ _ (h _ (mem_at hk)), bnd1_some, chk_nat (by omega)]
      generalize a[k]! = x
      generalize b[k]! = y
      by_cases h : x = y <;> simp [h, stepOf]) (by unfold ref_SameCells_L1; rw [if_neg (by simp)])
  · rw [if_pos (by simp; omega), decide_eq_false (by rintro rfl; exact hl rfl)]
def okG (g : GGrid) : Prop := g.Cells.length ≤ 1048576 ∧ g.Merges.length ≤ 1048576 ∧ ∀ x ∈ g.Cells, okA x.Attrs
structure okN (n : GNode) : Prop where
  at_ : okA n.Attrs
  fl : n.Flow.length ≤ 1048576
  fa : ∀ e ∈ n.Flow, okA e.Attrs
  gr : okG n.Grid
  dr : n.Draw.length ≤ 1048576
def okDoc (d : GDoc) : Prop := d.Nodes.length ≤ 1048576 ∧ ∀ n ∈ d.Nodes, okN n
theorem grid_eq (x y : GGrid) (h : okG x) : grid_Same x y = some (decide (x = y)) := by
  obtain ⟨h1, h2, h3⟩ := h
  unfold grid_Same
  rw [rects_eq _ _ (by omega), cells_eq _ _ (by omega) (fun e he => (h3 e he).1)]
  obtain ⟨x1, x2, x3, x4⟩ := x
  obtain ⟨y1, y2, y3, y4⟩ := y
  by_cases h1 : x1 = y1 <;> by_cases h2 : x2 = y2 <;> by_cases h3 : x3 = y3 <;> by_cases h4 : x4 = y4 <;> simp [h1, h2, h3, h4, gd, bnd1_some]
theorem ref_grid_eq (x y : GGrid) (h : okG x) : ref_SameGrid x y = some (decide (x = y)) := by
  obtain ⟨h1, h2, h3⟩ := h
  unfold ref_SameGrid
  rw [ref_rects_eq _ _ (by omega), ref_cells_eq _ _ (by omega) (fun e he => (h3 e he).1)]
  obtain ⟨x1, x2, x3, x4⟩ := x
  obtain ⟨y1, y2, y3, y4⟩ := y
  by_cases h1 : x1 = y1 <;> by_cases h2 : x2 = y2 <;> by_cases h3 : x3 = y3 <;> by_cases h4 : x4 = y4 <;> simp [h1, h2, h3, h4, gd, bnd1_some]
theorem node_eq (x y : GNode) (h : okN x) : doc_SameNode x y = some (decide (x = y)) := by
  have ha := h.at_.1
  have hf := h.fl
  have hd := h.dr
  unfold doc_SameNode
  rw [attr_Same_eq _ _ (by omega), flow_Same_eq _ _ (by omega) (fun e he => (h.fa e he).1), grid_eq _ _ h.gr, draws_eq _ _ (by omega)]
  obtain ⟨x1, x2, x3, x4, x5, x6⟩ := x
  obtain ⟨y1, y2, y3, y4, y5, y6⟩ := y
  by_cases h1 : x1 = y1 <;> by_cases h2 : x2 = y2 <;> by_cases h3 : x3 = y3 <;> by_cases h4 : x4 = y4 <;> by_cases h5 : x5 = y5 <;> by_cases h6 : x6 = y6 <;> simp [h1, h2, h3, h4, h5, h6, gd, bnd1_some]
theorem ref_node_eq (x y : GNode) (h : okN x) : ref_SameNode x y = some (decide (x = y)) := by
  have ha := h.at_.1
  have hf := h.fl
  have hd := h.dr
  unfold ref_SameNode
  rw [ref_SameAttrs_eq _ _ (by omega), ref_SameFlow_eq _ _ (by omega) (fun e he => (h.fa e he).1), ref_grid_eq _ _ h.gr, ref_ops_eq _ _ (by omega)]
  obtain ⟨x1, x2, x3, x4, x5, x6⟩ := x
  obtain ⟨y1, y2, y3, y4, y5, y6⟩ := y
  by_cases h1 : x1 = y1 <;> by_cases h2 : x2 = y2 <;> by_cases h3 : x3 = y3 <;> by_cases h4 : x4 = y4 <;> by_cases h5 : x5 = y5 <;> by_cases h6 : x6 = y6 <;> simp [h1, h2, h3, h4, h5, h6, gd, bnd1_some]
theorem doc_eq (a b : GDoc) (h : okDoc a) : doc_Same a b = some (decide (a.Nodes = b.Nodes)) := by
  unfold doc_Same slices_EqualFunc_api_Node_api_Node_api_Node_api_Node__SameNode
  have hm := h.1
  by_cases hl : a.Nodes.length = b.Nodes.length
  · rw [if_neg (by simp [hl]), same_loop a.Nodes b.Nodes hl (fun k hk => by
      unfold slices_EqualFunc_api_Node_api_Node_api_Node_api_Node__SameNode_L1
      rw [if_pos (by simpa using hk), idx_nat hk, idx_nat (by omega), bnd1_some, bnd1_some, node_eq _ _ (h.2 _ (mem_at hk)), bnd1_some, chk_nat (by omega)]
      generalize a.Nodes[k]! = x
      generalize b.Nodes[k]! = y
      by_cases h : x = y <;> simp [h, stepOf]) (by unfold slices_EqualFunc_api_Node_api_Node_api_Node_api_Node__SameNode_L1; rw [if_neg (by simp)])]
    rfl
  · rw [if_pos (by simp; omega), decide_eq_false (fun e => hl (by rw [e]))]; rfl
theorem ref_doc_eq (a b : GDoc) (h : okDoc a) : ref_SameDoc a b = some (decide (a.Nodes = b.Nodes)) := by
  unfold ref_SameDoc
  have hm := h.1
  by_cases hl : a.Nodes.length = b.Nodes.length
  · rw [if_neg (by simp [hl]), same_loop a.Nodes b.Nodes hl (fun k hk => by
      unfold ref_SameDoc_L1
      rw [if_pos (by simpa using hk), idx_nat hk, idx_nat (by omega), bnd1_some, bnd1_some, ref_node_eq _ _ (h.2 _ (mem_at hk)), bnd1_some, chk_nat (by omega)]
      generalize a.Nodes[k]! = x
      generalize b.Nodes[k]! = y
      by_cases h : x = y <;> simp [h, stepOf]) (by unfold ref_SameDoc_L1; rw [if_neg (by simp)])]
  · rw [if_pos (by simp; omega), decide_eq_false (fun e => hl (by rw [e]))]
theorem copy_loop (g : GGrid) (hm : g.Cells.length ≤ 1048576) (h : ∀ x ∈ g.Cells, okA x.Attrs) : iter (fun (a : Int × GGrid) => doc_CopyNode_L1 g.Cells a.1 a.2) (0, g) = some g := by
  have key : ∃ r, iter (fun (a : Int × GGrid) => doc_CopyNode_L1 g.Cells a.1 a.2) (0, g) = some r ∧ r = g := by
    refine iter_hoare g.Cells.length (fun k st => st = ((k : Int), g)) _ ?_ ?_ rfl
    · rintro k st hk rfl
      left
      refine ⟨_, ?_, rfl⟩
      dsimp only
      unfold doc_CopyNode_L1
      have ha := (h _ (mem_at hk)).1
      rw [if_pos (by simpa using hk), idx_nat hk, bnd1_some, app32 ha, bnd1_some, chk_nat (by omega), bnd1_some, set_eq]
      have hs : g.Cells.set k (GCell.mk g.Cells[k]!.Row g.Cells[k]!.Col g.Cells[k]!.Text g.Cells[k]!.Ref g.Cells[k]!.Attrs) = g.Cells := by
        rw [show (GCell.mk g.Cells[k]!.Row g.Cells[k]!.Col g.Cells[k]!.Text g.Cells[k]!.Ref g.Cells[k]!.Attrs) = g.Cells[k]! from rfl, getElem!_pos g.Cells k hk]
        exact List.set_getElem_self hk
      rw [hs]
    · rintro st rfl
      refine ⟨g, ?_, rfl⟩
      dsimp only
      unfold doc_CopyNode_L1
      rw [if_neg (by simp)]
  obtain ⟨r, h1, rfl⟩ := key
  exact h1
theorem app_by {α : Type} (b : Nat) (l : List α) (hb : b ≤ 128) (h : l.length ≤ 1048576) : app b ([] : List α) l = some l := by
  unfold app
  rw [if_pos]; rfl
  simp only [List.length_nil, Nat.zero_add]
  refine ⟨?_, by omega⟩
  calc l.length * b ≤ 1048576 * 128 := Nat.mul_le_mul h hb
    _ ≤ _ := by decide
theorem copyNode_eq (n : GNode) (h : okN n) : doc_CopyNode n = some n := by
  unfold doc_CopyNode
  have hg := h.gr
  have hf := h.fl
  rw [app32 h.at_.1, bnd1_some, flow_Copy_eq _ (by omega) h.fa, bnd1_some, app_by _ _ (by decide) h.dr, bnd1_some, app_by _ _ (by decide) hg.2.1, bnd1_some, app_by _ _ (by decide) hg.1, bnd1_some]
  have := copy_loop n.Grid hg.1 hg.2.2
  rw [show (GGrid.mk n.Grid.Rows n.Grid.Cols n.Grid.Cells n.Grid.Merges) = n.Grid from rfl, this]; rfl
theorem findSome_map {β : Type} (p : Nat → Bool) (F : Nat → β) (l : List Nat) : (l.findSome? fun k => if p k then some (F k) else none) = (l.find? p).map F := by
  induction l with
  | nil => rfl
  | cons a l ih => rw [List.findSome?_cons, List.find?_cons]; by_cases h : p a = true <;> simp [h, ih]
def findN (l : List GNode) (id : Int) : Option Nat := (List.range l.length).find? fun k => decide (l[k]!.ID = id)
theorem findN_lt {l : List GNode} {id : Int} {k : Nat} (h : findN l id = some k) : k < l.length ∧ l[k]!.ID = id := by
  have h1 := List.mem_of_find?_eq_some h
  have h2 := List.find?_some h
  exact ⟨List.mem_range.1 h1, of_decide_eq_true h2⟩
theorem ref_Find_eq (d : GDoc) (id : Int) (hm : d.Nodes.length ≤ 1048576) : ref_Find d id = some (match findN d.Nodes id with | some k => (k : Int) | none => -1) := by
  unfold ref_Find
  rw [iter_find (n := d.Nodes.length) (fun k => if decide (d.Nodes[k]!.ID = id) then some (k : Int) else none) (fun k hk => by
    unfold ref_Find_L1
    rw [if_pos (by simpa using hk), idx_nat hk, bnd1_some, chk_nat (by omega)]
    by_cases h : d.Nodes[k]!.ID = id
    · rw [if_pos (decide_eq_true h), if_pos (decide_eq_true h)]; rfl
    · rw [if_neg (by simpa using h), if_neg (by simpa using h)]; rfl) (by unfold ref_Find_L1; rw [if_neg (by simp)]), findSome_map, ctl_outOf]
  unfold findN
  cases (List.range d.Nodes.length).find? fun k => decide (d.Nodes[k]!.ID = id) <;> rfl
theorem doc_Node_eq (d : GDoc) (id : Int) (h : okDoc d) : doc_Node d id = some (match findN d.Nodes id with | some k => (d.Nodes[k]!, true) | none => (GNode.mk 0 0 [] [] (GGrid.mk 0 0 [] []) [], false)) := by
  unfold doc_Node
  have hm := h.1
  rw [iter_find (n := d.Nodes.length) (fun k => if decide (d.Nodes[k]!.ID = id) then some (d.Nodes[k]!, true) else none) (fun k hk => by
    unfold doc_Node_L1
    rw [if_pos (by simpa using hk), idx_nat hk, bnd1_some, chk_nat (by omega), copyNode_eq _ (h.2 _ (mem_at hk))]
    by_cases h : d.Nodes[k]!.ID = id
    · rw [if_pos (decide_eq_true h), if_pos (decide_eq_true h)]; rfl
    · rw [if_neg (by simpa using h), if_neg (by simpa using h)]; rfl) (by unfold doc_Node_L1; rw [if_neg (by simp)]), findSome_map, ctl_outOf]
  unfold findN
  cases (List.range d.Nodes.length).find? fun k => decide (d.Nodes[k]!.ID = id) <;> rfl
end Go.Proofs.YtfkolgjapajekaaDoor.Al


namespace Go.Proofs.YtfkolgjapajekaaDoor.Al
def n1D : GNode := GNode.mk 1 0 [] [(GElem.mk 0 2 [])] (GGrid.mk 0 0 [] []) []
def n2D : GNode := GNode.mk 2 1 [] [(GElem.mk 10 0 [])] (GGrid.mk 0 0 [] []) []
def firstD : GDoc := GDoc.mk [n1D, n2D]
theorem okE_1 : okE (GElem.mk 0 2 []) := ⟨by decide, fun a ha => by cases ha⟩
theorem okE_2 : okE (GElem.mk 10 0 []) := ⟨by decide, fun a ha => by cases ha⟩
theorem okG_0 : okG (GGrid.mk 0 0 [] []) := ⟨by decide, by decide, fun a ha => by cases ha⟩
theorem okA_0 : okA [] := ⟨by decide, fun a ha => by cases ha⟩
theorem ok_firstD : okDoc firstD := by
  refine ⟨by decide, fun n hn => ?_⟩
  have : n = n1D ∨ n = n2D := by simpa [firstD] using hn
  rcases this with rfl | rfl
  · exact ⟨okA_0, by decide, fun e he => by
      have : e = GElem.mk 0 2 [] := by simpa [n1D] using he
      subst this; exact okA_0, okG_0, by decide⟩
  · exact ⟨okA_0, by decide, fun e he => by
      have : e = GElem.mk 10 0 [] := by simpa [n2D] using he
      subst this; exact okA_0, okG_0, by decide⟩
theorem attr_nil : attr_Check [] = some 0 := by rw [attr_Check_eq _ (fun a ha => by cases ha) (by decide)]; rfl
theorem flow1 : flow_Check [GElem.mk 0 2 []] false = some 0 := by
  rw [flow_Check_F _ (fun x hx => by
    have : x = GElem.mk 0 2 [] := by simpa using hx
    subst this; exact okE_1) (by decide)]
  rfl
theorem flow2 : flow_Check [GElem.mk 10 0 []] true = some 0 := by
  rw [flow_Check_eq _ (fun x hx => by
    have : x = GElem.mk 10 0 [] := by simpa using hx
    subst this; exact okE_2) (by decide)]
  rfl
theorem grid0 : grid_Same (GGrid.mk 0 0 [] []) (GGrid.mk 0 0 [] []) = some true := by rw [grid_eq _ _ okG_0, decide_eq_true rfl]
theorem node1 : doc_CheckNode n1D = some 0 := by
  unfold doc_CheckNode n1D
  dsimp only
  rw [if_neg (by decide), if_neg (by decide), attr_nil, bnd1_some, if_neg (by decide)]
  have t : doc_Texts 0 = some false := rfl
  have l : doc_Lists 0 = some true := rfl
  have g : doc_Grids 0 = some false := rfl
  have d : doc_Draws 0 = some false := rfl
  rw [t, l, g, d, grid0]
  show (bnd1 (flow_Check [GElem.mk 0 2 []] false) fun (r4 : Int) => some r4) = some 0
  rw [flow1]; rfl
theorem node2 : doc_CheckNode n2D = some 0 := by
  unfold doc_CheckNode n2D
  dsimp only
  rw [if_neg (by decide), if_neg (by decide), attr_nil, bnd1_some, if_neg (by decide)]
  have t : doc_Texts 1 = some true := rfl
  have l : doc_Lists 1 = some false := rfl
  have g : doc_Grids 1 = some false := rfl
  have d : doc_Draws 1 = some false := rfl
  rw [t, l, g, d, grid0]
  show (bnd1 (flow_Check [GElem.mk 10 0 []] true) fun (r4 : Int) => some r4) = some 0
  rw [flow2]; rfl
theorem refs1 : doc_Refs n1D = some [2] := by
  unfold doc_Refs flow_Refs_o
  have h1 : (fun (a : Int × (List Int)) => flow_Refs_o_L1 n1D.Flow a.1 a.2) (0, []) = some (.inl (1, [2])) := by
    show flow_Refs_o_L1 [GElem.mk 0 2 []] 0 [] = _
    unfold flow_Refs_o_L1; rfl
  have h2 : (fun (a : Int × (List Int)) => flow_Refs_o_L1 n1D.Flow a.1 a.2) (1, [2]) = some (.inr [2]) := by
    show flow_Refs_o_L1 [GElem.mk 0 2 []] 1 [2] = _
    unfold flow_Refs_o_L1; rfl
  have h3 : (fun (a : Int × (List Int)) => doc_Refs_L1 n1D a.1 a.2) (0, [2]) = some (.inr [2]) := by
    show doc_Refs_L1 n1D 0 [2] = _
    unfold doc_Refs_L1; rfl
  rw [iter_next h1, iter_stop h2, bnd1_some, bnd1_some, iter_stop h3]; rfl
theorem refs2 : doc_Refs n2D = some [] := by
  unfold doc_Refs flow_Refs_o
  have h1 : (fun (a : Int × (List Int)) => flow_Refs_o_L1 n2D.Flow a.1 a.2) (0, []) = some (.inl (1, [])) := by
    show flow_Refs_o_L1 [GElem.mk 10 0 []] 0 [] = _
    unfold flow_Refs_o_L1; rfl
  have h2 : (fun (a : Int × (List Int)) => flow_Refs_o_L1 n2D.Flow a.1 a.2) (1, []) = some (.inr []) := by
    show flow_Refs_o_L1 [GElem.mk 10 0 []] 1 [] = _
    unfold flow_Refs_o_L1; rfl
  have h3 : (fun (a : Int × (List Int)) => doc_Refs_L1 n2D a.1 a.2) (0, []) = some (.inr []) := by
    show doc_Refs_L1 n2D 0 [] = _
    unfold doc_Refs_L1; rfl
  rw [iter_next h1, iter_stop h2, bnd1_some, bnd1_some, iter_stop h3]; rfl
theorem find2 : doc_find firstD 2 = some (1, true) := by
  unfold doc_find slices_BinarySearchFunc_api_Node_api_Node_int__find_f1
  have h1 : (fun (a : Int × Int) => slices_BinarySearchFunc_api_Node_api_Node_int__find_f1_L1 firstD.Nodes 2 a.1 a.2) (0, (firstD.Nodes.length : Int)) = some (.inl (0, 1)) := by
    show slices_BinarySearchFunc_api_Node_api_Node_int__find_f1_L1 firstD.Nodes 2 0 2 = _
    unfold slices_BinarySearchFunc_api_Node_api_Node_int__find_f1_L1; decide +kernel
  have h2 : (fun (a : Int × Int) => slices_BinarySearchFunc_api_Node_api_Node_int__find_f1_L1 firstD.Nodes 2 a.1 a.2) (0, 1) = some (.inl (1, 1)) := by
    show slices_BinarySearchFunc_api_Node_api_Node_int__find_f1_L1 firstD.Nodes 2 0 1 = _
    unfold slices_BinarySearchFunc_api_Node_api_Node_int__find_f1_L1; decide +kernel
  have h3 : (fun (a : Int × Int) => slices_BinarySearchFunc_api_Node_api_Node_int__find_f1_L1 firstD.Nodes 2 a.1 a.2) (1, 1) = some (.inr 1) := by
    show slices_BinarySearchFunc_api_Node_api_Node_int__find_f1_L1 firstD.Nodes 2 1 1 = _
    unfold slices_BinarySearchFunc_api_Node_api_Node_int__find_f1_L1; rfl
  rw [iter_next h1, iter_next h2, iter_stop h3, bnd1_some]; rfl
theorem permitted1 : doc_Permitted 0 1 = some true := by
  unfold doc_Permitted
  rw [if_pos (by decide), bnd1_some]
  unfold slices_Contains_int_int slices_Index_int_int
  have h1 : (fun (a : Int) => slices_Index_int_int_L1 [1, 6, 7, 10, 11, 12] 1 a) 0 = some (.inr (.ext 0)) := by
    show slices_Index_int_int_L1 [1, 6, 7, 10, 11, 12] 1 0 = _
    unfold slices_Index_int_int_L1; rfl
  rw [iter_stop h1]; rfl
theorem crefs1 : doc_CheckRefs firstD 0 [2] = some 0 := by
  unfold doc_CheckRefs
  have h1 : (fun (a : Int) => doc_CheckRefs_L1 firstD 0 [2] a) 0 = some (.inl 1) := by
    show doc_CheckRefs_L1 firstD 0 [2] 0 = _
    unfold doc_CheckRefs_L1
    rw [if_pos (by decide), show idx ([2] : List Int) 0 = some 2 from rfl, bnd1_some, find2, bnd2_some, if_neg (by decide), show idx firstD.Nodes 1 = some n2D from rfl, bnd1_some, show n2D.Kind = 1 from rfl, permitted1]
    rfl
  have h2 : (fun (a : Int) => doc_CheckRefs_L1 firstD 0 [2] a) 1 = some (.inr (.nrm ())) := by
    show doc_CheckRefs_L1 firstD 0 [2] 1 = _
    unfold doc_CheckRefs_L1; rfl
  rw [iter_next h1, iter_stop h2]; rfl
theorem crefs2 : doc_CheckRefs firstD 1 [] = some 0 := by
  unfold doc_CheckRefs
  have h2 : (fun (a : Int) => doc_CheckRefs_L1 firstD 1 [] a) 0 = some (.inr (.nrm ())) := by
    show doc_CheckRefs_L1 firstD 1 [] 0 = _
    unfold doc_CheckRefs_L1; rfl
  rw [iter_stop h2]; rfl
theorem check_first : doc_Check firstD = some 0 := by
  unfold doc_Check
  have a1 : (fun (a : Int) => doc_Check_L1 firstD a) 0 = some (.inl 1) := by
    show doc_Check_L1 firstD 0 = _
    unfold doc_Check_L1
    rw [if_pos (by decide), show idx firstD.Nodes 0 = some n1D from rfl, bnd1_some, node1]; rfl
  have a2 : (fun (a : Int) => doc_Check_L1 firstD a) 1 = some (.inl 2) := by
    show doc_Check_L1 firstD 1 = _
    unfold doc_Check_L1
    rw [if_pos (by decide), show idx firstD.Nodes 1 = some n2D from rfl, bnd1_some, node2]; rfl
  have a3 : (fun (a : Int) => doc_Check_L1 firstD a) 2 = some (.inr (.nrm ())) := by
    show doc_Check_L1 firstD 2 = _
    unfold doc_Check_L1; rfl
  have b1 : (fun (a : Int) => doc_Check_L2 firstD a) 0 = some (.inl 1) := by
    show doc_Check_L2 firstD 0 = _
    unfold doc_Check_L2
    rw [if_pos (by decide), show idx firstD.Nodes 0 = some n1D from rfl, bnd1_some, refs1, bnd1_some, show n1D.Kind = 0 from rfl, crefs1]; rfl
  have b2 : (fun (a : Int) => doc_Check_L2 firstD a) 1 = some (.inl 2) := by
    show doc_Check_L2 firstD 1 = _
    unfold doc_Check_L2
    rw [if_pos (by decide), show idx firstD.Nodes 1 = some n2D from rfl, bnd1_some, refs2, bnd1_some, show n2D.Kind = 1 from rfl, crefs2]; rfl
  have b3 : (fun (a : Int) => doc_Check_L2 firstD a) 2 = some (.inr (.nrm ())) := by
    show doc_Check_L2 firstD 2 = _
    unfold doc_Check_L2; rfl
  rw [if_neg (by decide), iter_next a1, iter_next a2, iter_stop a3, iter_next b1, iter_next b2, iter_stop b3]; rfl
theorem law_docs_eq : law_docs = some true := by
  unfold law_docs
  have h1 : doc_First = some firstD := rfl
  have h2 : law_simple [GElem.mk 10 0 []] = some firstD := rfl
  have h3 : law_end = some (GElem.mk 10 0 []) := rfl
  rw [h1, bnd1_some, check_first, bnd1_some, if_pos (by decide), h3, bnd1_some, h2, bnd1_some, ref_doc_eq _ _ ok_firstD, bnd1_some, bnd1_some, decide_eq_true rfl]
  rfl
theorem chk_small {z : Int} (h0 : 0 ≤ z) (h1 : z ≤ 9223372036854775807) : chk .i64 z = some z := chk64 (by omega) h1
theorem law_DocNode_true (d other : GDoc) (id : Int) (h : okDoc d) (hid : id ≤ 9223372036854775807) : law_DocNodeMatches d other id = some true := by
  unfold law_DocNodeMatches
  have hz : okN (GNode.mk 0 0 [] [] (GGrid.mk 0 0 [] []) []) := ⟨okA_0, Nat.zero_le _, fun e he => (by cases he), okG_0, Nat.zero_le _⟩
  rw [law_docs_eq, bnd1_some, show ((!true) == false) = true from rfl, gd_true, gd_true, doc_eq _ _ h, bnd1_some, ref_doc_eq _ _ h, bnd1_some, if_neg (by simp), doc_Node_eq _ _ h, ref_Find_eq _ _ h.1]
  have tail : (bnd1 (gd ((decide (id < 0)) == false) (doc_Site id)) fun (r6 : Int) =>
    bnd1 (gd ((decide (id < 0)) == false) (quoM .i64 id 65536)) fun (x1 : Int) =>
    some ((decide (id < 0)) || (decide (r6 = x1)))) = some true := by
    by_cases hn : id < 0
    · rw [decide_eq_true hn]; rfl
    · rw [decide_eq_false hn]
      have h1 : doc_Site id = some (id.fdiv 65536) := rfl
      have h2 : quoM .i64 id 65536 = some (id.fdiv 65536) := by
        unfold quoM
        rw [if_neg (by decide), Int.tdiv_eq_ediv_of_nonneg (by omega), ← Int.fdiv_eq_ediv_of_nonneg _ (by omega)]
        have := Int.fdiv_nonneg (a := id) (b := 65536) (by omega) (by omega)
        have e : id.fdiv 65536 ≤ id := by rw [Int.fdiv_eq_ediv_of_nonneg _ (by omega)]; omega
        exact chk_small this (by omega)
      rw [h1, h2, show ((false == false) : Bool) = true from rfl, gd_true, bnd1_some, bnd1_some, decide_eq_true rfl]
      rfl
  cases hf : findN d.Nodes id with
  | none =>
    dsimp only
    rw [bnd2_some, bnd1_some, if_pos (by decide), if_pos (by decide), ref_node_eq _ _ hz, bnd1_some, decide_eq_true rfl]
    exact tail
  | some k =>
    obtain ⟨h1, h2⟩ := findN_lt hf
    dsimp only
    rw [bnd2_some, bnd1_some, if_neg (show ¬ decide ((k : Int) < 0) = true by simp), idx_nat h1, show ((!true) == false) = true from rfl, gd_true, bnd1_some, gd_true, ref_node_eq _ _ (h.2 _ (mem_at h1)), bnd1_some, decide_eq_true rfl]
    exact tail
end Go.Proofs.YtfkolgjapajekaaDoor.Al


namespace Go.Proofs.YtfkolgjapajekaaDoor.Al
theorem okDoc_bulk {μ : GNode → Nat} {γ : GGrid → Nat} {ψ : GCell → Nat} {ρ : GRect → Nat} {δ : GDrawOp → Nat} {ν : GElem → Nat} {κ : GAttr → Nat}
    (hn : ∀ n, (n.Attrs.map κ).sum + (n.Flow.map ν).sum + γ n.Grid + (n.Draw.map δ).sum + 1 ≤ μ n) (hg : ∀ g, (g.Cells.map ψ).sum + (g.Merges.map ρ).sum + 1 ≤ γ g)
    (hc : ∀ c, (c.Attrs.map κ).sum + 1 ≤ ψ c) (hr : ∀ r, 1 ≤ ρ r) (hd : ∀ o, 1 ≤ δ o) (he : ∀ e, (e.Attrs.map κ).sum + 1 ≤ ν e) (ha : ∀ a, a.Name.length + a.Value.length + 1 ≤ κ a)
    {d : GDoc} (hb : (d.Nodes.map μ).sum ≤ 1048576) : okDoc d := by
  have h1 := len_le_sum (μ := μ) (fun n => by have := hn n; omega) d.Nodes
  refine ⟨by omega, fun n hm => ?_⟩
  have h2 := mem_le_sum (μ := μ) hm
  have h3 := hn n
  have h4 := hg n.Grid
  have h5 := okF_bulk (ν := ν) (κ := κ) he ha (f := n.Flow) (by omega)
  have h6 := len_le_sum (μ := ψ) (fun c => by have := hc c; omega) n.Grid.Cells
  have h7 := len_le_sum (μ := ρ) hr n.Grid.Merges
  have h8 := len_le_sum (μ := δ) hd n.Draw
  refine ⟨okA_bulk ha (by omega), h5.1, h5.2, ⟨by omega, by omega, fun c hcm => okA_bulk ha ?_⟩, by omega⟩
  have h9 := mem_le_sum (μ := ψ) hcm
  have := hc c
  omega
end Go.Proofs.YtfkolgjapajekaaDoor.Al

