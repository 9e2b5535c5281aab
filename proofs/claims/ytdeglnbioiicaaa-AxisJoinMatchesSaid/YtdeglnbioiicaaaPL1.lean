/- Plain laws over the models, a part of them. -/
import Derived.Test.YtdeglnbioiicaaaMod1
namespace Go.Proofs.Ytdeglnbioiicaaa.Al
@[simp] theorem bnd1_some {a α : Type} (x : a) (f : a → Option α) : bnd1 (some x) f = f x := rfl
@[simp] theorem bnd2_some {a b α : Type} (x : a) (y : b) (f : a → b → Option α) : bnd2 (some (x, y)) f = f x y := rfl
@[simp] theorem bnd3_some {a b c α : Type} (x : a) (y : b) (z : c) (f : a → b → c → Option α) : bnd3 (some (x, y, z)) f = f x y z := rfl
@[simp] theorem bnd4_some {a b c d α : Type} (x : a) (y : b) (z : c) (u : d) (f : a → b → c → d → Option α) : bnd4 (some (x, y, z, u)) f = f x y z u := rfl
@[simp] theorem ctl1_nrm {a α : Type} (x : a) (f : a → Option α) : ctl1 (some (.nrm x)) f = f x := rfl
@[simp] theorem ctl1_ext {a α : Type} (t : α) (f : a → Option α) : ctl1 (some (.ext t)) f = some t := rfl
@[simp] theorem ctl2_nrm {a b α : Type} (x : a) (y : b) (f : a → b → Option α) : ctl2 (some (.nrm (x, y))) f = f x y := rfl
@[simp] theorem ctl2_ext {a b α : Type} (t : α) (f : a → b → Option α) : ctl2 (some (.ext t)) f = some t := rfl
@[simp] theorem ctl3_nrm {a b c α : Type} (x : a) (y : b) (z : c) (f : a → b → c → Option α) : ctl3 (some (.nrm (x, y, z))) f = f x y z := rfl
@[simp] theorem ctl3_ext {a b c α : Type} (t : α) (f : a → b → c → Option α) : ctl3 (some (.ext t)) f = some t := rfl
@[simp] theorem gd_true {α : Type} [Inhabited α] (m : Option α) : gd true m = m := rfl
@[simp] theorem gd_false {α : Type} [Inhabited α] (m : Option α) : gd false m = some default := rfl
theorem idx_nat {α : Type} [Inhabited α] {l : List α} {k : Nat} (h : k < l.length) : idx l (k : Int) = some l[k]! := by
  unfold idx
  rw [if_pos (Int.natCast_nonneg k), Int.toNat_natCast, List.getElem?_eq_getElem h, getElem!_pos l k h]
theorem chk_nat {k : Nat} (h : k < 9223372036854775807) : chk .i64 ((k : Int) + 1) = some (((k + 1 : Nat)) : Int) := by
  rw [chk64 (by omega) (by omega)]; rfl
theorem chk_pred {k : Nat} (h : 0 < k) (h2 : k ≤ 9223372036854775807) : chk .i64 ((k : Int) - 1) = some ((k - 1 : Nat) : Int) := by
  rw [chk64 (by omega) (by omega)]; congr 1; omega
def stepOf {ρ : Type} (k : Nat) : Option ρ → Option (Int ⊕ Ctl Unit ρ)
  | none => some (.inl ((k + 1 : Nat) : Int))
  | some r => some (.inr (.ext r))
def outOf {ρ : Type} : Option ρ → Ctl Unit ρ
  | none => .nrm ()
  | some r => .ext r
theorem iter_find {ρ : Type} {f : Int → Option (Int ⊕ Ctl Unit ρ)} {n : Nat} (g : Nat → Option ρ) (h1 : ∀ k : Nat, k < n → f k = stepOf k (g k))
    (h2 : f n = some (.inr (.nrm ()))) : iter f 0 = some (outOf ((List.range n).findSome? g)) := by
  have key : ∀ m k : Nat, k + m = n → iter f (k : Int) = some (outOf ((List.range' k m).findSome? g)) := by
    intro m
    induction m with
    | zero =>
      intro k hk
      obtain rfl : k = n := by omega
      rw [iter_stop h2]; rfl
    | succ m ih =>
      intro k hk
      rw [List.range'_succ, List.findSome?_cons]
      have := h1 k (by omega)
      cases hg : g k with
      | none => rw [hg] at this; rw [iter_next this, ih (k + 1) (by omega)]
      | some r => rw [hg] at this; rw [iter_stop this]; rfl
  rw [List.range_eq_range']
  exact key n 0 (by omega)
theorem findSome_congr {α ρ : Type} {l : List α} {g h : α → Option ρ} (e : ∀ x ∈ l, g x = h x) : l.findSome? g = l.findSome? h := by
  induction l with
  | nil => rfl
  | cons a l ih => rw [List.findSome?_cons, List.findSome?_cons, e a (List.mem_cons_self ..), ih fun x hx => e x (List.mem_cons_of_mem _ hx)]
theorem ctl_outOf {ρ : Type} (o : Option ρ) (f : Unit → Option ρ) : ctl1 (some (outOf o)) f = match o with | none => f () | some r => some r := by cases o <;> rfl
end Go.Proofs.Ytdeglnbioiicaaa.Al


namespace Go.Proofs.Ytdeglnbioiicaaa.Al
def chOK (c : UInt8) : Bool := (decide (97 ≤ c.toNat) && decide (c.toNat ≤ 122)) || (decide (48 ≤ c.toNat) && decide (c.toNat ≤ 57)) || decide (c.toNat = 46) || decide (c.toNat = 45)
def nameOK (s : List UInt8) : Bool := decide (1 ≤ s.length) && decide (s.length ≤ 24) && (decide (97 ≤ s[0]!.toNat) && decide (s[0]!.toNat ≤ 122)) && s.all chOK
def valCh (c : UInt8) : Bool := decide (32 ≤ c.toNat) && decide (c.toNat ≤ 126)
def valOK (s : List UInt8) : Bool := decide (1 ≤ s.length) && decide (s.length ≤ 200) && s.all valCh
theorem findSome_none_iff {ρ : Type} (n : Nat) (g : Nat → Option ρ) : (List.range n).findSome? g = none ↔ ∀ k, k < n → g k = none := by
  rw [List.findSome?_eq_none_iff]; simp
theorem find_const {ρ : Type} (n : Nat) (p : Nat → Bool) (r : ρ) : (List.range n).findSome? (fun k => if p k then none else some r) = if (List.range n).all p then none else some r := by
  generalize List.range n = l
  induction l with
  | nil => rfl
  | cons a l ih => rw [List.findSome?_cons, List.all_cons, ]; by_cases h : p a = true <;> simp [h, ih]
theorem sLt_cons (a b : UInt8) (x y : List UInt8) : sLt (a :: x) (b :: y) = (decide (a < b) || (a == b && sLt x y)) := rfl
theorem sLt_tri : ∀ (a b : List UInt8), (sLt a b || decide (a = b)) = !sLt b a
  | [], [] => rfl
  | [], _ :: _ => rfl
  | _ :: _, [] => rfl
  | a :: x, b :: y => by
    rw [sLt_cons, sLt_cons]
    have ih := sLt_tri x y
    by_cases h : a = b
    · subst h
      have h1 : ¬ a < a := fun h => by simp [UInt8.lt_iff_toNat_lt] at h
      simp only [decide_eq_false h1, beq_self_eq_true, Bool.true_and, Bool.false_or, List.cons.injEq, true_and]
      exact ih
    · have h2 : (a == b) = false := by simpa using h
      have h3 : (b == a) = false := by simpa using fun e : b = a => h e.symm
      have h4 : ¬ (a :: x = b :: y) := fun e => h (List.cons.inj e).1
      rw [h2, h3, decide_eq_false h4]
      simp only [Bool.false_and, Bool.or_false]
      have h5 : a.toNat ≠ b.toNat := fun e => h (UInt8.toNat_inj.1 e)
      by_cases hlt : a < b
      · have : ¬ b < a := by rw [UInt8.lt_iff_toNat_lt] at hlt ⊢; omega
        simp [hlt, this]
      · have : b < a := by rw [UInt8.lt_iff_toNat_lt] at hlt ⊢; omega
        simp [hlt, this]
theorem sLt_irrefl (a : List UInt8) : sLt a a = false := by
  have := sLt_tri a a
  cases h : sLt a a
  · rfl
  · rw [h] at this; simp at this
def okStr (l : List GAttr) : Prop := ∀ a ∈ l, a.Name.length ≤ 9223372036854775807 ∧ a.Value.length ≤ 9223372036854775807
def errA (l : List GAttr) (ch : Bool) (k : Nat) : Option Int :=
  if nameOK l[k]!.Name = false then some 9 else if valOK l[k]!.Value = false ∧ ¬ (ch = true ∧ l[k]!.Value = []) then some 23 else if 0 < k ∧ sLt l[k - 1]!.Name l[k]!.Name = false then some 5 else none
def attrErr (l : List GAttr) (ch : Bool) : Int := ((List.range l.length).findSome? (errA l ch)).getD 0
theorem okStr.at {l : List GAttr} (h : okStr l) {k : Nat} (hk : k < l.length) : l[k]!.Name.length ≤ 9223372036854775807 ∧ l[k]!.Value.length ≤ 9223372036854775807 := by
  rw [getElem!_pos l k hk]; exact h _ (List.getElem_mem hk)
def getA (l : List GAttr) (name : List UInt8) : List UInt8 := ((List.range l.length).findSome? fun k => if l[k]!.Name = name then some l[k]!.Value else none).getD []
theorem out_getD' {o : Option (List UInt8)} : (ctl1 (some (outOf o)) fun _ : Unit => some []) = some (o.getD []) := by cases o <;> rfl
theorem ref_Get_eq (l : List GAttr) (name : List UInt8) (hm : l.length ≤ 9223372036854775807) : ref_Get l name = some (getA l name) := by
  unfold ref_Get
  rw [iter_find (n := l.length) (fun k => if l[k]!.Name = name then some l[k]!.Value else none) (fun k hk => by
    unfold ref_Get_L1
    rw [if_pos (by simpa using hk), idx_nat hk, bnd1_some, chk_nat (by omega)]
    generalize l[k]! = x
    by_cases h : x.Name = name <;> simp [h, stepOf]) (by unfold ref_Get_L1; rw [if_neg (by simp)]), out_getD']; rfl
end Go.Proofs.Ytdeglnbioiicaaa.Al


namespace Go.Proofs.Ytdeglnbioiicaaa.Al
def nil2 : GAttr := ⟨[], []⟩
def bothL (stp : GAttr → GAttr → List GAttr → List GAttr) : List GAttr → List GAttr → List GAttr → List GAttr
  | [], [], c => c
  | x :: a, [], c => bothL stp a [] (stp x nil2 c)
  | [], y :: b, c => bothL stp [] b (stp nil2 y c)
  | x :: a, y :: b, c => if sLt x.Name y.Name then bothL stp a (y :: b) (stp x nil2 c) else if sLt y.Name x.Name then bothL stp (x :: a) b (stp nil2 y c) else bothL stp a b (stp x y c)
  termination_by a b => a.length + b.length
theorem app1 {o : List GAttr} {x : GAttr} (h : o.length + 1 ≤ 4398046511104) : app 32 o [x] = some (o ++ [x]) := by
  unfold app; rw [if_pos (by simp; omega)]
def stpRaw (x y : GAttr) (o : List GAttr) : List GAttr := if y.Name = [] then o ++ [x] else if y.Value = [] then o else o ++ [y]
def stpChange (x y : GAttr) (o : List GAttr) : List GAttr := if y.Name = [] then o ++ [⟨x.Name, []⟩] else if x = y then o else o ++ [y]
def stpBoth (x y : GAttr) (o : List GAttr) : List GAttr := o ++ [if y.Name = [] then x else y]
theorem stpRaw_len (x y o) : (stpRaw x y o).length ≤ o.length + 1 := by unfold stpRaw; split; simp; split <;> simp
theorem stpBoth_len (x y o) : (stpBoth x y o).length ≤ o.length + 1 := by unfold stpBoth; simp
theorem attr_eq_iff (x y : GAttr) : x = y ↔ x.Name = y.Name ∧ x.Value = y.Value := by cases x; cases y; simp
theorem ref_SameAttrs_eq (a b : List GAttr) (hm : a.length ≤ 9223372036854775807) : ref_SameAttrs a b = some (decide (a = b)) := by
  unfold ref_SameAttrs
  by_cases hl : a.length = b.length
  · rw [if_neg (by simp [hl]), iter_find (n := a.length) (fun k => if decide (a[k]! = b[k]!) then none else some false) (fun k hk => by
      unfold ref_SameAttrs_L1
      rw [if_pos (by simpa using hk), idx_nat hk, idx_nat (by omega), bnd1_some, bnd1_some, chk_nat (by omega)]
      generalize a[k]! = x
      generalize b[k]! = y
      by_cases h : x = y
      · subst h; simp [stepOf]
      · have h' := h; rw [attr_eq_iff] at h'
        simp only [decide_eq_false h, Bool.and_true]
        by_cases h1 : x.Name = y.Name
        · have h2 : ¬ x.Value = y.Value := fun e => h' ⟨h1, e⟩
          simp [h1, h2, stepOf]
        · simp [h1, stepOf]) (by unfold ref_SameAttrs_L1; rw [if_neg (by simp)]), find_const, ctl_outOf]
    by_cases h : a = b
    · subst h; simp
    · rw [decide_eq_false h]
      have : ((List.range a.length).all fun k => decide (a[k]! = b[k]!)) = false := by
        rw [← Bool.not_eq_true, List.all_eq_true]
        intro hall
        apply h
        apply List.ext_getElem hl
        intro k h1 h2
        have := hall k (List.mem_range.2 h1)
        simp only [decide_eq_true_eq] at this
        rwa [getElem!_pos a k h1, getElem!_pos b k h2] at this
      rw [this]; rfl
  · rw [if_pos (by simp; omega), decide_eq_false (by rintro rfl; exact hl rfl)]
end Go.Proofs.Ytdeglnbioiicaaa.Al


namespace Go.Proofs.Ytdeglnbioiicaaa.Al
theorem iter_foldA {α β : Type} [Inhabited α] {f : (β × Int) → Option ((β × Int) ⊕ β)} (l : List α) (stp : β → α → β) (I : β → Nat → Prop) (hI : ∀ b k, k < l.length → I b k → I (stp b l[k]!) (k + 1))
    (h1 : ∀ b (k : Nat), k < l.length → I b k → f (b, (k : Int)) = some (.inl (stp b l[k]!, ((k + 1 : Nat) : Int)))) (h2 : ∀ b, f (b, (l.length : Int)) = some (.inr b)) (b0 : β) (h0 : I b0 0) : iter f (b0, 0) = some (l.foldl stp b0) := by
  have key : ∀ (m k : Nat) (b : β), k + m = l.length → I b k → iter f (b, (k : Int)) = some ((l.drop k).foldl stp b) := by
    intro m
    induction m with
    | zero =>
      intro k b hk _
      have : k = l.length := by omega
      subst this
      rw [iter_stop (h2 b)]; simp
    | succ m ih =>
      intro k b hk hb
      have hkl : k < l.length := by omega
      rw [iter_next (h1 b k hkl hb), ih (k + 1) _ (by omega) (hI b k hkl hb), List.drop_eq_getElem_cons hkl, List.foldl_cons, getElem!_pos l k hkl]
  have := key l.length 0 b0 (by omega) h0
  simpa using this
theorem iter_foldB {α β : Type} [Inhabited α] {f : (Int × β) → Option ((Int × β) ⊕ β)} (l : List α) (stp : β → α → β) (I : β → Nat → Prop) (hI : ∀ b k, k < l.length → I b k → I (stp b l[k]!) (k + 1))
    (h1 : ∀ b (k : Nat), k < l.length → I b k → f ((k : Int), b) = some (.inl (((k + 1 : Nat) : Int), stp b l[k]!))) (h2 : ∀ b, f ((l.length : Int), b) = some (.inr b)) (b0 : β) (h0 : I b0 0) : iter f (0, b0) = some (l.foldl stp b0) := by
  have key : ∀ (m k : Nat) (b : β), k + m = l.length → I b k → iter f ((k : Int), b) = some ((l.drop k).foldl stp b) := by
    intro m
    induction m with
    | zero =>
      intro k b hk _
      have : k = l.length := by omega
      subst this
      rw [iter_stop (h2 b)]; simp
    | succ m ih =>
      intro k b hk hb
      have hkl : k < l.length := by omega
      rw [iter_next (h1 b k hkl hb), ih (k + 1) _ (by omega) (hI b k hkl hb), List.drop_eq_getElem_cons hkl, List.foldl_cons, getElem!_pos l k hkl]
  have := key l.length 0 b0 (by omega) h0
  simpa using this
theorem iter_foldC {α γ β : Type} [Inhabited α] {f : (γ × Int × β) → Option ((γ × Int × β) ⊕ (γ × β))} (l : List α) (stp : γ × β → α → γ × β) (I : γ × β → Nat → Prop) (hI : ∀ b k, k < l.length → I b k → I (stp b l[k]!) (k + 1))
    (h1 : ∀ c b (k : Nat), k < l.length → I (c, b) k → f (c, (k : Int), b) = some (.inl ((stp (c, b) l[k]!).1, ((k + 1 : Nat) : Int), (stp (c, b) l[k]!).2))) (h2 : ∀ c b, f (c, (l.length : Int), b) = some (.inr (c, b))) (c0 : γ) (b0 : β) (h0 : I (c0, b0) 0) :
    iter f (c0, 0, b0) = some (l.foldl stp (c0, b0)) := by
  have key : ∀ (m k : Nat) (b : γ × β), k + m = l.length → I b k → iter f (b.1, (k : Int), b.2) = some ((l.drop k).foldl stp b) := by
    intro m
    induction m with
    | zero =>
      intro k b hk _
      have : k = l.length := by omega
      subst this
      rw [iter_stop (h2 _ _)]; simp
    | succ m ih =>
      intro k b hk hb
      have hkl : k < l.length := by omega
      rw [iter_next (h1 b.1 b.2 k hkl hb), ih (k + 1) _ (by omega) (hI b k hkl hb), List.drop_eq_getElem_cons hkl, List.foldl_cons, getElem!_pos l k hkl]
  have := key l.length 0 (c0, b0) (by omega) h0
  simpa using this
theorem sLt_nil (a : List UInt8) : sLt a [] = false := by cases a <;> rfl
theorem sLt_trans : ∀ {a b c : List UInt8}, sLt a b = true → sLt b c = true → sLt a c = true
  | _, [], _, h, _ => by rw [sLt_nil] at h; cases h
  | _, _ :: _, [], _, h => by cases h
  | [], _ :: _, _ :: _, _, _ => rfl
  | a :: x, b :: y, c :: z, h, k => by
    rw [sLt_cons] at h k ⊢
    simp only [Bool.or_eq_true, decide_eq_true_eq, Bool.and_eq_true, beq_iff_eq, UInt8.lt_iff_toNat_lt] at h k ⊢
    rcases h with h | ⟨rfl, h⟩ <;> rcases k with k | ⟨rfl, k⟩
    · left; omega
    · left; exact h
    · left; exact k
    · right; exact ⟨rfl, sLt_trans h k⟩
def Srt (l : List GAttr) : Prop := l.Pairwise fun x y => sLt x.Name y.Name = true
def fnd : List GAttr → List UInt8 → Option GAttr
  | [], _ => none
  | x :: l, n => if x.Name = n then some x else fnd l n
theorem fnd_none {l : List GAttr} {n : List UInt8} (h : ∀ e ∈ l, e.Name ≠ n) : fnd l n = none := by
  induction l with
  | nil => rfl
  | cons x l ih => rw [fnd, if_neg (h x (List.mem_cons_self ..)), ih fun e he => h e (List.mem_cons_of_mem _ he)]
theorem fnd_name {l : List GAttr} {n : List UInt8} {e : GAttr} (h : fnd l n = some e) : e.Name = n ∧ e ∈ l := by
  induction l with
  | nil => cases h
  | cons x l ih =>
    rw [fnd] at h
    split at h
    · cases h; exact ⟨‹_›, List.mem_cons_self ..⟩
    · exact ⟨(ih h).1, List.mem_cons_of_mem _ (ih h).2⟩
theorem ne_of_sLt {a b : List UInt8} (h : sLt a b = true) : b ≠ a := by rintro rfl; rw [sLt_irrefl] at h; cases h
theorem srt_cons {x : GAttr} {l : List GAttr} : Srt (x :: l) ↔ (∀ e ∈ l, sLt x.Name e.Name = true) ∧ Srt l := List.pairwise_cons
theorem srt_ext : ∀ {l m : List GAttr}, Srt l → Srt m → (∀ n, fnd l n = fnd m n) → l = m
  | [], [], _, _, _ => rfl
  | [], y :: m, _, _, h => by have := h y.Name; simp [fnd] at this
  | x :: l, [], _, _, h => by have := h x.Name; simp [fnd] at this
  | x :: l, y :: m, hl, hm, h => by
    have h1 := srt_cons.1 hl
    have h2 := srt_cons.1 hm
    have hxy : x.Name = y.Name := by
      rcases hlt : sLt x.Name y.Name with _ | _
      · rcases hgt : sLt y.Name x.Name with _ | _
        · have := sLt_tri x.Name y.Name
          rw [hlt, hgt] at this
          simpa using this
        · have := h y.Name
          rw [fnd, if_neg (ne_of_sLt hgt), fnd_none fun e he => ne_of_sLt (sLt_trans hgt (h1.1 e he)), fnd, if_pos rfl] at this
          cases this
      · have := h x.Name
        rw [fnd, if_pos rfl, fnd, if_neg (ne_of_sLt hlt), fnd_none fun e he => ne_of_sLt (sLt_trans hlt (h2.1 e he))] at this
        cases this
    have hx : x = y := by
      have := h x.Name
      rw [fnd, if_pos rfl, fnd, if_pos hxy.symm] at this
      exact Option.some.inj this
    subst hx
    rw [srt_ext h1.2 h2.2 fun n => ?_]
    by_cases hn : x.Name = n
    · subst hn
      rw [fnd_none fun e he => ne_of_sLt (h1.1 e he), fnd_none fun e he => ne_of_sLt (h2.1 e he)]
    · have := h n
      rwa [fnd, if_neg hn, fnd, if_neg hn] at this
def putL : List GAttr → GAttr → List GAttr
  | [], a => [a]
  | x :: l, a => if x.Name = a.Name then a :: l else if sLt x.Name a.Name = true then x :: putL l a else a :: x :: l
theorem putL_mem {l : List GAttr} {a e : GAttr} (h : e ∈ putL l a) : e = a ∨ e ∈ l := by
  induction l with
  | nil => simpa [putL] using h
  | cons x l ih =>
    rw [putL] at h
    split at h
    · rcases List.mem_cons.1 h with h | h
      · exact .inl h
      · exact .inr (List.mem_cons_of_mem _ h)
    · split at h
      · rcases List.mem_cons.1 h with h | h
        · exact .inr (h ▸ List.mem_cons_self ..)
        · rcases ih h with h | h
          · exact .inl h
          · exact .inr (List.mem_cons_of_mem _ h)
      · rcases List.mem_cons.1 h with h | h
        · exact .inl h
        · exact .inr h
theorem sLt_of_not {a b : List UInt8} (h1 : a ≠ b) (h2 : ¬ sLt a b = true) : sLt b a = true := by
  have := sLt_tri a b
  rw [Bool.eq_false_iff.2 h2, decide_eq_false h1] at this
  simpa using this
theorem putL_srt {l : List GAttr} (a : GAttr) (h : Srt l) : Srt (putL l a) := by
  induction l with
  | nil => simp [putL, Srt]
  | cons x l ih =>
    have h1 := srt_cons.1 h
    rw [putL]
    split
    · rename_i hn; exact srt_cons.2 ⟨fun e he => by rw [← hn]; exact h1.1 e he, h1.2⟩
    · rename_i hn
      split
      · rename_i hlt
        exact srt_cons.2 ⟨fun e he => by rcases putL_mem he with rfl | he; exact hlt; exact h1.1 e he, ih h1.2⟩
      · rename_i hlt
        have hgt := sLt_of_not hn hlt
        exact srt_cons.2 ⟨fun e he => by rcases List.mem_cons.1 he with rfl | he; exact hgt; exact sLt_trans hgt (h1.1 e he), h⟩
theorem putL_fnd (l : List GAttr) (a : GAttr) (n : List UInt8) : fnd (putL l a) n = if a.Name = n then some a else fnd l n := by
  induction l with
  | nil => simp [putL, fnd]
  | cons x l ih =>
    rw [putL]
    split
    · rename_i hn
      rw [fnd, fnd]
      by_cases h : a.Name = n
      · rw [if_pos h, if_pos h]
      · rw [if_neg h, if_neg h, if_neg (by rw [hn]; exact h)]
    · rename_i hn
      split
      · rw [fnd, fnd, ih]
        by_cases h : a.Name = n
        · rw [if_pos h, if_neg (by rw [← h]; exact hn), if_pos h]
        · rw [if_neg h, if_neg h]
      · rw [fnd]
theorem putL_len (l : List GAttr) (a : GAttr) : (putL l a).length ≤ l.length + 1 := by
  induction l with
  | nil => simp [putL]
  | cons x l ih => rw [putL]; split; simp; split; simp; omega; simp
def putStp (a : GAttr) (s : Bool × List GAttr) (x : GAttr) : Bool × List GAttr :=
  let s1 := if s.1 = false ∧ sLt x.Name a.Name = false then (true, s.2 ++ [a]) else s
  if x.Name = a.Name then s1 else (s1.1, s1.2 ++ [x])
theorem put_done (a : GAttr) : ∀ (l : List GAttr) (o : List GAttr), (∀ e ∈ l, sLt a.Name e.Name = true) → l.foldl (putStp a) (true, o) = (true, o ++ l)
  | [], o, _ => by simp
  | x :: l, o, h => by
    have hx := h x (List.mem_cons_self ..)
    have : putStp a (true, o) x = (true, o ++ [x]) := by simp [putStp, ne_of_sLt hx]
    rw [List.foldl_cons, this, put_done a l _ fun e he => h e (List.mem_cons_of_mem _ he)]
    simp
theorem put_fold (a : GAttr) : ∀ (l : List GAttr) (o : List GAttr), Srt l → (let s := l.foldl (putStp a) (false, o); if s.1 then s.2 else s.2 ++ [a]) = o ++ putL l a
  | [], o, _ => by simp [putL]
  | x :: l, o, h => by
    have h1 := srt_cons.1 h
    rw [List.foldl_cons, putL]
    by_cases hn : x.Name = a.Name
    · have hs : sLt x.Name a.Name = false := by rw [hn]; exact sLt_irrefl _
      have : putStp a (false, o) x = (true, o ++ [a]) := by simp [putStp, hn, sLt_irrefl]
      rw [this, put_done a l _ fun e he => by rw [← hn]; exact h1.1 e he, if_pos hn]
      simp
    · by_cases hlt : sLt x.Name a.Name = true
      · have : putStp a (false, o) x = (false, o ++ [x]) := by simp [putStp, hn, hlt]
        rw [this, put_fold a l _ h1.2, if_neg hn, if_pos hlt]
        simp
      · have hgt := sLt_of_not hn hlt
        have : putStp a (false, o) x = (true, o ++ [a] ++ [x]) := by simp [putStp, hn, Bool.eq_false_iff.2 hlt]
        rw [this, put_done a l _ fun e he => sLt_trans hgt (h1.1 e he), if_neg hn, if_neg hlt]
        simp
theorem putStp_len (a : GAttr) (s : Bool × List GAttr) (x : GAttr) : (putStp a s x).2.length ≤ s.2.length + 2 := by
  unfold putStp
  have : (if s.1 = false ∧ sLt x.Name a.Name = false then (true, s.2 ++ [a]) else s).2.length ≤ s.2.length + 1 := by split <;> simp
  generalize (if s.1 = false ∧ sLt x.Name a.Name = false then (true, s.2 ++ [a]) else s) = t at this
  by_cases h2 : x.Name = a.Name
  · simp only [h2, if_true]; omega
  · simp only [h2, if_false, List.length_append, List.length_singleton]; omega
theorem ref_put_eq (l : List GAttr) (a : GAttr) (hs : Srt l) (h : l.length ≤ 1099511627776) : ref_put l a = some (putL l a) := by
  unfold ref_put
  rw [iter_foldC l (putStp a) (fun s k => s.2.length ≤ 2 * k) (fun b k _ hb => by have := putStp_len a b l[k]!; show (putStp a b l[k]!).2.length ≤ _; omega) (fun c b k hk hb => by
    have hb' : b.length ≤ 2 * k := hb
    unfold ref_put_L1
    rw [if_pos (by simpa using hk), idx_nat hk, chk_nat (by omega)]
    simp only [bnd1_some]
    generalize l[k]! = x
    have e1 : app 32 b [a] = some (b ++ [a]) := app1 (by omega)
    have e2 : app 32 b [x] = some (b ++ [x]) := app1 (by omega)
    have e3 : app 32 (b ++ [a]) [x] = some (b ++ [a] ++ [x]) := app1 (by simp; omega)
    cases c
    · simp only [Bool.not_false, beq_self_eq_true, gd_true, bnd1_some, Bool.true_and]
      unfold putStp
      cases h1 : sLt x.Name a.Name
      · by_cases h2 : x.Name = a.Name <;> simp [e1, e3, h2]
      · by_cases h2 : x.Name = a.Name <;> simp [e2, h2]
    · have : ((!true) == true) = false := rfl
      rw [this, gd_false]
      simp only [bnd1_some, Bool.not_true, Bool.false_and, Bool.false_eq_true, if_false, bnd2_some]
      unfold putStp
      by_cases h2 : x.Name = a.Name <;> simp [e2, h2]) (fun c b => by unfold ref_put_L1; rw [if_neg (by simp)]) false [] (by simp)]
  have hp := put_fold a l [] hs
  have hlen : (l.foldl (putStp a) (false, ([] : List GAttr))).2.length ≤ 2 * l.length := by
    have : ∀ (m : List GAttr) (s : Bool × List GAttr), (m.foldl (putStp a) s).2.length ≤ s.2.length + 2 * m.length := by
      intro m
      induction m with
      | nil => intro s; simp
      | cons x m ih => intro s; rw [List.foldl_cons]; have := ih (putStp a s x); have := putStp_len a s x; simp only [List.length_cons]; omega
    have := this l (false, [])
    simpa using this
  generalize l.foldl (putStp a) (false, ([] : List GAttr)) = s at hp hlen
  obtain ⟨c, o⟩ := s
  simp only [bnd2_some]
  cases c
  · simp only [Bool.not_false, if_true]
    rw [app1 (by simp at hlen; omega)]
    simpa using hp
  · simpa using hp
end Go.Proofs.Ytdeglnbioiicaaa.Al


namespace Go.Proofs.Ytdeglnbioiicaaa.Al
def mrg (g : GAttr → GAttr → List GAttr) : List GAttr → List GAttr → List GAttr
  | [], [] => []
  | x :: a, [] => g x nil2 ++ mrg g a []
  | [], y :: b => g nil2 y ++ mrg g [] b
  | x :: a, y :: b => if sLt x.Name y.Name then g x nil2 ++ mrg g a (y :: b) else if sLt y.Name x.Name then g nil2 y ++ mrg g (x :: a) b else g x y ++ mrg g a b
  termination_by a b => a.length + b.length
theorem bothL_mrg (stp : GAttr → GAttr → List GAttr → List GAttr) (g : GAttr → GAttr → List GAttr) (h : ∀ x y o, stp x y o = o ++ g x y) : ∀ (m : Nat) (a b c : List GAttr), a.length + b.length = m → bothL stp a b c = c ++ mrg g a b := by
  intro m
  induction m using Nat.strongRecOn with
  | _ m ih =>
    intro a b c hm
    cases a with
    | nil =>
      cases b with
      | nil => simp [bothL, mrg]
      | cons y b => rw [bothL, mrg, ih (m - 1) (by simp at hm; omega) [] b _ (by simp at hm ⊢; omega), h]; simp
    | cons x a =>
      cases b with
      | nil => rw [bothL, mrg, ih (m - 1) (by simp at hm; omega) a [] _ (by simp at hm ⊢; omega), h]; simp
      | cons y b =>
        rw [bothL, mrg]
        split
        · rw [ih (m - 1) (by simp at hm; omega) a (y :: b) _ (by simp at hm ⊢; omega), h]; simp
        · split
          · rw [ih (m - 1) (by simp at hm; omega) (x :: a) b _ (by simp at hm ⊢; omega), h]; simp
          · rw [ih (m - 2) (by simp at hm; omega) a b _ (by simp at hm ⊢; omega), h]; simp
def One (l : List GAttr) (n : List UInt8) (o : Option GAttr) : Prop := l = o.toList ∧ ∀ e, o = some e → e.Name = n
structure GOK (g : GAttr → GAttr → List GAttr) (G : Option GAttr → Option GAttr → Option GAttr) : Prop where
  l : ∀ x : GAttr, x.Name ≠ [] → One (g x nil2) x.Name (G (some x) none)
  r : ∀ y : GAttr, y.Name ≠ [] → One (g nil2 y) y.Name (G none (some y))
  b : ∀ x y : GAttr, x.Name = y.Name → x.Name ≠ [] → One (g x y) x.Name (G (some x) (some y))
  n : G none none = none
theorem head_spec {o : Option GAttr} {n0 : List UInt8} {rest : List GAttr} (h1 : ∀ e, o = some e → e.Name = n0) (h2 : ∀ e ∈ rest, sLt n0 e.Name = true) (h3 : Srt rest) : Srt (o.toList ++ rest) ∧ ∀ n, fnd (o.toList ++ rest) n = if n0 = n then o else fnd rest n := by
  cases o with
  | none =>
    refine ⟨h3, fun n => ?_⟩
    split
    · rename_i h; subst h; exact fnd_none fun e he => ne_of_sLt (h2 e he)
    · rfl
  | some x =>
    have hx := h1 x rfl
    refine ⟨srt_cons.2 ⟨fun e he => by rw [hx]; exact h2 e he, h3⟩, fun n => ?_⟩
    show fnd (x :: rest) n = _
    rw [fnd, hx]
def Nm (l : List GAttr) : Prop := ∀ e ∈ l, e.Name ≠ []
theorem mrg_spec {g : GAttr → GAttr → List GAttr} {G : Option GAttr → Option GAttr → Option GAttr} (hg : GOK g G) : ∀ (m : Nat) (a b : List GAttr), a.length + b.length = m → Srt a → Srt b → Nm a → Nm b →
    (∀ n, (∀ e ∈ a, sLt n e.Name = true) → (∀ e ∈ b, sLt n e.Name = true) → ∀ e ∈ mrg g a b, sLt n e.Name = true) ∧ Srt (mrg g a b) ∧ ∀ n, fnd (mrg g a b) n = G (fnd a n) (fnd b n) := by
  intro m
  induction m using Nat.strongRecOn with
  | _ m ih =>
    intro a b hm ha hb na nb
    have tail : ∀ {l : List GAttr} {n0 : List UInt8} {o : Option GAttr} {a' b' : List GAttr}, One l n0 o → a'.length + b'.length < m → Srt a' → Srt b' → Nm a' → Nm b' → (∀ e ∈ a', sLt n0 e.Name = true) → (∀ e ∈ b', sLt n0 e.Name = true) →
        (∀ n, sLt n n0 = true → ∀ e ∈ l ++ mrg g a' b', sLt n e.Name = true) ∧ Srt (l ++ mrg g a' b') ∧ ∀ n, fnd (l ++ mrg g a' b') n = if n0 = n then o else G (fnd a' n) (fnd b' n) := by
      rintro l n0 o a' b' ⟨rfl, ho⟩ hlt ha' hb' na' nb' h1 h2
      obtain ⟨i1, i2, i3⟩ := ih _ hlt a' b' rfl ha' hb' na' nb'
      obtain ⟨j1, j2⟩ := head_spec ho (i1 n0 h1 h2) i2
      refine ⟨fun n hn e he => ?_, j1, fun n => by rw [j2 n, i3 n]⟩
      rcases List.mem_append.1 he with he | he
      · rw [Option.mem_toList] at he; rw [ho e he]; exact hn
      · exact sLt_trans hn (i1 n0 h1 h2 e he)
    cases a with
    | nil =>
      cases b with
      | nil => exact ⟨fun n _ _ e he => by simp [mrg] at he, by simp [mrg, Srt], fun n => by simp [mrg, fnd, hg.n]⟩
      | cons y b =>
        have h1 := srt_cons.1 hb
        have hy := nb y (List.mem_cons_self ..)
        rw [mrg]
        obtain ⟨k1, k2, k3⟩ := tail (a' := []) (b' := b) (hg.r y hy) (by simp at hm ⊢; omega) ha h1.2 na (fun e he => nb e (List.mem_cons_of_mem _ he)) (fun e he => by cases he) h1.1
        refine ⟨fun n _ h e he => k1 n (h y (List.mem_cons_self ..)) e he, k2, fun n => ?_⟩
        rw [k3 n]
        conv => rhs; rw [fnd, fnd]
        split
        · rfl
        · rfl
    | cons x a =>
      have h1 := srt_cons.1 ha
      have hx := na x (List.mem_cons_self ..)
      cases b with
      | nil =>
        rw [mrg]
        obtain ⟨k1, k2, k3⟩ := tail (a' := a) (b' := []) (hg.l x hx) (by simp at hm ⊢; omega) h1.2 hb (fun e he => na e (List.mem_cons_of_mem _ he)) nb h1.1 (fun e he => by cases he)
        refine ⟨fun n h _ e he => k1 n (h x (List.mem_cons_self ..)) e he, k2, fun n => ?_⟩
        rw [k3 n]
        conv => rhs; rw [fnd, fnd]
        split
        · rfl
        · rfl
      | cons y b =>
        have h2 := srt_cons.1 hb
        have hy := nb y (List.mem_cons_self ..)
        rw [mrg]
        split
        · rename_i hlt
          obtain ⟨k1, k2, k3⟩ := tail (a' := a) (b' := y :: b) (hg.l x hx) (by simp at hm ⊢; omega) h1.2 hb (fun e he => na e (List.mem_cons_of_mem _ he)) nb h1.1 (fun e he => by
            rcases List.mem_cons.1 he with rfl | he
            · exact hlt
            · exact sLt_trans hlt (h2.1 e he))
          refine ⟨fun n h _ e he => k1 n (h x (List.mem_cons_self ..)) e he, k2, fun n => ?_⟩
          rw [k3 n]
          by_cases hn : x.Name = n
          · subst hn
            rw [if_pos rfl, fnd, if_pos rfl, fnd_none fun e he => by
              rcases List.mem_cons.1 he with rfl | he
              · exact ne_of_sLt hlt
              · exact ne_of_sLt (sLt_trans hlt (h2.1 e he))]
          · rw [if_neg hn]; conv => rhs; rw [fnd, if_neg hn]
        · rename_i hlt
          split
          · rename_i hgt
            obtain ⟨k1, k2, k3⟩ := tail (a' := x :: a) (b' := b) (hg.r y hy) (by simp at hm ⊢; omega) ha h2.2 na (fun e he => nb e (List.mem_cons_of_mem _ he)) (fun e he => by
              rcases List.mem_cons.1 he with rfl | he
              · exact hgt
              · exact sLt_trans hgt (h1.1 e he)) h2.1
            refine ⟨fun n _ h e he => k1 n (h y (List.mem_cons_self ..)) e he, k2, fun n => ?_⟩
            rw [k3 n]
            by_cases hn : y.Name = n
            · subst hn
              rw [if_pos rfl]
              conv => rhs; rw [fnd_none (l := x :: a) (fun e he => by
                rcases List.mem_cons.1 he with rfl | he
                · exact ne_of_sLt hgt
                · exact ne_of_sLt (sLt_trans hgt (h1.1 e he))), fnd, if_pos rfl]
            · rw [if_neg hn]; conv => rhs; arg 2; rw [fnd, if_neg hn]
          · rename_i hgt
            have hxy : x.Name = y.Name := by
              have := sLt_tri x.Name y.Name
              rw [Bool.eq_false_iff.2 hlt, Bool.eq_false_iff.2 hgt] at this
              simpa using this
            obtain ⟨k1, k2, k3⟩ := tail (a' := a) (b' := b) (hg.b x y hxy hx) (by simp at hm ⊢; omega) h1.2 h2.2 (fun e he => na e (List.mem_cons_of_mem _ he)) (fun e he => nb e (List.mem_cons_of_mem _ he)) h1.1 (fun e he => by rw [hxy]; exact h2.1 e he)
            refine ⟨fun n h _ e he => k1 n (h x (List.mem_cons_self ..)) e he, k2, fun n => ?_⟩
            rw [k3 n]
            conv => rhs; rw [fnd, fnd, ← hxy]
            split <;> rfl
def GRaw : Option GAttr → Option GAttr → Option GAttr
  | o, none => o
  | _, some y => if y.Value = [] then none else some y
def GChange : Option GAttr → Option GAttr → Option GAttr
  | none, none => none
  | some x, none => some ⟨x.Name, []⟩
  | none, some y => some y
  | some x, some y => if x = y then none else some y
def GBoth : Option GAttr → Option GAttr → Option GAttr
  | o, none => o
  | _, some y => some y
theorem spec_of {stp : GAttr → GAttr → List GAttr → List GAttr} {g : GAttr → GAttr → List GAttr} {G : Option GAttr → Option GAttr → Option GAttr} (h : ∀ x y o, stp x y o = o ++ g x y) (hg : GOK g G) {a b : List GAttr} (ha : Srt a) (hb : Srt b) (na : Nm a) (nb : Nm b) :
    Srt (bothL stp a b []) ∧ ∀ n, fnd (bothL stp a b []) n = G (fnd a n) (fnd b n) := by
  rw [bothL_mrg stp g h _ a b [] rfl, List.nil_append]
  exact (mrg_spec hg _ a b rfl ha hb na nb).2
def gRaw (x y : GAttr) : List GAttr := if y.Name = [] then [x] else if y.Value = [] then [] else [y]
def gChange (x y : GAttr) : List GAttr := if y.Name = [] then [⟨x.Name, []⟩] else if x = y then [] else [y]
def gBoth (x y : GAttr) : List GAttr := [if y.Name = [] then x else y]
theorem gRaw_ok : GOK gRaw GRaw := by
  refine ⟨fun x hx => ⟨by simp [gRaw, GRaw, nil2], by rintro e ⟨⟩; rfl⟩, fun y hy => ⟨?_, ?_⟩, fun x y hxy hx => ⟨?_, ?_⟩, rfl⟩
  · simp only [gRaw, GRaw, if_neg hy]; split <;> rfl
  · intro e he; simp only [GRaw] at he; split at he <;> cases he; rfl
  · rw [hxy] at hx; simp only [gRaw, GRaw, if_neg hx]; split <;> rfl
  · intro e he; simp only [GRaw] at he; split at he <;> cases he; exact hxy.symm
theorem gChange_ok : GOK gChange GChange := by
  refine ⟨fun x hx => ⟨by simp [gChange, GChange, nil2], by rintro e ⟨⟩; rfl⟩, fun y hy => ⟨?_, ?_⟩, fun x y hxy hx => ⟨?_, ?_⟩, rfl⟩
  · have : ¬ nil2 = y := by rintro rfl; exact hy rfl
    simp [gChange, GChange, if_neg hy, this]
  · rintro e ⟨⟩; rfl
  · rw [hxy] at hx; simp only [gChange, GChange, if_neg hx]; split <;> rfl
  · intro e he; simp only [GChange] at he; split at he <;> cases he; exact hxy.symm
theorem gBoth_ok : GOK gBoth GBoth := by
  refine ⟨fun x hx => ⟨by simp [gBoth, GBoth, nil2], by rintro e ⟨⟩; rfl⟩, fun y hy => ⟨by simp [gBoth, GBoth, if_neg hy], by rintro e ⟨⟩; rfl⟩, fun x y hxy hx => ⟨?_, ?_⟩, rfl⟩
  · rw [hxy] at hx; simp [gBoth, GBoth, if_neg hx]
  · rintro e ⟨⟩; exact hxy.symm
theorem stpRaw_g (x y o) : stpRaw x y o = o ++ gRaw x y := by unfold stpRaw gRaw; split; rfl; split; simp; rfl
theorem stpChange_g (x y o) : stpChange x y o = o ++ gChange x y := by unfold stpChange gChange; split; rfl; split; simp; rfl
theorem stpBoth_g (x y o) : stpBoth x y o = o ++ gBoth x y := rfl
theorem srt_of_next {l : List GAttr} (h : ∀ k, k + 1 < l.length → sLt l[k]!.Name l[k + 1]!.Name = true) : Srt l := by
  induction l with
  | nil => exact List.Pairwise.nil
  | cons x l ih =>
    have hl := ih fun k hk => by have := h (k + 1) (by simp; omega); simpa using this
    refine srt_cons.2 ⟨fun e he => ?_, hl⟩
    cases l with
    | nil => cases he
    | cons y l =>
      have h0 : sLt x.Name y.Name = true := by have := h 0 (by simp); simpa using this
      rcases List.mem_cons.1 he with rfl | he
      · exact h0
      · exact sLt_trans h0 ((srt_cons.1 hl).1 e he)
theorem good_of {l : List GAttr} {ch : Bool} (h : attrErr l ch = 0) : Srt l ∧ Nm l ∧ (ch = false → ∀ e ∈ l, e.Value ≠ []) := by
  have hn : ∀ k, k < l.length → errA l ch k = none := by
    intro k hk
    unfold attrErr at h
    cases hf : (List.range l.length).findSome? (errA l ch) with
    | none => exact (findSome_none_iff _ _).1 hf k hk
    | some r =>
      rw [hf] at h
      obtain ⟨j, _, hj⟩ := List.exists_of_findSome?_eq_some hf
      exfalso
      unfold errA at hj
      simp only [Option.getD_some] at h
      subst h
      repeat' split at hj
      all_goals simp at hj
  have hname : ∀ k, k < l.length → nameOK l[k]!.Name = true ∧ ¬ (valOK l[k]!.Value = false ∧ ¬ (ch = true ∧ l[k]!.Value = [])) ∧ ¬ (0 < k ∧ sLt l[k - 1]!.Name l[k]!.Name = false) := by
    intro k hk
    have := hn k hk
    unfold errA at this
    split at this
    · cases this
    · split at this
      · cases this
      · split at this
        · cases this
        · exact ⟨by rcases hx : nameOK l[k]!.Name with _ | _; exact absurd hx (by assumption); rfl, ‹_›, ‹_›⟩
  refine ⟨srt_of_next fun k hk => ?_, fun e he => ?_, fun hc e he => ?_⟩
  · have := (hname (k + 1) hk).2.2
    rw [Nat.add_sub_cancel] at this
    simpa using this
  · obtain ⟨k, hk, rfl⟩ := List.mem_iff_getElem.1 he
    have := (hname k hk).1
    rw [getElem!_pos l k hk] at this
    intro e0
    rw [e0] at this
    simp [nameOK] at this
  · obtain ⟨k, hk, rfl⟩ := List.mem_iff_getElem.1 he
    have := (hname k hk).2.1
    rw [getElem!_pos l k hk, hc] at this
    intro e0
    apply this
    rw [e0]
    exact ⟨rfl, by simp⟩
theorem fold_put (p : GAttr → Bool) (h : GAttr → GAttr) (hh : ∀ x, (h x).Name = x.Name) : ∀ (l o : List GAttr), Srt l → Srt o →
    Srt (l.foldl (fun o x => if p x then putL o (h x) else o) o) ∧ ∀ n, fnd (l.foldl (fun o x => if p x then putL o (h x) else o) o) n = match fnd l n with | some x => if p x then some (h x) else fnd o n | none => fnd o n
  | [], o, _, ho => ⟨ho, fun n => rfl⟩
  | x :: l, o, hl, ho => by
    have h1 := srt_cons.1 hl
    have ho' : Srt (if p x then putL o (h x) else o) := by split; exact putL_srt _ ho; exact ho
    obtain ⟨i1, i2⟩ := fold_put p h hh l _ h1.2 ho'
    refine ⟨i1, fun n => ?_⟩
    rw [List.foldl_cons, i2 n, fnd]
    by_cases hn : x.Name = n
    · subst hn
      rw [if_pos rfl, fnd_none fun e he => ne_of_sLt (h1.1 e he)]
      cases hp : p x
      · simp [hp]
      · simp [hp, putL_fnd, hh]
    · rw [if_neg hn]
      cases hf : fnd l n with
      | some z => 
        cases hp : p x
        · simp [hp]
        · simp [hp, putL_fnd, hh, hn]
      | none =>
        cases hp : p x
        · simp [hp]
        · simp [hp, putL_fnd, hh, hn]
theorem fold_put_len (p : GAttr → Bool) (h : GAttr → GAttr) (l o : List GAttr) : (l.foldl (fun o x => if p x then putL o (h x) else o) o).length ≤ o.length + l.length := by
  induction l generalizing o with
  | nil => simp
  | cons x l ih =>
    rw [List.foldl_cons]
    have h1 := ih (if p x then putL o (h x) else o)
    have h2 : (if p x then putL o (h x) else o).length ≤ o.length + 1 := by split; exact putL_len _ _; omega
    simp only [List.length_cons]
    omega
def insAll (l o : List GAttr) : List GAttr := l.foldl (fun o x => if (fun _ => true) x then putL o (id x) else o) o
theorem insAll_spec {l o : List GAttr} (hl : Srt l) (ho : Srt o) : Srt (insAll l o) ∧ ∀ n, fnd (insAll l o) n = match fnd l n with | some x => some x | none => fnd o n := by
  obtain ⟨h1, h2⟩ := fold_put (fun _ => true) id (fun _ => rfl) l o hl ho
  refine ⟨h1, fun n => ?_⟩
  unfold insAll
  rw [h2 n]
  cases fnd l n <;> simp
theorem insAll_len (l o : List GAttr) : (insAll l o).length ≤ o.length + l.length := fold_put_len _ _ _ _
theorem iter_ins {f : (List GAttr × Int) → Option ((List GAttr × Int) ⊕ List GAttr)} (l o : List GAttr) (ho : Srt o) (hb : o.length + l.length ≤ 1099511627776)
    (h1 : ∀ b (k : Nat), k < l.length → f (b, (k : Int)) = (bnd1 (ref_put b l[k]!) fun o2 => bnd1 (chk .i64 ((k : Int) + 1)) fun x => some (.inl (o2, x)))) (h2 : ∀ b, f (b, (l.length : Int)) = some (.inr b)) : iter f (o, 0) = some (insAll l o) := by
  unfold insAll
  refine iter_foldA l _ (fun b k => Srt b ∧ b.length ≤ o.length + k) (fun b k hk ⟨i1, i2⟩ => ?_) (fun b k hk ⟨i1, i2⟩ => ?_) h2 o ⟨ho, by omega⟩
  · have := putL_len b l[k]!
    exact ⟨putL_srt _ i1, by show (putL b l[k]!).length ≤ _; omega⟩
  · rw [h1 b k hk, ref_put_eq b _ i1 (by omega), bnd1_some, chk_nat (by omega)]; rfl
def valued (l : List GAttr) : List GAttr := l.filter fun a => !decide (a.Value = [])
theorem valued_spec {l : List GAttr} (h : Srt l) : Srt (valued l) ∧ ∀ n, fnd (valued l) n = (fnd l n).filter fun a => !decide (a.Value = []) := by
  induction l with
  | nil => exact ⟨List.Pairwise.nil, fun n => rfl⟩
  | cons x l ih =>
    have h1 := srt_cons.1 h
    obtain ⟨i1, i2⟩ := ih h1.2
    have hlow : ∀ e ∈ valued l, sLt x.Name e.Name = true := fun e he => h1.1 e (List.mem_filter.1 he).1
    by_cases hv : x.Value = []
    · have : valued (x :: l) = valued l := by simp [valued, hv]
      rw [this]
      refine ⟨i1, fun n => ?_⟩
      rw [fnd]
      split
      · rename_i hn; subst hn
        rw [fnd_none fun e he => ne_of_sLt (hlow e he)]
        simp [Option.filter, hv]
      · exact i2 n
    · have : valued (x :: l) = x :: valued l := by simp [valued, hv]
      rw [this]
      refine ⟨srt_cons.2 ⟨hlow, i1⟩, fun n => ?_⟩
      rw [fnd, fnd]
      split
      · simp [Option.filter, hv]
      · exact i2 n
theorem ref_Changed_eq (l ch : List GAttr) (hl : Srt l) (hc : Srt ch) (h : l.length + ch.length ≤ 1099511627776) : ref_Changed l ch = some (valued (insAll ch (insAll l []))) := by
  unfold ref_Changed
  have s0 : Srt ([] : List GAttr) := List.Pairwise.nil
  have s1 := (insAll_spec hl s0).1
  have l1 := insAll_len l []
  have l2 := insAll_len ch (insAll l [])
  rw [iter_ins l [] s0 (by simp; omega) (fun b k hk => by unfold ref_Changed_L1; rw [if_pos (by simpa using hk), idx_nat hk]; rfl) (fun b => by unfold ref_Changed_L1; rw [if_neg (by simp)]), bnd1_some,
    iter_ins ch _ s1 (by simp at l1; omega) (fun b k hk => by unfold ref_Changed_L2; rw [if_pos (by simpa using hk), idx_nat hk]; rfl) (fun b => by unfold ref_Changed_L2; rw [if_neg (by simp)]), bnd1_some]
  generalize insAll ch (insAll l []) = r at l2
  rw [iter_foldB r (fun o x => if x.Value = [] then o else o ++ [x]) (fun b k => b.length ≤ k) (fun b k hk hb => by split; omega; simp; omega) (fun b k hk hb => by
    unfold ref_Changed_L3
    rw [if_pos (by simpa using hk), idx_nat hk, bnd1_some, chk_nat (by simp at l1; omega)]
    generalize r[k]! = x
    by_cases hv : x.Value = []
    · simp [hv]
    · have := app1 (o := b) (x := x) (by simp at l1; omega)
      simp [hv, this]) (fun b => by unfold ref_Changed_L3; rw [if_neg (by simp)]) [] (by simp), bnd1_some]
  have : ∀ (m o : List GAttr), m.foldl (fun o x => if x.Value = [] then o else o ++ [x]) o = o ++ valued m := by
    intro m
    induction m with
    | nil => intro o; simp [valued]
    | cons x m ih =>
      intro o
      rw [List.foldl_cons, ih]
      by_cases hv : x.Value = []
      · simp [hv, valued]
      · simp [hv, valued]
  rw [this]; rfl
theorem raw_changed {l ch : List GAttr} (h1 : attrErr l false = 0) (h2 : attrErr ch true = 0) : bothL stpRaw l ch [] = valued (insAll ch (insAll l [])) := by
  obtain ⟨s1, n1, v1⟩ := good_of h1
  obtain ⟨s2, n2, _⟩ := good_of h2
  have s0 : Srt ([] : List GAttr) := List.Pairwise.nil
  obtain ⟨i1, i2⟩ := insAll_spec s1 s0
  obtain ⟨j1, j2⟩ := insAll_spec s2 i1
  obtain ⟨k1, k2⟩ := valued_spec j1
  obtain ⟨m1, m2⟩ := spec_of stpRaw_g gRaw_ok s1 s2 n1 n2
  refine srt_ext m1 k1 fun n => ?_
  rw [m2, k2, j2, i2]
  cases hc : fnd ch n with
  | some y =>
    simp only [GRaw, Option.filter]
    by_cases hv : y.Value = [] <;> simp [hv]
  | none =>
    cases hl : fnd l n with
    | some x => simp [GRaw, Option.filter, v1 rfl x (fnd_name hl).2]
    | none => simp [GRaw, fnd, Option.filter]
end Go.Proofs.Ytdeglnbioiicaaa.Al


namespace Go.Proofs.Ytdeglnbioiicaaa.Al
theorem range_find {ρ : Type} (g : GAttr → Option ρ) (l : List GAttr) : (List.range l.length).findSome? (fun k => g l[k]!) = l.findSome? g := by
  induction l with
  | nil => rfl
  | cons a l ih =>
    rw [List.length_cons, List.range_succ_eq_map, List.findSome?_cons, List.findSome?_map, List.findSome?_cons]
    have : (List.range l.length).findSome? ((fun k => g (a :: l)[k]!) ∘ Nat.succ) = l.findSome? g := by
      rw [← ih]; exact findSome_congr fun k _ => by simp
    rw [this]
    simp
theorem find_fnd {ρ : Type} (l : List GAttr) (n : List UInt8) (v : GAttr → ρ) : (l.findSome? fun x => if x.Name = n then some (v x) else none) = (fnd l n).map v := by
  induction l with
  | nil => rfl
  | cons x l ih =>
    rw [List.findSome?_cons, fnd]
    by_cases h : x.Name = n
    · simp [h]
    · simp [h, ih]
theorem getA_eq (l : List GAttr) (n : List UInt8) : getA l n = match fnd l n with | some x => x.Value | none => [] := by
  unfold getA
  rw [range_find (fun x => if x.Name = n then some x.Value else none) l, find_fnd l n (·.Value)]
  cases fnd l n <;> rfl
theorem iter_cput {f : (List GAttr × Int) → Option ((List GAttr × Int) ⊕ List GAttr)} (p : GAttr → Bool) (h : GAttr → GAttr) (l o : List GAttr) (ho : Srt o) (hb : o.length + l.length ≤ 1099511627776)
    (h1 : ∀ b (k : Nat), k < l.length → f (b, (k : Int)) = (bnd1 (if p l[k]! then ref_put b (h l[k]!) else some b) fun o2 => bnd1 (chk .i64 ((k : Int) + 1)) fun x => some (.inl (o2, x)))) (h2 : ∀ b, f (b, (l.length : Int)) = some (.inr b)) :
    iter f (o, 0) = some (l.foldl (fun o x => if p x then putL o (h x) else o) o) := by
  refine iter_foldA l _ (fun b k => Srt b ∧ b.length ≤ o.length + k) (fun b k hk ⟨i1, i2⟩ => ?_) (fun b k hk ⟨i1, i2⟩ => ?_) h2 o ⟨ho, by omega⟩
  · have := putL_len b (h l[k]!)
    refine ⟨?_, ?_⟩
    · show Srt (if p l[k]! then putL b (h l[k]!) else b)
      split
      · exact putL_srt _ i1
      · exact i1
    · show (if p l[k]! then putL b (h l[k]!) else b).length ≤ _
      split <;> omega
  · rw [h1 b k hk, ref_put_eq b _ i1 (by omega), chk_nat (by omega)]
    cases p l[k]! <;> rfl
def btw (a b : List GAttr) : List GAttr :=
  a.foldl (fun o x => if (fun x : GAttr => decide (getA b x.Name = [])) x then putL o ((fun x : GAttr => GAttr.mk x.Name []) x) else o) (b.foldl (fun o x => if (fun x : GAttr => !decide (getA a x.Name = x.Value)) x then putL o (id x) else o) [])
theorem ref_Between_eq (a b : List GAttr) (ha : Srt a) (hb : Srt b) (h : a.length + b.length ≤ 1099511627776) : ref_Between a b = some (btw a b) := by
  unfold ref_Between btw
  have s0 : Srt ([] : List GAttr) := List.Pairwise.nil
  rw [iter_cput (fun x : GAttr => !decide (getA a x.Name = x.Value)) id b [] s0 (by simp; omega) (fun o k hk => by
    unfold ref_Between_L1
    rw [if_pos (by simpa using hk), idx_nat hk, bnd1_some, ref_Get_eq a _ (by omega), bnd1_some]
    generalize b[k]! = x
    cases hc : decide (getA a x.Name = x.Value)
    · simp only [hc, Bool.not_false, if_true, id]
      cases ref_put o x <;> rfl
    · simp only [hc, Bool.not_true, Bool.false_eq_true, if_false]) (fun o => by unfold ref_Between_L1; rw [if_neg (by simp)]), bnd1_some]
  have l1 := fold_put_len (fun x : GAttr => !decide (getA a x.Name = x.Value)) id b []
  have s1 := (fold_put (fun x : GAttr => !decide (getA a x.Name = x.Value)) id (fun _ => rfl) b [] hb s0).1
  generalize b.foldl (fun o x => if (fun x : GAttr => !decide (getA a x.Name = x.Value)) x then putL o (id x) else o) [] = o1 at l1 s1
  rw [iter_cput (fun x : GAttr => decide (getA b x.Name = [])) (fun x : GAttr => GAttr.mk x.Name []) a o1 s1 (by simp at l1; omega) (fun o k hk => by
    unfold ref_Between_L2
    rw [if_pos (by simpa using hk), idx_nat hk, bnd1_some, ref_Get_eq b _ (by omega), bnd1_some]
    generalize a[k]! = x
    cases hc : decide (getA b x.Name = [])
    · simp only [hc, Bool.false_eq_true, if_false]
    · simp only [hc, if_true]
      cases ref_put o (GAttr.mk x.Name []) <;> rfl) (fun o => by unfold ref_Between_L2; rw [if_neg (by simp)]), bnd1_some]
theorem change_between {a b : List GAttr} (ha : Srt a) (hb : Srt b) (na : Nm a) (nb : Nm b) (va : ∀ e ∈ a, e.Value ≠ []) (vb : ∀ e ∈ b, e.Value ≠ []) : bothL stpChange a b [] = btw a b := by
  have s0 : Srt ([] : List GAttr) := List.Pairwise.nil
  obtain ⟨i1, i2⟩ := fold_put (fun x : GAttr => !decide (getA a x.Name = x.Value)) id (fun _ => rfl) b [] hb s0
  obtain ⟨j1, j2⟩ := fold_put (fun x : GAttr => decide (getA b x.Name = [])) (fun x : GAttr => GAttr.mk x.Name []) (fun _ => rfl) a _ ha i1
  obtain ⟨m1, m2⟩ := spec_of stpChange_g gChange_ok ha hb na nb
  refine srt_ext m1 j1 fun n => ?_
  unfold btw
  rw [m2, j2, i2]
  cases hfa : fnd a n with
  | some x =>
    have hx := fnd_name hfa
    cases hfb : fnd b n with
    | some y =>
      have hy := fnd_name hfb
      have e1 : getA b x.Name = y.Value := by rw [getA_eq, hx.1, hfb]
      have e2 : getA a y.Name = x.Value := by rw [getA_eq, hy.1, hfa]
      simp only [e1, e2, GChange, decide_eq_false (vb y hy.2), Bool.false_eq_true, if_false]
      by_cases hv : x = y
      · subst hv; simp [fnd]
      · have : ¬ x.Value = y.Value := fun e => hv ((attr_eq_iff x y).2 ⟨hx.1.trans hy.1.symm, e⟩)
        simp [hv, this]
    | none =>
      have e1 : getA b x.Name = [] := by rw [getA_eq, hx.1, hfb]
      simp [e1, GChange]
  | none =>
    cases hfb : fnd b n with
    | some y =>
      have hy := fnd_name hfb
      have e2 : getA a y.Name = [] := by rw [getA_eq, hy.1, hfa]
      have := vb y hy.2
      simp [e2, GChange, Ne.symm this]
    | none => simp [GChange, fnd]
theorem ref_Joined_eq (a b : List GAttr) (ha : Srt a) (hb : Srt b) (h : a.length + b.length ≤ 1099511627776) : ref_Joined a b = some (insAll b (insAll a [])) := by
  unfold ref_Joined
  have s0 : Srt ([] : List GAttr) := List.Pairwise.nil
  have s1 := (insAll_spec ha s0).1
  have l1 := insAll_len a []
  rw [iter_ins a [] s0 (by simp; omega) (fun b k hk => by unfold ref_Joined_L1; rw [if_pos (by simpa using hk), idx_nat hk]; rfl) (fun b => by unfold ref_Joined_L1; rw [if_neg (by simp)]), bnd1_some,
    iter_ins b _ s1 (by simp at l1; omega) (fun b k hk => by unfold ref_Joined_L2; rw [if_pos (by simpa using hk), idx_nat hk]; rfl) (fun b => by unfold ref_Joined_L2; rw [if_neg (by simp)]), bnd1_some]
theorem both_joined {a b : List GAttr} (ha : Srt a) (hb : Srt b) (na : Nm a) (nb : Nm b) : bothL stpBoth a b [] = insAll b (insAll a []) := by
  have s0 : Srt ([] : List GAttr) := List.Pairwise.nil
  obtain ⟨i1, i2⟩ := insAll_spec ha s0
  obtain ⟨j1, j2⟩ := insAll_spec hb i1
  obtain ⟨m1, m2⟩ := spec_of stpBoth_g gBoth_ok ha hb na nb
  refine srt_ext m1 j1 fun n => ?_
  rw [m2, j2, i2]
  cases fnd b n <;> cases fnd a n <;> simp [GBoth, fnd]
theorem bothL_len (stp : GAttr → GAttr → List GAttr → List GAttr) (h : ∀ x y o, (stp x y o).length ≤ o.length + 1) : ∀ (m : Nat) (a b c : List GAttr), a.length + b.length = m → (bothL stp a b c).length ≤ c.length + m := by
  intro m
  induction m using Nat.strongRecOn with
  | _ m ih =>
    intro a b c hm
    cases a with
    | nil =>
      cases b with
      | nil => simp [bothL]
      | cons y b => rw [bothL]; have := ih (m - 1) (by simp at hm; omega) [] b (stp nil2 y c) (by simp at hm ⊢; omega); have := h nil2 y c; simp at hm; omega
    | cons x a =>
      cases b with
      | nil => rw [bothL]; have := ih (m - 1) (by simp at hm; omega) a [] (stp x nil2 c) (by simp at hm ⊢; omega); have := h x nil2 c; simp at hm; omega
      | cons y b =>
        rw [bothL]
        split
        · have := ih (m - 1) (by simp at hm; omega) a (y :: b) (stp x nil2 c) (by simp at hm ⊢; omega); have := h x nil2 c; simp at hm; omega
        · split
          · have := ih (m - 1) (by simp at hm; omega) (x :: a) b (stp nil2 y c) (by simp at hm ⊢; omega); have := h nil2 y c; simp at hm; omega
          · have := ih (m - 2) (by simp at hm; omega) a b (stp x y c) (by simp at hm ⊢; omega); have := h x y c; simp at hm; omega
end Go.Proofs.Ytdeglnbioiicaaa.Al


namespace Go.Proofs.Ytdeglnbioiicaaa.Al
theorem iter_hoare {σ β : Type} {f : σ → Option (σ ⊕ β)} (n : Nat) (R : Nat → σ → Prop) (Q : β → Prop)
    (h1 : ∀ k s, k < n → R k s → (∃ s', f s = some (.inl s') ∧ R (k + 1) s') ∨ (∃ b, f s = some (.inr b) ∧ Q b))
    (h2 : ∀ s, R n s → ∃ b, f s = some (.inr b) ∧ Q b) {s : σ} (h0 : R 0 s) : ∃ b, iter f s = some b ∧ Q b := by
  have key : ∀ m k s, k + m = n → R k s → ∃ b, iter f s = some b ∧ Q b := by
    intro m
    induction m with
    | zero =>
      intro k s hk hR
      obtain rfl : k = n := by omega
      obtain ⟨b, hb, hq⟩ := h2 s hR
      exact ⟨b, iter_stop hb, hq⟩
    | succ m ih =>
      intro k s hk hR
      rcases h1 k s (by omega) hR with ⟨s', h3, h4⟩ | ⟨b, h3, h4⟩
      · obtain ⟨b, h5, h6⟩ := ih (k + 1) s' (by omega) h4
        exact ⟨b, by rw [iter_next h3, h5], h6⟩
      · exact ⟨b, iter_stop h3, h4⟩
  exact key n 0 s (by omega) h0
theorem drop_at {α : Type} [Inhabited α] {l : List α} {k : Nat} (h : k < l.length) : l.drop k = l[k]! :: l.drop (k + 1) := by
  rw [List.drop_eq_getElem_cons h, getElem!_pos l k h]
theorem take_at {α : Type} [Inhabited α] {l : List α} {k : Nat} (h : k < l.length) : l.take (k + 1) = l.take k ++ [l[k]!] := by
  rw [List.take_add_one, List.getElem?_eq_getElem h, getElem!_pos l k h]; rfl
theorem mem_at {α : Type} [Inhabited α] {l : List α} {k : Nat} (h : k < l.length) : l[k]! ∈ l := by
  rw [getElem!_pos l k h]; exact List.getElem_mem h
def oldN (s : GAxisStep) : Int := if s.Kind = 1 then 0 else s.N
def nowN (s : GAxisStep) : Int := if s.Kind = 2 then 0 else s.N
def oldLen (a : List GAxisStep) : Int := (a.map oldN).sum
def nowLen (a : List GAxisStep) : Int := (a.map nowN).sum
theorem oldLen_at {a : List GAxisStep} {k : Nat} (h : k < a.length) : oldLen (a.take (k + 1)) = oldLen (a.take k) + oldN a[k]! := by
  unfold oldLen; rw [take_at h]; simp
theorem nowLen_at {a : List GAxisStep} {k : Nat} (h : k < a.length) : nowLen (a.take (k + 1)) = nowLen (a.take k) + nowN a[k]! := by
  unfold nowLen; rw [take_at h]; simp
def errS (a : List GAxisStep) (k : Nat) : Option Int :=
  if a[k]!.Kind < 0 ∨ 2 < a[k]!.Kind then some 8 else if a[k]!.N < 1 ∨ 2147483647 < a[k]!.N then some 2
  else if 0 < k ∧ (a[k - 1]!.Kind = a[k]!.Kind ∨ (a[k - 1]!.Kind = 2 ∧ a[k]!.Kind = 1)) then some 5 else none
def axErr (a : List GAxisStep) : Int :=
  match (List.range a.length).findSome? (errS a) with
  | some e => e
  | none => if 2147483647 < oldLen a ∨ 2147483647 < nowLen a then 3 else 0
theorem find_first {ρ : Type} {n k : Nat} {g : Nat → Option ρ} {r : ρ} (hk : k < n) (h1 : ∀ j, j < k → g j = none) (h2 : g k = some r) : (List.range n).findSome? g = some r := by
  obtain ⟨m, rfl⟩ : ∃ m, n = k + (m + 1) := ⟨n - k - 1, by omega⟩
  rw [List.range_eq_range', ← List.range'_append (s := 0) (m := k) (n := m + 1) (step := 1), List.findSome?_append]
  have : (List.range' 0 k).findSome? g = none := by
    rw [List.findSome?_eq_none_iff]; intro x hx; exact h1 x (by simpa using hx)
  rw [this, Nat.one_mul, Nat.zero_add, List.range'_succ, List.findSome?_cons, h2]; rfl
theorem find_none {ρ : Type} {n : Nat} {g : Nat → Option ρ} (h1 : ∀ j, j < n → g j = none) : (List.range n).findSome? g = none := by
  rw [List.findSome?_eq_none_iff]; intro x hx; exact h1 x (by simpa using hx)
def Stp (s : GAxisStep) : Prop := 0 ≤ s.Kind ∧ s.Kind ≤ 2 ∧ 1 ≤ s.N ∧ s.N ≤ 2147483647
theorem stp_of {a : List GAxisStep} {k : Nat} (h : errS a k = none) : Stp a[k]! := by
  unfold errS at h
  unfold Stp
  split at h
  · cases h
  · split at h
    · cases h
    · omega
theorem good_take {a : List GAxisStep} {k : Nat} (hk : k ≤ a.length) (h : ∀ j, j < k → Stp a[j]!) : 0 ≤ oldLen (a.take k) ∧ oldLen (a.take k) ≤ k * 2147483647 ∧ 0 ≤ nowLen (a.take k) ∧ nowLen (a.take k) ≤ k * 2147483647 := by
  induction k with
  | zero => simp [oldLen, nowLen]
  | succ k ih =>
    have := ih (by omega) (fun j hj => h j (by omega))
    have hs := h k (by omega)
    rw [oldLen_at (by omega), nowLen_at (by omega)]
    unfold oldN nowN
    unfold Stp at hs
    omega
theorem axErr_none {a : List GAxisStep} (h1 : ∀ j, j < a.length → errS a j = none) : axErr a = if 2147483647 < oldLen a ∨ 2147483647 < nowLen a then 3 else 0 := by
  unfold axErr; rw [find_none h1]
theorem chk_ok {x : Int} (h1 : -9223372036854775808 ≤ x) (h2 : x ≤ 9223372036854775807) : chk .i64 x = some x := chk64 h1 h2
theorem axis_Check_eq (a : List GAxisStep) (hm : a.length ≤ 9223372036854775807) : axis_Check a = some (axErr a) := by
  unfold axis_Check
  obtain ⟨b, hb, hq⟩ := iter_hoare (f := fun (x : Int × Int × Int) => axis_Check_L1 a x.1 x.2.1 x.2.2) a.length
    (fun k s => s = (min (oldLen (a.take k)) 2147483648, min (nowLen (a.take k)) 2147483648, (k : Int)) ∧ ∀ j, j < k → errS a j = none)
    (fun b => b = match (List.range a.length).findSome? (errS a) with | some e => .ext e | none => .nrm (min (oldLen a) 2147483648, min (nowLen a) 2147483648))
    (fun k s hk hR => by
      obtain ⟨rfl, hg⟩ := hR
      have hlen := good_take (a := a) (k := k) (by omega) (fun j hj => stp_of (hg j hj))
      unfold axis_Check_L1
      simp only
      rw [if_pos (by simpa using hk), idx_nat hk, bnd1_some, chk_nat (by omega)]
      cases he : errS a k with
      | some r =>
        right
        rw [find_first hk hg he]
        refine ⟨_, ?_, rfl⟩
        unfold errS at he
        by_cases c1 : a[k]!.Kind < 0 ∨ 2 < a[k]!.Kind
        · rw [if_pos c1] at he; cases he
          rw [if_pos (by simpa using c1)]; rfl
        rw [if_neg c1] at he
        rw [if_neg (by simpa using c1)]
        by_cases c2 : a[k]!.N < 1 ∨ 2147483647 < a[k]!.N
        · rw [if_pos c2] at he; cases he
          rw [if_pos (by simpa using c2)]; rfl
        rw [if_neg c2] at he
        rw [if_neg (by simpa using c2)]
        by_cases c3 : 0 < k ∧ (a[k - 1]!.Kind = a[k]!.Kind ∨ (a[k - 1]!.Kind = 2 ∧ a[k]!.Kind = 1))
        · rw [if_pos c3] at he; cases he
          have h0 : decide ((0 : Int) < (k : Int)) = true := by simp; omega
          rw [h0, chk_pred c3.1 (by omega)]
          simp only [beq_self_eq_true, gd_true, bnd1_some, Bool.true_and]
          rw [idx_nat (by omega), bnd1_some, if_pos (by simpa using c3.2)]; rfl
        · rw [if_neg c3] at he; cases he
      | none =>
        left
        have hs := stp_of he
        have h0 := he
        unfold errS at he
        by_cases c1 : a[k]!.Kind < 0 ∨ 2 < a[k]!.Kind
        · rw [if_pos c1] at he; cases he
        rw [if_neg c1] at he
        rw [if_neg (by simpa using c1)]
        by_cases c2 : a[k]!.N < 1 ∨ 2147483647 < a[k]!.N
        · rw [if_pos c2] at he; cases he
        rw [if_neg c2] at he
        rw [if_neg (by simpa using c2)]
        by_cases c3 : 0 < k ∧ (a[k - 1]!.Kind = a[k]!.Kind ∨ (a[k - 1]!.Kind = 2 ∧ a[k]!.Kind = 1))
        · rw [if_pos c3] at he; cases he
        clear he
        have e3 : k = 0 ∨ (0 < k ∧ ¬ (a[k - 1]!.Kind = a[k]!.Kind ∨ (a[k - 1]!.Kind = 2 ∧ a[k]!.Kind = 1))) := by
          by_cases h0 : k = 0
          · exact .inl h0
          · exact .inr ⟨by omega, fun h => c3 ⟨by omega, h⟩⟩
        have hR' : ∀ j, j < k + 1 → errS a j = none := fun j hj => by
          rcases Nat.lt_or_ge j k with h | h
          · exact hg j h
          · obtain rfl : j = k := by omega
            exact h0
        have fin : (ctl2 (bnd1 (if (!decide (a[k]!.Kind = 1)) = true then (bnd1 (chk .i64 (min (oldLen (a.take k)) 2147483648 + a[k]!.N)) fun (x9 : Int) => some (min x9 2147483648)) else some (min (oldLen (a.take k)) 2147483648)) fun (before6 : Int) =>
            if (!decide (a[k]!.Kind = 2)) = true then (bnd1 (chk .i64 (min (nowLen (a.take k)) 2147483648 + a[k]!.N)) fun (x8 : Int) => some (.nrm (before6, min x8 2147483648))) else some (.nrm (before6, min (nowLen (a.take k)) 2147483648)))
            fun (before5 : Int) (after5 : Int) => bnd1 (some (((k + 1 : Nat)) : Int)) fun (x4 : Int) => some (Sum.inl (before5, after5, x4)) : Option ((Int × Int × Int) ⊕ (Ctl (Int × Int) Int))) =
            some (.inl (min (oldLen (a.take (k + 1))) 2147483648, min (nowLen (a.take (k + 1))) 2147483648, ((k + 1 : Nat) : Int))) := by
          unfold Stp at hs
          rw [oldLen_at hk, nowLen_at hk]
          clear c1 c2 c3 e3 hR' h0
          generalize a[k]! = x at hs ⊢
          generalize oldLen (a.take k) = o at hlen ⊢
          generalize nowLen (a.take k) = w at hlen ⊢
          rw [chk_ok (by omega) (by omega), chk_ok (by omega) (by omega)]
          unfold oldN nowN
          by_cases d1 : x.Kind = 1
          · have d2 : ¬ x.Kind = 2 := by omega
            simp [d1]; omega
          · by_cases d2 : x.Kind = 2
            · simp [d2]; omega
            · simp [d1, d2]; omega
        rcases e3 with rfl | ⟨hp, e3⟩
        · exact ⟨_, fin, rfl, hR'⟩
        · have h1 : decide ((0 : Int) < (k : Int)) = true := by simp; omega
          rw [h1, chk_pred (by omega) (by omega)]
          simp only [beq_self_eq_true, gd_true, bnd1_some, Bool.true_and]
          rw [idx_nat (by omega), bnd1_some, if_neg (by simpa using e3)]
          exact ⟨_, fin, rfl, hR'⟩)
    (fun s hR => by
      obtain ⟨rfl, hg⟩ := hR
      rw [find_none hg, List.take_length]
      unfold axis_Check_L1
      exact ⟨_, by rw [if_neg (by simp)], rfl⟩)
    (s := (0, 0, 0)) ⟨by simp [oldLen, nowLen]; decide, fun j hj => absurd hj (Nat.not_lt_zero _)⟩
  rw [hb, hq]
  unfold axErr
  cases (List.range a.length).findSome? (errS a) with
  | some e => rfl
  | none =>
    show (if (decide (2147483647 < min (oldLen a) 2147483648) || decide (2147483647 < min (nowLen a) 2147483648)) = true then some 3 else some 0) = _
    by_cases h : 2147483647 < oldLen a ∨ 2147483647 < nowLen a
    · rw [if_pos (by simp; omega), if_pos h]
    · rw [if_neg (by simp; omega), if_neg h]
theorem ref_In_eq (x lo hi : Int) : ref_In x lo hi = some (decide (lo ≤ x) && decide (x ≤ hi)) := by
  unfold ref_In
  rfl
theorem ref_AxisError_eq (a : List GAxisStep) (hm : a.length ≤ 9223372036854775807) : ref_AxisError a = some (axErr a) := by
  unfold ref_AxisError
  obtain ⟨b, hb, hq⟩ := iter_hoare (f := fun (x : Int × Int × Int) => ref_AxisError_L1 a x.1 x.2.1 x.2.2) a.length
    (fun k s => ∃ o w : Int, s = (o, w, (k : Int)) ∧ (∀ j, j < k → errS a j = none) ∧ (oldLen (a.take k) ≤ 2147483647 → o = oldLen (a.take k)) ∧ (2147483647 < oldLen (a.take k) → 2147483647 < o) ∧ 0 ≤ o ∧ o ≤ 4294967296
      ∧ (nowLen (a.take k) ≤ 2147483647 → w = nowLen (a.take k)) ∧ (2147483647 < nowLen (a.take k) → 2147483647 < w) ∧ 0 ≤ w ∧ w ≤ 4294967296)
    (fun b => match (List.range a.length).findSome? (errS a) with | some e => b = .ext e | none => ∃ o w : Int, b = .nrm (o, w) ∧ (2147483647 < o ↔ 2147483647 < oldLen a) ∧ (2147483647 < w ↔ 2147483647 < nowLen a))
    (fun k s hk hR => by
      obtain ⟨o, w, rfl, hg, hR⟩ := hR
      have hlen := good_take (a := a) (k := k) (by omega) (fun j hj => stp_of (hg j hj))
      unfold ref_AxisError_L1
      simp only
      rw [if_pos (by simpa using hk), idx_nat hk, bnd1_some, chk_nat (by omega), ref_In_eq, bnd1_some, ref_In_eq, bnd1_some]
      have q1 : (!(decide (0 ≤ a[k]!.Kind) && decide (a[k]!.Kind ≤ 2))) = decide (a[k]!.Kind < 0 ∨ 2 < a[k]!.Kind) := by
        rw [Bool.eq_iff_iff]; simp only [Bool.not_eq_true', Bool.and_eq_false_imp, decide_eq_true_eq, decide_eq_false_iff_not]; omega
      have q2 : (!(decide (1 ≤ a[k]!.N) && decide (a[k]!.N ≤ 2147483647))) = decide (a[k]!.N < 1 ∨ 2147483647 < a[k]!.N) := by
        rw [Bool.eq_iff_iff]; simp only [Bool.not_eq_true', Bool.and_eq_false_imp, decide_eq_true_eq, decide_eq_false_iff_not]; omega
      rw [q1, q2]
      cases he : errS a k with
      | some r =>
        right
        rw [find_first hk hg he]
        refine ⟨_, ?_, rfl⟩
        unfold errS at he
        by_cases c1 : a[k]!.Kind < 0 ∨ 2 < a[k]!.Kind
        · rw [if_pos c1] at he; cases he
          rw [if_pos (decide_eq_true c1)]; rfl
        rw [if_neg c1] at he
        rw [if_neg (by rw [decide_eq_true_eq]; exact c1)]
        by_cases c2 : a[k]!.N < 1 ∨ 2147483647 < a[k]!.N
        · rw [if_pos c2] at he; cases he
          rw [if_pos (decide_eq_true c2)]; rfl
        rw [if_neg c2] at he
        rw [if_neg (by rw [decide_eq_true_eq]; exact c2)]
        by_cases c3 : 0 < k ∧ (a[k - 1]!.Kind = a[k]!.Kind ∨ (a[k - 1]!.Kind = 2 ∧ a[k]!.Kind = 1))
        · rw [if_pos c3] at he; cases he
          have h0 : decide ((0 : Int) < (k : Int)) = true := by simp; omega
          rw [h0, chk_pred c3.1 (by omega)]
          simp only [beq_self_eq_true, gd_true, bnd1_some, Bool.true_and]
          rw [idx_nat (by omega), bnd1_some]
          rcases c3.2 with d | ⟨d1, d2⟩
          · rw [d, decide_eq_true rfl]; rfl
          · have : ¬ a[k]!.Kind = a[k - 1]!.Kind := by omega
            rw [decide_eq_false this, decide_eq_true d2]
            simp only [beq_self_eq_true, Bool.and_self, gd_true, bnd1_some, Bool.false_or, Bool.true_and]
            rw [idx_nat (by omega), bnd1_some, decide_eq_true d1]; rfl
        · rw [if_neg c3] at he; cases he
      | none =>
        left
        have hs := stp_of he
        have h0 := he
        unfold errS at he
        by_cases c1 : a[k]!.Kind < 0 ∨ 2 < a[k]!.Kind
        · rw [if_pos c1] at he; cases he
        rw [if_neg c1] at he
        rw [if_neg (by rw [decide_eq_true_eq]; exact c1)]
        by_cases c2 : a[k]!.N < 1 ∨ 2147483647 < a[k]!.N
        · rw [if_pos c2] at he; cases he
        rw [if_neg c2] at he
        rw [if_neg (by rw [decide_eq_true_eq]; exact c2)]
        by_cases c3 : 0 < k ∧ (a[k - 1]!.Kind = a[k]!.Kind ∨ (a[k - 1]!.Kind = 2 ∧ a[k]!.Kind = 1))
        · rw [if_pos c3] at he; cases he
        clear he q1 q2
        have e3 : k = 0 ∨ (0 < k ∧ ¬ (a[k - 1]!.Kind = a[k]!.Kind ∨ (a[k - 1]!.Kind = 2 ∧ a[k]!.Kind = 1))) := by
          by_cases h0 : k = 0
          · exact .inl h0
          · exact .inr ⟨by omega, fun h => c3 ⟨by omega, h⟩⟩
        have hR' : ∀ j, j < k + 1 → errS a j = none := fun j hj => by
          rcases Nat.lt_or_ge j k with h | h
          · exact hg j h
          · obtain rfl : j = k := by omega
            exact h0
        have fin : ∃ o2 w2 : Int, (ctl2 (bnd1 (if (!decide (a[k]!.Kind = 1) && decide (o < 2147483648)) = true then (bnd1 (chk .i64 (o + a[k]!.N)) fun (x9 : Int) => some x9) else some o) fun (before6 : Int) =>
            if (!decide (a[k]!.Kind = 2) && decide (w < 2147483648)) = true then (bnd1 (chk .i64 (w + a[k]!.N)) fun (x8 : Int) => some (.nrm (before6, x8))) else some (.nrm (before6, w)))
            fun (before5 : Int) (after5 : Int) => bnd1 (some (((k + 1 : Nat)) : Int)) fun (x4 : Int) => some (Sum.inl (before5, after5, x4)) : Option ((Int × Int × Int) ⊕ (Ctl (Int × Int) Int))) =
            some (.inl (o2, w2, ((k + 1 : Nat) : Int))) ∧ ((oldLen (a.take (k + 1)) ≤ 2147483647 → o2 = oldLen (a.take (k + 1))) ∧ (2147483647 < oldLen (a.take (k + 1)) → 2147483647 < o2) ∧ 0 ≤ o2 ∧ o2 ≤ 4294967296
      ∧ (nowLen (a.take (k + 1)) ≤ 2147483647 → w2 = nowLen (a.take (k + 1))) ∧ (2147483647 < nowLen (a.take (k + 1)) → 2147483647 < w2) ∧ 0 ≤ w2 ∧ w2 ≤ 4294967296) := by
          unfold Stp at hs
          rw [oldLen_at hk, nowLen_at hk]
          clear c1 c2 c3 e3 hR' h0
          generalize a[k]! = x at hs ⊢
          generalize oldLen (a.take k) = o1 at hlen hR ⊢
          generalize nowLen (a.take k) = w1 at hlen hR ⊢
          rw [chk_ok (by omega) (by omega), chk_ok (by omega) (by omega)]
          unfold oldN nowN
          refine ⟨if x.Kind ≠ 1 ∧ o < 2147483648 then o + x.N else o, if x.Kind ≠ 2 ∧ w < 2147483648 then w + x.N else w, ?_, ?_⟩
          · by_cases d1 : x.Kind = 1
            · by_cases d3 : w < 2147483648 <;> simp [d1, d3]
            · by_cases d2 : x.Kind = 2
              · by_cases d3 : o < 2147483648 <;> simp [d2, d3]
              · by_cases d3 : o < 2147483648 <;> by_cases d4 : w < 2147483648 <;> simp [d1, d2, d3, d4]
          · split <;> split <;> split <;> split <;> omega
        obtain ⟨o2, w2, f1, f2⟩ := fin
        rcases e3 with rfl | ⟨hp, e3⟩
        · exact ⟨_, f1, o2, w2, rfl, hR', f2⟩
        · have h1 : decide ((0 : Int) < (k : Int)) = true := by simp; omega
          rw [h1, chk_pred (by omega) (by omega)]
          simp only [beq_self_eq_true, gd_true, bnd1_some, Bool.true_and]
          rw [idx_nat (by omega), bnd1_some]
          have n1 : ¬ a[k]!.Kind = a[k - 1]!.Kind := fun e => e3 (.inl e.symm)
          rw [decide_eq_false n1]
          simp only [Bool.false_or, beq_self_eq_true, Bool.true_and]
          by_cases d2 : a[k]!.Kind = 1
          · rw [decide_eq_true d2]
            simp only [beq_self_eq_true, gd_true, bnd1_some]
            rw [idx_nat (by omega), bnd1_some]
            have n2 : ¬ a[k - 1]!.Kind = 2 := fun e => e3 (.inr ⟨e, d2⟩)
            rw [decide_eq_false n2, if_neg (by decide)]
            rw [decide_eq_true d2] at f1
            exact ⟨_, f1, o2, w2, rfl, hR', f2⟩
          · rw [decide_eq_false d2]
            rw [decide_eq_false d2] at f1
            exact ⟨_, f1, o2, w2, rfl, hR', f2⟩)
    (fun s hR => by
      obtain ⟨o, w, rfl, hg, hR⟩ := hR
      rw [find_none hg]
      rw [List.take_length] at hR
      unfold ref_AxisError_L1
      exact ⟨_, by rw [if_neg (by simp)], o, w, rfl, by omega, by omega⟩)
    (s := (0, 0, 0)) ⟨0, 0, rfl, fun j hj => absurd hj (Nat.not_lt_zero _), by simp [oldLen, nowLen]⟩
  rw [hb]
  unfold axErr
  cases hf : (List.range a.length).findSome? (errS a) with
  | some e => rw [hf] at hq; rw [hq]; rfl
  | none =>
    rw [hf] at hq
    obtain ⟨o, w, rfl, h1, h2⟩ := hq
    show (if (decide (2147483647 < o) || decide (2147483647 < w)) = true then some 3 else some 0) = _
    rw [show (decide (2147483647 < o) || decide (2147483647 < w)) = decide (2147483647 < oldLen a ∨ 2147483647 < nowLen a) by simp [h1, h2]]
    by_cases h : 2147483647 < oldLen a ∨ 2147483647 < nowLen a
    · rw [if_pos (decide_eq_true h), if_pos h]
    · rw [if_neg (by rw [decide_eq_true_eq]; exact h), if_neg h]
end Go.Proofs.Ytdeglnbioiicaaa.Al


namespace Go.Proofs.Ytdeglnbioiicaaa.Al
theorem iter_walk {α σ β γ : Type} [Inhabited α] {f : σ → Option (σ ⊕ β)} (l : List α) (mk : γ → Nat → σ) (sp : List α → γ → β) (I : Nat → γ → Prop)
    (h1 : ∀ k c, k < l.length → I k c → (∃ c', f (mk c k) = some (.inl (mk c' (k + 1))) ∧ I (k + 1) c' ∧ sp (l[k]! :: l.drop (k + 1)) c = sp (l.drop (k + 1)) c') ∨ f (mk c k) = some (.inr (sp (l[k]! :: l.drop (k + 1)) c)))
    (h2 : ∀ c, I l.length c → f (mk c l.length) = some (.inr (sp [] c))) (c : γ) (h0 : I 0 c) (s : σ) (hs : s = mk c 0) : iter f s = some (sp l c) := by
  subst hs
  have key : ∀ m k c, k + m = l.length → I k c → iter f (mk c k) = some (sp (l.drop k) c) := by
    intro m
    induction m with
    | zero =>
      intro k c hk hI
      obtain rfl : k = l.length := by omega
      rw [List.drop_length]
      exact iter_stop (h2 c hI)
    | succ m ih =>
      intro k c hk hI
      rw [drop_at (by omega)]
      rcases h1 k c (by omega) hI with ⟨c', h3, h4, h5⟩ | h3
      · rw [iter_next h3, ih (k + 1) c' (by omega) h4, h5]
      · exact iter_stop h3
  have := key l.length 0 c (by omega) h0
  rwa [List.drop_zero] at this
theorem ref_SameInts_eq (a b : List Int) (hm : a.length ≤ 9223372036854775807) : ref_SameInts a b = some (decide (a = b)) := by
  unfold ref_SameInts
  by_cases hl : a.length = b.length
  · rw [if_neg (by simp [hl]), iter_find (n := a.length) (fun k => if decide (a[k]! = b[k]!) then none else some false) (fun k hk => by
      unfold ref_SameInts_L1
      rw [if_pos (by simpa using hk), idx_nat hk, idx_nat (by omega), bnd1_some, bnd1_some, chk_nat (by omega)]
      generalize a[k]! = x
      generalize b[k]! = y
      by_cases h : x = y
      · subst h; simp [stepOf]
      · simp [h, stepOf]) (by unfold ref_SameInts_L1; rw [if_neg (by simp)]), find_const, ctl_outOf]
    by_cases h : a = b
    · subst h; simp
    · rw [decide_eq_false h]
      have : ((List.range a.length).all fun k => decide (a[k]! = b[k]!)) = false := by
        rw [← Bool.not_eq_true, List.all_eq_true]
        intro hall
        apply h
        apply List.ext_getElem hl
        intro k h1 h2
        have := hall k (List.mem_range.2 h1)
        simp only [decide_eq_true_eq] at this
        rwa [getElem!_pos a k h1, getElem!_pos b k h2] at this
      rw [this]; rfl
  · rw [if_pos (by simp; omega), decide_eq_false (by rintro rfl; exact hl rfl)]
structure GoodA (a : List GAxisStep) : Prop where
  stp : ∀ s ∈ a, Stp s
  olds : oldLen a ≤ 2147483647
  nows : nowLen a ≤ 2147483647
theorem errS_ne0 {a : List GAxisStep} {k : Nat} {r : Int} (h : errS a k = some r) : r ≠ 0 := by
  unfold errS at h
  split at h
  · cases h; decide
  · split at h
    · cases h; decide
    · split at h
      · cases h; decide
      · cases h
theorem errS_all {a : List GAxisStep} (h : axErr a = 0) : ∀ j, j < a.length → errS a j = none := by
  cases hf : (List.range a.length).findSome? (errS a) with
  | some e =>
    unfold axErr at h
    rw [hf] at h
    simp only at h
    subst h
    obtain ⟨x, _, hx⟩ := List.exists_of_findSome?_eq_some hf
    exact absurd rfl (errS_ne0 hx)
  | none =>
    rw [List.findSome?_eq_none_iff] at hf
    exact fun j hj => hf j (List.mem_range.2 hj)
theorem goodA_of {a : List GAxisStep} (h : axErr a = 0) : GoodA a := by
  have hn := errS_all h
  rw [axErr_none hn] at h
  have hs : ∀ s ∈ a, Stp s := fun s hs => by
    obtain ⟨k, hk, rfl⟩ := List.mem_iff_getElem.1 hs
    rw [← getElem!_pos a k hk]
    exact stp_of (hn k hk)
  by_cases hc : 2147483647 < oldLen a ∨ 2147483647 < nowLen a
  · rw [if_pos hc] at h; cases h
  · exact ⟨hs, by omega, by omega⟩
theorem oldLen_cons (s : GAxisStep) (a : List GAxisStep) : oldLen (s :: a) = oldN s + oldLen a := by simp [oldLen]
theorem nowLen_cons (s : GAxisStep) (a : List GAxisStep) : nowLen (s :: a) = nowN s + nowLen a := by simp [nowLen]
theorem stp_at {a : List GAxisStep} (h : ∀ s ∈ a, Stp s) {k : Nat} (hk : k < a.length) : Stp a[k]! := h _ (mem_at hk)
theorem lens_pos {a : List GAxisStep} (h : ∀ s ∈ a, Stp s) : 0 ≤ oldLen a ∧ 0 ≤ nowLen a := by
  induction a with
  | nil => simp [oldLen, nowLen]
  | cons s a ih =>
    have h1 := ih fun x hx => h x (List.mem_cons_of_mem _ hx)
    have h2 := h s (List.mem_cons_self ..)
    rw [oldLen_cons, nowLen_cons]
    unfold oldN nowN
    unfold Stp at h2
    split <;> split <;> omega
theorem GoodA.len {a : List GAxisStep} (h : GoodA a) : (a.length : Int) ≤ 4294967294 := by
  have key : ∀ l : List GAxisStep, (∀ s ∈ l, Stp s) → (l.length : Int) ≤ oldLen l + nowLen l := by
    intro l
    induction l with
    | nil => intro _; simp [oldLen, nowLen]
    | cons s l ih =>
      intro h
      have h1 := ih fun x hx => h x (List.mem_cons_of_mem _ hx)
      have h2 := h s (List.mem_cons_self ..)
      rw [oldLen_cons, nowLen_cons, List.length_cons]
      unfold oldN nowN
      unfold Stp at h2
      split <;> split <;> omega
  have h1 := key a h.stp
  have h2 := h.olds
  have h3 := h.nows
  omega
def Run (a : List GAxisStep) (k : Nat) (f t : Int) : Prop := 0 ≤ f ∧ f + oldLen (a.drop k) ≤ 2147483647 ∧ 0 ≤ t ∧ t + nowLen (a.drop k) ≤ 2147483647
theorem GoodA.run {a : List GAxisStep} (h : GoodA a) : Run a 0 0 0 := by
  have h2 := h.olds
  have h3 := h.nows
  unfold Run
  rw [List.drop_zero]
  omega
theorem Run.nx {a : List GAxisStep} (h : GoodA a) {k : Nat} (hk : k < a.length) {f t : Int} (hr : Run a k f t) : 0 ≤ f ∧ f + oldN a[k]! ≤ 2147483647 ∧ f ≤ 2147483647 ∧ 0 ≤ t ∧ t + nowN a[k]! ≤ 2147483647 ∧ t ≤ 2147483647 ∧
    ∀ f' t', f ≤ f' → f' ≤ f + oldN a[k]! → t ≤ t' → t' ≤ t + nowN a[k]! → Run a (k + 1) f' t' := by
  have hd := lens_pos (a := a.drop (k + 1)) (fun s hs => h.stp s (List.mem_of_mem_drop hs))
  have hs := stp_at h.stp hk
  unfold Run at hr
  rw [drop_at hk, oldLen_cons, nowLen_cons] at hr
  have h0 : 0 ≤ oldN a[k]! ∧ 0 ≤ nowN a[k]! := by unfold Stp at hs; unfold oldN nowN; split <;> split <;> omega
  refine ⟨by omega, by omega, by omega, by omega, by omega, by omega, fun f' t' a1 a2 a3 a4 => ?_⟩
  unfold Run
  omega
theorem axis_lengths_eq (a : List GAxisStep) (hg : GoodA a) : axis_lengths a = some (oldLen a, nowLen a) := by
  unfold axis_lengths
  rw [iter_walk (f := fun (a_1 : Int × Int × Int) => axis_lengths_L1 a a_1.1 a_1.2.1 a_1.2.2) a (fun (c : Int × Int) k => (c.1, c.2, (k : Int))) (fun l (c : Int × Int) => (c.1 + oldLen l, c.2 + nowLen l)) (fun k c => Run a k c.1 c.2)
    (fun k c hk hI => by
      left
      have hs := stp_at hg.stp hk
      have hnx := hI.nx hg hk
      have hgl := hg.len
      unfold axis_lengths_L1
      simp only
      rw [if_pos (by simpa using hk), idx_nat hk, bnd1_some, chk_nat (by omega)]
      simp only [oldLen_cons, nowLen_cons]
      obtain ⟨o, w⟩ := c
      simp only at hnx ⊢
      generalize a[k]! = x at hs hnx ⊢
      obtain ⟨q1, q2, q3, q4, q5, q6, q7⟩ := hnx
      have h0 : 0 ≤ oldN x ∧ 0 ≤ nowN x := by unfold Stp at hs; unfold oldN nowN; split <;> split <;> omega
      unfold Stp at hs
      rw [chk_ok (by omega) (by omega), chk_ok (by omega) (by omega)]
      refine ⟨(o + oldN x, w + nowN x), ?_, q7 _ _ (by omega) (by omega) (by omega) (by omega), ?_⟩
      · unfold oldN nowN
        by_cases d1 : x.Kind = 1
        · simp [d1]
        · by_cases d2 : x.Kind = 2 <;> simp [d1, d2]
      · simp only; rw [Int.add_assoc, Int.add_assoc])
    (fun c hI => by unfold axis_lengths_L1; rw [if_neg (by simp)]; simp [oldLen, nowLen]) (0, 0) hg.run (0, 0, 0) rfl]
  simp
def plo (p : Int) : List GAxisStep → Int × Int → Ctl Unit Int
  | [], _ => .nrm ()
  | s :: l, c => if s.Kind = 1 then plo p l (c.1, c.2 + s.N) else if p < c.1 + s.N then .ext (if s.Kind = 0 then c.2 + p - c.1 else -1) else plo p l (c.1 + s.N, if s.Kind = 0 then c.2 + s.N else c.2)
theorem plo_cons (p : Int) (s : GAxisStep) (l : List GAxisStep) (c : Int × Int) : plo p (s :: l) c = if s.Kind = 1 then plo p l (c.1, c.2 + s.N) else if p < c.1 + s.N then .ext (if s.Kind = 0 then c.2 + p - c.1 else -1) else plo p l (c.1 + s.N, if s.Kind = 0 then c.2 + s.N else c.2) := rfl
def ctlV : Ctl Unit Int → Int
  | .nrm _ => -1
  | .ext x => x
theorem axis_place_eq (a : List GAxisStep) (p : Int) (hg : GoodA a) (h0 : 0 ≤ p) (hp : p ≤ 2147483647) : axis_place a p = some (ctlV (plo p a (0, 0))) := by
  unfold axis_place
  rw [iter_walk (f := fun (a_1 : Int × Int × Int) => axis_place_L1 a p a_1.1 a_1.2.1 a_1.2.2) a (fun (c : Int × Int) k => (c.1, c.2, (k : Int))) (plo p) (fun k c => Run a k c.1 c.2)
    (fun k c hk hI => by
      have hs := stp_at hg.stp hk
      have hnx := hI.nx hg hk
      have hgl := hg.len
      unfold axis_place_L1
      rw [plo_cons]
      simp only
      rw [if_pos (by simpa using hk), idx_nat hk, bnd1_some, chk_nat (by omega)]
      obtain ⟨f, t⟩ := c
      simp only at hnx ⊢
      generalize a[k]! = x at hs hnx ⊢
      obtain ⟨q1, q2, q3, q4, q5, q6, q7⟩ := hnx
      unfold Stp at hs
      simp only [oldN, nowN] at q7
      rw [chk_ok (x := t + x.N) (by omega) (by omega), chk_ok (x := f + x.N) (by omega) (by omega), chk_ok (x := t + p) (by omega) (by omega)]
      simp only [bnd1_some]
      rw [chk_ok (x := t + p - f) (by omega) (by omega)]
      by_cases d1 : x.Kind = 1
      · left
        refine ⟨(f, t + x.N), ?_, ?_, ?_⟩
        · simp [d1]
        · exact q7 _ _ (by simp [d1]) (by simp [d1]) (by simp [d1]; omega) (by simp [d1])
        · simp [d1]
      · by_cases d0 : x.Kind = 0
        · by_cases d2 : p < f + x.N
          · right; simp [d0, d2]
          · left
            refine ⟨(f + x.N, t + x.N), ?_, ?_, ?_⟩
            · simp [d0, d2]
            · exact q7 _ _ (by simp [d0]; omega) (by simp [d0]) (by simp [d0]; omega) (by simp [d0])
            · simp [d0, d2]
        · by_cases d2 : p < f + x.N
          · right; simp [d0, d1, d2]
          · left
            refine ⟨(f + x.N, t), ?_, ?_, ?_⟩
            · simp [d0, d1, d2]
            · exact q7 _ _ (by simp [d1]; omega) (by simp [d1]) (by simp) (by simp; split <;> omega)
            · simp [d0, d1, d2])
    (fun c hI => by unfold axis_place_L1; rw [if_neg (by simp)]; rfl) (0, 0) hg.run (0, 0, 0) rfl]
  cases plo p a (0, 0) <;> rfl
theorem app8 {o : List Int} {x : Int} (h : o.length + 1 ≤ 1099511627776) : app 8 o [x] = some (o ++ [x]) := by
  unfold app; rw [if_pos (by simp; omega)]
def apo (a : List GAxisStep) (r : Int) : List Int → List Int → Ctl (List Int) (List Int × Int)
  | [], out => .nrm out
  | x :: l, out => if x < 0 ∨ r ≤ x then .ext ([], 2) else apo a r l (out ++ [ctlV (plo x a (0, 0))])
theorem apo_cons (a : List GAxisStep) (r x : Int) (l out : List Int) : apo a r (x :: l) out = if x < 0 ∨ r ≤ x then .ext ([], 2) else apo a r l (out ++ [ctlV (plo x a (0, 0))]) := rfl
theorem axis_Apply_eq (a : List GAxisStep) (ps : List Int) (hm : a.length ≤ 9223372036854775807) (hp : ps.length ≤ 1048576) : axis_Apply a ps = if axErr a ≠ 0 then some ([], axErr a) else ctl1 (some (apo a (oldLen a) ps [])) fun out => some (out, 0) := by
  unfold axis_Apply
  rw [axis_Check_eq a (by omega), bnd1_some]
  by_cases he : axErr a = 0
  · have hg := goodA_of he
    have hl := lens_pos hg.stp
    have hol := hg.olds
    rw [he, if_neg (by decide), if_neg (by simp), axis_lengths_eq a hg, bnd2_some]
    rw [iter_walk (f := fun (a_1 : Int × List Int) => axis_Apply_L1 a ps (oldLen a) a_1.1 a_1.2) ps (fun (c : List Int) k => ((k : Int), c)) (apo a (oldLen a)) (fun k c => c.length ≤ k)
      (fun k c hk hI => by
        unfold axis_Apply_L1
        rw [apo_cons]
        simp only
        rw [if_pos (by simpa using hk), idx_nat hk, bnd1_some, chk_nat (by omega)]
        generalize ps[k]! = x
        by_cases d : x < 0 ∨ oldLen a ≤ x
        · right
          rw [if_pos d, if_pos (by simpa using d)]
        · left
          rw [if_neg d, if_neg (by simpa using d), axis_place_eq a x hg (by omega) (by omega), bnd1_some, app8 (by omega)]
          exact ⟨_, rfl, by simp; omega, rfl⟩)
      (fun c hI => by unfold axis_Apply_L1; rw [if_neg (by simp)]; rfl) [] (by simp) (0, []) rfl]
  · rw [if_pos (by simpa using he), if_pos he]
def sizeLen (a : List GAxisStep) : Int := (a.map (·.N)).sum
theorem sizeLen_cons (s : GAxisStep) (a : List GAxisStep) : sizeLen (s :: a) = s.N + sizeLen a := by simp [sizeLen]
theorem ref_AxisSize_eq (a : List GAxisStep) (h : ∀ s ∈ a, Stp s) (hm : (a.length : Int) ≤ 4294967294) : ref_AxisSize a = some (sizeLen a) := by
  unfold ref_AxisSize
  rw [iter_walk (f := fun (a_1 : Int × Int) => ref_AxisSize_L1 a a_1.1 a_1.2) a (fun (c : Int) k => (c, (k : Int))) (fun l (c : Int) => c + sizeLen l) (fun k c => 0 ≤ c ∧ c ≤ k * 2147483647)
    (fun k c hk hI => by
      left
      have hs := stp_at h hk
      unfold ref_AxisSize_L1
      simp only
      rw [if_pos (by simpa using hk), idx_nat hk, bnd1_some, chk_nat (by omega)]
      simp only [sizeLen_cons]
      generalize a[k]! = x at hs ⊢
      unfold Stp at hs
      rw [chk_ok (by omega) (by omega)]
      exact ⟨_, rfl, by omega, by omega⟩)
    (fun c hI => by unfold ref_AxisSize_L1; rw [if_neg (by simp)]; simp [sizeLen]) 0 (by simp) (0, 0) rfl]
  simp
theorem law_few_eq (a : List GAxisStep) (hg : GoodA a) : law_few a = some (decide (sizeLen a ≤ 300)) := by
  unfold law_few; rw [ref_AxisSize_eq a hg.stp hg.len]; rfl
end Go.Proofs.Ytdeglnbioiicaaa.Al


namespace Go.Proofs.Ytdeglnbioiicaaa.Al
def charOK (c : Int) : Bool := decide (c = 9) || decide (c = 10) || (decide (32 ≤ c) && decide (c ≤ 126)) || (decide (160 ≤ c) && decide (c ≤ 55295)) || (decide (57344 ≤ c) && decide (c ≤ 1114111))
def elemErr (x : GElem) : Int :=
  if (x.Char = 0 ∧ x.Ref = 0) ∨ (x.Char ≠ 0 ∧ x.Ref ≠ 0) then 4 else if (x.Char ≠ 0 ∧ charOK x.Char = false) ∨ (x.Ref ≠ 0 ∧ ¬ (1 ≤ x.Ref ∧ x.Ref ≤ 1073741824)) then 2 else attrErr x.Attrs false
def okE (x : GElem) : Prop := x.Attrs.length ≤ 9223372036854775807 ∧ okStr x.Attrs
def errE (f : List GElem) (k : Nat) : Option Int := if elemErr f[k]! = 0 then none else some (elemErr f[k]!)
def partErr (f : List GElem) : Int := ((List.range f.length).findSome? (errE f)).getD 0
theorem elem_attrs {x : GElem} (h : elemErr x = 0) : attrErr x.Attrs false = 0 := by
  unfold elemErr at h
  split at h
  · cases h
  · split at h
    · cases h
    · exact h
def sHidden : List UInt8 := [104, 105, 100, 100, 101, 110]
def sOn : List UInt8 := [111, 110]
def sCut : List UInt8 := [99, 117, 116]
def sAdd : List UInt8 := [97, 100, 100]
def hid (x : GElem) (mode : Int) : Bool := decide (getA x.Attrs sHidden = sOn) || (decide (mode = 0) && !decide (getA x.Attrs sCut = [])) || (decide (mode = 1) && !decide (getA x.Attrs sAdd = []))
end Go.Proofs.Ytdeglnbioiicaaa.Al


namespace Go.Proofs.Ytdeglnbioiicaaa.Al
theorem ndT {p : Prop} [Decidable p] (h : ¬ p) : (!decide p) = true := by simp [h]
theorem ndF {p : Prop} [Decidable p] (h : p) : ¬ ((!decide p) = true) := by simp [h]
def okA (l : List GAttr) : Prop := l.length ≤ 1073741824 ∧ okStr l
theorem okA.e {x : GElem} (h : okA x.Attrs) : okE x := ⟨by have := h.1; omega, h.2⟩
structure OkSt (s : GStep) : Prop where
  at_ : okA s.Attrs
  el : s.Elems.length ≤ 1073741824
  ea : ∀ e ∈ s.Elems, okA e.Attrs
structure OkD (d : List GStep) : Prop where
  len : d.length ≤ 1099511627776
  st : ∀ s ∈ d, OkSt s
  sum : (d.map fun s => s.Elems.length).sum ≤ 1073741824
structure GoodS (s : GStep) : Prop where
  kind : (s.Kind = 0 ∧ s.Elems = [] ∧ 1 ≤ s.N ∧ s.N ≤ 2147483647 ∧ attrErr s.Attrs true = 0) ∨ (s.Kind = 2 ∧ s.Elems = [] ∧ s.Attrs = [] ∧ 1 ≤ s.N ∧ s.N ≤ 2147483647) ∨
    (s.Kind = 1 ∧ s.N = 0 ∧ s.Attrs = [] ∧ s.Elems ≠ [] ∧ partErr s.Elems = 0)
def ordBad (p s : GStep) : Bool := (decide (p.Kind = s.Kind) && (!decide (s.Kind = 0) || decide (p.Attrs = s.Attrs))) || (decide (p.Kind = 2) && decide (s.Kind = 1))
def oldS (s : GStep) : Int := if s.Kind = 1 then 0 else s.N
def nowS (s : GStep) : Int := if s.Kind = 2 then 0 else if s.Kind = 1 then s.Elems.length else s.N
def oldD (d : List GStep) : Int := (d.map oldS).sum
def nowD (d : List GStep) : Int := (d.map nowS).sum
end Go.Proofs.Ytdeglnbioiicaaa.Al


namespace Go.Proofs.Ytdeglnbioiicaaa.Al
end Go.Proofs.Ytdeglnbioiicaaa.Al


namespace Go.Proofs.Ytdeglnbioiicaaa.Al
inductive Un where
  | a (e : GElem)
  | r (cut : Bool) (at_ : List GAttr)
def uOf : List (List GElem) → List Bool → List (List GAttr) → List Un
  | A :: As, c :: cs, t :: ts => A.map Un.a ++ Un.r c t :: uOf As cs ts
  | A :: _, _, _ => A.map Un.a
  | [], _, _ => []
structure WfA (x : Ref_Act) : Prop where
  adds : x.Adds.length = x.Cuts.length + 1
  attrs : x.Attrs.length = x.Cuts.length
def Ref_Act.us (x : Ref_Act) : List Un := uOf x.Adds x.Cuts x.Attrs
def Un.isR : Un → Bool
  | .a _ => false
  | .r _ _ => true
def cntR (us : List Un) : Nat := us.countP Un.isR
theorem uOf_row : ∀ (cs : List Bool) (As : List (List GElem)) (ts : List (List GAttr)) (c : Bool) (t : List GAttr), As.length = cs.length + 1 → ts.length = cs.length →
    uOf (As ++ [[]]) (cs ++ [c]) (ts ++ [t]) = uOf As cs ts ++ [.r c t]
  | [], [A], [], c, t, _, _ => by simp [uOf]
  | [], [], _, _, _, h, _ => by simp at h
  | [], _ :: _ :: _, _, _, _, h, _ => by simp at h
  | [], _, _ :: _, _, _, _, h => by simp at h
  | c0 :: cs, A :: As, t0 :: ts, c, t, h1, h2 => by
    have ih := uOf_row cs As ts c t (by simpa using h1) (by simpa using h2)
    simp only [List.cons_append, uOf, ih, List.append_assoc]
  | _ :: _, [], _, _, _, h, _ => by simp at h
  | _ :: _, _, [], _, _, _, h => by simp at h
theorem uOf_add : ∀ (cs : List Bool) (As : List (List GElem)) (ts : List (List GAttr)) (A es : List GElem), As.length = cs.length + 1 → ts.length = cs.length → As[cs.length]? = some A →
    uOf (As.set cs.length (A ++ es)) cs ts = uOf As cs ts ++ es.map Un.a
  | [], [A0], [], A, es, _, _, h => by
    simp at h; subst h
    simp [uOf]
  | [], [], _, _, _, h, _, _ => by simp at h
  | [], _ :: _ :: _, _, _, _, h, _, _ => by simp at h
  | [], _, _ :: _, _, _, _, h, _ => by simp at h
  | c0 :: cs, A0 :: As, t0 :: ts, A, es, h1, h2, h3 => by
    have ih := uOf_add cs As ts A es (by simpa using h1) (by simpa using h2) (by simpa using h3)
    simp only [List.length_cons, List.set_cons_succ, uOf, ih, List.append_assoc, List.cons_append]
  | _ :: _, [], _, _, _, h, _, _ => by simp at h
  | _ :: _, _, [], _, _, _, h, _ => by simp at h
theorem uOf_cnt : ∀ (cs : List Bool) (As : List (List GElem)) (ts : List (List GAttr)), As.length = cs.length + 1 → ts.length = cs.length → cntR (uOf As cs ts) = cs.length
  | [], [A], [], _, _ => by
    have : ∀ l : List GElem, cntR (l.map Un.a) = 0 := fun l => by induction l with
      | nil => rfl
      | cons x l ih => simp [cntR, Un.isR]
    exact this A
  | [], [], _, h, _ => by simp at h
  | [], _ :: _ :: _, _, h, _ => by simp at h
  | [], _, _ :: _, _, h => by simp at h
  | c0 :: cs, A0 :: As, t0 :: ts, h1, h2 => by
    have ih := uOf_cnt cs As ts (by simpa using h1) (by simpa using h2)
    have : ∀ l : List GElem, (l.map Un.a).countP Un.isR = 0 := fun l => by induction l with
      | nil => rfl
      | cons x l ih => simp [Un.isR]
    simp only [cntR, uOf, List.countP_append, this, List.countP_cons, Un.isR, if_true, Nat.zero_add, List.length_cons] at ih ⊢
    omega
  | _ :: _, [], _, h, _ => by simp at h
  | _ :: _, _, [], _, h => by simp at h
theorem uOf_mem : ∀ (cs : List Bool) (As : List (List GElem)) (ts : List (List GAttr)), As.length = cs.length + 1 → ts.length = cs.length → ∀ A ∈ As, A.length ≤ (uOf As cs ts).length
  | [], [A], [], _, _ => by simp [uOf]
  | [], [], _, h, _ => by simp at h
  | [], _ :: _ :: _, _, h, _ => by simp at h
  | [], _, _ :: _, _, h => by simp at h
  | c0 :: cs, A0 :: As, t0 :: ts, h1, h2 => by
    have ih := uOf_mem cs As ts (by simpa using h1) (by simpa using h2)
    intro A hA
    simp only [uOf, List.length_append, List.length_map, List.length_cons]
    rcases List.mem_cons.1 hA with rfl | hA
    · omega
    · have := ih A hA; omega
  | _ :: _, [], _, h, _ => by simp at h
  | _ :: _, _, [], _, h => by simp at h
theorem cntR_le (us : List Un) : cntR us ≤ us.length := List.countP_le_length
theorem WfA.cnt {x : Ref_Act} (h : WfA x) : cntR x.us = x.Cuts.length := uOf_cnt _ _ _ h.adds h.attrs
theorem WfA.cuts_le {x : Ref_Act} (h : WfA x) : x.Cuts.length ≤ x.us.length := by rw [← h.cnt]; exact cntR_le _
theorem WfA.add_le {x : Ref_Act} (h : WfA x) {k : Nat} (hk : k < x.Adds.length) : x.Adds[k]!.length ≤ x.us.length := uOf_mem _ _ _ h.adds h.attrs _ (mem_at hk)
theorem wfA_nil : WfA ⟨[[]], [], []⟩ := ⟨rfl, rfl⟩
theorem us_nil : (⟨[[]], [], []⟩ : Ref_Act).us = [] := rfl
theorem push_row {x : Ref_Act} (h : WfA x) (c : Bool) (t : List GAttr) : WfA ⟨x.Adds ++ [[]], x.Cuts ++ [c], x.Attrs ++ [t]⟩ ∧ (⟨x.Adds ++ [[]], x.Cuts ++ [c], x.Attrs ++ [t]⟩ : Ref_Act).us = x.us ++ [.r c t] :=
  ⟨⟨by simp [h.adds], by simp [h.attrs]⟩, uOf_row _ _ _ _ _ h.adds h.attrs⟩
theorem push_add {x : Ref_Act} (h : WfA x) (es : List GElem) : WfA ⟨x.Adds.set x.Cuts.length (x.Adds[x.Cuts.length]! ++ es), x.Cuts, x.Attrs⟩ ∧ (⟨x.Adds.set x.Cuts.length (x.Adds[x.Cuts.length]! ++ es), x.Cuts, x.Attrs⟩ : Ref_Act).us = x.us ++ es.map Un.a := by
  refine ⟨⟨by simp [h.adds], h.attrs⟩, uOf_add _ _ _ _ _ h.adds h.attrs ?_⟩
  have : x.Cuts.length < x.Adds.length := by rw [h.adds]; omega
  rw [List.getElem?_eq_getElem this, getElem!_pos x.Adds _ this]
theorem last_add {x : Ref_Act} (h : WfA x) (hb : x.Cuts.length ≤ 9223372036854775806) : chk .i64 ((x.Adds.length : Int) - 1) = some ((x.Cuts.length : Nat) : Int) := by
  rw [h.adds, chk64 (by omega) (by omega)]; congr 1; omega
theorem app24 {α : Type} {o : List α} {x : α} (h : o.length + 1 ≤ 1099511627776) : app 24 o [x] = some (o ++ [x]) := by
  unfold app; rw [if_pos]; simp only [List.length_singleton]; omega
theorem app1c {α : Type} {o : List α} {x : α} (h : o.length + 1 ≤ 1099511627776) : app 1 o [x] = some (o ++ [x]) := by
  unfold app; rw [if_pos]; simp only [List.length_singleton]; omega
theorem app64 {α : Type} {o : List α} {x : α} (h : o.length + 1 ≤ 1099511627776) : app 64 o [x] = some (o ++ [x]) := by
  unfold app; rw [if_pos]; simp only [List.length_singleton]; omega
theorem app40 {α : Type} {o xs : List α} (h : o.length + xs.length ≤ 1099511627776) : app 40 o xs = some (o ++ xs) := by
  unfold app; rw [if_pos]; omega
theorem app16s {o : List GAxisStep} {x : GAxisStep} (h : o.length + 1 ≤ 1099511627776) : app 16 o [x] = some (o ++ [x]) := by
  unfold app; rw [if_pos]; simp only [List.length_singleton]; omega
theorem set_eq {α : Type} {l : List α} {k : Nat} {x : α} : l.set ((k : Int).toNat) x = l.set k x := by simp
def unitsS (s : GStep) : List Un := if s.Kind = 1 then s.Elems.map Un.a else List.replicate s.N.toNat (.r (decide (s.Kind = 2)) s.Attrs)
def unitsD (d : List GStep) : List Un := d.flatMap unitsS
theorem unitsD_cons (s : GStep) (d : List GStep) : unitsD (s :: d) = unitsS s ++ unitsD d := rfl
theorem unitsD_at {d : List GStep} {k : Nat} (h : k < d.length) : unitsD (d.take (k + 1)) = unitsD (d.take k) ++ unitsS d[k]! := by
  rw [take_at h]; simp [unitsD]
theorem unitsD_le (d : List GStep) (k : Nat) : (unitsD (d.take k)).length ≤ (unitsD d).length := by
  have : unitsD d = unitsD (d.take k) ++ unitsD (d.drop k) := by
    conv => lhs; rw [← List.take_append_drop k d]
    unfold unitsD; rw [List.flatMap_append]
  rw [this, List.length_append]; omega
theorem ref_ActOf_L2_eq (s : GStep) (x : Ref_Act) (h : WfA x) (hn : 0 ≤ s.N) (hb : x.us.length + s.N.toNat ≤ 4294967296) :
    ∃ o, iter (fun (a : Int × Ref_Act) => ref_ActOf_L2 s a.1 a.2) (0, x) = some o ∧ ∃ y, o = .ext y ∧ WfA y ∧ y.us = x.us ++ List.replicate s.N.toNat (.r (decide (s.Kind = 2)) s.Attrs) := by
  refine iter_hoare s.N.toNat (fun k st => st.1 = (k : Int) ∧ WfA st.2 ∧ st.2.us = x.us ++ List.replicate k (.r (decide (s.Kind = 2)) s.Attrs)) _ ?_ ?_ ⟨rfl, h, by simp⟩
  · rintro k ⟨i, y⟩ hk ⟨rfl, hy, hu⟩
    dsimp only at hy hu
    refine .inl ⟨(((k + 1 : Nat) : Int), ⟨y.Adds ++ [[]], y.Cuts ++ [decide (s.Kind = 2)], y.Attrs ++ [s.Attrs]⟩), ?_, rfl, (push_row hy _ _).1, (push_row hy _ _).2.trans (by rw [hu, List.append_assoc, ← List.replicate_succ'])⟩
    have hl : y.us.length = x.us.length + k := by rw [hu]; simp
    have hc := hy.cuts_le
    have ha := hy.adds
    have ht := hy.attrs
    show ref_ActOf_L2 s (k : Int) y = _
    unfold ref_ActOf_L2
    rw [if_pos (by simp; omega), app24 (by omega), bnd1_some, app1c (by omega), bnd1_some, app24 (by omega), bnd1_some, chk_nat (by omega), bnd1_some]
  · rintro ⟨i, y⟩ ⟨rfl, hy, hu⟩
    dsimp only at hy hu
    refine ⟨_, ?_, y, rfl, hy, hu⟩
    show ref_ActOf_L2 s (s.N.toNat : Int) y = _
    unfold ref_ActOf_L2
    rw [if_neg (by simp; omega)]
theorem ref_ActOf_eq (d : List GStep) (hn : ∀ s ∈ d, 0 ≤ s.N) (hm : d.length ≤ 4294967296) (hb : (unitsD d).length ≤ 4294967296) : ∃ x, ref_ActOf d = some x ∧ WfA x ∧ x.us = unitsD d := by
  unfold ref_ActOf
  have key : ∃ x, iter (fun (a : Int × Ref_Act) => ref_ActOf_L1 d a.1 a.2) (0, ⟨[[]], [], []⟩) = some x ∧ (WfA x ∧ x.us = unitsD d) := by
    refine iter_hoare d.length (fun k st => st.1 = (k : Int) ∧ WfA st.2 ∧ st.2.us = unitsD (d.take k)) _ ?_ ?_ ⟨rfl, wfA_nil, us_nil⟩
    · rintro k ⟨i, y⟩ hk ⟨rfl, hy, hu⟩
      dsimp only at hy hu
      have hl : y.us.length + (unitsS d[k]!).length ≤ 4294967296 := by
        have := unitsD_le d (k + 1)
        rw [unitsD_at hk, List.length_append] at this
        rw [hu]; omega
      have hc := hy.cuts_le
      have ha := hy.adds
      refine .inl ?_
      show ∃ s', ref_ActOf_L1 d (k : Int) y = _ ∧ _
      unfold ref_ActOf_L1
      rw [if_pos (by simpa using hk), idx_nat hk]
      simp only [bnd1_some]
      by_cases hK : d[k]!.Kind = 1
      · have hS : unitsS d[k]! = d[k]!.Elems.map Un.a := by unfold unitsS; rw [if_pos hK]
        rw [hS, List.length_map] at hl
        have hlt : y.Cuts.length < y.Adds.length := by omega
        have hA := hy.add_le hlt
        rw [if_pos (by simpa using hK), last_add hy (by omega), bnd1_some, idx_nat hlt, bnd1_some, app40 (by rw [List.length_nil]; omega), bnd1_some, List.nil_append, app40 (by omega), bnd1_some, bnd1_some, chk_nat (by omega), bnd1_some, set_eq]
        exact ⟨_, rfl, rfl, (push_add hy _).1, (push_add hy _).2.trans (by rw [unitsD_at hk, hu, hS])⟩
      · have hS : unitsS d[k]! = List.replicate d[k]!.N.toNat (.r (decide (d[k]!.Kind = 2)) d[k]!.Attrs) := by unfold unitsS; rw [if_neg hK]
        rw [hS, List.length_replicate] at hl
        obtain ⟨o, h1, z, h2, h3, h4⟩ := ref_ActOf_L2_eq d[k]! y hy (hn _ (mem_at hk)) hl
        subst h2
        rw [if_neg (by simpa using hK), h1, ctl1_ext, bnd1_some, chk_nat (by omega), bnd1_some]
        exact ⟨_, rfl, rfl, h3, by rw [unitsD_at hk, ← hu, hS]; exact h4⟩
    · rintro ⟨i, y⟩ ⟨rfl, hy, hu⟩
      dsimp only at hy hu
      refine ⟨y, ?_, hy, by rw [hu, List.take_length]⟩
      show ref_ActOf_L1 d (d.length : Int) y = _
      unfold ref_ActOf_L1
      rw [if_neg (by simp)]
  obtain ⟨x, h1, h2⟩ := key
  exact ⟨x, by rw [h1]; rfl, h2⟩
def Ref_Act.from_ (x : Ref_Act) (k : Nat) : List Un := uOf (x.Adds.drop k) (x.Cuts.drop k) (x.Attrs.drop k)
theorem from_zero (x : Ref_Act) : x.from_ 0 = x.us := rfl
theorem from_at {x : Ref_Act} (h : WfA x) {k : Nat} (hk : k < x.Cuts.length) : x.from_ k = x.Adds[k]!.map Un.a ++ .r x.Cuts[k]! x.Attrs[k]! :: x.from_ (k + 1) := by
  unfold Ref_Act.from_
  have ha := h.adds
  have ht := h.attrs
  rw [drop_at (l := x.Adds) (by omega), drop_at (l := x.Cuts) hk, drop_at (l := x.Attrs) (by omega), uOf]
theorem from_end {x : Ref_Act} (h : WfA x) : x.from_ x.Cuts.length = x.Adds[x.Cuts.length]!.map Un.a := by
  unfold Ref_Act.from_
  have ha := h.adds
  rw [drop_at (l := x.Adds) (by omega), List.drop_length]
  cases x.Adds.drop (x.Cuts.length + 1) <;> rfl
end Go.Proofs.Ytdeglnbioiicaaa.Al


namespace Go.Proofs.Ytdeglnbioiicaaa.Al
end Go.Proofs.Ytdeglnbioiicaaa.Al


namespace Go.Proofs.Ytdeglnbioiicaaa.Al
structure DS where
  out : List GStep
  adds : List GElem
  cuts : Nat
def dFl (s : DS) : List GStep := (if 0 < s.adds.length then s.out ++ [⟨1, 0, [], s.adds⟩] else s.out) ++ (if 0 < s.cuts then [⟨2, s.cuts, [], []⟩] else [])
def bumpD (l : List GStep) (t : List GAttr) : List GStep :=
  if 0 < l.length ∧ l[l.length - 1]!.Kind = 0 ∧ l[l.length - 1]!.Attrs = t then l.set (l.length - 1) ⟨l[l.length - 1]!.Kind, l[l.length - 1]!.N + 1, l[l.length - 1]!.Attrs, l[l.length - 1]!.Elems⟩
  else l ++ [⟨0, 1, t, []⟩]
def dU (s : DS) : Un → DS
  | .a e => ⟨s.out, s.adds ++ [e], s.cuts⟩
  | .r true _ => ⟨s.out, s.adds, s.cuts + 1⟩
  | .r false t => ⟨bumpD (dFl s) t, [], 0⟩
def deltaOf (us : List Un) : List GStep := dFl (us.foldl dU ⟨[], [], 0⟩)
theorem dU_adds (A : List GElem) : ∀ s : DS, (A.map Un.a).foldl dU s = ⟨s.out, s.adds ++ A, s.cuts⟩ := by
  induction A with
  | nil => intro s; simp
  | cons e A ih => intro s; simp only [List.map_cons, List.foldl_cons]; rw [ih]; simp [dU]
structure DB (m : Nat) (s : DS) : Prop where
  len : s.out.length + s.adds.length + s.cuts ≤ m
  mem : ∀ x ∈ s.out, 0 ≤ x.N ∧ x.N ≤ m ∧ x.Elems.length ≤ m ∧ x.Attrs.length ≤ 1099511627776
def OkU (u : Un) : Prop := match u with | .a _ => True | .r _ t => t.length ≤ 1099511627776
theorem db_fl {m : Nat} {s : DS} (h : DB m s) : (dFl s).length ≤ m ∧ ∀ x ∈ dFl s, 0 ≤ x.N ∧ x.N ≤ m ∧ x.Elems.length ≤ m ∧ x.Attrs.length ≤ 1099511627776 := by
  have hl := h.len
  refine ⟨?_, fun x hx => ?_⟩
  · unfold dFl
    split <;> split <;> simp <;> omega
  · unfold dFl at hx
    rcases List.mem_append.1 hx with h1 | h1
    · split at h1
      · rcases List.mem_append.1 h1 with h2 | h2
        · exact h.mem x h2
        · have : x = ⟨1, 0, [], s.adds⟩ := by simpa using h2
          subst this
          simp; omega
      · exact h.mem x h1
    · split at h1
      · have : x = ⟨2, s.cuts, [], []⟩ := by simpa using h1
        subst this
        simp; omega
      · simp at h1
theorem db_step {m : Nat} {s : DS} (h : DB m s) {u : Un} (hu : OkU u) : DB (m + 1) (dU s u) := by
  have hl := h.len
  have hm : ∀ x : GStep, (0 ≤ x.N ∧ x.N ≤ m ∧ x.Elems.length ≤ m ∧ x.Attrs.length ≤ 1099511627776) → 0 ≤ x.N ∧ x.N ≤ ((m + 1 : Nat) : Int) ∧ x.Elems.length ≤ m + 1 ∧ x.Attrs.length ≤ 1099511627776 := fun x ⟨a, b, c, d⟩ => ⟨a, by omega, by omega, d⟩
  match u, hu with
  | .a e, _ => exact ⟨by simp [dU]; omega, fun x hx => hm x (h.mem x hx)⟩
  | .r true t, _ => exact ⟨by simp [dU]; omega, fun x hx => hm x (h.mem x hx)⟩
  | .r false t, ht =>
    obtain ⟨h1, h2⟩ := db_fl h
    show DB (m + 1) ⟨bumpD (dFl s) t, [], 0⟩
    unfold bumpD
    split
    · rename_i hc
      refine ⟨by simp; omega, fun x hx => ?_⟩
      rcases List.mem_or_eq_of_mem_set hx with h3 | h3
      · exact hm x (h2 x h3)
      · have h4 := h2 _ (mem_at (l := dFl s) (k := (dFl s).length - 1) (by omega))
        subst h3
        exact ⟨by simp only; omega, by simp only; omega, by simp only; omega, h4.2.2.2⟩
    · refine ⟨by simp; omega, fun x hx => ?_⟩
      rcases List.mem_append.1 hx with h3 | h3
      · exact hm x (h2 x h3)
      · have : x = ⟨0, 1, t, []⟩ := by simpa using h3
        subst this
        exact ⟨by simp, by simp only; omega, by simp, ht⟩
theorem db_steps {us : List Un} : ∀ {m : Nat} {s : DS}, DB m s → (∀ u ∈ us, OkU u) → DB (m + us.length) (us.foldl dU s) := by
  induction us with
  | nil => intro m s h _; exact h
  | cons u us ih =>
    intro m s h hu
    have := ih (db_step h (hu u (List.mem_cons_self ..))) fun v hv => hu v (List.mem_cons_of_mem _ hv)
    rw [List.foldl_cons, List.length_cons, show m + (us.length + 1) = m + 1 + us.length by omega]
    exact this
theorem from_sub (x : Ref_Act) (k : Nat) (h : WfA x) (hk : k ≤ x.Cuts.length) : ∃ p, x.us = p ++ x.from_ k := by
  induction k with
  | zero => exact ⟨[], rfl⟩
  | succ k ih =>
    obtain ⟨p, hp⟩ := ih (by omega)
    rw [from_at h (by omega)] at hp
    exact ⟨p ++ (x.Adds[k]!.map Un.a ++ [.r x.Cuts[k]! x.Attrs[k]!]), by rw [hp]; simp⟩
theorem idx_last {l : List GStep} (h : 0 < l.length) (hm : l.length ≤ 9223372036854775807) : chk .i64 ((l.length : Int) - 1) = some ((l.length - 1 : Nat) : Int) := by
  rw [chk64 (by omega) (by omega)]; congr 1; omega
theorem fl_eq (s : DS) (hb : s.out.length + 2 ≤ 1099511627776) {α : Type} (f : List GStep → Option α) :
    (bnd1 (if (decide (0 < (s.adds.length : Int))) then (bnd1 (app 64 s.out [(GStep.mk 1 0 [] s.adds)]) fun (out10 : List GStep) => some out10) else (some s.out)) fun (out6 : List GStep) =>
      bnd1 (if (decide (0 < (s.cuts : Int))) then (bnd1 (app 64 out6 [(GStep.mk 2 s.cuts [] [])]) fun (out9 : List GStep) => some out9) else (some out6)) f) = f (dFl s) := by
  unfold dFl
  by_cases h1 : 0 < s.adds.length
  · rw [if_pos (by rw [decide_eq_true_eq]; omega), app64 (by omega), if_pos h1]
    simp only [bnd1_some]
    by_cases h2 : 0 < s.cuts
    · rw [if_pos (by rw [decide_eq_true_eq]; omega), app64 (by rw [List.length_append, List.length_singleton]; omega), if_pos h2]; rfl
    · rw [if_neg (by rw [decide_eq_true_eq]; omega), if_neg h2, List.append_nil]; rfl
  · rw [if_neg (by rw [decide_eq_true_eq]; omega), if_neg h1]
    simp only [bnd1_some]
    by_cases h2 : 0 < s.cuts
    · rw [if_pos (by rw [decide_eq_true_eq]; omega), app64 (by omega), if_pos h2]; rfl
    · rw [if_neg (by rw [decide_eq_true_eq]; omega), if_neg h2, List.append_nil]; rfl
theorem okU_at {x : Ref_Act} (h : WfA x) (hu : ∀ u ∈ x.us, OkU u) {k : Nat} (hk : k < x.Cuts.length) : x.Attrs[k]!.length ≤ 1099511627776 := by
  obtain ⟨p, hp⟩ := from_sub x k h (by omega)
  rw [from_at h hk] at hp
  exact hu (.r x.Cuts[k]! x.Attrs[k]!) (by rw [hp]; simp)
theorem ref_DeltaOf_eq (x : Ref_Act) (h : WfA x) (hu : ∀ u ∈ x.us, OkU u) (hb : x.us.length ≤ 4294967296) : ref_DeltaOf x = some (deltaOf x.us) := by
  unfold ref_DeltaOf
  have hxc := h.cuts_le
  have hxa := h.adds
  have hxt := h.attrs
  have key : ∃ l, iter (fun (a : Int × Int × (List GStep) × (List GElem)) => ref_DeltaOf_L1 x a.1 a.2.1 a.2.2.1 a.2.2.2) (0, 0, [], []) = some l ∧ l = deltaOf x.us := by
    refine iter_hoare x.Cuts.length (fun k st => st.2.1 = (k : Int) ∧ ∃ s : DS, st.1 = (s.cuts : Int) ∧ st.2.2.1 = s.out ∧ st.2.2.2 = s.adds ∧ (∃ m, DB m s ∧ m + (x.from_ k).length = x.us.length) ∧ dFl ((x.from_ k).foldl dU s) = deltaOf x.us) _ ?_ ?_ ⟨rfl, ⟨[], [], 0⟩, rfl, rfl, rfl, ⟨0, ⟨by simp, by simp⟩, by rw [from_zero, Nat.zero_add]⟩, rfl⟩
    · rintro k ⟨cuts, i, out, adds⟩ hk ⟨rfl, s, h1, h2, h3, ⟨m, hdb, hm⟩, hT⟩
      dsimp only at h1 h2 h3
      subst h1; subst h2; subst h3
      rw [from_at h hk] at hT hm
      rw [List.foldl_append, List.foldl_cons, dU_adds] at hT
      simp only [List.length_append, List.length_map, List.length_cons] at hm
      have hA := h.add_le (k := k) (by omega)
      have hdb1 : DB (m + x.Adds[k]!.length) ⟨s.out, s.adds ++ x.Adds[k]!, s.cuts⟩ := by
        have := db_steps (us := x.Adds[k]!.map Un.a) hdb (fun u hu => by obtain ⟨e, _, rfl⟩ := List.mem_map.1 hu; trivial)
        rwa [dU_adds, List.length_map] at this
      have hlen := hdb.len
      refine .inl ?_
      show ∃ s', ref_DeltaOf_L1 x (s.cuts : Int) (k : Int) s.out s.adds = _ ∧ _
      unfold ref_DeltaOf_L1
      rw [if_pos (by simp; omega), idx_nat (l := x.Adds) (by omega), bnd1_some, app40 (by omega), bnd1_some]
      have hd : decide ((k : Int) < (x.Cuts.length : Int)) = true := by simpa using hk
      rw [hd, show (true == true) = true from rfl, gd_true, idx_nat (l := x.Cuts) hk, bnd1_some, Bool.true_and]
      cases hc : x.Cuts[k]! with
      | true =>
        rw [hc] at hT
        rw [if_pos rfl, chk_nat (by omega), bnd1_some, ctl3_nrm, chk_nat (by omega), bnd1_some]
        refine ⟨_, rfl, rfl, ⟨s.out, s.adds ++ x.Adds[k]!, s.cuts + 1⟩, rfl, rfl, rfl, ⟨m + x.Adds[k]!.length + 1, ?_, by omega⟩, hT⟩
        exact db_step (u := .r true x.Attrs[k]!) hdb1 (okU_at h hu hk)
      | false =>
        rw [hc] at hT
        rw [if_neg (by decide)]
        have hfl := fl_eq ⟨s.out, s.adds ++ x.Adds[k]!, s.cuts⟩ (by simp only; omega) (α := Ctl (Int × (List GStep) × (List GElem)) ((Int × Int × (List GStep) × (List GElem)) ⊕ (List GStep)))
        simp only at hfl
        rw [hfl, if_neg (by simp; omega)]
        obtain ⟨f1, f2⟩ := db_fl hdb1
        have hbump := db_step (u := .r false x.Attrs[k]!) hdb1 (okU_at h hu hk)
        change DB _ ⟨bumpD (dFl ⟨s.out, s.adds ++ x.Adds[k]!, s.cuts⟩) x.Attrs[k]!, [], 0⟩ at hbump
        change dFl (List.foldl dU ⟨bumpD (dFl ⟨s.out, s.adds ++ x.Adds[k]!, s.cuts⟩) x.Attrs[k]!, [], 0⟩ _) = _ at hT
        generalize hl : dFl ⟨s.out, s.adds ++ x.Adds[k]!, s.cuts⟩ = l at f1 f2 hbump hT
        clear hfl
        have hat : x.Attrs[k]!.length ≤ 1099511627776 := okU_at h hu hk
        have fin : ∀ l', l' = bumpD l x.Attrs[k]! → ∃ s', (ctl3 (some (Ctl.nrm ((0 : Int), l', ([] : List GElem)))) fun (cuts4 : Int) (out5 : List GStep) (adds4 : List GElem) => bnd1 (chk .i64 ((k : Int) + 1)) fun (i10 : Int) => some (Sum.inl (cuts4, i10, out5, adds4))) = some (Sum.inl s' : (Int × Int × (List GStep) × (List GElem)) ⊕ (List GStep)) ∧
            s'.2.1 = ((k + 1 : Nat) : Int) ∧ ∃ s : DS, s'.1 = (s.cuts : Int) ∧ s'.2.2.1 = s.out ∧ s'.2.2.2 = s.adds ∧ (∃ m, DB m s ∧ m + (x.from_ (k + 1)).length = x.us.length) ∧ dFl ((x.from_ (k + 1)).foldl dU s) = deltaOf x.us := by
          intro l' hl'
          subst hl'
          rw [ctl3_nrm, chk_nat (by omega), bnd1_some]
          exact ⟨_, rfl, rfl, ⟨bumpD l x.Attrs[k]!, [], 0⟩, rfl, rfl, rfl, ⟨_, hbump, by omega⟩, hT⟩
        by_cases hl0 : 0 < l.length
        · rw [idx_last hl0 (by omega), bnd1_some]
          have d0 : decide (0 ≤ (((l.length - 1 : Nat)) : Int)) = true := by simp
          rw [d0, show (true == true) = true from rfl, gd_true, idx_nat (l := l) (by omega), bnd1_some, Bool.true_and]
          have hmem := f2 _ (mem_at (l := l) (k := l.length - 1) (by omega))
          by_cases hk0 : l[l.length - 1]!.Kind = 0
          · have d1 : decide (l[l.length - 1]!.Kind = 0) = true := by simpa using hk0
            rw [d1, show (true == true) = true from rfl, gd_true, gd_true, bnd1_some, idx_nat (l := x.Attrs) (by omega), bnd1_some, gd_true, ref_SameAttrs_eq _ _ (by omega), bnd1_some, Bool.true_and]
            by_cases hs : l[l.length - 1]!.Attrs = x.Attrs[k]!
            · rw [if_pos (by simpa using hs), bnd1_some, chk64 (by omega) (by omega), bnd1_some]
              refine fin _ ?_
              unfold bumpD
              rw [if_pos ⟨hl0, hk0, hs⟩, set_eq]
            · rw [if_neg (by simpa using hs), bnd1_some, app64 (by omega), bnd1_some]
              refine fin _ ?_
              unfold bumpD
              rw [if_neg (fun h => hs h.2.2)]
          · have d1 : decide (l[l.length - 1]!.Kind = 0) = false := by simpa using hk0
            rw [d1, show (false == true) = false from rfl, gd_false, gd_false, bnd1_some, bnd1_some, gd_false, bnd1_some, Bool.false_and, if_neg (by decide), idx_nat (l := x.Attrs) (by omega), bnd1_some, app64 (by omega), bnd1_some]
            refine fin _ ?_
            unfold bumpD
            rw [if_neg (fun h => hk0 h.2.1)]
        · have hl0' : l = [] := List.eq_nil_of_length_eq_zero (by omega)
          subst hl0'
          have d0 : decide (0 ≤ (-1 : Int)) = false := by decide
          rw [show ((([] : List GStep).length : Int) - 1) = -1 from rfl, show chk .i64 (-1) = some (-1) from chk64 (by decide) (by decide), bnd1_some, d0]
          rw [show (false == true) = false from rfl, gd_false, bnd1_some, Bool.false_and, show (false == true) = false from rfl, gd_false, gd_false, bnd1_some, bnd1_some, gd_false, bnd1_some, Bool.false_and, if_neg (by decide), idx_nat (l := x.Attrs) (by omega), bnd1_some, app64 (by simp), bnd1_some]
          refine fin _ ?_
          unfold bumpD
          rw [if_neg (fun h => hl0 h.1)]
    · rintro ⟨cuts, i, out, adds⟩ ⟨rfl, s, h1, h2, h3, ⟨m, hdb, hm⟩, hT⟩
      dsimp only at h1 h2 h3
      subst h1; subst h2; subst h3
      rw [from_end h] at hT hm
      rw [dU_adds] at hT
      simp only [List.length_map] at hm
      have hlen := hdb.len
      refine ⟨_, ?_, hT⟩
      show ref_DeltaOf_L1 x (s.cuts : Int) (x.Cuts.length : Int) s.out s.adds = _
      unfold ref_DeltaOf_L1
      rw [if_pos (by simp), idx_nat (l := x.Adds) (by omega), bnd1_some, app40 (by omega), bnd1_some]
      have hd : decide (((x.Cuts.length : Nat) : Int) < (x.Cuts.length : Int)) = false := by simp
      rw [hd, show (false == true) = false from rfl, gd_false, bnd1_some, Bool.false_and, if_neg (by decide)]
      have hfl := fl_eq ⟨s.out, s.adds ++ x.Adds[x.Cuts.length]!, s.cuts⟩ (by simp only; omega) (α := Ctl (Int × (List GStep) × (List GElem)) ((Int × Int × (List GStep) × (List GElem)) ⊕ (List GStep)))
      simp only at hfl
      rw [hfl, if_pos (by simp)]
      rfl
  obtain ⟨l, e, hl⟩ := key
  rw [e, hl]; rfl
end Go.Proofs.Ytdeglnbioiicaaa.Al


namespace Go.Proofs.Ytdeglnbioiicaaa.Al
structure GoodD (d : List GStep) : Prop where
  st : ∀ s ∈ d, GoodS s
  ord : ∀ k, 0 < k → k < d.length → ordBad d[k - 1]! d[k]! = false
  olds : oldD d ≤ 2147483647
  nows : nowD d ≤ 2147483647
theorem oldD_cons (s : GStep) (d : List GStep) : oldD (s :: d) = oldS s + oldD d := by simp [oldD]
theorem nowD_cons (s : GStep) (d : List GStep) : nowD (s :: d) = nowS s + nowD d := by simp [nowD]
def rawA (l ch : List GAttr) : List GAttr := bothL stpRaw l ch []
def chgE (ch : List GAttr) (x : GElem) : GElem := ⟨x.Char, x.Ref, rawA x.Attrs ch⟩
def doneU : List Un → List GElem → List GElem
  | .a e :: us, f => e :: doneU us f
  | .r true _ :: us, _ :: f => doneU us f
  | .r false t :: us, x :: f => chgE t x :: doneU us f
  | .r _ _ :: _, [] => []
  | [], _ => []
theorem doneU_a (A : List GElem) (us : List Un) (f : List GElem) : doneU (A.map Un.a ++ us) f = A ++ doneU us f := by
  induction A with
  | nil => rfl
  | cons e A ih => simp only [List.map_cons, List.cons_append, doneU, ih]
theorem doneU_len : ∀ (us : List Un) (f : List GElem), (doneU us f).length ≤ us.length := by
  intro us f
  fun_induction doneU us f <;> simp_all <;> omega
end Go.Proofs.Ytdeglnbioiicaaa.Al


namespace Go.Proofs.Ytdeglnbioiicaaa.Al
end Go.Proofs.Ytdeglnbioiicaaa.Al


namespace Go.Proofs.Ytdeglnbioiicaaa.Al
def bumpDn (l : List GStep) (t : List GAttr) (n : Int) : List GStep :=
  if 0 < l.length ∧ l[l.length - 1]!.Kind = 0 ∧ l[l.length - 1]!.Attrs = t then l.set (l.length - 1) ⟨l[l.length - 1]!.Kind, l[l.length - 1]!.N + n, l[l.length - 1]!.Attrs, l[l.length - 1]!.Elems⟩
  else l ++ [⟨0, n, t, []⟩]
theorem getS_app_last {l : List GStep} {s : GStep} : (l ++ [s])[l.length]! = s := by
  rw [getElem!_pos (l ++ [s]) l.length (by simp)]; simp
theorem getS_app {l : List GStep} {s : GStep} {k : Nat} (h : k < l.length) : (l ++ [s])[k]! = l[k]! := by
  rw [getElem!_pos (l ++ [s]) k (by simp; omega), getElem!_pos l k h, List.getElem_append_left h]
def OkUn (u : Un) : Prop := match u with
  | .a e => elemErr e = 0 ∧ okA e.Attrs
  | .r c t => (c = false → attrErr t true = 0) ∧ okA t
def cntA (us : List Un) : Nat := us.countP fun u => !u.isR
def isNow : Un → Bool
  | .a _ => true
  | .r c _ => !c
def cntN (us : List Un) : Nat := us.countP isNow
def Okk2 (a : Nat) (s : GStep) : Prop := ((s.Kind = 0 ∧ s.Elems = [] ∧ 1 ≤ s.N ∧ attrErr s.Attrs true = 0) ∨ (s.Kind = 2 ∧ s.Elems = [] ∧ s.Attrs = [] ∧ 1 ≤ s.N) ∨
    (s.Kind = 1 ∧ s.N = 0 ∧ s.Attrs = [] ∧ s.Elems ≠ [] ∧ ∀ e ∈ s.Elems, elemErr e = 0)) ∧ okA s.Attrs ∧ s.Elems.length ≤ a ∧ ∀ e ∈ s.Elems, okA e.Attrs
def AdjD (l : List GStep) : Prop := ∀ k, 0 < k → k < l.length → ordBad l[k - 1]! l[k]! = false
structure CD (m a r n : Nat) (s : DS) : Prop where
  ok : ∀ x ∈ s.out, Okk2 a x
  adj : AdjD s.out
  last : 0 < s.out.length → s.out[s.out.length - 1]!.Kind = 0
  add : ∀ e ∈ s.adds, elemErr e = 0 ∧ okA e.Attrs
  olds : oldD s.out + s.cuts = r
  nows : nowD s.out + s.adds.length = n
  len : s.out.length + s.adds.length + s.cuts ≤ m
  al : s.adds.length ≤ a
theorem cd_nil : CD 0 0 0 0 ⟨[], [], 0⟩ := ⟨by simp, fun k _ hk => by simp at hk, fun h => by simp at h, by simp, by simp [oldD], by simp [nowD], by simp, by simp⟩
theorem oldD_app (a b : List GStep) : oldD (a ++ b) = oldD a + oldD b := by simp [oldD]
theorem nowD_app (a b : List GStep) : nowD (a ++ b) = nowD a + nowD b := by simp [nowD]
theorem adjD_app {l : List GStep} {s : GStep} (h : AdjD l) (hs : 0 < l.length → ordBad l[l.length - 1]! s = false) : AdjD (l ++ [s]) := by
  intro k h0 hk
  simp only [List.length_append, List.length_singleton] at hk
  by_cases hkl : k < l.length
  · rw [getS_app (by omega), getS_app hkl]; exact h k h0 hkl
  · have : k = l.length := by omega
    subst this
    rw [getS_app (by omega), getS_app_last]
    exact hs h0
theorem Okk2.mono {a b : Nat} {s : GStep} (h : Okk2 a s) (hab : a ≤ b) : Okk2 b s := ⟨h.1, h.2.1, Nat.le_trans h.2.2.1 hab, h.2.2.2⟩
theorem okA_nil : okA [] := ⟨by simp, fun a ha => by simp at ha⟩
theorem cd_fl {m a r n : Nat} {s : DS} (h : CD m a r n s) : (∀ x ∈ dFl s, Okk2 a x) ∧ AdjD (dFl s) ∧ oldD (dFl s) = r ∧ nowD (dFl s) = n ∧ (dFl s).length ≤ m ∧ (dFl s).length ≤ s.out.length + 2 := by
  have hl := h.len
  have ho := h.olds
  have hn := h.nows
  have key : ∃ l, l = (if 0 < s.adds.length then s.out ++ [⟨1, 0, [], s.adds⟩] else s.out) ∧ (∀ x ∈ l, Okk2 a x) ∧ AdjD l ∧ oldD l = oldD s.out ∧ nowD l = nowD s.out + s.adds.length ∧ l.length ≤ s.out.length + s.adds.length ∧ l.length ≤ s.out.length + 1 ∧ (0 < l.length → l[l.length - 1]!.Kind ≠ 2) := by
    refine ⟨_, rfl, ?_⟩
    by_cases h0 : 0 < s.adds.length
    · rw [if_pos h0]
      have hne : s.adds ≠ [] := fun e => by rw [e] at h0; simp at h0
      refine ⟨fun x hx => ?_, adjD_app h.adj fun hl => ?_, by rw [oldD_app]; simp [oldD, oldS], by rw [nowD_app]; simp [nowD, nowS], by simp; omega, by simp, fun _ => ?_⟩
      · rcases List.mem_append.1 hx with h2 | h2
        · exact h.ok x h2
        · have : x = ⟨1, 0, [], s.adds⟩ := by simpa using h2
          subst this
          exact ⟨.inr (.inr ⟨rfl, rfl, rfl, hne, fun e he => (h.add e he).1⟩), okA_nil, h.al, fun e he => (h.add e he).2⟩
      · have e0 : ∀ p : GStep, p.Kind = 0 → ordBad p ⟨1, 0, [], s.adds⟩ = false := fun p hp => by unfold ordBad; rw [hp]; simp
        exact e0 _ (h.last hl)
      · rw [show (s.out ++ [(⟨1, 0, [], s.adds⟩ : GStep)]).length - 1 = s.out.length by simp, getS_app_last]; simp
    · rw [if_neg h0]
      exact ⟨h.ok, h.adj, rfl, by omega, by omega, by omega, fun hl => by rw [h.last hl]; decide⟩
  obtain ⟨l, hl', k1, k2, k3, k4, k5, k7, k6⟩ := key
  unfold dFl
  rw [← hl']
  by_cases h0 : 0 < s.cuts
  · rw [if_pos h0]
    refine ⟨fun x hx => ?_, adjD_app k2 fun hl => ?_, by rw [oldD_app, k3, ← ho]; simp [oldD, oldS], by rw [nowD_app, k4, ← hn]; simp [nowD, nowS], by simp; omega, by simp; omega⟩
    · rcases List.mem_append.1 hx with h2 | h2
      · exact k1 x h2
      · have : x = ⟨2, s.cuts, [], []⟩ := by simpa using h2
        subst this
        exact ⟨.inr (.inl ⟨rfl, rfl, rfl, by simp only; omega⟩), okA_nil, by simp, by simp⟩
    · have e0 : ∀ p : GStep, p.Kind ≠ 2 → ordBad p ⟨2, s.cuts, [], []⟩ = false := fun p hp => by unfold ordBad; simp [hp]
      exact e0 _ (k6 hl)
  · rw [if_neg h0, List.append_nil]
    exact ⟨k1, k2, by omega, by omega, by omega, by omega⟩
theorem oldD_set : ∀ {l : List GStep} {i : Nat} {s : GStep}, i < l.length → oldD (l.set i s) = oldD l - oldS l[i]! + oldS s ∧ nowD (l.set i s) = nowD l - nowS l[i]! + nowS s
  | x :: l, 0, s, _ => by
    rw [List.set_cons_zero, oldD_cons, oldD_cons, nowD_cons, nowD_cons]
    show _ = _ - oldS x + oldS s ∧ _ = _ - nowS x + nowS s
    omega
  | x :: l, i + 1, s, h => by
    obtain ⟨h1, h2⟩ := oldD_set (l := l) (i := i) (s := s) (by simpa using h)
    rw [List.set_cons_succ, oldD_cons, oldD_cons, nowD_cons, nowD_cons, h1, h2]
    show _ = _ - oldS l[i]! + oldS s ∧ _ = _ - nowS l[i]! + nowS s
    omega
theorem adjD_set {l : List GStep} {i : Nat} {s : GStep} (h : AdjD l) (hi : i < l.length) (hk : s.Kind = l[i]!.Kind) (ha : s.Attrs = l[i]!.Attrs) : AdjD (l.set i s) := by
  intro k h0 hlt
  rw [List.length_set] at hlt
  have e : ∀ j, j < l.length → (l.set i s)[j]!.Kind = l[j]!.Kind ∧ (l.set i s)[j]!.Attrs = l[j]!.Attrs := fun j hj => by
    rw [getElem!_pos (l.set i s) j (by simpa using hj), getElem!_pos l j hj, List.getElem_set]
    split
    · rename_i hij; subst hij; rw [hk, ha, getElem!_pos l i hj]; exact ⟨rfl, rfl⟩
    · exact ⟨rfl, rfl⟩
  have := h k h0 hlt
  unfold ordBad at this ⊢
  rw [(e _ (by omega)).1, (e _ (by omega)).2, (e k hlt).1, (e k hlt).2]
  exact this
theorem cd_bump {a : Nat} {l : List GStep} {t : List GAttr} {n : Int} (h1 : ∀ x ∈ l, Okk2 a x) (h2 : AdjD l) (hn : 1 ≤ n) (ht : attrErr t true = 0) (hta : okA t) : (∀ x ∈ bumpDn l t n, Okk2 a x) ∧ AdjD (bumpDn l t n) ∧ oldD (bumpDn l t n) = oldD l + n ∧
    nowD (bumpDn l t n) = nowD l + n ∧ (bumpDn l t n).length ≤ l.length + 1 ∧ 0 < (bumpDn l t n).length ∧ (bumpDn l t n)[(bumpDn l t n).length - 1]!.Kind = 0 := by
  unfold bumpDn
  split
  · rename_i hc
    have hlt : l.length - 1 < l.length := by omega
    have hm := h1 _ (mem_at hlt)
    have hk0 : (l[l.length - 1]!.Elems = [] ∧ 1 ≤ l[l.length - 1]!.N ∧ attrErr l[l.length - 1]!.Attrs true = 0) := by
      rcases hm.1 with ⟨k, e, n1, a1⟩ | ⟨k, _⟩ | ⟨k, _⟩
      · exact ⟨e, n1, a1⟩
      · rw [hc.2.1] at k; cases k
      · rw [hc.2.1] at k; cases k
    obtain ⟨e1, e2⟩ := oldD_set (l := l) (i := l.length - 1) (s := ⟨l[l.length - 1]!.Kind, l[l.length - 1]!.N + n, l[l.length - 1]!.Attrs, l[l.length - 1]!.Elems⟩) hlt
    refine ⟨fun x hx => ?_, adjD_set h2 hlt rfl rfl, ?_, ?_, by rw [List.length_set]; omega, by rw [List.length_set]; omega, ?_⟩
    · rcases List.mem_or_eq_of_mem_set hx with h3 | h3
      · exact h1 x h3
      · subst h3
        exact ⟨.inl ⟨hc.2.1, hk0.1, by simp only; omega, hk0.2.2⟩, hm.2.1, hm.2.2.1, hm.2.2.2⟩
    · rw [e1]; unfold oldS; simp only [hc.2.1]; simp; omega
    · rw [e2]; unfold nowS; simp only [hc.2.1]; simp; omega
    · rw [List.length_set, getElem!_pos _ _ (by simpa using hlt), List.getElem_set_self]; exact hc.2.1
  · rename_i hc
    refine ⟨fun x hx => ?_, adjD_app h2 fun hl => ?_, by rw [oldD_app]; simp [oldD, oldS], by rw [nowD_app]; simp [nowD, nowS], by simp, by simp, ?_⟩
    · rcases List.mem_append.1 hx with h3 | h3
      · exact h1 x h3
      · have : x = ⟨0, n, t, []⟩ := by simpa using h3
        subst this
        exact ⟨.inl ⟨rfl, rfl, hn, ht⟩, hta, by simp, by simp⟩
    · unfold ordBad
      generalize l[l.length - 1]! = p at hc ⊢
      by_cases h3 : p.Kind = 0
      · have h4 : ¬ p.Attrs = t := fun e => hc ⟨hl, h3, e⟩
        simp [h3, h4]
      · simp [h3]
    · rw [show (l ++ [(⟨0, n, t, []⟩ : GStep)]).length - 1 = l.length by simp, getS_app_last]
theorem cd_step {m a r n : Nat} {s : DS} (h : CD m a r n s) {u : Un} (hu : OkUn u) : CD (m + 1) (a + (if u.isR then 0 else 1)) (r + (if u.isR then 1 else 0)) (n + (if isNow u then 1 else 0)) (dU s u) := by
  have hl := h.len
  have ho := h.olds
  have hn := h.nows
  have ha := h.al
  match u, hu with
  | .a e, he =>
    have e1 : (if (Un.a e).isR = true then 0 else 1) = 1 := rfl
    have e2 : (if (Un.a e).isR = true then 1 else 0) = 0 := rfl
    have e3 : (if isNow (Un.a e) = true then 1 else 0) = 1 := rfl
    rw [e1, e2, e3]
    refine ⟨fun x hx => (h.ok x hx).mono (by omega), h.adj, h.last, fun y hy => ?_, ho, by simp [dU]; omega, by simp [dU]; omega, by simp [dU]; omega⟩
    rcases List.mem_append.1 hy with h1 | h1
    · exact h.add y h1
    · have : y = e := by simpa using h1
      subst this; exact he
  | .r true t, ht =>
    have e1 : (if (Un.r true t).isR = true then 0 else 1) = 0 := rfl
    have e2 : (if (Un.r true t).isR = true then 1 else 0) = 1 := rfl
    have e3 : (if isNow (Un.r true t) = true then 1 else 0) = 0 := rfl
    rw [e1, e2, e3]
    exact ⟨h.ok, h.adj, h.last, h.add, by simp [dU]; omega, hn, by simp [dU]; omega, ha⟩
  | .r false t, ht =>
    have e1 : (if (Un.r false t).isR = true then 0 else 1) = 0 := rfl
    have e2 : (if (Un.r false t).isR = true then 1 else 0) = 1 := rfl
    have e3 : (if isNow (Un.r false t) = true then 1 else 0) = 1 := rfl
    rw [e1, e2, e3]
    obtain ⟨k1, k2, k3, k4, k5, _⟩ := cd_fl h
    obtain ⟨j1, j2, j3, j4, j5, j6, j7⟩ := cd_bump (n := 1) k1 k2 (by omega) (ht.1 rfl) ht.2
    refine ⟨j1, j2, fun _ => j7, by simp [dU], ?_, ?_, ?_, by simp [dU]⟩
    · show oldD (bumpDn (dFl s) t 1) + ((0 : Nat) : Int) = _
      omega
    · show nowD (bumpDn (dFl s) t 1) + ((0 : Nat) : Int) = _
      omega
    · show (bumpDn (dFl s) t 1).length + 0 + 0 ≤ _
      omega
theorem cd_steps : ∀ {us : List Un} {m a r n : Nat} {s : DS}, CD m a r n s → (∀ u ∈ us, OkUn u) → CD (m + us.length) (a + cntA us) (r + cntR us) (n + cntN us) (us.foldl dU s)
  | [], _, _, _, _, _, h, _ => by simpa [cntA, cntR, cntN] using h
  | u :: us, m, a, r, n, s, h, hu => by
    have := cd_steps (us := us) (cd_step h (hu u (List.mem_cons_self ..))) fun v hv => hu v (List.mem_cons_of_mem _ hv)
    have e1 : cntA (u :: us) = (if u.isR then 0 else 1) + cntA us := by unfold cntA; rw [List.countP_cons]; cases u.isR <;> simp <;> omega
    have e2 : cntR (u :: us) = (if u.isR then 1 else 0) + cntR us := by unfold cntR; rw [List.countP_cons]; omega
    have e3 : cntN (u :: us) = (if isNow u then 1 else 0) + cntN us := by unfold cntN; rw [List.countP_cons]; omega
    rw [List.foldl_cons, e1, e2, e3, List.length_cons, show m + (us.length + 1) = m + 1 + us.length by omega, ← Nat.add_assoc, ← Nat.add_assoc, ← Nat.add_assoc]
    exact this
def D0 : DS := ⟨[], [], 0⟩
def dOn (us : List Un) : DS := us.foldl dU D0
theorem dOn_cd {us : List Un} (h : ∀ u ∈ us, OkUn u) : CD us.length (cntA us) (cntR us) (cntN us) (dOn us) := by
  have := cd_steps cd_nil h
  simp only [Nat.zero_add] at this
  exact this
end Go.Proofs.Ytdeglnbioiicaaa.Al


namespace Go.Proofs.Ytdeglnbioiicaaa.Al
def VA (ch : Bool) (e : GAttr) : Prop := nameOK e.Name = true ∧ (valOK e.Value = true ∨ (ch = true ∧ e.Value = []))
theorem attrErr_iff (l : List GAttr) (ch : Bool) : attrErr l ch = 0 ↔ Srt l ∧ ∀ e ∈ l, VA ch e := by
  constructor
  · intro h
    refine ⟨(good_of h).1, fun e he => ?_⟩
    obtain ⟨k, hk, rfl⟩ := List.mem_iff_getElem.1 he
    have hn : errA l ch k = none := by
      unfold attrErr at h
      cases hf : (List.range l.length).findSome? (errA l ch) with
      | none => exact (findSome_none_iff _ _).1 hf k hk
      | some r =>
        rw [hf] at h
        obtain ⟨j, _, hj⟩ := List.exists_of_findSome?_eq_some hf
        exfalso
        unfold errA at hj
        simp only [Option.getD_some] at h
        subst h
        repeat' split at hj
        all_goals simp at hj
    unfold errA at hn
    rw [getElem!_pos l k hk] at hn
    generalize l[k] = x at hn ⊢
    unfold VA
    by_cases c1 : nameOK x.Name = false
    · rw [if_pos c1] at hn; cases hn
    · rw [if_neg c1] at hn
      by_cases c2 : valOK x.Value = false ∧ ¬ (ch = true ∧ x.Value = [])
      · rw [if_pos c2] at hn; cases hn
      · refine ⟨by simpa using c1, ?_⟩
        by_cases c3 : valOK x.Value = true
        · exact .inl c3
        · exact .inr (Classical.byContradiction fun h3 => c2 ⟨by simpa using c3, h3⟩)
  · rintro ⟨hs, hv⟩
    unfold attrErr
    have : (List.range l.length).findSome? (errA l ch) = none := by
      rw [List.findSome?_eq_none_iff]
      intro k hk
      have hk := List.mem_range.1 hk
      have h1 := hv _ (mem_at hk)
      unfold errA
      unfold VA at h1
      rw [if_neg (by rw [h1.1]; simp), if_neg (by rintro ⟨a1, a2⟩; rcases h1.2 with h2 | h2; rw [a1] at h2; cases h2; exact a2 h2), if_neg]
      rintro ⟨h0, h2⟩
      have := List.pairwise_iff_getElem.1 hs (k - 1) k (by omega) hk (by omega)
      rw [getElem!_pos l k hk, getElem!_pos l (k - 1) (by omega)] at h2
      rw [this] at h2; cases h2
    rw [this]; rfl
theorem srt_mem : ∀ {l : List GAttr}, Srt l → ∀ e ∈ l, fnd l e.Name = some e
  | [], _, e, h => by simp at h
  | x :: l, hs, e, h => by
    obtain ⟨h1, h2⟩ := srt_cons.1 hs
    rcases List.mem_cons.1 h with rfl | h
    · unfold fnd; rw [if_pos rfl]
    · have := ne_of_sLt (h1 e h)
      unfold fnd; rw [if_neg (Ne.symm this)]
      exact srt_mem h2 e h
theorem both_err {stp : GAttr → GAttr → List GAttr → List GAttr} {g : GAttr → GAttr → List GAttr} {G : Option GAttr → Option GAttr → Option GAttr} (h : ∀ x y o, stp x y o = o ++ g x y) (hg : GOK g G) {a b : List GAttr} {ca cb ch : Bool}
    (ha : attrErr a ca = 0) (hb : attrErr b cb = 0) (hG : ∀ x y e, (∀ z, x = some z → VA ca z) → (∀ z, y = some z → VA cb z) → G x y = some e → VA ch e) : attrErr (bothL stp a b []) ch = 0 := by
  obtain ⟨s1, v1⟩ := (attrErr_iff a ca).1 ha
  obtain ⟨s2, v2⟩ := (attrErr_iff b cb).1 hb
  obtain ⟨k1, k2⟩ := spec_of h hg s1 s2 (good_of ha).2.1 (good_of hb).2.1
  refine (attrErr_iff _ _).2 ⟨k1, fun e he => ?_⟩
  have h1 := srt_mem k1 e he
  rw [k2] at h1
  exact hG _ _ e (fun z hz => v1 z (fnd_name hz).2) (fun z hz => v2 z (fnd_name hz).2) h1
theorem raw_err {a b : List GAttr} (ha : attrErr a false = 0) (hb : attrErr b true = 0) : attrErr (rawA a b) false = 0 :=
  both_err stpRaw_g gRaw_ok ha hb fun x y e hx hy h => by
    unfold GRaw at h
    split at h
    · exact hx e h
    · split at h
      · cases h
      · rename_i hv
        cases h
        have := hy e rfl
        exact ⟨this.1, .inl (by rcases this.2 with h2 | h2; exact h2; exact absurd h2.2 hv)⟩
theorem rawA_len (a b : List GAttr) : (rawA a b).length ≤ a.length + b.length := by
  have := bothL_len stpRaw stpRaw_len _ a b [] rfl
  simpa [rawA] using this
theorem both_len (a b : List GAttr) : (bothL stpBoth a b []).length ≤ a.length + b.length := by
  have := bothL_len stpBoth stpBoth_len _ a b [] rfl
  simpa using this
theorem cd_N {a : Nat} : ∀ {l : List GStep}, (∀ x ∈ l, Okk2 a x) → 0 ≤ oldD l ∧ 0 ≤ nowD l ∧ (∀ x ∈ l, 0 ≤ x.N ∧ x.N ≤ oldD l)
  | [], _ => by simp [oldD, nowD]
  | x :: l, hx => by
    obtain ⟨i1, i2, i3⟩ := cd_N (l := l) fun s hs => hx s (List.mem_cons_of_mem _ hs)
    have hxx := (hx x (List.mem_cons_self ..)).1
    rw [oldD_cons, nowD_cons]
    have hz : 0 ≤ oldS x ∧ 0 ≤ nowS x ∧ 0 ≤ x.N ∧ x.N ≤ oldS x := by
      unfold oldS nowS
      rcases hxx with ⟨k, e, n1, _⟩ | ⟨k, e, _, n1⟩ | ⟨k, n1, _⟩
      · rw [if_neg (by omega), if_neg (by omega), if_neg (by omega)]; omega
      · rw [if_neg (by omega), if_pos (by omega)]; omega
      · rw [if_pos k, if_neg (by omega), if_pos k]; omega
    refine ⟨by omega, by omega, fun y hy => ?_⟩
    rcases List.mem_cons.1 hy with rfl | hy
    · omega
    · have := i3 y hy; omega
end Go.Proofs.Ytdeglnbioiicaaa.Al


namespace Go.Proofs.Ytdeglnbioiicaaa.Al
def OkF (f : List GElem) : Prop := ∀ e ∈ f, elemErr e = 0 ∧ e.Attrs.length ≤ 1048576
def OkU2 (us : List Un) : Prop := ∀ u ∈ us, match u with | .a e => elemErr e = 0 ∧ e.Attrs.length ≤ 1048576 | .r c t => (c = false → attrErr t true = 0) ∧ t.length ≤ 1048576
def OkFA (f : List GElem) : Prop := ∀ e ∈ f, attrErr e.Attrs false = 0 ∧ e.Attrs.length ≤ 1048576
theorem okE_attrs {e : GElem} (h : elemErr e = 0) : attrErr e.Attrs false = 0 := elem_attrs h
theorem OkF.fa {f : List GElem} (h : OkF f) : OkFA f := fun e he => ⟨okE_attrs (h e he).1, (h e he).2⟩
theorem from_mem {x : Ref_Act} (h : WfA x) {k : Nat} (hk : k < x.Cuts.length) : Un.r x.Cuts[k]! x.Attrs[k]! ∈ x.us := by
  obtain ⟨p, hp⟩ := from_sub x k h (by omega)
  rw [from_at h hk] at hp
  rw [hp]; simp
theorem changed_raw {l t : List GAttr} (h1 : attrErr l false = 0) (h2 : attrErr t true = 0) (b1 : l.length ≤ 1048576) (b2 : t.length ≤ 1048576) : ref_Changed l t = some (rawA l t) := by
  rw [ref_Changed_eq l t (good_of h1).1 (good_of h2).1 (by omega), ← raw_changed h1 h2]; rfl
theorem ref_Done_eqA (f : List GElem) (x : Ref_Act) (h : WfA x) (hl : x.Cuts.length = f.length) (hf : OkFA f) (hu : OkU2 x.us) (hb : x.us.length ≤ 4294967296) : ref_Done f x = some (doneU x.us f) := by
  unfold ref_Done
  have ha := h.adds
  have ht := h.attrs
  have hdl := doneU_len x.us f
  have hcl := h.cuts_le
  have key : ∃ r, iter (fun (a : Int × (List GElem)) => ref_Done_L1 f x a.1 a.2) (0, []) = some r ∧ r ++ x.Adds[f.length]! = doneU x.us f := by
    refine iter_hoare f.length (fun k st => st.1 = (k : Int) ∧ st.2 ++ doneU (x.from_ k) (f.drop k) = doneU x.us f) _ ?_ ?_ ⟨rfl, rfl⟩
    · rintro k ⟨i, out⟩ hk ⟨rfl, hd⟩
      dsimp only at hd
      have hA := h.add_le (k := k) (by omega)
      rw [from_at h (by omega), drop_at hk, doneU_a, ← List.append_assoc] at hd
      have hl2 := congrArg List.length hd
      rw [List.length_append, List.length_append] at hl2
      have hm := hu _ (from_mem h (k := k) (by omega))
      dsimp only at hm
      have hfe := hf _ (mem_at hk)
      refine .inl ?_
      show ∃ s', ref_Done_L1 f x (k : Int) out = _ ∧ _
      unfold ref_Done_L1
      rw [if_pos (by simpa using hk), idx_nat (l := x.Adds) (by omega), bnd1_some, app40 (by omega), bnd1_some, idx_nat (l := x.Cuts) (by omega), bnd1_some]
      cases hc : x.Cuts[k]! with
      | true =>
        rw [hc] at hd
        rw [if_neg (by decide), bnd1_some, chk_nat (by omega), bnd1_some]
        exact ⟨_, rfl, rfl, hd⟩
      | false =>
        rw [hc] at hd hm
        rw [if_pos (by decide), idx_nat hk, bnd1_some, idx_nat (l := x.Attrs) (by omega), bnd1_some, changed_raw hfe.1 (hm.1 rfl) hfe.2 hm.2, bnd1_some]
        rw [app40 (by rw [List.length_append, List.length_singleton]; omega), bnd1_some, bnd1_some, chk_nat (by omega), bnd1_some]
        refine ⟨_, rfl, rfl, ?_⟩
        rw [← hd]
        simp only [doneU, List.append_assoc, List.singleton_append]
        rfl
    · rintro ⟨i, out⟩ ⟨rfl, hd⟩
      dsimp only at hd
      refine ⟨out, ?_, ?_⟩
      · show ref_Done_L1 f x (f.length : Int) out = _
        unfold ref_Done_L1
        rw [if_neg (by simp)]
      · rw [← hl, from_end h] at hd
        have := doneU_a x.Adds[x.Cuts.length]! [] (f.drop x.Cuts.length)
        rw [List.append_nil] at this
        rw [this] at hd
        rw [← hd, ← hl]
        simp [doneU]
  obtain ⟨r, h1, h2⟩ := key
  have hl3 := congrArg List.length h2
  rw [List.length_append] at hl3
  rw [h1, bnd1_some, idx_nat (l := x.Adds) (by omega), bnd1_some, app40 (by omega), bnd1_some, h2]
def backA (x : GElem) (t : List GAttr) : List GAttr := bothL stpChange (rawA x.Attrs t) x.Attrs []
def backU : List Un → List GElem → List Un
  | .a _ :: us, f => .r true [] :: backU us f
  | .r true _ :: us, x :: f => .a x :: backU us f
  | .r false t :: us, x :: f => .r false (backA x t) :: backU us f
  | .r _ _ :: _, [] => []
  | [], _ => []
theorem backU_a (A : List GElem) (us : List Un) (f : List GElem) : backU (A.map Un.a ++ us) f = List.replicate A.length (.r true []) ++ backU us f := by
  induction A with
  | nil => rfl
  | cons e A ih => simp only [List.map_cons, List.cons_append, backU, ih, List.length_cons, List.replicate_succ]
theorem backU_len : ∀ (us : List Un) (f : List GElem), (backU us f).length ≤ us.length := by
  intro us f
  fun_induction backU us f <;> simp_all <;> omega
theorem ref_Back_L2_eq (B : List GElem) (x : Ref_Act) (h : WfA x) (hb : x.us.length + B.length ≤ 8589934592) :
    ∃ y, iter (fun (a : Int × Ref_Act) => ref_Back_L2 B a.1 a.2) (0, x) = some y ∧ WfA y ∧ y.us = x.us ++ List.replicate B.length (.r true []) := by
  refine iter_hoare B.length (fun k st => st.1 = (k : Int) ∧ WfA st.2 ∧ st.2.us = x.us ++ List.replicate k (.r true [])) _ ?_ ?_ ⟨rfl, h, by simp⟩
  · rintro k ⟨i, y⟩ hk ⟨rfl, hy, hu⟩
    dsimp only at hy hu
    refine .inl ⟨(((k + 1 : Nat) : Int), ⟨y.Adds ++ [[]], y.Cuts ++ [true], y.Attrs ++ [[]]⟩), ?_, rfl, (push_row hy _ _).1, (push_row hy _ _).2.trans (by rw [hu, List.append_assoc, ← List.replicate_succ'])⟩
    have hl : y.us.length = x.us.length + k := by rw [hu]; simp
    have hc := hy.cuts_le
    have ha := hy.adds
    have ht := hy.attrs
    show ref_Back_L2 B (k : Int) y = _
    unfold ref_Back_L2
    rw [if_pos (by simp; omega), app24 (by omega), bnd1_some, app1c (by omega), bnd1_some, app24 (by omega), bnd1_some, chk_nat (by omega), bnd1_some]
  · rintro ⟨i, y⟩ ⟨rfl, hy, hu⟩
    dsimp only at hy hu
    refine ⟨_, ?_, hy, hu⟩
    show ref_Back_L2 B (B.length : Int) y = _
    unfold ref_Back_L2
    rw [if_neg (by simp)]
theorem between_back {x : GElem} {t : List GAttr} (h1 : attrErr x.Attrs false = 0) (h2 : attrErr t true = 0) (b1 : x.Attrs.length ≤ 1048576) (b2 : t.length ≤ 1048576) : ref_Between (rawA x.Attrs t) x.Attrs = some (backA x t) := by
  have e := raw_err h1 h2
  have l2 := rawA_len x.Attrs t
  have g1 := good_of e
  have g2 := good_of h1
  rw [ref_Between_eq _ _ g1.1 g2.1 (by omega), ← change_between g1.1 g2.1 g1.2.1 g2.2.1 (g1.2.2 rfl) (g2.2.2 rfl)]; rfl
theorem ref_Back_eqA (f : List GElem) (x : Ref_Act) (h : WfA x) (hl : x.Cuts.length = f.length) (hf : OkFA f) (hu : OkU2 x.us) (hb : x.us.length ≤ 4294967296) : ∃ y, ref_Back f x = some y ∧ WfA y ∧ y.us = backU x.us f := by
  unfold ref_Back
  have ha := h.adds
  have ht := h.attrs
  have hbl := backU_len x.us f
  have hcl := h.cuts_le
  have key : ∃ y, iter (fun (a : Int × Ref_Act) => ref_Back_L1 f x a.1 a.2) (0, ⟨[[]], [], []⟩) = some y ∧ (WfA y ∧ y.us = backU x.us f) := by
    refine iter_hoare f.length (fun k st => st.1 = (k : Int) ∧ WfA st.2 ∧ st.2.us ++ backU (x.from_ k) (f.drop k) = backU x.us f) _ ?_ ?_ ⟨rfl, wfA_nil, by rw [us_nil]; rfl⟩
    · rintro k ⟨i, y⟩ hk ⟨rfl, hy, hd⟩
      dsimp only at hy hd
      have hA := h.add_le (k := k) (by omega)
      rw [from_at h (by omega), drop_at hk, backU_a, ← List.append_assoc] at hd
      have hl2 := congrArg List.length hd
      rw [List.length_append, List.length_append, List.length_replicate] at hl2
      have hm := hu _ (from_mem h (k := k) (by omega))
      dsimp only at hm
      have hfe := hf _ (mem_at hk)
      obtain ⟨z, z1, z2, z3⟩ := ref_Back_L2_eq x.Adds[k]! y hy (by omega)
      have hzl : z.us.length = y.us.length + x.Adds[k]!.length := by rw [z3]; simp
      have hzc := z2.cuts_le
      have hza := z2.adds
      have hzt := z2.attrs
      rw [← z3] at hd
      refine .inl ?_
      show ∃ s', ref_Back_L1 f x (k : Int) y = _ ∧ _
      unfold ref_Back_L1
      rw [if_pos (by simp; omega), idx_nat (l := x.Adds) (by omega), bnd1_some, z1, bnd1_some, if_neg (by simp; omega), last_add z2 (by omega), bnd1_some, idx_nat (l := x.Cuts) (by omega), bnd1_some]
      cases hc : x.Cuts[k]! with
      | true =>
        rw [hc] at hd
        have hlt : z.Cuts.length < z.Adds.length := by omega
        have hAz := z2.add_le hlt
        rw [if_pos rfl, idx_nat hlt, bnd1_some, app40 (by rw [List.length_nil]; omega), bnd1_some, List.nil_append, idx_nat hk, bnd1_some, app40 (by rw [List.length_singleton]; omega), bnd1_some, ctl1_nrm, chk_nat (by omega), bnd1_some, set_eq]
        obtain ⟨p1, p2⟩ := push_add z2 [f[k]!]
        refine ⟨_, rfl, rfl, p1, ?_⟩
        dsimp only
        rw [p2, List.append_assoc]; exact hd
      | false =>
        rw [hc] at hd hm
        rw [if_neg (by decide), idx_nat hk, bnd1_some, idx_nat (l := x.Attrs) (by omega), bnd1_some, changed_raw hfe.1 (hm.1 rfl) hfe.2 hm.2, bnd1_some, between_back hfe.1 (hm.1 rfl) hfe.2 hm.2, bnd1_some,
          app24 (by omega), bnd1_some, app1c (by omega), bnd1_some, app24 (by omega), bnd1_some, ctl1_nrm, chk_nat (by omega), bnd1_some]
        obtain ⟨p1, p2⟩ := push_row z2 false (backA f[k]! x.Attrs[k]!)
        refine ⟨_, rfl, rfl, p1, ?_⟩
        dsimp only
        rw [p2, List.append_assoc]; exact hd
    · rintro ⟨i, y⟩ ⟨rfl, hy, hd⟩
      dsimp only at hy hd
      have hA := h.add_le (k := f.length) (by omega)
      rw [← hl, from_end h] at hd
      have e := backU_a x.Adds[x.Cuts.length]! [] (f.drop x.Cuts.length)
      rw [List.append_nil] at e
      rw [e, hl] at hd
      have hl2 := congrArg List.length hd
      rw [List.length_append, List.length_append, List.length_replicate] at hl2
      obtain ⟨z, z1, z2, z3⟩ := ref_Back_L2_eq x.Adds[f.length]! y hy (by omega)
      refine ⟨z, ?_, z2, ?_⟩
      · show ref_Back_L1 f x (f.length : Int) y = _
        unfold ref_Back_L1
        rw [if_pos (by simp), idx_nat (l := x.Adds) (by omega), bnd1_some, z1, bnd1_some, if_pos (by simp), ctl1_ext]
      · rw [z3, ← hd]; simp [backU]
  obtain ⟨y, h1, h2⟩ := key
  exact ⟨y, by rw [h1]; rfl, h2⟩
end Go.Proofs.Ytdeglnbioiicaaa.Al


namespace Go.Proofs.Ytdeglnbioiicaaa.Al
end Go.Proofs.Ytdeglnbioiicaaa.Al


namespace Go.Proofs.Ytdeglnbioiicaaa.Al
structure SmD (d : List GStep) : Prop where
  at_ : ∀ s ∈ d, s.Attrs.length ≤ 1048576
  ea : ∀ s ∈ d, ∀ e ∈ s.Elems, e.Attrs.length ≤ 1048576
  sum : (d.map fun s => s.Elems.length).sum ≤ 1048576
  len : d.length ≤ 1048576
theorem cntN_le (us : List Un) : cntN us ≤ us.length := List.countP_le_length
end Go.Proofs.Ytdeglnbioiicaaa.Al


namespace Go.Proofs.Ytdeglnbioiicaaa.Al
def OkU3 (us : List Un) : Prop := ∀ u ∈ us, match u with | .a e => elemErr e = 0 ∧ e.Attrs.length ≤ 1048576 | .r c t => (c = false → attrErr t true = 0) ∧ (c = true → t = []) ∧ t.length ≤ 1048576
theorem OkU3.two {us : List Un} (h : OkU3 us) : OkU2 us := by
  intro u hu
  have := h u hu
  match u, this with
  | .a e, he => exact he
  | .r c t, ht => exact ⟨ht.1, ht.2.2⟩
def szS (s : GStep) : Int := if s.Kind = 1 then s.Elems.length else s.N
structure RdD (p : Delta_Reader) : Prop where
  stp : ∀ s ∈ p.steps, GoodS s ∧ OkSt s
  u0 : 0 ≤ p.used
  fit : ∀ s rest, p.steps = s :: rest → p.used < szS s
theorem attrErr_nil : attrErr [] true = 0 := by decide
end Go.Proofs.Ytdeglnbioiicaaa.Al


namespace Go.Proofs.Ytdeglnbioiicaaa.Al
theorem law_axes_eq : law_axes = some true := by
  unfold law_axes
  rw [axis_Apply_eq _ _ (by decide) (by decide)]
  have e : axErr [GAxisStep.mk 0 2, GAxisStep.mk 1 3, GAxisStep.mk 0 1] = 0 := by decide +kernel
  rw [e, if_neg (by decide)]
  have e2 : apo [GAxisStep.mk 0 2, GAxisStep.mk 1 3, GAxisStep.mk 0 1] (oldLen [GAxisStep.mk 0 2, GAxisStep.mk 1 3, GAxisStep.mk 0 1]) [1, 2] [] = .nrm [1, 5] := by rfl
  rw [e2]
  simp only [ctl1_nrm, bnd2_some]
  rw [ref_SameInts_eq _ _ (by decide)]
  rfl
end Go.Proofs.Ytdeglnbioiicaaa.Al


namespace Go.Proofs.Ytdeglnbioiicaaa.Al
end Go.Proofs.Ytdeglnbioiicaaa.Al


namespace Go.Proofs.Ytdeglnbioiicaaa.Al
def bumpA (l : List GAxisStep) (n : Int) : List GAxisStep :=
  if 0 < l.length ∧ l[l.length - 1]!.Kind = 0 then l.set (l.length - 1) ⟨l[l.length - 1]!.Kind, l[l.length - 1]!.N + n⟩ else l ++ [⟨0, n⟩]
def wFl (w : Axis_Writer) : List GAxisStep := (if 0 < w.add then w.out ++ [⟨1, w.add⟩] else w.out) ++ (if 0 < w.cut then [⟨2, w.cut⟩] else [])
def putP (w : Axis_Writer) (k n : Int) : Axis_Writer := if n = 0 then w else if k = 1 then ⟨w.out, w.add + n, w.cut⟩ else if k = 2 then ⟨w.out, w.add, w.cut + n⟩ else ⟨bumpA (wFl w) n, 0, 0⟩
def wU (w : Axis_Writer) : Un → Axis_Writer
  | .a _ => ⟨w.out, w.add + 1, w.cut⟩
  | .r true _ => ⟨w.out, w.add, w.cut + 1⟩
  | .r false _ => ⟨bumpA (wFl w) 1, 0, 0⟩
def xE : GElem := ⟨120, 0, []⟩
def unK (k : Int) : Un := if k = 1 then .a xE else .r (decide (k = 2)) []
theorem sizeLen_app (a b : List GAxisStep) : sizeLen (a ++ b) = sizeLen a + sizeLen b := by simp [sizeLen]
def Adj (l : List GAxisStep) : Prop := ∀ k, k + 1 < l.length → l[k]!.Kind ≠ l[k + 1]!.Kind ∧ ¬ (l[k]!.Kind = 2 ∧ l[k + 1]!.Kind = 1)
theorem getD_app {l : List GAxisStep} {s : GAxisStep} {k : Nat} (h : k < l.length) : (l ++ [s])[k]! = l[k]! := by
  rw [getElem!_pos (l ++ [s]) k (by simp; omega), getElem!_pos l k h, List.getElem_append_left h]
theorem getD_app_last {l : List GAxisStep} {s : GAxisStep} : (l ++ [s])[l.length]! = s := by
  rw [getElem!_pos (l ++ [s]) l.length (by simp)]; simp
theorem adj_app {l : List GAxisStep} {s : GAxisStep} (h : Adj l) (hs : 0 < l.length → l[l.length - 1]!.Kind ≠ s.Kind ∧ ¬ (l[l.length - 1]!.Kind = 2 ∧ s.Kind = 1)) : Adj (l ++ [s]) := by
  intro k hk
  simp only [List.length_append, List.length_singleton] at hk
  by_cases hkl : k + 1 < l.length
  · rw [getD_app (by omega), getD_app hkl]; exact h k hkl
  · have : k + 1 = l.length := by omega
    rw [getD_app (by omega), this, getD_app_last]
    have hs' := hs (by omega)
    rwa [show l.length - 1 = k by omega] at hs'
theorem adj_set {l : List GAxisStep} {i : Nat} {s : GAxisStep} (h : Adj l) (hi : i < l.length) (hs : s.Kind = l[i]!.Kind) : Adj (l.set i s) := by
  intro k hk
  rw [List.length_set] at hk
  have e : ∀ j, j < l.length → (l.set i s)[j]!.Kind = l[j]!.Kind := fun j hj => by
    rw [getElem!_pos (l.set i s) j (by simpa using hj), getElem!_pos l j hj, List.getElem_set]
    split
    · rename_i hij; subst hij; rw [hs, getElem!_pos l i hj]
    · rfl
  rw [e k (by omega), e (k + 1) hk]
  exact h k hk
theorem sizeLen_set : ∀ {l : List GAxisStep} {i : Nat} {s : GAxisStep}, i < l.length → sizeLen (l.set i s) = sizeLen l - l[i]!.N + s.N
  | x :: l, 0, s, _ => by rw [List.set_cons_zero, sizeLen_cons, sizeLen_cons]; show _ = _ - x.N + s.N; omega
  | x :: l, i + 1, s, h => by
    rw [List.set_cons_succ, sizeLen_cons, sizeLen_cons, sizeLen_set (l := l) (by simpa using h)]
    show _ = _ - l[i]!.N + s.N
    omega
def Okk (s : GAxisStep) : Prop := 0 ≤ s.Kind ∧ s.Kind ≤ 2 ∧ 1 ≤ s.N
theorem size_okk : ∀ {l : List GAxisStep}, (∀ s ∈ l, Okk s) → (l.length : Int) ≤ sizeLen l ∧ ∀ s ∈ l, s.N ≤ sizeLen l
  | [], _ => by simp [sizeLen]
  | x :: l, h => by
    obtain ⟨h1, h2⟩ := size_okk (l := l) fun s hs => h s (List.mem_cons_of_mem _ hs)
    have hx := (h x (List.mem_cons_self ..)).2.2
    rw [sizeLen_cons, List.length_cons]
    refine ⟨by omega, fun s hs => ?_⟩
    rcases List.mem_cons.1 hs with rfl | hs
    · omega
    · have := h2 s hs; omega
structure WB (m : Int) (w : Axis_Writer) : Prop where
  a0 : 0 ≤ w.add
  c0 : 0 ≤ w.cut
  ok : ∀ s ∈ w.out, Okk s
  sum : sizeLen w.out + w.add + w.cut = m
  adj : Adj w.out
  last : 0 < w.out.length → w.out[w.out.length - 1]!.Kind = 0
theorem wb_nil : WB 0 ⟨[], 0, 0⟩ := ⟨by decide, by decide, by simp, by simp [sizeLen], fun k hk => by simp at hk, fun h => by simp at h⟩
theorem fl_form {m : Int} {w : Axis_Writer} (h : WB m w) : (∀ s ∈ wFl w, Okk s) ∧ sizeLen (wFl w) = m ∧ Adj (wFl w) := by
  have h1 := h.sum
  have ha := h.a0
  have hc := h.c0
  have key : ∃ l, l = (if 0 < w.add then w.out ++ [⟨1, w.add⟩] else w.out) ∧ (∀ s ∈ l, Okk s) ∧ sizeLen l = sizeLen w.out + w.add ∧ Adj l ∧ (0 < l.length → l[l.length - 1]!.Kind ≠ 2) := by
    refine ⟨_, rfl, ?_⟩
    by_cases h0 : 0 < w.add
    · rw [if_pos h0]
      refine ⟨fun s hs => ?_, by rw [sizeLen_app]; simp [sizeLen], adj_app h.adj fun hl => ?_, fun _ => ?_⟩
      · rcases List.mem_append.1 hs with h2 | h2
        · exact h.ok s h2
        · have : s = ⟨1, w.add⟩ := by simpa using h2
          subst this; exact ⟨by simp, by simp, by simp only; omega⟩
      · rw [h.last hl]; simp
      · rw [show (w.out ++ [(⟨1, w.add⟩ : GAxisStep)]).length - 1 = w.out.length by simp, getD_app_last]; simp
    · rw [if_neg h0]
      exact ⟨h.ok, by omega, h.adj, fun hl => by rw [h.last hl]; decide⟩
  obtain ⟨l, hl, k1, k2, k3, k4⟩ := key
  unfold wFl
  rw [← hl]
  by_cases h0 : 0 < w.cut
  · rw [if_pos h0]
    refine ⟨fun s hs => ?_, by rw [sizeLen_app]; simp [sizeLen]; simp [sizeLen] at k2 h1; omega, adj_app k3 fun hl => ⟨k4 hl, by simp⟩⟩
    rcases List.mem_append.1 hs with h2 | h2
    · exact k1 s h2
    · have : s = ⟨2, w.cut⟩ := by simpa using h2
      subst this; exact ⟨by simp, by simp, by simp only; omega⟩
  · rw [if_neg h0, List.append_nil]
    exact ⟨k1, by omega, k3⟩
theorem bump_form {l : List GAxisStep} {n : Int} (h1 : ∀ s ∈ l, Okk s) (h2 : Adj l) (hn : 1 ≤ n) : (∀ s ∈ bumpA l n, Okk s) ∧ sizeLen (bumpA l n) = sizeLen l + n ∧ Adj (bumpA l n) ∧ 0 < (bumpA l n).length ∧ (bumpA l n)[(bumpA l n).length - 1]!.Kind = 0 := by
  unfold bumpA
  split
  · rename_i hc
    have hlt : l.length - 1 < l.length := by omega
    have hm := h1 _ (mem_at hlt)
    refine ⟨fun s hs => ?_, ?_, adj_set h2 hlt rfl, by rw [List.length_set]; omega, ?_⟩
    · rcases List.mem_or_eq_of_mem_set hs with h3 | h3
      · exact h1 s h3
      · subst h3; exact ⟨hm.1, hm.2.1, by have := hm.2.2; simp only; omega⟩
    · rw [sizeLen_set hlt]; simp only; omega
    · rw [List.length_set, getElem!_pos _ _ (by simpa using hlt), List.getElem_set_self]; exact hc.2
  · rename_i hc
    refine ⟨fun s hs => ?_, by rw [sizeLen_app]; simp [sizeLen], adj_app h2 fun hl => ⟨fun h => hc ⟨hl, h⟩, by simp⟩, by simp, ?_⟩
    · rcases List.mem_append.1 hs with h3 | h3
      · exact h1 s h3
      · have : s = ⟨0, n⟩ := by simpa using h3
        subst this; exact ⟨by simp, by simp, hn⟩
    · rw [show (l ++ [(⟨0, n⟩ : GAxisStep)]).length - 1 = l.length by simp, getD_app_last]
theorem wb_step {m : Int} {w : Axis_Writer} (h : WB m w) (u : Un) : WB (m + 1) (wU w u) := by
  have hs := h.sum
  have ha := h.a0
  have hc := h.c0
  match u with
  | .a e => exact ⟨by show 0 ≤ w.add + 1; omega, hc, h.ok, by show sizeLen w.out + (w.add + 1) + w.cut = _; omega, h.adj, h.last⟩
  | .r true t => exact ⟨ha, by show 0 ≤ w.cut + 1; omega, h.ok, by show sizeLen w.out + w.add + (w.cut + 1) = _; omega, h.adj, h.last⟩
  | .r false t =>
    obtain ⟨k1, k2, k3⟩ := fl_form h
    obtain ⟨j1, j2, j3, j4, j5⟩ := bump_form (n := 1) k1 k3 (by omega)
    exact ⟨by show (0 : Int) ≤ 0; omega, by show (0 : Int) ≤ 0; omega, j1, by show sizeLen (bumpA (wFl w) 1) + 0 + 0 = _; omega, j3, fun _ => j5⟩
theorem wb_steps : ∀ {us : List Un} {m : Int} {w : Axis_Writer}, WB m w → WB (m + us.length) (us.foldl wU w)
  | [], m, w, h => by simpa using h
  | u :: us, m, w, h => by
    have := wb_steps (us := us) (wb_step h u)
    rw [List.foldl_cons, List.length_cons, show m + ((us.length + 1 : Nat) : Int) = m + 1 + us.length by omega]
    exact this
theorem wFl_zero (l : List GAxisStep) : wFl ⟨l, 0, 0⟩ = l := by simp [wFl]
theorem bump_bump (l : List GAxisStep) (m n : Int) : bumpA (bumpA l m) n = bumpA l (m + n) := by
  have e1 : bumpA l m = bumpA l m := rfl
  unfold bumpA
  by_cases hc : 0 < l.length ∧ l[l.length - 1]!.Kind = 0
  · have hlt : l.length - 1 < l.length := by omega
    have hg : (l.set (l.length - 1) (⟨l[l.length - 1]!.Kind, l[l.length - 1]!.N + m⟩ : GAxisStep))[l.length - 1]! = ⟨l[l.length - 1]!.Kind, l[l.length - 1]!.N + m⟩ := by
      rw [getElem!_pos _ _ (by simpa using hlt), List.getElem_set_self]
    rw [if_pos hc, if_pos hc, List.length_set, hg, if_pos ⟨hc.1, hc.2⟩, List.set_set]
    simp only [Int.add_assoc]
  · rw [if_neg hc, if_neg hc]
    rw [show (l ++ [(⟨0, m⟩ : GAxisStep)]).length - 1 = l.length by simp, getD_app_last, if_pos ⟨by simp, rfl⟩]
    simp
theorem putP_units (w : Axis_Writer) (k n : Int) (h : 0 ≤ n) : putP w k n = (List.replicate n.toNat (unK k)).foldl wU w := by
  have hA : ∀ (j : Nat) (w : Axis_Writer), (List.replicate j (Un.a xE)).foldl wU w = ⟨w.out, w.add + j, w.cut⟩ := by
    intro j
    induction j with
    | zero => intro w; simp
    | succ j ih => intro w; rw [List.replicate_succ, List.foldl_cons, ih]; simp only [wU]; congr 1; omega
  have hC : ∀ (j : Nat) (w : Axis_Writer), (List.replicate j (Un.r true [])).foldl wU w = ⟨w.out, w.add, w.cut + j⟩ := by
    intro j
    induction j with
    | zero => intro w; simp
    | succ j ih => intro w; rw [List.replicate_succ, List.foldl_cons, ih]; simp only [wU]; congr 1; omega
  have hK : ∀ (j : Nat) (l : List GAxisStep) (n : Int), (List.replicate j (Un.r false [])).foldl wU ⟨bumpA l n, 0, 0⟩ = ⟨bumpA l (n + j), 0, 0⟩ := by
    intro j
    induction j with
    | zero => intro l n; simp
    | succ j ih =>
      intro l n
      rw [List.replicate_succ, List.foldl_cons]
      simp only [wU, wFl_zero]
      rw [bump_bump, ih, show n + 1 + (j : Int) = n + ((j + 1 : Nat) : Int) by omega]
  unfold putP unK
  by_cases hn : n = 0
  · subst hn; simp
  · rw [if_neg hn]
    by_cases h1 : k = 1
    · rw [if_pos h1, if_pos h1, hA, show ((n.toNat : Nat) : Int) = n by omega]
    · rw [if_neg h1, if_neg h1]
      by_cases h2 : k = 2
      · rw [if_pos h2, decide_eq_true h2, hC, show ((n.toNat : Nat) : Int) = n by omega]
      · rw [if_neg h2, decide_eq_false h2]
        obtain ⟨j, hj⟩ : ∃ j, n.toNat = j + 1 := ⟨n.toNat - 1, by omega⟩
        rw [hj, List.replicate_succ, List.foldl_cons]
        simp only [wU]
        rw [hK, show (1 : Int) + j = n by omega]
theorem axis_flush_eq {m : Int} {w : Axis_Writer} (h : WB m w) (hm : m ≤ 1000000000000) : axis_writer_flush w = some ⟨wFl w, 0, 0⟩ := by
  have hs := h.sum
  have ha := h.a0
  have hc := h.c0
  have hl := (size_okk h.ok).1
  unfold axis_writer_flush wFl
  by_cases h1 : 0 < w.add
  · rw [if_pos (by rw [decide_eq_true_eq]; exact h1), app16s (by omega), if_pos h1]
    simp only [bnd1_some]
    by_cases h2 : 0 < w.cut
    · rw [if_pos (by rw [decide_eq_true_eq]; exact h2), app16s (by rw [List.length_append, List.length_singleton]; omega), if_pos h2]; rfl
    · rw [if_neg (by rw [decide_eq_true_eq]; exact h2), if_neg h2, List.append_nil]; rfl
  · rw [if_neg (by rw [decide_eq_true_eq]; exact h1), if_neg h1]
    simp only [bnd1_some]
    by_cases h2 : 0 < w.cut
    · rw [if_pos (by rw [decide_eq_true_eq]; exact h2), app16s (by omega), if_pos h2]; rfl
    · rw [if_neg (by rw [decide_eq_true_eq]; exact h2), if_neg h2, List.append_nil]; rfl
theorem axis_put_eq {m : Int} {w : Axis_Writer} (h : WB m w) (hm : m ≤ 100000000000) (k n : Int) (h0 : 0 ≤ n) (hn : n ≤ 100000000000) : axis_writer_put w k n = some (putP w k n) := by
  have hs := h.sum
  have ha := h.a0
  have hc := h.c0
  have hz := size_okk h.ok
  unfold axis_writer_put putP
  by_cases hn0 : n = 0
  · rw [if_pos (by rw [decide_eq_true_eq]; exact hn0), if_pos hn0]
  · rw [if_neg (by rw [decide_eq_true_eq]; exact hn0), if_neg hn0]
    by_cases h1 : k = 1
    · rw [if_pos (by rw [decide_eq_true_eq]; exact h1), if_pos h1, chk64 (by omega) (by omega), bnd1_some]
    · rw [if_neg (by rw [decide_eq_true_eq]; exact h1), if_neg h1]
      by_cases h2 : k = 2
      · rw [if_pos (by rw [decide_eq_true_eq]; exact h2), if_pos h2, chk64 (by omega) (by omega), bnd1_some]
      · rw [if_neg (by rw [decide_eq_true_eq]; exact h2), if_neg h2, axis_flush_eq h (by omega), bnd1_some]
        obtain ⟨k1, k2, k3⟩ := fl_form h
        have hl := size_okk k1
        simp only
        generalize wFl w = l at k1 k2 k3 hl
        unfold bumpA
        by_cases hl0 : 0 < l.length
        · have e1 : chk .i64 ((l.length : Int) - 1) = some ((l.length - 1 : Nat) : Int) := by rw [chk64 (by omega) (by omega)]; congr 1; omega
          have d0 : decide (0 ≤ (((l.length - 1 : Nat)) : Int)) = true := by simp
          rw [e1, bnd1_some, d0, show (true == true) = true from rfl, gd_true, idx_nat (l := l) (by omega), bnd1_some, Bool.true_and]
          by_cases hk : l[l.length - 1]!.Kind = 0
          · have := (hl.2 _ (mem_at (l := l) (k := l.length - 1) (by omega)))
            have h3 := (k1 _ (mem_at (l := l) (k := l.length - 1) (by omega))).2.2
            rw [if_pos (by rw [decide_eq_true_eq]; exact hk), bnd1_some, chk64 (by omega) (by omega), bnd1_some, if_pos ⟨hl0, hk⟩, set_eq]
          · rw [if_neg (by rw [decide_eq_true_eq]; exact hk), app16s (by omega), bnd1_some, if_neg (fun h => hk h.2)]
        · have hl0' : l = [] := List.eq_nil_of_length_eq_zero (by omega)
          subst hl0'
          rw [show ((([] : List GAxisStep).length : Int) - 1) = -1 from rfl, show chk .i64 (-1) = some (-1) from chk64 (by decide) (by decide), bnd1_some,
            show decide (0 ≤ (-1 : Int)) = false by decide, show (false == true) = false from rfl, gd_false, bnd1_some, Bool.false_and, if_neg (by decide), app16s (by simp), bnd1_some, if_neg (by simp)]
theorem axis_done_eq {m : Int} {w : Axis_Writer} (h : WB m w) (hm : m ≤ 1000000000000) : axis_writer_done w = some (if axErr (wFl w) ≠ 0 then ([], 3, ⟨wFl w, 0, 0⟩) else (wFl w, 0, ⟨wFl w, 0, 0⟩)) := by
  obtain ⟨k1, k2, k3⟩ := fl_form h
  have hl := (size_okk k1).1
  unfold axis_writer_done
  rw [axis_flush_eq h hm, bnd1_some, axis_Check_eq _ (by simp only; omega), bnd1_some]
  by_cases he : axErr (wFl w) = 0
  · rw [if_neg (by simpa using he), if_neg (by simpa using he)]
  · rw [if_pos (by simpa using he), if_pos he]
end Go.Proofs.Ytdeglnbioiicaaa.Al


namespace Go.Proofs.Ytdeglnbioiicaaa.Al
def unitsA (a : List GAxisStep) : List Un := a.flatMap fun s => List.replicate s.N.toNat (unK s.Kind)
theorem unitsA_cons (s : GAxisStep) (a : List GAxisStep) : unitsA (s :: a) = List.replicate s.N.toNat (unK s.Kind) ++ unitsA a := rfl
def rdU (p : Axis_Reader) : List Un := match p.steps with
  | [] => []
  | s :: rest => List.replicate (s.N - p.used).toNat (unK s.Kind) ++ unitsA rest
structure RdOK (p : Axis_Reader) : Prop where
  stp : ∀ s ∈ p.steps, Stp s
  u0 : 0 ≤ p.used
  fit : ∀ s rest, p.steps = s :: rest → p.used < s.N
theorem rdU_full (a : List GAxisStep) : rdU ⟨a, 0⟩ = unitsA a := by
  cases a with
  | nil => rfl
  | cons s rest => simp [rdU, unitsA]
theorem rdOK_full {a : List GAxisStep} (h : ∀ s ∈ a, Stp s) : RdOK ⟨a, 0⟩ := ⟨h, Int.le_refl 0, fun s rest e => by
  have : s ∈ a := by show s ∈ (⟨a, 0⟩ : Axis_Reader).steps; rw [e]; exact List.mem_cons_self ..
  have := (h s this).2.2.1
  show (0 : Int) < s.N
  omega⟩
theorem rd_kind_nil (u : Int) : axis_reader_kind ⟨[], u⟩ = some (-1) := by unfold axis_reader_kind; rw [if_pos (by simp)]
theorem rd_kind (s : GAxisStep) (rest : List GAxisStep) (u : Int) : axis_reader_kind ⟨s :: rest, u⟩ = some s.Kind := by
  unfold axis_reader_kind; rw [if_neg (by simp; omega)]; rfl
theorem rd_left {s : GAxisStep} {rest : List GAxisStep} {u : Int} (h : RdOK ⟨s :: rest, u⟩) : axis_reader_left ⟨s :: rest, u⟩ = some (s.N - u) := by
  have h1 := h.stp s (List.mem_cons_self ..)
  have h2 := h.u0
  have h3 := h.fit s rest rfl
  unfold Stp at h1
  dsimp only at h2 h3
  unfold axis_reader_left
  show bnd1 (some s) _ = _
  rw [bnd1_some, chk64 (by dsimp only; omega) (by dsimp only; omega)]; rfl
theorem rd_take {s : GAxisStep} {rest : List GAxisStep} {u n : Int} (h : RdOK ⟨s :: rest, u⟩) (h0 : 1 ≤ n) (hn : n ≤ s.N - u) (hm : rest.length ≤ 4294967296) :
    ∃ p, axis_reader_take ⟨s :: rest, u⟩ n = some p ∧ RdOK p ∧ rdU ⟨s :: rest, u⟩ = List.replicate n.toNat (unK s.Kind) ++ rdU p ∧ p.steps.length ≤ rest.length + 1 := by
  have h1 := h.stp s (List.mem_cons_self ..)
  have h2 := h.u0
  have h3 := h.fit s rest rfl
  unfold Stp at h1
  dsimp only at h2 h3
  unfold axis_reader_take
  dsimp only
  rw [chk64 (by omega) (by omega), bnd1_some]
  show ∃ p, bnd1 (some s) _ = _ ∧ _
  rw [bnd1_some]
  by_cases he : u + n = s.N
  · rw [if_pos (by rw [decide_eq_true_eq]; exact he)]
    have : slc (s :: rest) 1 ((s :: rest).length : Int) = some rest := by
      unfold slc
      rw [if_pos (by rw [List.length_cons]; omega)]
      simp
    rw [this, bnd1_some]
    refine ⟨_, rfl, rdOK_full fun x hx => h.stp x (List.mem_cons_of_mem _ hx), ?_, by simp⟩
    rw [rdU_full]
    show List.replicate (s.N - u).toNat _ ++ _ = _
    rw [show s.N - u = n by omega]
  · rw [if_neg (by rw [decide_eq_true_eq]; exact he)]
    refine ⟨_, rfl, ⟨h.stp, by show 0 ≤ u + n; omega, fun x r e => ?_⟩, ?_, by simp⟩
    · have : s = x := by have := e; simp at this; exact this.1
      subst this
      show u + n < s.N
      omega
    · show List.replicate (s.N - u).toNat _ ++ _ = _ ++ (List.replicate (s.N - (u + n)).toNat _ ++ _)
      rw [← List.append_assoc, List.replicate_append_replicate, show (s.N - u).toNat = n.toNat + (s.N - (u + n)).toNat by omega]
theorem rep_a (n : Nat) : List.replicate n (Un.a xE) = (List.replicate n xE).map Un.a := by simp
theorem unK_1 : unK 1 = .a xE := rfl
theorem unK_r {k : Int} (h : k ≠ 1) : unK k = .r (decide (k = 2)) [] := by unfold unK; rw [if_neg h]
theorem cntR_app (a b : List Un) : cntR (a ++ b) = cntR a + cntR b := by simp [cntR]
theorem cntR_ra (n : Nat) : cntR (List.replicate n (.a xE)) = 0 := by simp [cntR, List.countP_replicate, Un.isR]
theorem cntR_rr (n : Nat) (c : Bool) : cntR (List.replicate n (.r c [])) = n := by simp [cntR, List.countP_replicate, Un.isR]
theorem cntR_units (a : List GAxisStep) (h : ∀ s ∈ a, Stp s) : (cntR (unitsA a) : Int) = oldLen a := by
  induction a with
  | nil => rfl
  | cons s a ih =>
    have hs := h s (List.mem_cons_self ..)
    have h1 := ih fun x hx => h x (List.mem_cons_of_mem _ hx)
    rw [unitsA_cons, cntR_app, oldLen_cons]
    unfold oldN
    unfold Stp at hs
    by_cases hk : s.Kind = 1
    · rw [if_pos hk, hk, unK_1, cntR_ra]; omega
    · rw [if_neg hk, unK_r hk, cntR_rr]; omega
theorem unitsA_len (a : List GAxisStep) (h : ∀ s ∈ a, Stp s) : ((unitsA a).length : Int) = sizeLen a := by
  induction a with
  | nil => rfl
  | cons s a ih =>
    have hs := h s (List.mem_cons_self ..)
    have h1 := ih fun x hx => h x (List.mem_cons_of_mem _ hx)
    rw [unitsA_cons, List.length_append, List.length_replicate, sizeLen_cons]
    unfold Stp at hs
    omega
theorem sizeLen_le {a : List GAxisStep} (h : GoodA a) : 0 ≤ sizeLen a ∧ sizeLen a ≤ 4294967294 := by
  have key : ∀ l : List GAxisStep, (∀ s ∈ l, Stp s) → 0 ≤ sizeLen l ∧ sizeLen l ≤ oldLen l + nowLen l := by
    intro l
    induction l with
    | nil => intro _; simp [oldLen, nowLen, sizeLen]
    | cons s l ih =>
      intro h
      have h1 := ih fun x hx => h x (List.mem_cons_of_mem _ hx)
      have h2 := h s (List.mem_cons_self ..)
      rw [oldLen_cons, nowLen_cons, sizeLen_cons]
      unfold oldN nowN
      unfold Stp at h2
      split <;> split <;> omega
  have h1 := key a h.stp
  have h2 := h.olds
  have h3 := h.nows
  omega
def W0 : Axis_Writer := ⟨[], 0, 0⟩
def wOn (us : List Un) : Axis_Writer := us.foldl wU W0
theorem wOn_put (us : List Un) (k n : Int) (h : 0 ≤ n) : putP (wOn us) k n = wOn (us ++ List.replicate n.toNat (unK k)) := by
  rw [putP_units _ _ _ h]; unfold wOn; rw [List.foldl_append]
theorem wOn_wb (us : List Un) : WB us.length (wOn us) := by
  have := wb_steps (us := us) wb_nil
  rwa [Int.zero_add] at this
theorem wOn_put_eq (us : List Un) (k n : Int) (h : 0 ≤ n) (hb : us.length ≤ 100000000000) (hn : n ≤ 100000000000) : axis_writer_put (wOn us) k n = some (wOn (us ++ List.replicate n.toNat (unK k))) := by
  rw [axis_put_eq (wOn_wb us) (by omega) k n h hn, wOn_put us k n h]
end Go.Proofs.Ytdeglnbioiicaaa.Al


namespace Go.Proofs.Ytdeglnbioiicaaa.Al
def toAx (s : GStep) : GAxisStep := ⟨s.Kind, s.N + s.Elems.length⟩
def wOf (s : DS) : Axis_Writer := ⟨s.out.map toAx, s.adds.length, s.cuts⟩
def Bare (u : Un) : Prop := match u with | .a _ => True | .r _ t => t = []
theorem wOf_fl (s : DS) : (dFl s).map toAx = wFl (wOf s) := by
  unfold dFl wFl wOf
  dsimp only
  by_cases h1 : 0 < s.adds.length <;> by_cases h2 : 0 < s.cuts
  · rw [if_pos h1, if_pos h2, if_pos (by omega), if_pos (by omega)]; simp [toAx]
  · rw [if_pos h1, if_neg h2, if_pos (by omega), if_neg (by omega)]; simp [toAx]
  · rw [if_neg h1, if_pos h2, if_neg (by omega), if_pos (by omega)]; simp [toAx]
  · rw [if_neg h1, if_neg h2, if_neg (by omega), if_neg (by omega)]; simp [toAx]
theorem fl_bare {s : DS} (h : ∀ x ∈ s.out, x.Attrs = []) : ∀ x ∈ dFl s, x.Attrs = [] := by
  intro x hx
  unfold dFl at hx
  rcases List.mem_append.1 hx with h1 | h1
  · split at h1
    · rcases List.mem_append.1 h1 with h2 | h2
      · exact h x h2
      · have : x = ⟨1, 0, [], s.adds⟩ := by simpa using h2
        subst this; rfl
    · exact h x h1
  · split at h1
    · have : x = ⟨2, s.cuts, [], []⟩ := by simpa using h1
      subst this; rfl
    · simp at h1
theorem bump_ax {l : List GStep} (h : ∀ x ∈ l, x.Attrs = []) : (bumpD l []).map toAx = bumpA (l.map toAx) 1 ∧ ∀ x ∈ bumpD l [], x.Attrs = [] := by
  unfold bumpD bumpA
  rw [List.length_map]
  by_cases h0 : 0 < l.length
  · have hlt : l.length - 1 < l.length := by omega
    have hg : (l.map toAx)[l.length - 1]! = toAx l[l.length - 1]! := by
      rw [getElem!_pos (l.map toAx) _ (by simpa using hlt), getElem!_pos l _ hlt, List.getElem_map]
    have ha := h _ (mem_at hlt)
    rw [hg]
    by_cases hk : l[l.length - 1]!.Kind = 0
    · rw [if_pos ⟨h0, hk, ha⟩, if_pos ⟨h0, hk⟩]
      refine ⟨?_, fun x hx => ?_⟩
      · rw [List.map_set]; simp only [toAx]; congr 2; omega
      · rcases List.mem_or_eq_of_mem_set hx with h3 | h3
        · exact h x h3
        · subst h3; exact ha
    · rw [if_neg (fun h => hk h.2.1), if_neg (fun h => hk h.2)]
      refine ⟨by simp [toAx], fun x hx => ?_⟩
      rcases List.mem_append.1 hx with h3 | h3
      · exact h x h3
      · have : x = ⟨0, 1, [], []⟩ := by simpa using h3
        subst this; rfl
  · rw [if_neg (fun h => h0 h.1), if_neg (fun h => h0 h.1)]
    refine ⟨by simp [toAx], fun x hx => ?_⟩
    rcases List.mem_append.1 hx with h3 | h3
    · exact h x h3
    · have : x = ⟨0, 1, [], []⟩ := by simpa using h3
      subst this; rfl
theorem wOf_step {s : DS} (h : ∀ x ∈ s.out, x.Attrs = []) {u : Un} (hu : Bare u) : wOf (dU s u) = wU (wOf s) u ∧ ∀ x ∈ (dU s u).out, x.Attrs = [] := by
  match u, hu with
  | .a e, _ => exact ⟨by simp [wOf, dU, wU], h⟩
  | .r true t, _ => exact ⟨by simp [wOf, dU, wU], h⟩
  | .r false t, ht =>
    have ht' : t = [] := ht
    subst ht'
    obtain ⟨h1, h2⟩ := bump_ax (fl_bare h)
    refine ⟨?_, h2⟩
    show (⟨(bumpD (dFl s) []).map toAx, _, _⟩ : Axis_Writer) = _
    rw [h1, wOf_fl]; rfl
theorem wOf_steps : ∀ {us : List Un} {s : DS}, (∀ x ∈ s.out, x.Attrs = []) → (∀ u ∈ us, Bare u) → wOf (us.foldl dU s) = us.foldl wU (wOf s)
  | [], _, _, _ => rfl
  | u :: us, s, h, hu => by
    obtain ⟨h1, h2⟩ := wOf_step h (hu u (List.mem_cons_self ..))
    rw [List.foldl_cons, List.foldl_cons, wOf_steps h2 fun v hv => hu v (List.mem_cons_of_mem _ hv), h1]
theorem delta_ax {us : List Un} (h : ∀ u ∈ us, Bare u) : (deltaOf us).map toAx = wFl (wOn us) := by
  unfold deltaOf wOn
  rw [wOf_fl, wOf_steps (by simp) h]; rfl
theorem bare_ok {us : List Un} (h : ∀ u ∈ us, Bare u) : ∀ u ∈ us, OkU u := by
  intro u hu
  have := h u hu
  match u, this with
  | .a _, _ => trivial
  | .r _ t, ht => have : t = [] := ht
                  subst this; show ([] : List GAttr).length ≤ _; simp
theorem law_steps_eq (x : Ref_Act) (h : WfA x) (hu : ∀ u ∈ x.us, Bare u) (hb : x.us.length ≤ 4294967296) : law_steps x = some (wFl (wOn x.us)) := by
  unfold law_steps
  rw [ref_DeltaOf_eq x h (bare_ok hu) hb, bnd1_some, ← delta_ax hu]
  have hdb : DB x.us.length (x.us.foldl dU ⟨[], [], 0⟩) := by
    have := db_steps (us := x.us) (m := 0) (s := ⟨[], [], 0⟩) ⟨by simp, by simp⟩ (bare_ok hu)
    rwa [Nat.zero_add] at this
  obtain ⟨f1, f2⟩ := db_fl hdb
  unfold deltaOf
  generalize dFl (x.us.foldl dU ⟨[], [], 0⟩) = d at f1 f2
  have key : ∃ l, iter (fun (a : Int × (List GAxisStep)) => law_steps_L1 d a.1 a.2) (0, []) = some l ∧ l = d.map toAx := by
    refine iter_hoare d.length (fun k st => st = ((k : Int), (d.take k).map toAx)) _ ?_ ?_ (by simp)
    · rintro k st hk rfl
      have hm := f2 _ (mem_at hk)
      refine .inl ⟨_, ?_, rfl⟩
      show law_steps_L1 d (k : Int) _ = _
      unfold law_steps_L1
      rw [if_pos (by simpa using hk), idx_nat hk, bnd1_some, chk64 (by omega) (by omega), bnd1_some, app16s (by simp; omega), bnd1_some, chk_nat (by omega), bnd1_some, take_at hk, List.map_append]
      rfl
    · rintro st rfl
      refine ⟨d.map toAx, ?_, rfl⟩
      rw [List.take_length]
      show law_steps_L1 d (d.length : Int) _ = _
      unfold law_steps_L1
      rw [if_neg (by simp)]
  obtain ⟨l, h1, h2⟩ := key
  rw [h1, h2]; rfl
def toStep (s : GAxisStep) : GStep := if s.Kind = 1 then ⟨s.Kind, 0, [], List.replicate s.N.toNat xE⟩ else ⟨s.Kind, s.N, [], []⟩
theorem units_step (a : List GAxisStep) : unitsD (a.map toStep) = unitsA a := by
  induction a with
  | nil => rfl
  | cons s a ih =>
    rw [List.map_cons, unitsD_cons, ih, unitsA_cons]
    congr 1
    unfold unitsS toStep unK
    by_cases h : s.Kind = 1
    · simp only [if_pos h]; simp
    · simp only [if_neg h]
theorem law_act_L2_eq (s : GAxisStep) (k0 n0 : Int) (h : 0 ≤ s.N) (hb : s.N ≤ 1000000) : iter (fun (a : Int × GStep) => law_act_L2 s a.1 a.2) (0, ⟨k0, n0, [], []⟩) = some (.ext ⟨k0, n0, [], List.replicate s.N.toNat xE⟩) := by
  have key : ∃ o, iter (fun (a : Int × GStep) => law_act_L2 s a.1 a.2) (0, ⟨k0, n0, [], []⟩) = some o ∧ o = .ext ⟨k0, n0, [], List.replicate s.N.toNat xE⟩ := by
    refine iter_hoare s.N.toNat (fun k st => st = ((k : Int), ⟨k0, n0, [], List.replicate k xE⟩)) _ ?_ ?_ (by simp)
    · rintro k st hk rfl
      refine .inl ⟨_, ?_, rfl⟩
      show law_act_L2 s (k : Int) _ = _
      unfold law_act_L2
      rw [if_pos (by simp; omega), app40 (by simp; omega), bnd1_some, chk_nat (by omega), bnd1_some, List.replicate_succ']
      rfl
    · rintro st rfl
      refine ⟨_, ?_, rfl⟩
      show law_act_L2 s (s.N.toNat : Int) _ = _
      unfold law_act_L2
      rw [if_neg (by simp; omega)]
  obtain ⟨o, h1, h2⟩ := key
  rw [h1, h2]
theorem law_act_eq (a : List GAxisStep) (h : ∀ s ∈ a, Stp s) (hs : sizeLen a ≤ 300) : ∃ x, law_act a = some x ∧ WfA x ∧ x.us = unitsA a := by
  have hn : ∀ s ∈ a, s.N ≤ 300 ∧ a.length ≤ 300 := by
    have hk : ∀ s ∈ a, Okk s := fun s hs => by have := h s hs; unfold Stp at this; exact ⟨this.1, this.2.1, this.2.2.1⟩
    obtain ⟨h1, h2⟩ := size_okk hk
    intro s hs
    have := h2 s hs
    omega
  have hlen : a.length ≤ 300 := by
    cases a with
    | nil => simp
    | cons s a => exact (hn s (List.mem_cons_self ..)).2
  unfold law_act
  have key : ∃ d, iter (fun (c : Int × (List GStep)) => law_act_L1 a c.1 c.2) (0, []) = some d ∧ d = a.map toStep := by
    refine iter_hoare a.length (fun k st => st = ((k : Int), (a.take k).map toStep)) _ ?_ ?_ (by simp)
    · rintro k st hk rfl
      have hm := h _ (mem_at hk)
      have hN := (hn _ (mem_at hk)).1
      unfold Stp at hm
      refine .inl ⟨_, ?_, rfl⟩
      show law_act_L1 a (k : Int) _ = _
      unfold law_act_L1
      rw [if_pos (by simpa using hk), idx_nat hk, bnd1_some, take_at hk, List.map_append]
      have e : (if (decide (a[k]!.Kind = 1)) then (ctl1 (iter (fun (c : Int × GStep) => law_act_L2 a[k]! c.1 c.2) (0, (GStep.mk a[k]!.Kind 0 [] []))) fun (_ : Unit) => none) else (some (GStep.mk a[k]!.Kind a[k]!.N [] []))) = some (toStep a[k]!) := by
        unfold toStep
        by_cases hk : a[k]!.Kind = 1
        · rw [if_pos (by rw [decide_eq_true_eq]; exact hk), if_pos hk, law_act_L2_eq _ _ _ (by omega) (by omega), ctl1_ext]
        · rw [if_neg (by rw [decide_eq_true_eq]; exact hk), if_neg hk]
      rw [e, bnd1_some, app64 (by simp; omega), bnd1_some, chk_nat (by omega), bnd1_some]
      have e2 : (⟨(toStep a[k]!).Kind, (toStep a[k]!).N, [], (toStep a[k]!).Elems⟩ : GStep) = toStep a[k]! := by unfold toStep; split <;> rfl
      rw [e2]; rfl
    · rintro st rfl
      refine ⟨a.map toStep, ?_, rfl⟩
      rw [List.take_length]
      show law_act_L1 a (a.length : Int) _ = _
      unfold law_act_L1
      rw [if_neg (by simp)]
  obtain ⟨d, h1, h2⟩ := key
  subst h2
  have hul := unitsA_len a h
  obtain ⟨x, e1, e2, e3⟩ := ref_ActOf_eq (a.map toStep) (fun s hs => by
    obtain ⟨t, ht, rfl⟩ := List.mem_map.1 hs
    have := h t ht
    unfold Stp at this
    unfold toStep
    split
    · simp
    · show 0 ≤ t.N; omega) (by simp; omega) (by rw [units_step]; omega)
  refine ⟨x, by rw [h1, bnd1_some, e1]; rfl, e2, by rw [e3, units_step]⟩
theorem unitsA_bare (a : List GAxisStep) : ∀ u ∈ unitsA a, Bare u := by
  intro u hu
  obtain ⟨s, _, hs⟩ := List.mem_flatMap.1 hu
  have := List.eq_of_mem_replicate hs
  subst this
  unfold unK
  split
  · trivial
  · exact rfl
theorem ref_SameSteps_eq (a b : List GAxisStep) (hm : a.length ≤ 9223372036854775806) : ref_SameSteps a b = some (decide (a = b)) := by
  unfold ref_SameSteps
  by_cases hl : a.length = b.length
  · rw [if_neg (by simp [hl]), iter_find (n := a.length) (fun k => if decide (a[k]! = b[k]!) then none else some false) (fun k hk => by
      unfold ref_SameSteps_L1
      rw [if_pos (by simpa using hk), idx_nat hk, idx_nat (by omega), bnd1_some, bnd1_some, chk_nat (by omega)]
      generalize a[k]! = x
      generalize b[k]! = y
      obtain ⟨x1, x2⟩ := x
      obtain ⟨y1, y2⟩ := y
      by_cases h : x1 = y1 <;> by_cases h2 : x2 = y2 <;> simp [h, h2, stepOf]) (by unfold ref_SameSteps_L1; rw [if_neg (by simp)]), find_const, ctl_outOf]
    by_cases h : a = b
    · subst h; simp
    · rw [decide_eq_false h]
      have : ((List.range a.length).all fun k => decide (a[k]! = b[k]!)) = false := by
        rw [← Bool.not_eq_true, List.all_eq_true]
        intro hall
        apply h
        apply List.ext_getElem hl
        intro k h1 h2
        have := hall k (List.mem_range.2 h1)
        simp only [decide_eq_true_eq] at this
        rwa [getElem!_pos a k h1, getElem!_pos b k h2] at this
      rw [this]; rfl
  · rw [if_pos (by simp; omega), decide_eq_false (by rintro rfl; exact hl rfl)]
end Go.Proofs.Ytdeglnbioiicaaa.Al


namespace Go.Proofs.Ytdeglnbioiicaaa.Al
theorem OkU3.app {a b : List Un} (h : OkU3 (a ++ b)) : OkU3 b := fun u hu => h u (List.mem_append_right _ hu)
end Go.Proofs.Ytdeglnbioiicaaa.Al


namespace Go.Proofs.Ytdeglnbioiicaaa.Al
end Go.Proofs.Ytdeglnbioiicaaa.Al


namespace Go.Proofs.Ytdeglnbioiicaaa.Al
structure IT (d : List GStep) (k : Nat) (X : List Un) : Prop where
  ok : ∀ u ∈ X, OkUn u
  out : (dOn X).out.length ≤ 3 * k
  cut : (dOn X).cuts ≤ 2147483647
  rows : cntR X ≤ 2147483647 * k
  adds : cntA X + ((d.drop k).map fun s => s.Elems.length).sum = (d.map fun s => s.Elems.length).sum
structure IL (l : List GStep) (n : Int) : Prop where
  ok : ∀ u ∈ unitsD l, OkUn u
  nn : ∀ s ∈ l, 0 ≤ s.N
  rows : (cntR (unitsD l) : Int) = n
  adds : cntA (unitsD l) = (l.map fun s => s.Elems.length).sum
theorem cuts_le {X : List Un} (h : ∀ u ∈ X, OkUn u) : (dOn X).cuts ≤ cntR X := by
  have h1 := (dOn_cd h).olds
  have h2 := (cd_N (dOn_cd h).ok).1
  omega
end Go.Proofs.Ytdeglnbioiicaaa.Al


namespace Go.Proofs.Ytdeglnbioiicaaa.Al
def bareU : Un → Un
  | .a _ => .a xE
  | .r c _ => .r c []
theorem oldLen_app (a b : List GAxisStep) : oldLen (a ++ b) = oldLen a + oldLen b := by simp [oldLen]
theorem nowLen_app (a b : List GAxisStep) : nowLen (a ++ b) = nowLen a + nowLen b := by simp [nowLen]
theorem lens_set : ∀ {l : List GAxisStep} {i : Nat} {s : GAxisStep}, i < l.length → oldLen (l.set i s) = oldLen l - oldN l[i]! + oldN s ∧ nowLen (l.set i s) = nowLen l - nowN l[i]! + nowN s
  | x :: l, 0, s, _ => by
    rw [List.set_cons_zero, oldLen_cons, oldLen_cons, nowLen_cons, nowLen_cons]
    show _ = oldN x + _ - oldN x + _ ∧ _ = nowN x + _ - nowN x + _
    omega
  | x :: l, i + 1, s, h => by
    obtain ⟨h1, h2⟩ := lens_set (l := l) (i := i) (s := s) (by simpa using h)
    rw [List.set_cons_succ, oldLen_cons, oldLen_cons, nowLen_cons, nowLen_cons, h1, h2]
    show _ = _ - oldN l[i]! + _ ∧ _ = _ - nowN l[i]! + _
    omega
theorem lens_bump (l : List GAxisStep) (n : Int) : oldLen (bumpA l n) = oldLen l + n ∧ nowLen (bumpA l n) = nowLen l + n := by
  unfold bumpA
  split
  · rename_i h
    obtain ⟨h1, h2⟩ := lens_set (l := l) (i := l.length - 1) (s := ⟨l[l.length - 1]!.Kind, l[l.length - 1]!.N + n⟩) (by omega)
    rw [h1, h2]
    unfold oldN nowN
    dsimp only
    rw [h.2, if_neg (by decide), if_neg (by decide), if_neg (by decide), if_neg (by decide)]
    omega
  · rw [oldLen_app, nowLen_app]
    constructor
    · show _ + (n + 0) = _; omega
    · show _ + (n + 0) = _; omega
structure AxI (d : List GStep) (k : Nat) (w : Axis_Writer) : Prop where
  len : (wFl w).length ≤ k
  olds : oldLen (wFl w) = oldD (d.take k)
  nows : nowLen (wFl w) = nowD (d.take k)
  zero : k = 0 → w.add = 0 ∧ w.cut = 0
  keep : 0 < k → d[k - 1]!.Kind = 0 → w.add = 0 ∧ w.cut = 0
  addd : 0 < k → d[k - 1]!.Kind = 1 → w.cut = 0
end Go.Proofs.Ytdeglnbioiicaaa.Al


namespace Go.Proofs.Ytdeglnbioiicaaa.Al
end Go.Proofs.Ytdeglnbioiicaaa.Al


namespace Go.Proofs.Ytdeglnbioiicaaa.Al
def PR (W : Int → Int) (lo hi : Int) (c : Int × Int) : Prop :=
  (c = (0, 0) ∧ ∀ r, lo ≤ r → r < hi → W r < 0) ∨ ∃ r0 r1, lo ≤ r0 ∧ r0 ≤ r1 ∧ r1 < hi ∧ 0 ≤ W r0 ∧ 0 ≤ W r1 ∧ (∀ r, lo ≤ r → r < hi → 0 ≤ W r → r0 ≤ r ∧ r ≤ r1) ∧ c = (W r0, W r1 + 1)
theorem PR.congr {W V : Int → Int} {lo hi : Int} {c : Int × Int} (h : PR W lo hi c) (e : ∀ r, lo ≤ r → W r = V r) : PR V lo hi c := by
  rcases h with ⟨rfl, a⟩ | ⟨r0, r1, a1, a2, a3, a4, a5, a6, rfl⟩
  · exact .inl ⟨rfl, fun r h1 h2 => by rw [← e r h1]; exact a r h1 h2⟩
  · rw [e r0 a1, e r1 (by omega)]
    exact .inr ⟨r0, r1, a1, a2, a3, by rw [← e r0 a1]; exact a4, by rw [← e r1 (by omega)]; exact a5, fun r h1 h2 h3 => a6 r h1 h2 (by rw [e r h1]; exact h3), rfl⟩
end Go.Proofs.Ytdeglnbioiicaaa.Al


namespace Go.Proofs.Ytdeglnbioiicaaa.Al
theorem wU_bare (w : Axis_Writer) (u : Un) : wU w (bareU u) = wU w u := by
  match u with
  | .a e => rfl
  | .r true t => rfl
  | .r false t => rfl
theorem fold_map {f : Un → Un} (h : ∀ w u, wU w (f u) = wU w u) : ∀ (us : List Un) (w : Axis_Writer), (us.map f).foldl wU w = us.foldl wU w
  | [], _ => rfl
  | u :: us, w => by rw [List.map_cons, List.foldl_cons, List.foldl_cons, h, fold_map h us]
abbrev plW (A : List GAxisStep) (r : Int) : Int := ctlV (plo r A (0, 0))
structure ImI (A : List GAxisStep) (l : List GSpan) (k : Nat) (out : List GSpan) : Prop where
  len : out.length ≤ k
  last : 0 < out.length → 0 < k ∧ ∃ r1, 0 ≤ r1 ∧ r1 < l[k - 1]!.To ∧ 0 ≤ plW A r1 ∧ out[out.length - 1]!.To = plW A r1 + 1
end Go.Proofs.Ytdeglnbioiicaaa.Al


namespace Go.Proofs.Ytdeglnbioiicaaa.Al
end Go.Proofs.Ytdeglnbioiicaaa.Al


namespace Go.Proofs.Ytdeglnbioiicaaa.Al
end Go.Proofs.Ytdeglnbioiicaaa.Al


namespace Go.Proofs.Ytdeglnbioiicaaa.Al
def BadR (n f t : Int) : Prop := n < 0 ∨ 2147483647 < n ∨ f < 0 ∨ t < f ∨ n < t
instance (n f t : Int) : Decidable (BadR n f t) := by unfold BadR; infer_instance
end Go.Proofs.Ytdeglnbioiicaaa.Al


namespace Go.Proofs.Ytdeglnbioiicaaa.Al
def normU : Un → Un
  | .a e => .a e
  | .r c t => .r c (if c then [] else t)
theorem dU_norm (s : DS) (u : Un) : dU s (normU u) = dU s u := by
  match u with
  | .a e => rfl
  | .r true t => rfl
  | .r false t => rfl
theorem fold_norm : ∀ (us : List Un) (s : DS), (us.map normU).foldl dU s = us.foldl dU s
  | [], s => rfl
  | u :: us, s => by rw [List.map_cons, List.foldl_cons, List.foldl_cons, dU_norm, fold_norm us]
theorem deltaOf_norm (us : List Un) : deltaOf (us.map normU) = deltaOf us := by unfold deltaOf; rw [fold_norm]
def bothA (a b : List GAttr) : List GAttr := bothL stpBoth a b []
def joinR (c : Bool) (ta tb : List GAttr) : Un := .r c (if c then [] else bothA ta tb)
def joinU : List Un → List Un → List Un
  | .r true _ :: us, vs => .r true [] :: joinU us vs
  | us, .a e :: vs => .a e :: joinU us vs
  | .a e :: us, .r cb tb :: vs => if cb then joinU us vs else .a (chgE tb e) :: joinU us vs
  | .r false ta :: us, .r cb tb :: vs => joinR cb ta tb :: joinU us vs
  | [], .r _ _ :: _ => []
  | .a _ :: _, [] => []
  | .r false _ :: _, [] => []
  | [], [] => []
  termination_by us vs => us.length + vs.length
def NoC (us : List Un) : Prop := ∀ t vs, us ≠ .r true t :: vs
theorem joinU_cut (t : List GAttr) (us vs : List Un) : joinU (.r true t :: us) vs = .r true [] :: joinU us vs := by rw [joinU]
theorem joinU_cuts (t : List GAttr) (us vs : List Un) : ∀ n : Nat, joinU (List.replicate n (.r true t) ++ us) vs = List.replicate n (.r true []) ++ joinU us vs
  | 0 => rfl
  | n + 1 => by rw [List.replicate_succ, List.cons_append, joinU_cut, joinU_cuts t us vs n]; rfl
theorem joinU_b (B : List GElem) (us vs : List Un) (h : NoC us) : joinU us (B.map Un.a ++ vs) = B.map Un.a ++ joinU us vs := by
  induction B with
  | nil => rfl
  | cons e B ih =>
    simp only [List.map_cons, List.cons_append]
    rw [← ih]
    match us, h with
    | [], _ => rw [joinU]; intro _ _ h; cases h
    | .r false t :: us, _ => rw [joinU]; intro _ _ h; cases h
    | .r true t :: us, h => exact absurd rfl (h t us)
    | .a e :: us, h => rw [joinU]; intro _ _ h; cases h
theorem noC_a (e : GElem) (us : List Un) : NoC (.a e :: us) := fun _ _ h => by cases h
theorem noC_r (t : List GAttr) (us : List Un) : NoC (.r false t :: us) := fun _ _ h => by cases h
theorem noC_nil : NoC [] := fun _ _ h => by cases h
theorem joinU_ar (e : GElem) (us vs : List Un) (cb : Bool) (tb : List GAttr) : joinU (.a e :: us) (.r cb tb :: vs) = (if cb then [] else [.a (chgE tb e)]) ++ joinU us vs := by
  rw [joinU]; cases cb <;> rfl
theorem joinU_rr1 (us vs : List Un) (cb : Bool) (ta tb : List GAttr) : joinU (.r false ta :: us) (.r cb tb :: vs) = joinR cb ta tb :: joinU us vs := by rw [joinU]
theorem joinU_as (us vs : List Un) (cb : Bool) (tb : List GAttr) : ∀ A : List GElem, joinU (A.map Un.a ++ us) (List.replicate A.length (.r cb tb) ++ vs) = (if cb then [] else (A.map (chgE tb)).map Un.a) ++ joinU us vs
  | [] => by cases cb <;> rfl
  | e :: A => by
    rw [List.map_cons, List.length_cons, List.replicate_succ, List.cons_append, List.cons_append, joinU_ar, joinU_as us vs cb tb A]
    cases cb <;> rfl
theorem joinU_rr (us vs : List Un) (cb : Bool) (ta tb : List GAttr) : ∀ n : Nat, joinU (List.replicate n (.r false ta) ++ us) (List.replicate n (.r cb tb) ++ vs) = List.replicate n (joinR cb ta tb) ++ joinU us vs
  | 0 => rfl
  | n + 1 => by rw [List.replicate_succ, List.replicate_succ, List.cons_append, List.cons_append, joinU_rr1, joinU_rr us vs cb ta tb n]; rfl
theorem joinU_endb (B : List GElem) : joinU [] (B.map Un.a) = B.map Un.a := by
  have := joinU_b B [] [] noC_nil
  rw [List.append_nil] at this
  rw [this, joinU, List.append_nil]
theorem joinU_len : ∀ (us vs : List Un), (joinU us vs).length ≤ us.length + vs.length := by
  intro us vs
  fun_induction joinU us vs <;> simp_all <;> omega
theorem cntN_cons (u : Un) (us : List Un) : cntN (u :: us) = (if isNow u then 1 else 0) + cntN us := by unfold cntN; rw [List.countP_cons]; omega
theorem cntN_append (a b : List Un) : cntN (a ++ b) = cntN a + cntN b := by simp [cntN]
theorem cntN_map (l : List GElem) : cntN (l.map Un.a) = l.length := by
  induction l with
  | nil => rfl
  | cons x l ih => rw [List.map_cons, cntN_cons, ih, List.length_cons]; simp only [isNow, if_true]; omega
theorem cntN_rep (n : Nat) (c : Bool) (t : List GAttr) : cntN (List.replicate n (.r c t)) = if c then 0 else n := by
  cases c <;> simp [cntN, List.countP_replicate, isNow]
theorem from_mem_a {x : Ref_Act} (h : WfA x) {k : Nat} (hk : k < x.Adds.length) : ∀ e ∈ x.Adds[k]!, Un.a e ∈ x.us := by
  intro e he
  have ha := h.adds
  by_cases hk2 : k < x.Cuts.length
  · obtain ⟨p, hp⟩ := from_sub x k h (by omega)
    rw [from_at h hk2] at hp
    rw [hp]; exact List.mem_append_right _ (List.mem_append_left _ (List.mem_map_of_mem he))
  · obtain rfl : k = x.Cuts.length := by omega
    obtain ⟨p, hp⟩ := from_sub x x.Cuts.length h (by omega)
    rw [from_end h] at hp
    rw [hp]; exact List.mem_append_right _ (List.mem_map_of_mem he)
theorem okU_app {a b : List Un} (h1 : ∀ u ∈ a, OkU u) (h2 : ∀ u ∈ b, OkU u) : ∀ u ∈ a ++ b, OkU u := fun u hu => by
  rcases List.mem_append.1 hu with h | h
  · exact h1 u h
  · exact h2 u h
theorem okU_map (l : List GElem) : ∀ u ∈ l.map Un.a, OkU u := fun u hu => by
  obtain ⟨e, _, rfl⟩ := List.mem_map.1 hu; trivial
theorem norm_map (l : List GElem) : (l.map Un.a).map normU = l.map Un.a := by simp [normU]
structure BS (T : List Un) (out : Ref_Act) (us vs : List Un) : Prop where
  wf : WfA out
  eq : out.us.map normU ++ joinU us vs = T
  ok : ∀ u ∈ out.us, OkU u
theorem BS.len {T : List Un} {out : Ref_Act} {us vs : List Un} (h : BS T out us vs) : out.us.length ≤ T.length := by
  have := congrArg List.length h.eq
  rw [List.length_append, List.length_map] at this
  omega
theorem BS.adds {T : List Un} {out : Ref_Act} {us vs us' vs' : List Un} (h : BS T out us vs) (es : List GElem) (he : joinU us vs = es.map Un.a ++ joinU us' vs') :
    BS T ⟨out.Adds.set out.Cuts.length (out.Adds[out.Cuts.length]! ++ es), out.Cuts, out.Attrs⟩ us' vs' := by
  obtain ⟨k1, k2⟩ := push_add h.wf es
  refine ⟨k1, ?_, by rw [k2]; exact okU_app h.ok (okU_map es)⟩
  rw [k2, List.map_append, norm_map, List.append_assoc, ← he]
  exact h.eq
theorem BS.row {T : List Un} {out : Ref_Act} {us vs us' vs' : List Un} (h : BS T out us vs) (c : Bool) (t : List GAttr) (ht : t.length ≤ 1099511627776) (he : joinU us vs = normU (.r c t) :: joinU us' vs') :
    BS T ⟨out.Adds ++ [[]], out.Cuts ++ [c], out.Attrs ++ [t]⟩ us' vs' := by
  obtain ⟨k1, k2⟩ := push_row h.wf c t
  refine ⟨k1, ?_, by rw [k2]; exact okU_app h.ok fun u hu => by rw [List.mem_singleton] at hu; subst hu; exact ht⟩
  rw [k2, List.map_append, List.append_assoc]
  show _ ++ ([normU (.r c t)] ++ _) = _
  rw [List.singleton_append, ← he]
  exact h.eq
theorem ref_Both_L2_eq (y : Ref_Act) (hy : WfA y) (oy : OkU3 y.us) (A : List GElem) (hA : ∀ e ∈ A, elemErr e = 0 ∧ e.Attrs.length ≤ 1048576) (R T : List Un) (hT : T.length ≤ 4294967296) (hyl : y.us.length ≤ 4294967296) (hAl : A.length ≤ 4294967296) (out : Ref_Act) (m : Nat)
    (hm : m + A.length ≤ y.Cuts.length) (h : BS T out (A.map Un.a ++ R) (y.from_ m)) :
    ∃ o, iter (fun (a : Int × Int × Ref_Act) => ref_Both_L2 y A a.1 a.2.1 a.2.2) ((m : Int), 0, out) = some (((m + A.length : Nat) : Int), o) ∧ BS T o R (y.from_ (m + A.length)) := by
  have hya := hy.adds
  have hyt := hy.attrs
  have hyc := hy.cuts_le
  have key : ∃ r, iter (fun (a : Int × Int × Ref_Act) => ref_Both_L2 y A a.1 a.2.1 a.2.2) ((m : Int), 0, out) = some r ∧ ∃ o, r = (((m + A.length : Nat) : Int), o) ∧ BS T o R (y.from_ (m + A.length)) := by
    refine iter_hoare A.length (fun k st => st.1 = ((m + k : Nat) : Int) ∧ st.2.1 = (k : Int) ∧ BS T st.2.2 ((A.drop k).map Un.a ++ R) (y.from_ (m + k))) _ ?_ ?_ ⟨rfl, rfl, by simpa using h⟩
    · rintro k ⟨at_, i, o⟩ hk ⟨rfl, rfl, hB⟩
      dsimp only at hB
      have hol := hB.len
      have hcl := hB.wf.cuts_le
      have hoa := hB.wf.adds
      have hlt : o.Cuts.length < o.Adds.length := by omega
      have hAo := hB.wf.add_le hlt
      have hBl := hy.add_le (k := m + k) (by omega)
      have hat := oy _ (from_mem hy (k := m + k) (by omega))
      dsimp only at hat
      have hAe := hA _ (mem_at hk)
      rw [drop_at hk, List.map_cons, List.cons_append, from_at hy (by omega)] at hB
      refine .inl ?_
      show ∃ s', ref_Both_L2 y A ((m + k : Nat) : Int) (k : Int) o = _ ∧ _
      unfold ref_Both_L2
      rw [if_pos (by simpa using hk), last_add hB.wf (by omega), bnd1_some, idx_nat hlt, bnd1_some, app40 (by rw [List.length_nil]; omega), bnd1_some, List.nil_append, idx_nat (l := y.Adds) (by omega), bnd1_some, app40 (by omega), bnd1_some, idx_nat (l := y.Cuts) (by omega), bnd1_some]
      generalize hcb : y.Cuts[m + k]! = cb at hB hat
      cases cb with
      | true =>
        rw [if_neg (by decide), bnd1_some, chk_nat (by omega), bnd1_some, chk_nat (by omega), bnd1_some, set_eq]
        refine ⟨_, rfl, rfl, rfl, ?_⟩
        dsimp only
        refine hB.adds _ ?_
        rw [joinU_b _ _ _ (noC_a _ _), joinU_ar]; rfl
      | false =>
        rw [if_pos (by decide), idx_nat hk, bnd1_some, idx_nat (l := y.Attrs) (by omega), bnd1_some, changed_raw (okE_attrs hAe.1) (hat.1 rfl) hAe.2 hat.2.2, bnd1_some, app40 (by rw [List.length_append, List.length_singleton]; omega), bnd1_some, bnd1_some, chk_nat (by omega), bnd1_some, chk_nat (by omega), bnd1_some, set_eq, List.append_assoc]
        refine ⟨_, rfl, rfl, rfl, ?_⟩
        dsimp only
        refine hB.adds _ ?_
        rw [joinU_b _ _ _ (noC_a _ _), joinU_ar, List.map_append, List.append_assoc]; rfl
    · rintro ⟨at_, i, o⟩ ⟨rfl, rfl, hB⟩
      dsimp only at hB
      refine ⟨_, ?_, o, rfl, by simpa using hB⟩
      show ref_Both_L2 y A ((m + A.length : Nat) : Int) (A.length : Int) o = _
      unfold ref_Both_L2
      rw [if_neg (by simp)]
  obtain ⟨r, h1, o, h2, h3⟩ := key
  exact ⟨o, by rw [h1, h2], h3⟩
theorem joined_both {a b : List GAttr} (ha : attrErr a true = 0) (hb : attrErr b true = 0) (hla : a.length ≤ 1048576) (hlb : b.length ≤ 1048576) : ref_Joined a b = some (bothA a b) := by
  have g1 := good_of ha
  have g2 := good_of hb
  rw [ref_Joined_eq a b g1.1 g2.1 (by omega), ← both_joined g1.1 g2.1 g1.2.1 g2.2.1]; rfl
theorem ref_Both_eq (x y : Ref_Act) (hx : WfA x) (hy : WfA y) (ox : OkU3 x.us) (oy : OkU3 y.us) (hl : cntN x.us = y.Cuts.length) (hxl : x.us.length ≤ 1073741824) (hyl : y.us.length ≤ 1073741824) :
    ∃ z, ref_Both x y = some z ∧ WfA z ∧ z.us.map normU = joinU x.us y.us ∧ ∀ u ∈ z.us, OkU u := by
  unfold ref_Both
  have hxa := hx.adds
  have hxt := hx.attrs
  have hxc := hx.cuts_le
  have hya := hy.adds
  have hyt := hy.attrs
  have hyc := hy.cuts_le
  have hTl := joinU_len x.us y.us
  have key : ∃ z, iter (fun (a : Int × Int × Ref_Act) => ref_Both_L1 x y a.1 a.2.1 a.2.2) (0, 0, ⟨[[]], [], []⟩) = some z ∧ (WfA z ∧ z.us.map normU = joinU x.us y.us ∧ ∀ u ∈ z.us, OkU u) := by
    refine iter_hoare x.Cuts.length (fun k st => st.2.1 = (k : Int) ∧ ∃ m : Nat, st.1 = (m : Int) ∧ BS (joinU x.us y.us) st.2.2 (x.from_ k) (y.from_ m) ∧ m + cntN (x.from_ k) = y.Cuts.length) _ ?_ ?_
      ⟨rfl, 0, rfl, ⟨wfA_nil, by rw [from_zero, from_zero]; rfl, by rw [us_nil]; simp⟩, by rw [from_zero]; omega⟩
    · rintro k ⟨at_, i, out⟩ hk ⟨rfl, m, rfl, hB, hc⟩
      dsimp only at hB hc
      have hAx := hx.add_le (k := k) (by omega)
      have hmx := ox _ (from_mem hx (k := k) (by omega))
      dsimp only at hmx
      rw [from_at hx hk] at hB hc
      rw [cntN_append, cntN_map, cntN_cons] at hc
      obtain ⟨o, e1, hB2⟩ := ref_Both_L2_eq y hy oy x.Adds[k]! (fun e he => ox (.a e) (from_mem_a hx (by omega) e he)) _ _ (by omega) (by omega) (by omega) out m (by omega) hB
      have hol := hB2.len
      have hcl := hB2.wf.cuts_le
      have hoa := hB2.wf.adds
      have hot := hB2.wf.attrs
      have hlt : o.Cuts.length < o.Adds.length := by omega
      have hAo := hB2.wf.add_le hlt
      refine .inl ?_
      show ∃ s', ref_Both_L1 x y (m : Int) (k : Int) out = _ ∧ _
      unfold ref_Both_L1
      rw [if_pos (by rw [decide_eq_true_eq]; omega), idx_nat (l := x.Adds) (by omega), bnd1_some, e1, bnd2_some, last_add hB2.wf (by omega), bnd1_some, if_neg (by rw [decide_eq_true_eq]; omega), idx_nat (l := x.Cuts) hk, bnd1_some]
      generalize hca : x.Cuts[k]! = ca at hB2 hc hmx
      cases ca with
      | true =>
        rw [if_pos rfl, app24 (by omega), bnd1_some, app1c (by omega), bnd1_some, app24 (by omega), bnd1_some, ctl2_nrm, chk_nat (by omega), bnd1_some]
        refine ⟨_, rfl, rfl, m + x.Adds[k]!.length, rfl, ?_, by rw [← hc]; simp only [isNow]; simp; omega⟩
        exact hB2.row true [] (by simp) (by rw [joinU_cut]; rfl)
      | false =>
        have hmy : m + x.Adds[k]!.length < y.Cuts.length := by rw [← hc]; simp only [isNow]; simp; omega
        generalize hq : m + x.Adds[k]!.length = q at hB2 hmy
        have hBl := hy.add_le (k := q) (by omega)
        have hat := oy _ (from_mem hy (k := q) (by omega))
        dsimp only at hat
        rw [from_at hy hmy] at hB2
        have hB3 := hB2.adds y.Adds[q]! (us' := .r false x.Attrs[k]! :: x.from_ (k + 1)) (vs' := .r y.Cuts[q]! y.Attrs[q]! :: y.from_ (q + 1)) (by rw [joinU_b _ _ _ (noC_r _ _)])
        have hwf := hB3.wf
        have htb : attrErr y.Attrs[q]! true = 0 := by
          cases hcc : y.Cuts[q]! with
          | false => exact hat.1 hcc
          | true => rw [hat.2.1 hcc]; exact attrErr_nil
        have hj := both_len x.Attrs[k]! y.Attrs[q]!
        rw [if_neg (by decide), idx_nat hlt, bnd1_some, app40 (by rw [List.length_nil]; omega), bnd1_some, List.nil_append, idx_nat (l := y.Adds) (by omega), bnd1_some, app40 (by omega), bnd1_some, set_eq, app24 (by rw [List.length_set]; omega), bnd1_some]
        rw [idx_nat (l := y.Cuts) (by omega), bnd1_some, app1c (by omega), bnd1_some, idx_nat (l := x.Attrs) (by omega), bnd1_some, idx_nat (l := y.Attrs) (by omega), bnd1_some, joined_both (hmx.1 rfl) htb hmx.2.2 hat.2.2, bnd1_some, app24 (by omega), bnd1_some, chk_nat (by omega), bnd1_some, ctl2_nrm, chk_nat (by omega), bnd1_some]
        refine ⟨_, rfl, rfl, q + 1, rfl, ?_, by rw [← hc, ← hq]; simp only [isNow]; simp; omega⟩
        refine hB3.row y.Cuts[q]! (bothA x.Attrs[k]! y.Attrs[q]!) (by unfold bothA; omega) ?_
        rw [joinU_rr1]; rfl
    · rintro ⟨at_, i, out⟩ ⟨rfl, m, rfl, hB, hc⟩
      dsimp only at hB hc
      have hAx := hx.add_le (k := x.Cuts.length) (by omega)
      rw [from_end hx] at hB hc
      rw [cntN_map] at hc
      obtain ⟨o, e1, hB2⟩ := ref_Both_L2_eq y hy oy x.Adds[x.Cuts.length]! (fun e he => ox (.a e) (from_mem_a hx (by omega) e he)) [] (joinU x.us y.us) (by omega) (by omega) (by omega) out m (by omega) (by rw [List.append_nil]; exact hB)
      rw [hc] at e1 hB2
      have hol := hB2.len
      have hcl := hB2.wf.cuts_le
      have hoa := hB2.wf.adds
      have hlt : o.Cuts.length < o.Adds.length := by omega
      have hAo := hB2.wf.add_le hlt
      have hBl := hy.add_le (k := y.Cuts.length) (by omega)
      rw [from_end hy] at hB2
      have hB3 := hB2.adds y.Adds[y.Cuts.length]! (us' := []) (vs' := []) (by rw [joinU_endb, joinU, List.append_nil])
      refine ⟨⟨o.Adds.set o.Cuts.length (o.Adds[o.Cuts.length]! ++ y.Adds[y.Cuts.length]!), o.Cuts, o.Attrs⟩, ?_, hB3.wf, ?_, hB3.ok⟩
      · show ref_Both_L1 x y (m : Int) (x.Cuts.length : Int) out = _
        unfold ref_Both_L1
        rw [if_pos (by simp), idx_nat (l := x.Adds) (by omega), bnd1_some, e1, bnd2_some, last_add hB2.wf (by omega), bnd1_some, if_pos (by simp), idx_nat hlt, bnd1_some, app40 (by rw [List.length_nil]; omega), bnd1_some, List.nil_append, idx_nat (l := y.Adds) (by omega), bnd1_some, app40 (by omega), bnd1_some, set_eq]
        rfl
      · have := hB3.eq
        rw [joinU, List.append_nil] at this
        exact this
  obtain ⟨z, h1, h2⟩ := key
  exact ⟨z, by rw [h1]; rfl, h2⟩
end Go.Proofs.Ytdeglnbioiicaaa.Al


namespace Go.Proofs.Ytdeglnbioiicaaa.Al
end Go.Proofs.Ytdeglnbioiicaaa.Al


namespace Go.Proofs.Ytdeglnbioiicaaa.Al
theorem wFl_lens {m : Int} {w : Axis_Writer} (h : WB m w) : oldLen (wFl w) = oldLen w.out + w.cut ∧ nowLen (wFl w) = nowLen w.out + w.add := by
  have ha := h.a0
  have hc := h.c0
  unfold wFl
  rw [oldLen_app, nowLen_app]
  have e1 : oldLen (if 0 < w.add then w.out ++ [(⟨1, w.add⟩ : GAxisStep)] else w.out) = oldLen w.out ∧ nowLen (if 0 < w.add then w.out ++ [(⟨1, w.add⟩ : GAxisStep)] else w.out) = nowLen w.out + w.add := by
    by_cases h1 : 0 < w.add
    · rw [if_pos h1, oldLen_app, nowLen_app]
      constructor
      · show _ + (0 + 0) = _; omega
      · show _ + (w.add + 0) = _; omega
    · rw [if_neg h1]; omega
  have e2 : oldLen (if 0 < w.cut then [(⟨2, w.cut⟩ : GAxisStep)] else []) = w.cut ∧ nowLen (if 0 < w.cut then [(⟨2, w.cut⟩ : GAxisStep)] else []) = 0 := by
    by_cases h1 : 0 < w.cut
    · rw [if_pos h1]
      constructor
      · show w.cut + 0 = _; omega
      · rfl
    · rw [if_neg h1]
      constructor
      · show (0 : Int) = _; omega
      · rfl
  rw [e1.1, e1.2, e2.1, e2.2]
  omega
theorem wU_lens {m : Int} {w : Axis_Writer} (h : WB m w) (u : Un) : oldLen (wFl (wU w u)) = oldLen (wFl w) + (if u.isR then 1 else 0) ∧ nowLen (wFl (wU w u)) = nowLen (wFl w) + (if isNow u then 1 else 0) := by
  obtain ⟨h1, h2⟩ := wFl_lens h
  obtain ⟨h3, h4⟩ := wFl_lens (wb_step h u)
  rw [h1, h2, h3, h4]
  match u with
  | .a e =>
    simp only [wU, Un.isR, isNow, Bool.false_eq_true, if_true, if_false]
    omega
  | .r true t =>
    simp only [wU, Un.isR, isNow, Bool.not_true, Bool.false_eq_true, if_true, if_false]
    omega
  | .r false t =>
    simp only [wU, Un.isR, isNow, Bool.not_false, if_true]
    obtain ⟨h5, h6⟩ := lens_bump (wFl w) 1
    rw [h5, h6]
    omega
theorem wOn_lens_from : ∀ (us : List Un) {m : Int} {w : Axis_Writer}, WB m w → oldLen (wFl (us.foldl wU w)) = oldLen (wFl w) + cntR us ∧ nowLen (wFl (us.foldl wU w)) = nowLen (wFl w) + cntN us
  | [], _, _, _ => by simp [cntR, cntN]
  | u :: us, m, w, h => by
    obtain ⟨h1, h2⟩ := wU_lens h u
    obtain ⟨h3, h4⟩ := wOn_lens_from us (wb_step h u)
    have e2 : cntR (u :: us) = (if u.isR then 1 else 0) + cntR us := by unfold cntR; rw [List.countP_cons]; omega
    rw [List.foldl_cons, h3, h4, h1, h2, e2, cntN_cons]
    split <;> split <;> omega
theorem wOn_lens (us : List Un) : oldLen (wFl (wOn us)) = cntR us ∧ nowLen (wFl (wOn us)) = cntN us := by
  obtain ⟨h1, h2⟩ := wOn_lens_from us wb_nil
  have e : oldLen (wFl (⟨[], 0, 0⟩ : Axis_Writer)) = 0 ∧ nowLen (wFl (⟨[], 0, 0⟩ : Axis_Writer)) = 0 := ⟨rfl, rfl⟩
  rw [e.1, Int.zero_add] at h1
  rw [e.2, Int.zero_add] at h2
  exact ⟨h1, h2⟩
theorem wOn_good (us : List Un) (h1 : cntR us ≤ 2147483647) (h2 : cntN us ≤ 2147483647) : axErr (wFl (wOn us)) = 0 := by
  obtain ⟨l1, l2⟩ := wOn_lens us
  obtain ⟨k1, k2, k3⟩ := fl_form (wOn_wb us)
  generalize wFl (wOn us) = l at k1 k2 k3 l1 l2
  have hN : ∀ l : List GAxisStep, (∀ s ∈ l, Okk s) → 0 ≤ oldLen l ∧ 0 ≤ nowLen l ∧ ∀ s ∈ l, s.N ≤ max (oldLen l) (nowLen l) := by
    intro l
    induction l with
    | nil => intro _; simp [oldLen, nowLen]
    | cons x l ih =>
      intro hx
      obtain ⟨i0, i1, i2⟩ := ih fun s hs => hx s (List.mem_cons_of_mem _ hs)
      have h1 := hx x (List.mem_cons_self ..)
      unfold Okk at h1
      have hx2 : (oldN x = 0 ∨ oldN x = x.N) ∧ (nowN x = 0 ∨ nowN x = x.N) ∧ (oldN x = x.N ∨ nowN x = x.N) := by
        unfold oldN nowN
        split <;> split <;> omega
      rw [oldLen_cons, nowLen_cons]
      refine ⟨by omega, by omega, fun s hs => ?_⟩
      rcases List.mem_cons.1 hs with rfl | hs
      · omega
      · have := i2 s hs; omega
  obtain ⟨n0, n1, n2⟩ := hN l k1
  rw [axErr_none fun j hj => ?_]
  · rw [if_neg (by omega)]
  · have hs := k1 _ (mem_at hj)
    have hN := n2 _ (mem_at hj)
    unfold Okk at hs
    unfold errS
    rw [if_neg (by omega), if_neg (by omega), if_neg]
    rintro ⟨h0, h1⟩
    have := k3 (j - 1) (by omega)
    rw [show j - 1 + 1 = j by omega] at this
    rcases h1 with h1 | h1
    · exact this.1 h1
    · exact this.2 h1
theorem joinU_xa (n : Nat) (us vs : List Un) (cb : Bool) : joinU (List.replicate n (.a xE) ++ us) (List.replicate n (.r cb []) ++ vs) = (if cb then [] else List.replicate n (.a xE)) ++ joinU us vs := by
  have h := joinU_as us vs cb [] (List.replicate n xE)
  rw [List.length_replicate, List.map_replicate, List.map_replicate, List.map_replicate] at h
  rw [h]
  have e : chgE [] xE = xE := by
    show (⟨120, 0, rawA [] []⟩ : GElem) = ⟨120, 0, []⟩
    simp [rawA, bothL]
  rw [e]
theorem joinU_xr (n : Nat) (us vs : List Un) (cb : Bool) : joinU (List.replicate n (.r false []) ++ us) (List.replicate n (.r cb []) ++ vs) = List.replicate n (.r cb []) ++ joinU us vs := by
  rw [joinU_rr]
  have e : joinR cb [] [] = .r cb [] := by cases cb <;> simp [joinR, bothA, bothL]
  rw [e]
theorem joinU_xb (n : Nat) (us vs : List Un) (h : NoC us) : joinU us (List.replicate n (.a xE) ++ vs) = List.replicate n (.a xE) ++ joinU us vs := by
  rw [rep_a, joinU_b _ _ _ h]
theorem rdU_noC {s : GAxisStep} {rest : List GAxisStep} {u : Int} (h : RdOK ⟨s :: rest, u⟩) (hk : s.Kind ≠ 2) : NoC (rdU ⟨s :: rest, u⟩) := by
  have h3 := h.fit s rest rfl
  dsimp only at h3
  intro t vs he
  change List.replicate (s.N - u).toNat _ ++ _ = _ at he
  obtain ⟨j, hj⟩ : ∃ j, (s.N - u).toNat = j + 1 := ⟨(s.N - u).toNat - 1, by omega⟩
  rw [hj, List.replicate_succ] at he
  injection he with he1 _
  unfold unK at he1
  split at he1
  · cases he1
  · rw [decide_eq_false hk] at he1; cases he1
theorem cntN_ra (n : Nat) : cntN (List.replicate n (.a xE)) = n := by rw [rep_a, cntN_map, List.length_replicate]
theorem axis_Join_loop (ua ub : List Un) (p q : Axis_Reader) (hp : RdOK p) (hq : RdOK q) (ha : rdU p = ua) (hb : rdU q = ub) (hc : cntN ua = cntR ub) (hla : ua.length ≤ 4294967296) (hlb : ub.length ≤ 4294967296) (hpl : p.steps.length ≤ 4294967296) (hql : q.steps.length ≤ 4294967296) :
    iter (fun (a : Axis_Writer × Axis_Reader × Axis_Reader) => axis_Join_L1 a.1 a.2.1 a.2.2) (W0, p, q) = some (wOn (joinU ua ub)) := by
  have key : ∃ r, iter (fun (a : Axis_Writer × Axis_Reader × Axis_Reader) => axis_Join_L1 a.1 a.2.1 a.2.2) (W0, p, q) = some r ∧ r = wOn (joinU ua ub) := by
    refine iter_inv (fun st => RdOK st.2.1 ∧ RdOK st.2.2 ∧ st.2.1.steps.length ≤ 4294967296 ∧ st.2.2.steps.length ≤ 4294967296 ∧ cntN (rdU st.2.1) = cntR (rdU st.2.2) ∧
      ∃ X, st.1 = wOn X ∧ X ++ joinU (rdU st.2.1) (rdU st.2.2) = joinU ua ub)
      (fun st => (rdU st.2.1).length + (rdU st.2.2).length) _ ?_ ⟨hp, hq, hpl, hql, by rw [ha, hb]; exact hc, [], rfl, by rw [ha, hb]; rfl⟩
    rintro ⟨x, p, q⟩ ⟨hp, hq, hpl, hql, hc, X, hx, hX⟩
    dsimp only at hp hq hpl hql hc hx hX
    subst hx
    have hXl : X.length ≤ 8589934592 := by
      have h1 := congrArg List.length hX
      have h2 := joinU_len ua ub
      rw [List.length_append] at h1
      omega
    dsimp only
    unfold axis_Join_L1
    obtain ⟨ps, pu⟩ := p
    obtain ⟨qs, qu⟩ := q
    match ps, qs with
    | [], [] =>
      refine .inr ?_
      rw [rd_kind_nil, rd_kind_nil]
      simp only [bnd1_some]
      refine ⟨_, rfl, ?_⟩
      have e1 : joinU [] [] = [] := by rw [joinU]
      change X ++ joinU [] [] = _ at hX
      rw [e1, List.append_nil] at hX
      rw [hX]
    | s :: ps, qs =>
      have hs := hp.stp s (List.mem_cons_self ..)
      have hsu := hp.u0
      have hsf := hp.fit s ps rfl
      unfold Stp at hs
      dsimp only at hsu hsf hpl
      rw [List.length_cons] at hpl
      rw [rd_kind, bnd1_some]
      have hk0 : decide (0 ≤ s.Kind) = true := by rw [decide_eq_true_eq]; exact hs.1
      rw [hk0, show (true == false) = false from rfl, if_neg (by decide), bnd1_some, if_pos (by decide)]
      refine .inl ?_
      by_cases hk : s.Kind = 2
      · obtain ⟨p', h1, h2, h3, h4⟩ := rd_take (n := s.N - pu) hp (by omega) (by omega) (by omega)
        rw [if_pos (by rw [decide_eq_true_eq]; exact hk), rd_left hp, bnd1_some, wOn_put_eq X 2 _ (by omega) (by omega) (by omega), bnd1_some, h1, bnd1_some]
        have eu : unK 2 = .r true [] := rfl
        rw [hk, eu] at h3
        rw [eu]
        rw [h3] at hX hc ⊢
        rw [joinU_cuts, ← List.append_assoc] at hX
        rw [cntN_append, cntN_rep] at hc
        refine ⟨_, rfl, ⟨h2, hq, by dsimp only; omega, hql, by simpa using hc, _, rfl, hX⟩, ?_⟩
        dsimp only
        rw [List.length_append, List.length_replicate]; omega
      · rw [if_neg (by rw [decide_eq_true_eq]; exact hk)]
        have hnoC := rdU_noC hp hk
        match qs with
        | [] =>
          exfalso
          change cntN (List.replicate (s.N - pu).toNat (unK s.Kind) ++ _) = 0 at hc
          rw [cntN_append] at hc
          by_cases k1 : s.Kind = 1
          · rw [k1, unK_1, cntN_ra] at hc; omega
          · rw [unK_r k1, decide_eq_false hk, cntN_rep] at hc; simp at hc; omega
        | t :: qs =>
          have ht := hq.stp t (List.mem_cons_self ..)
          have htu := hq.u0
          have htf := hq.fit t qs rfl
          unfold Stp at ht
          dsimp only at htu htf hql
          rw [List.length_cons] at hql
          rw [rd_kind, bnd1_some]
          by_cases hk2 : t.Kind = 1
          · obtain ⟨q', h1, h2, h3, h4⟩ := rd_take (n := t.N - qu) hq (by omega) (by omega) (by omega)
            rw [if_pos (by rw [decide_eq_true_eq]; exact hk2), rd_left hq, bnd1_some, wOn_put_eq X 1 _ (by omega) (by omega) (by omega), bnd1_some, h1, bnd1_some]
            rw [hk2, unK_1] at h3
            rw [h3] at hX hc ⊢
            rw [joinU_xb _ _ _ hnoC, ← List.append_assoc] at hX
            rw [cntR_app, cntR_ra, Nat.zero_add] at hc
            refine ⟨_, rfl, ⟨hp, h2, by dsimp only [List.length_cons]; omega, by dsimp only; omega, hc, _, rfl, hX⟩, ?_⟩
            dsimp only
            rw [List.length_append, List.length_replicate]; omega
          · rw [if_neg (by rw [decide_eq_true_eq]; exact hk2), rd_left hp, bnd1_some, rd_left hq, bnd1_some]
            generalize hn : min (s.N - pu) (t.N - qu) = n
            have hn1 : 1 ≤ n := by omega
            have hn2 : n ≤ s.N - pu := by omega
            have hn3 : n ≤ t.N - qu := by omega
            obtain ⟨p', h1, h2, h3, h4⟩ := rd_take (n := n) hp hn1 hn2 (by omega)
            obtain ⟨q', j1, j2, j3, j4⟩ := rd_take (n := n) hq hn1 hn3 (by omega)
            rw [unK_r hk2] at j3
            have fin : ∀ Y : List Un, Y ++ joinU (rdU p') (rdU q') = joinU ua ub → cntN (rdU p') = cntR (rdU q') → (rdU ⟨s :: ps, pu⟩).length = n.toNat + (rdU p').length →
                ∃ s', (bnd1 (some (wOn Y)) fun (w10 : Axis_Writer) => bnd1 (axis_reader_take ⟨s :: ps, pu⟩ n) fun (w11 : Axis_Reader) => bnd1 (axis_reader_take ⟨t :: qs, qu⟩ n) fun (w12 : Axis_Reader) => (some (.inl (w10, w11, w12)) : Option ((Axis_Writer × Axis_Reader × Axis_Reader) ⊕ Axis_Writer))) = some (.inl s') ∧
                  ((RdOK s'.2.1 ∧ RdOK s'.2.2 ∧ s'.2.1.steps.length ≤ 4294967296 ∧ s'.2.2.steps.length ≤ 4294967296 ∧ cntN (rdU s'.2.1) = cntR (rdU s'.2.2) ∧ ∃ X, s'.1 = wOn X ∧ X ++ joinU (rdU s'.2.1) (rdU s'.2.2) = joinU ua ub) ∧
                  (rdU s'.2.1).length + (rdU s'.2.2).length < (rdU ⟨s :: ps, pu⟩).length + (rdU ⟨t :: qs, qu⟩).length) := by
              intro Y hY hcc hln
              rw [bnd1_some, h1, bnd1_some, j1, bnd1_some]
              refine ⟨_, rfl, ⟨h2, j2, by dsimp only; omega, by dsimp only; omega, hcc, Y, rfl, hY⟩, ?_⟩
              dsimp only
              rw [hln, j3, List.length_append, List.length_replicate]; omega
            have hln : (rdU ⟨s :: ps, pu⟩).length = n.toNat + (rdU p').length := by rw [h3, List.length_append, List.length_replicate]
            by_cases k0 : s.Kind = 0
            · rw [k0, show unK 0 = .r false [] from rfl] at h3
              rw [h3, j3] at hX hc
              rw [joinU_xr, ← List.append_assoc] at hX
              rw [cntN_append, cntN_rep, cntR_app, cntR_rr] at hc
              rw [if_pos (by rw [decide_eq_true_eq]; exact k0), wOn_put_eq X _ _ (by omega) (by omega) (by omega), bnd1_some, unK_r hk2]
              exact fin _ hX (by simpa using hc) hln
            · have k1 : s.Kind = 1 := by omega
              rw [k1, unK_1] at h3
              rw [h3, j3] at hX hc
              rw [joinU_xa, ← List.append_assoc] at hX
              rw [cntN_append, cntN_ra, cntR_app, cntR_rr] at hc
              rw [if_neg (by rw [decide_eq_true_eq]; exact k0)]
              by_cases g0 : t.Kind = 0
              · rw [if_pos (by rw [decide_eq_true_eq]; exact g0), wOn_put_eq X 1 _ (by omega) (by omega) (by omega), bnd1_some, unK_1]
                rw [decide_eq_false (show ¬ t.Kind = 2 by omega), if_neg (by decide)] at hX
                exact fin _ hX (by omega) hln
              · rw [if_neg (by rw [decide_eq_true_eq]; exact g0)]
                rw [decide_eq_true (show t.Kind = 2 by omega), if_pos rfl, List.append_nil] at hX
                exact fin _ hX (by omega) hln
    | [], t :: qs =>
      have ht := hq.stp t (List.mem_cons_self ..)
      have htu := hq.u0
      have htf := hq.fit t qs rfl
      unfold Stp at ht
      dsimp only at htu htf hql
      rw [List.length_cons] at hql
      rw [rd_kind_nil, bnd1_some, show decide ((0 : Int) ≤ -1) = false by decide, show (false == false) = true from rfl, if_pos rfl, rd_kind, bnd1_some, bnd1_some]
      have hk0 : decide (0 ≤ t.Kind) = true := by rw [decide_eq_true_eq]; exact ht.1
      rw [hk0, if_pos (by decide), if_neg (by decide), bnd1_some]
      refine .inl ?_
      by_cases hk2 : t.Kind = 1
      · obtain ⟨q', h1, h2, h3, h4⟩ := rd_take (n := t.N - qu) hq (by omega) (by omega) (by omega)
        rw [if_pos (by rw [decide_eq_true_eq]; exact hk2), rd_left hq, bnd1_some, wOn_put_eq X 1 _ (by omega) (by omega) (by omega), bnd1_some, h1, bnd1_some]
        rw [hk2, unK_1] at h3
        rw [h3] at hX hc ⊢
        rw [joinU_xb _ _ _ (show NoC (rdU ⟨[], pu⟩) from noC_nil), ← List.append_assoc] at hX
        rw [cntR_app, cntR_ra, Nat.zero_add] at hc
        refine ⟨_, rfl, ⟨hp, h2, hpl, by dsimp only; omega, hc, _, rfl, hX⟩, ?_⟩
        dsimp only
        rw [List.length_append, List.length_replicate]; omega
      · exfalso
        change (0 : Nat) = cntR (List.replicate (t.N - qu).toNat (unK t.Kind) ++ _) at hc
        rw [unK_r hk2, cntR_app, cntR_rr] at hc
        omega
  obtain ⟨r, h1, h2⟩ := key
  rw [h1, h2]
end Go.Proofs.Ytdeglnbioiicaaa.Al


namespace Go.Proofs.Ytdeglnbioiicaaa.Al
theorem steps_loop (d : List GStep) (m : Nat) (hm : m ≤ 4294967296) (f1 : d.length ≤ m) (f2 : ∀ x ∈ d, 0 ≤ x.N ∧ x.N ≤ m ∧ x.Elems.length ≤ m ∧ x.Attrs.length ≤ 1099511627776) :
    iter (fun (a : Int × (List GAxisStep)) => law_steps_L1 d a.1 a.2) (0, []) = some (d.map toAx) := by
  have key : ∃ l, iter (fun (a : Int × (List GAxisStep)) => law_steps_L1 d a.1 a.2) (0, []) = some l ∧ l = d.map toAx := by
    refine iter_hoare d.length (fun k st => st = ((k : Int), (d.take k).map toAx)) _ ?_ ?_ (by simp)
    · rintro k st hk rfl
      have hm := f2 _ (mem_at hk)
      refine .inl ⟨_, ?_, rfl⟩
      show law_steps_L1 d (k : Int) _ = _
      unfold law_steps_L1
      rw [if_pos (by simpa using hk), idx_nat hk, bnd1_some, chk64 (by omega) (by omega), bnd1_some, app16s (by simp; omega), bnd1_some, chk_nat (by omega), bnd1_some, take_at hk, List.map_append]
      rfl
    · rintro st rfl
      refine ⟨d.map toAx, ?_, rfl⟩
      rw [List.take_length]
      show law_steps_L1 d (d.length : Int) _ = _
      unfold law_steps_L1
      rw [if_neg (by simp)]
  obtain ⟨l, h1, h2⟩ := key
  rw [h1, h2]
theorem law_steps_norm (z : Ref_Act) (h : WfA z) (ok : ∀ u ∈ z.us, OkU u) (hb : z.us.length ≤ 4294967296) (hbare : ∀ u ∈ z.us.map normU, Bare u) : law_steps z = some (wFl (wOn (z.us.map normU))) := by
  unfold law_steps
  rw [ref_DeltaOf_eq z h ok hb, bnd1_some, ← delta_ax hbare, deltaOf_norm]
  have hdb : DB z.us.length (z.us.foldl dU ⟨[], [], 0⟩) := by
    have := db_steps (us := z.us) (m := 0) (s := ⟨[], [], 0⟩) ⟨by simp, by simp⟩ ok
    rwa [Nat.zero_add] at this
  obtain ⟨f1, f2⟩ := db_fl hdb
  unfold deltaOf
  rw [steps_loop _ _ hb f1 f2]; rfl
def flipK (k : Int) : Int := if k = 1 then 2 else if k = 2 then 1 else k
def flipU : Un → Un
  | .a _ => .r true []
  | .r true _ => .a xE
  | .r false _ => .r false []
theorem flip_unK {k : Int} (h0 : 0 ≤ k) (h2 : k ≤ 2) : flipU (unK k) = unK (flipK k) := by
  have : k = 0 ∨ k = 1 ∨ k = 2 := by omega
  rcases this with rfl | rfl | rfl <;> rfl
theorem idx_flip {k : Int} (h0 : 0 ≤ k) (h2 : k ≤ 2) : idx ([0, 2, 1] : List Int) k = some (flipK k) := by
  have : k = 0 ∨ k = 1 ∨ k = 2 := by omega
  rcases this with rfl | rfl | rfl <;> rfl
theorem flip_cnt (us : List Un) : cntR (us.map flipU) = cntN us ∧ cntN (us.map flipU) = cntR us := by
  induction us with
  | nil => exact ⟨rfl, rfl⟩
  | cons u us ih =>
    have e1 : ∀ (u : Un) (us : List Un), cntR (u :: us) = (if u.isR then 1 else 0) + cntR us := fun u us => by unfold cntR; rw [List.countP_cons]; omega
    rw [List.map_cons, e1, cntN_cons, e1, cntN_cons, ih.1, ih.2]
    match u with
    | .a e => exact ⟨rfl, rfl⟩
    | .r true t => exact ⟨rfl, rfl⟩
    | .r false t => exact ⟨rfl, rfl⟩
theorem cntN_units (a : List GAxisStep) (h : ∀ s ∈ a, Stp s) : (cntN (unitsA a) : Int) = nowLen a := by
  induction a with
  | nil => rfl
  | cons s a ih =>
    have hs := h s (List.mem_cons_self ..)
    have h1 := ih fun x hx => h x (List.mem_cons_of_mem _ hx)
    rw [unitsA_cons, cntN_append, nowLen_cons]
    unfold nowN
    unfold Stp at hs
    by_cases hk : s.Kind = 1
    · rw [hk, unK_1, cntN_ra, if_neg (by decide)]; omega
    · rw [unK_r hk, cntN_rep]
      by_cases h2 : s.Kind = 2
      · rw [decide_eq_true h2, if_pos rfl, if_pos h2]; omega
      · rw [decide_eq_false h2, if_neg (by decide), if_neg h2]; omega
theorem undo_loop (a : List GAxisStep) (h : ∀ s ∈ a, Stp s) (hm : a.length ≤ 9223372036854775806) (hl : (unitsA a).length ≤ 8589934592) :
    iter (fun (c : Int × Axis_Writer) => axis_Undo_L1 a c.1 c.2) (0, (Axis_Writer.mk [] 0 0)) = some (wOn ((unitsA a).map flipU)) := by
  have key : ∃ r, iter (fun (c : Int × Axis_Writer) => axis_Undo_L1 a c.1 c.2) (0, (Axis_Writer.mk [] 0 0)) = some r ∧ r = wOn ((unitsA a).map flipU) := by
    refine iter_hoare a.length (fun k st => st = ((k : Int), wOn ((unitsA (a.take k)).map flipU))) _ ?_ ?_ rfl
    · rintro k st hk rfl
      have hs := h _ (mem_at hk)
      unfold Stp at hs
      have htl : (unitsA (a.take k)).length ≤ (unitsA a).length := by
        have : unitsA a = unitsA (a.take k) ++ unitsA (a.drop k) := by
          conv => lhs; rw [← List.take_append_drop k a]
          unfold unitsA; rw [List.flatMap_append]
        rw [this, List.length_append]; omega
      refine .inl ⟨_, ?_, rfl⟩
      show axis_Undo_L1 a (k : Int) _ = _
      unfold axis_Undo_L1
      rw [if_pos (by simpa using hk), idx_nat hk, bnd1_some, idx_flip hs.1 hs.2.1, bnd1_some, wOn_put_eq _ _ _ (by omega) (by rw [List.length_map]; omega) (by omega), bnd1_some, chk_nat (by omega), bnd1_some]
      rw [take_at hk]
      have e : unitsA (a.take k ++ [a[k]!]) = unitsA (a.take k) ++ List.replicate a[k]!.N.toNat (unK a[k]!.Kind) := by
        show (a.take k ++ [a[k]!]).flatMap _ = _
        rw [List.flatMap_append]; simp [unitsA]
      rw [e, List.map_append, List.map_replicate, flip_unK hs.1 hs.2.1]
    · rintro st rfl
      refine ⟨_, ?_, rfl⟩
      rw [List.take_length]
      show axis_Undo_L1 a (a.length : Int) _ = _
      unfold axis_Undo_L1
      rw [if_neg (by simp)]
  obtain ⟨r, h1, h2⟩ := key
  rw [h1, h2]
theorem axis_Undo_eq (a : List GAxisStep) (ha : a.length ≤ 9223372036854775807) : axis_Undo a = some (if axErr a ≠ 0 then ([], axErr a) else (wFl (wOn ((unitsA a).map flipU)), 0)) := by
  unfold axis_Undo
  rw [axis_Check_eq a ha, bnd1_some]
  by_cases e1 : axErr a ≠ 0
  · rw [if_pos (ndT e1), if_pos e1]
  have e1 := Classical.not_not.1 e1
  have ga := goodA_of e1
  have sa := sizeLen_le ga
  have la := unitsA_len a ga.stp
  have na := ga.len
  have hal : a.length ≤ 4294967294 := by
    have := (size_okk (l := a) fun s hs => by have := ga.stp s hs; unfold Stp at this; exact ⟨this.1, this.2.1, this.2.2.1⟩).1
    omega
  have g1 := ga.olds
  have g2 := ga.nows
  have ca := cntR_units a ga.stp
  have cb := cntN_units a ga.stp
  have hf := flip_cnt (unitsA a)
  have hwb := wOn_wb ((unitsA a).map flipU)
  rw [if_neg (ndF e1), if_neg (show ¬ (axErr a ≠ 0) by simpa using e1), undo_loop a ga.stp (by omega) (by omega), bnd1_some, axis_done_eq hwb (by rw [List.length_map]; omega)]
  rw [wOn_good _ (by rw [hf.1]; omega) (by rw [hf.2]; omega), if_neg (by decide)]; rfl
def joinA (a b : List GAxisStep) : List GAxisStep × Int := if axErr (wFl (wOn (joinU (unitsA a) (unitsA b)))) ≠ 0 then ([], 3) else (wFl (wOn (joinU (unitsA a) (unitsA b))), 0)
theorem axis_Join_eq (a b : List GAxisStep) (ha : a.length ≤ 9223372036854775807) (hb : b.length ≤ 9223372036854775807) : axis_Join a b = some (if axErr a ≠ 0 then ([], axErr a) else if axErr b ≠ 0 then ([], axErr b) else
    if oldLen b ≠ nowLen a then ([], 14) else joinA a b) := by
  unfold axis_Join
  rw [axis_Check_eq a ha, bnd1_some]
  by_cases e1 : axErr a ≠ 0
  · rw [if_pos (ndT e1), if_pos e1]
  have e1 : axErr a = 0 := Classical.not_not.1 e1
  rw [if_neg (ndF e1), if_neg (show ¬ (axErr a ≠ 0) by simpa using e1), axis_Check_eq b hb, bnd1_some]
  by_cases e2 : axErr b ≠ 0
  · rw [if_pos (ndT e2), if_pos e2]
  have e2 : axErr b = 0 := Classical.not_not.1 e2
  have ga := goodA_of e1
  have gb := goodA_of e2
  rw [if_neg (ndF e2), if_neg (show ¬ (axErr b ≠ 0) by simpa using e2), axis_lengths_eq a ga, axis_lengths_eq b gb, bnd2_some, bnd2_some]
  by_cases e3 : oldLen b ≠ nowLen a
  · rw [if_pos (ndT e3), if_pos e3]
  have e3 : oldLen b = nowLen a := Classical.not_not.1 e3
  have sa := sizeLen_le ga
  have sb := sizeLen_le gb
  have la := unitsA_len a ga.stp
  have lb := unitsA_len b gb.stp
  have na := ga.len
  have nb := gb.len
  have ca := cntN_units a ga.stp
  have cb := cntR_units b gb.stp
  have px := joinU_len (unitsA a) (unitsA b)
  have hal : a.length ≤ 4294967294 := by
    have := (size_okk (l := a) fun s hs => by have := ga.stp s hs; unfold Stp at this; exact ⟨this.1, this.2.1, this.2.2.1⟩).1
    omega
  have hbl : b.length ≤ 4294967294 := by
    have := (size_okk (l := b) fun s hs => by have := gb.stp s hs; unfold Stp at this; exact ⟨this.1, this.2.1, this.2.2.1⟩).1
    omega
  rw [if_neg (ndF e3), if_neg (show ¬ (oldLen b ≠ nowLen a) by simpa using e3)]
  have hloop := axis_Join_loop (unitsA a) (unitsA b) ⟨a, 0⟩ ⟨b, 0⟩ (rdOK_full ga.stp) (rdOK_full gb.stp) (rdU_full a) (rdU_full b) (by omega) (by omega) (by omega) (by dsimp only; omega) (by dsimp only; omega)
  unfold W0 at hloop
  rw [hloop, bnd1_some, axis_done_eq (wOn_wb _) (by omega)]
  unfold joinA
  split <;> rfl
def zE : GElem := ⟨0, 0, []⟩
theorem back_bare : ∀ (us : List Un) (n : Nat), (∀ u ∈ us, Bare u) → cntR us = n → (∀ u ∈ backU us (List.replicate n zE), Bare u) ∧ wOn (backU us (List.replicate n zE)) = wOn (us.map flipU) ∧ (backU us (List.replicate n zE)).length = us.length := by
  have hb : backA zE [] = [] := by simp [backA, zE, rawA, bothL]
  have key : ∀ (us : List Un) (n : Nat), (∀ u ∈ us, Bare u) → cntR us = n → (∀ u ∈ backU us (List.replicate n zE), Bare u) ∧ (backU us (List.replicate n zE)).map bareU = us.map flipU := by
    intro us
    induction us with
    | nil => intro n _ _; simp [backU]
    | cons u us ih =>
      intro n hu hn
      have e1 : cntR (u :: us) = (if u.isR then 1 else 0) + cntR us := by unfold cntR; rw [List.countP_cons]; omega
      rw [e1] at hn
      have hu2 : ∀ v ∈ us, Bare v := fun v hv => hu v (List.mem_cons_of_mem _ hv)
      match u, hu u (List.mem_cons_self ..), hn with
      | .a e, _, hn =>
        obtain ⟨k1, k2⟩ := ih n hu2 (by simpa [Un.isR] using hn)
        rw [backU]
        refine ⟨fun v hv => ?_, by rw [List.map_cons, List.map_cons, k2]; rfl⟩
        rcases List.mem_cons.1 hv with rfl | hv
        · rfl
        · exact k1 v hv
      | .r true t, ht, hn =>
        obtain ⟨m, rfl⟩ : ∃ m, n = m + 1 := ⟨n - 1, by simp [Un.isR] at hn; omega⟩
        obtain ⟨k1, k2⟩ := ih m hu2 (by simp [Un.isR] at hn; omega)
        rw [List.replicate_succ, backU]
        refine ⟨fun v hv => ?_, by rw [List.map_cons, List.map_cons, k2]; rfl⟩
        rcases List.mem_cons.1 hv with rfl | hv
        · trivial
        · exact k1 v hv
      | .r false t, ht, hn =>
        have ht : t = [] := ht
        subst ht
        obtain ⟨m, rfl⟩ : ∃ m, n = m + 1 := ⟨n - 1, by simp [Un.isR] at hn; omega⟩
        obtain ⟨k1, k2⟩ := ih m hu2 (by simp [Un.isR] at hn; omega)
        rw [List.replicate_succ, backU, hb]
        refine ⟨fun v hv => ?_, by rw [List.map_cons, List.map_cons, k2]; rfl⟩
        rcases List.mem_cons.1 hv with rfl | hv
        · rfl
        · exact k1 v hv
  intro us n h1 h2
  obtain ⟨k1, k2⟩ := key us n h1 h2
  refine ⟨k1, ?_, ?_⟩
  · rw [← k2]
    unfold wOn
    rw [fold_map wU_bare]
  · have := congrArg List.length k2
    rwa [List.length_map, List.length_map] at this
theorem doneU_cnt : ∀ (us : List Un) (f : List GElem), cntR us = f.length → (doneU us f).length = cntN us := by
  intro us
  induction us with
  | nil => intro f _; simp [doneU, cntN]
  | cons u us ih =>
    intro f hf
    have e1 : cntR (u :: us) = (if u.isR then 1 else 0) + cntR us := by unfold cntR; rw [List.countP_cons]; omega
    rw [e1] at hf
    rw [cntN_cons]
    match u, hf with
    | .a e, hf => rw [doneU, List.length_cons, ih f (by simpa [Un.isR] using hf)]; simp [isNow]; omega
    | .r true t, hf =>
      match f, hf with
      | [], hf => simp [Un.isR] at hf
      | x :: f, hf => rw [doneU, ih f (by simp [Un.isR] at hf; omega)]; simp [isNow]
    | .r false t, hf =>
      match f, hf with
      | [], hf => simp [Un.isR] at hf
      | x :: f, hf => rw [doneU, List.length_cons, ih f (by simp [Un.isR] at hf; omega)]; simp [isNow]; omega
theorem bare_ok3 {a : List GAxisStep} : OkU3 (unitsA a) ∧ OkU2 (unitsA a) := by
  have h : OkU3 (unitsA a) := by
    intro u hu
    obtain ⟨s, _, hs⟩ := List.mem_flatMap.1 hu
    have := List.eq_of_mem_replicate hs
    subst this
    unfold unK
    split
    · rename_i heq; split at heq
      · injection heq with heq; subst heq; exact ⟨by decide, by simp [xE]⟩
      · cases heq
    · rename_i c t heq; split at heq
      · cases heq
      · injection heq with h1 h2; subst h2; exact ⟨fun _ => attrErr_nil, fun _ => rfl, by simp⟩
  exact ⟨h, h.two⟩
theorem joinU_bare : ∀ (us vs : List Un), (∀ u ∈ us, Bare u) → (∀ u ∈ vs, Bare u) → ∀ u ∈ joinU us vs, Bare u := by
  intro us vs
  fun_induction joinU us vs with
  | case1 t us vs ih =>
    intro h1 h2 u hu
    rcases List.mem_cons.1 hu with rfl | hu
    · rfl
    · exact ih (fun u hu => h1 u (List.mem_cons_of_mem _ hu)) h2 u hu
  | case2 us e vs hne ih =>
    intro h1 h2 u hu
    rcases List.mem_cons.1 hu with rfl | hu
    · trivial
    · exact ih h1 (fun u hu => h2 u (List.mem_cons_of_mem _ hu)) u hu
  | case3 e us tb vs ih => intro h1 h2 u hu; exact ih (fun u hu => h1 u (List.mem_cons_of_mem _ hu)) (fun u hu => h2 u (List.mem_cons_of_mem _ hu)) u hu
  | case4 e us cb tb vs hcb ih =>
    intro h1 h2 u hu
    rcases List.mem_cons.1 hu with rfl | hu
    · trivial
    · exact ih (fun u hu => h1 u (List.mem_cons_of_mem _ hu)) (fun u hu => h2 u (List.mem_cons_of_mem _ hu)) u hu
  | case5 ta us cb tb vs ih =>
    intro h1 h2 u hu
    rcases List.mem_cons.1 hu with rfl | hu
    · have e1 : ta = [] := h1 _ (List.mem_cons_self ..)
      have e2 : tb = [] := h2 _ (List.mem_cons_self ..)
      subst e1; subst e2
      show (if cb then [] else bothA [] []) = []
      cases cb <;> simp [bothA, bothL]
    · exact ih (fun u hu => h1 u (List.mem_cons_of_mem _ hu)) (fun u hu => h2 u (List.mem_cons_of_mem _ hu)) u hu
  | case6 => intro _ _ u hu; cases hu
  | case7 => intro _ _ u hu; cases hu
  | case8 => intro _ _ u hu; cases hu
  | case9 => intro _ _ u hu; cases hu
theorem mk40z {n : Nat} (h : n ≤ 4294967296) : mk 40 (n : Int) (GElem.mk 0 0 []) = some (List.replicate n zE) := by
  unfold mk
  rw [if_pos (by omega), Int.toNat_natCast]; rfl
theorem law_AxisJoin_true (a b : List GAxisStep) (ha : a.length ≤ 9223372036854775807) (hb : b.length ≤ 9223372036854775807) : law_AxisJoinMatches a b = some true := by
  unfold law_AxisJoinMatches
  rw [law_axes_eq, bnd1_some, if_neg (by decide), axis_Join_eq a b ha hb, axis_Undo_eq a ha]
  by_cases e1 : axErr a ≠ 0
  · rw [if_pos e1, if_pos e1, bnd2_some, bnd2_some, ref_AxisError_eq a ha, bnd1_some, if_neg (ndF rfl), if_neg (by rw [decide_eq_true_eq]; exact e1), bnd1_some, if_pos (ndT e1)]
    simp
  have e1 : axErr a = 0 := Classical.not_not.1 e1
  have ga := goodA_of e1
  rw [if_neg (show ¬ (axErr a ≠ 0) by simpa using e1), if_neg (show ¬ (axErr a ≠ 0) by simpa using e1)]
  by_cases e2 : axErr b ≠ 0
  · rw [if_pos e2, bnd2_some, bnd2_some, ref_AxisError_eq a ha, bnd1_some, e1, if_neg (ndF rfl), if_pos (by decide), ref_AxisError_eq b hb, bnd1_some, bnd1_some, if_pos (ndT e2)]
    simp
  have e2 : axErr b = 0 := Classical.not_not.1 e2
  have gb := goodA_of e2
  rw [if_neg (show ¬ (axErr b ≠ 0) by simpa using e2)]
  have sa := sizeLen_le ga
  have sb := sizeLen_le gb
  have la := unitsA_len a ga.stp
  have lb := unitsA_len b gb.stp
  have cna := cntN_units a ga.stp
  have cra := cntR_units a ga.stp
  have crb := cntR_units b gb.stp
  generalize hJ : (if oldLen b ≠ nowLen a then ([], 14) else joinA a b : List GAxisStep × Int) = J
  obtain ⟨r2, r3⟩ := J
  have hsh : r3 = 0 ∨ r2 = [] := by
    split at hJ
    · injection hJ with h1 h2; exact .inr h1.symm
    · unfold joinA at hJ
      split at hJ
      · injection hJ with h1 h2; exact .inr h1.symm
      · injection hJ with h1 h2; exact .inl h2.symm
  rw [bnd2_some, bnd2_some, ref_AxisError_eq a ha, bnd1_some, e1, if_neg (ndF rfl), if_pos (by decide), ref_AxisError_eq b hb, bnd1_some, bnd1_some, e2, if_neg (by decide), law_few_eq a ga, bnd1_some]
  by_cases fa : sizeLen a ≤ 300
  · rw [decide_eq_true fa, show ((!true) == false) = true from rfl, gd_true, law_few_eq b gb, bnd1_some]
    by_cases fb : sizeLen b ≤ 300
    · obtain ⟨x, x1, x2, x3⟩ := law_act_eq a ga.stp fa
      obtain ⟨y, y1, y2, y3⟩ := law_act_eq b gb.stp fb
      have hcx := x2.cnt
      have hcy := y2.cnt
      rw [x3] at hcx
      rw [y3] at hcy
      have hba := unitsA_bare a
      have hbb := unitsA_bare b
      obtain ⟨z, z1, z2, z3⟩ := ref_Back_eqA (List.replicate x.Cuts.length zE) x x2 (by rw [List.length_replicate]) (fun e he => by
        have := List.eq_of_mem_replicate he
        subst this; exact ⟨by decide, by simp [zE]⟩) (by rw [x3]; exact bare_ok3.2) (by rw [x3]; omega)
      rw [x3] at z3
      obtain ⟨b1, b2, b3⟩ := back_bare (unitsA a) x.Cuts.length hba hcx
      have hcl := x2.cuts_le
      rw [x3] at hcl
      have hwl : (wFl (wOn ((unitsA a).map flipU))).length ≤ 9223372036854775806 := by
        have h1 := fl_form (wOn_wb ((unitsA a).map flipU))
        have h2 := (size_okk h1.1).1
        rw [h1.2.1, List.length_map] at h2
        omega
      rw [decide_eq_true fb, if_neg (by decide), x1, bnd1_some, y1, bnd1_some, mk40z (by omega), bnd1_some, z1, bnd1_some, law_steps_eq z z2 (by rw [z3]; exact b1) (by rw [z3, b3]; omega), bnd1_some, z3, b2, ref_SameSteps_eq _ _ hwl, bnd1_some, decide_eq_true rfl, if_neg (by decide)]
      rw [ref_Done_eqA (List.replicate x.Cuts.length zE) x x2 (by rw [List.length_replicate]) (fun e he => by
        have := List.eq_of_mem_replicate he
        subst this; exact ⟨by decide, by simp [zE]⟩) (by rw [x3]; exact bare_ok3.2) (by rw [x3]; omega), bnd1_some, x3, doneU_cnt _ _ (by rw [List.length_replicate]; exact hcx)]
      by_cases e3 : oldLen b = nowLen a
      · rw [if_neg (show ¬ (oldLen b ≠ nowLen a) by simpa using e3)] at hJ
        have hjl := joinU_len (unitsA a) (unitsA b)
        have hg : axErr (wFl (wOn (joinU (unitsA a) (unitsA b)))) = 0 := by
          have h1 := cntR_le (joinU (unitsA a) (unitsA b))
          have h2 := cntN_le (joinU (unitsA a) (unitsA b))
          exact wOn_good _ (by omega) (by omega)
        unfold joinA at hJ
        rw [if_neg (by simpa using hg)] at hJ
        injection hJ with h1 h2
        subst h1; subst h2
        obtain ⟨c, c1, c2, c3, c4⟩ := ref_Both_eq x y x2 y2 (by rw [x3]; exact bare_ok3.1) (by rw [y3]; exact bare_ok3.1) (by rw [x3]; omega) (by rw [x3]; omega) (by rw [y3]; omega)
        rw [x3, y3] at c3
        have hcl2 := congrArg List.length c3
        rw [List.length_map] at hcl2
        have hwl2 : (wFl (wOn (joinU (unitsA a) (unitsA b)))).length ≤ 9223372036854775806 := by
          have h1 := fl_form (wOn_wb (joinU (unitsA a) (unitsA b)))
          have h2 := (size_okk h1.1).1
          rw [h1.2.1] at h2
          omega
        rw [if_neg (by rw [show (cntN (unitsA a) : Int) = (y.Cuts.length : Int) by omega]; simp), if_pos (by decide), c1, bnd1_some, law_steps_norm c c2 c4 (by omega) (by rw [c3]; exact joinU_bare _ _ hba hbb), bnd1_some, c3, ref_SameSteps_eq _ _ hwl2, bnd1_some, decide_eq_true rfl, decide_eq_true rfl]
        rfl
      · rw [if_pos (show oldLen b ≠ nowLen a from e3)] at hJ
        injection hJ with h1 h2
        subst h1; subst h2
        rw [if_pos (ndT (by omega))]; rfl
    · rw [decide_eq_false fb, if_pos (by decide)]
      rcases hsh with h | h
      · subst h; simp
      · subst h; simp
  · rw [decide_eq_false fa, show ((!false) == false) = false from rfl, gd_false, bnd1_some, if_pos (by decide)]
    rcases hsh with h | h
    · subst h; simp
    · subst h; simp
end Go.Proofs.Ytdeglnbioiicaaa.Al

