/- Plain laws over the models, a part of them. -/
import Derived.Test.YtelkfhdgmbahgaaMod1
namespace Go.Proofs.Ytelkfhdgmbahgaa.Al
@[simp] theorem bnd1_some {a α : Type} (x : a) (f : a → Option α) : bnd1 (some x) f = f x := rfl
@[simp] theorem bnd2_some {a b α : Type} (x : a) (y : b) (f : a → b → Option α) : bnd2 (some (x, y)) f = f x y := rfl
@[simp] theorem bnd3_some {a b c α : Type} (x : a) (y : b) (z : c) (f : a → b → c → Option α) : bnd3 (some (x, y, z)) f = f x y z := rfl
@[simp] theorem bnd4_some {a b c d α : Type} (x : a) (y : b) (z : c) (u : d) (f : a → b → c → d → Option α) : bnd4 (some (x, y, z, u)) f = f x y z u := rfl
@[simp] theorem ctl1_nrm {a α : Type} (x : a) (f : a → Option α) : ctl1 (some (.nrm x)) f = f x := rfl
@[simp] theorem ctl1_ext {a α : Type} (t : α) (f : a → Option α) : ctl1 (some (.ext t)) f = some t := rfl
@[simp] theorem ctl2_nrm {a b α : Type} (x : a) (y : b) (f : a → b → Option α) : ctl2 (some (.nrm (x, y))) f = f x y := rfl
@[simp] theorem ctl2_ext {a b α : Type} (t : α) (f : a → b → Option α) : ctl2 (some (.ext t)) f = some t := rfl
@[simp] theorem ctl3_nrm {a b c α : Type} (x : a) (y : b) (z : c) (f : a → b → c → Option α) : ctl3 (some (.nrm (x, y, z))) f = f x y z := rfl
@[simp] theorem ctl3_ext {a b c α : Type} (t : α) (f : a → b → c → Option α) : ctl3 (some (.ext t)) f = some t := rfl
@[simp] theorem gd_true {α : Type} [Inhabited α] (m : Option α) : gd true m = m := rfl
@[simp] theorem gd_false {α : Type} [Inhabited α] (m : Option α) : gd false m = some default := rfl
theorem idx_nat {α : Type} [Inhabited α] {l : List α} {k : Nat} (h : k < l.length) : idx l (k : Int) = some l[k]! := by
  unfold idx
  rw [if_pos (Int.natCast_nonneg k), Int.toNat_natCast, List.getElem?_eq_getElem h, getElem!_pos l k h]
theorem chk_nat {k : Nat} (h : k < 9223372036854775807) : chk .i64 ((k : Int) + 1) = some (((k + 1 : Nat)) : Int) := by
  rw [chk64 (by omega) (by omega)]; rfl
theorem chk_pred {k : Nat} (h : 0 < k) (h2 : k ≤ 9223372036854775807) : chk .i64 ((k : Int) - 1) = some ((k - 1 : Nat) : Int) := by
  rw [chk64 (by omega) (by omega)]; congr 1; omega
def stepOf {ρ : Type} (k : Nat) : Option ρ → Option (Int ⊕ Ctl Unit ρ)
  | none => some (.inl ((k + 1 : Nat) : Int))
  | some r => some (.inr (.ext r))
def outOf {ρ : Type} : Option ρ → Ctl Unit ρ
  | none => .nrm ()
  | some r => .ext r
theorem iter_find {ρ : Type} {f : Int → Option (Int ⊕ Ctl Unit ρ)} {n : Nat} (g : Nat → Option ρ) (h1 : ∀ k : Nat, k < n → f k = stepOf k (g k))
    (h2 : f n = some (.inr (.nrm ()))) : iter f 0 = some (outOf ((List.range n).findSome? g)) := by
  have key : ∀ m k : Nat, k + m = n → iter f (k : Int) = some (outOf ((List.range' k m).findSome? g)) := by
    intro m
    induction m with
    | zero =>
      intro k hk
      obtain rfl : k = n := by omega
      rw [iter_stop h2]; rfl
    | succ m ih =>
      intro k hk
      rw [List.range'_succ, List.findSome?_cons]
      have := h1 k (by omega)
      cases hg : g k with
      | none => rw [hg] at this; rw [iter_next this, ih (k + 1) (by omega)]
      | some r => rw [hg] at this; rw [iter_stop this]; rfl
  rw [List.range_eq_range']
  exact key n 0 (by omega)
theorem findSome_congr {α ρ : Type} {l : List α} {g h : α → Option ρ} (e : ∀ x ∈ l, g x = h x) : l.findSome? g = l.findSome? h := by
  induction l with
  | nil => rfl
  | cons a l ih => rw [List.findSome?_cons, List.findSome?_cons, e a (List.mem_cons_self ..), ih fun x hx => e x (List.mem_cons_of_mem _ hx)]
theorem find_all {α ρ : Type} [Inhabited α] (l : List α) (p : α → Bool) (r : ρ) : (List.range l.length).findSome? (fun k => if p l[k]! then none else some r) = if l.all p then none else some r := by
  induction l with
  | nil => rfl
  | cons a l ih =>
    rw [List.length_cons, List.range_succ_eq_map, List.findSome?_cons, List.findSome?_map]
    have hr : (List.range l.length).findSome? ((fun k => if p (a :: l)[k]! = true then none else some r) ∘ Nat.succ) = if l.all p = true then none else some r := by
      rw [← ih]; exact findSome_congr fun k _ => by simp
    rw [hr]
    by_cases hp : p a = true
    · simp [hp]
    · simp [hp]
end Go.Proofs.Ytelkfhdgmbahgaa.Al


namespace Go.Proofs.Ytelkfhdgmbahgaa.Al
theorem take_at {α : Type} [Inhabited α] {l : List α} {k : Nat} (h : k < l.length) : l.take (k + 1) = l.take k ++ [l[k]!] := by
  rw [List.take_add_one, List.getElem?_eq_getElem h, getElem!_pos l k h]; rfl
def oldN (s : GAxisStep) : Int := if s.Kind = 1 then 0 else s.N
def nowN (s : GAxisStep) : Int := if s.Kind = 2 then 0 else s.N
def oldLen (a : List GAxisStep) : Int := (a.map oldN).sum
def nowLen (a : List GAxisStep) : Int := (a.map nowN).sum
def Stp (s : GAxisStep) : Prop := 0 ≤ s.Kind ∧ s.Kind ≤ 2 ∧ 1 ≤ s.N ∧ s.N ≤ 2147483647
end Go.Proofs.Ytelkfhdgmbahgaa.Al


namespace Go.Proofs.Ytelkfhdgmbahgaa.Al
theorem all_iff {α : Type} [Inhabited α] (l : List α) (p : α → Bool) : l.all p = true ↔ ∀ k, k < l.length → p l[k]! = true := by
  rw [List.all_eq_true]
  constructor
  · intro h k hk; rw [getElem!_pos l k hk]; exact h _ (List.getElem_mem hk)
  · intro h x hx
    obtain ⟨k, hk, rfl⟩ := List.mem_iff_getElem.1 hx
    rw [← getElem!_pos l k hk]; exact h k hk
theorem sLt_cons (a b : UInt8) (x y : List UInt8) : sLt (a :: x) (b :: y) = (decide (a < b) || (a == b && sLt x y)) := rfl
theorem sLt_tri : ∀ (a b : List UInt8), (sLt a b || decide (a = b)) = !sLt b a
  | [], [] => rfl
  | [], _ :: _ => rfl
  | _ :: _, [] => rfl
  | a :: x, b :: y => by
    rw [sLt_cons, sLt_cons]
    have ih := sLt_tri x y
    by_cases h : a = b
    · subst h
      have h1 : ¬ a < a := fun h => by simp [UInt8.lt_iff_toNat_lt] at h
      simp only [decide_eq_false h1, beq_self_eq_true, Bool.true_and, Bool.false_or, List.cons.injEq, true_and]
      exact ih
    · have h2 : (a == b) = false := by simpa using h
      have h3 : (b == a) = false := by simpa using fun e : b = a => h e.symm
      have h4 : ¬ (a :: x = b :: y) := fun e => h (List.cons.inj e).1
      rw [h2, h3, decide_eq_false h4]
      simp only [Bool.false_and, Bool.or_false]
      have h5 : a.toNat ≠ b.toNat := fun e => h (UInt8.toNat_inj.1 e)
      by_cases hlt : a < b
      · have : ¬ b < a := by rw [UInt8.lt_iff_toNat_lt] at hlt ⊢; omega
        simp [hlt, this]
      · have : b < a := by rw [UInt8.lt_iff_toNat_lt] at hlt ⊢; omega
        simp [hlt, this]
theorem sLt_asymm {a b : List UInt8} (h : sLt a b = true) : sLt b a = false := by
  have := sLt_tri a b
  rw [h] at this; simpa using this.symm
def okStr (l : List GAttr) : Prop := ∀ a ∈ l, a.Name.length ≤ 9223372036854775807 ∧ a.Value.length ≤ 9223372036854775807
theorem okStr.at {l : List GAttr} (h : okStr l) {k : Nat} (hk : k < l.length) : l[k]!.Name.length ≤ 9223372036854775807 ∧ l[k]!.Value.length ≤ 9223372036854775807 := by
  rw [getElem!_pos l k hk]; exact h _ (List.getElem_mem hk)
end Go.Proofs.Ytelkfhdgmbahgaa.Al


namespace Go.Proofs.Ytelkfhdgmbahgaa.Al
structure GoodA (a : List GAxisStep) : Prop where
  stp : ∀ s ∈ a, Stp s
  olds : oldLen a ≤ 2147483647
  nows : nowLen a ≤ 2147483647
theorem oldLen_cons (s : GAxisStep) (a : List GAxisStep) : oldLen (s :: a) = oldN s + oldLen a := by simp [oldLen]
theorem nowLen_cons (s : GAxisStep) (a : List GAxisStep) : nowLen (s :: a) = nowN s + nowLen a := by simp [nowLen]
theorem GoodA.len {a : List GAxisStep} (h : GoodA a) : (a.length : Int) ≤ 4294967294 := by
  have key : ∀ l : List GAxisStep, (∀ s ∈ l, Stp s) → (l.length : Int) ≤ oldLen l + nowLen l := by
    intro l
    induction l with
    | nil => intro _; simp [oldLen, nowLen]
    | cons s l ih =>
      intro h
      have h1 := ih fun x hx => h x (List.mem_cons_of_mem _ hx)
      have h2 := h s (List.mem_cons_self ..)
      rw [oldLen_cons, nowLen_cons, List.length_cons]
      unfold oldN nowN
      unfold Stp at h2
      split <;> split <;> omega
  have h1 := key a h.stp
  have h2 := h.olds
  have h3 := h.nows
  omega
def Run (a : List GAxisStep) (k : Nat) (f t : Int) : Prop := 0 ≤ f ∧ f + oldLen (a.drop k) ≤ 2147483647 ∧ 0 ≤ t ∧ t + nowLen (a.drop k) ≤ 2147483647
theorem GoodA.run {a : List GAxisStep} (h : GoodA a) : Run a 0 0 0 := by
  have h2 := h.olds
  have h3 := h.nows
  unfold Run
  rw [List.drop_zero]
  omega
end Go.Proofs.Ytelkfhdgmbahgaa.Al


namespace Go.Proofs.Ytelkfhdgmbahgaa.Al
def plCh (c : UInt8) : Bool := decide (97 ≤ c.toNat) && decide (c.toNat ≤ 122)
def placeB (s : List UInt8) : Bool := s.all plCh && decide (1 ≤ s.length) && decide (s.length ≤ 200) && !decide (s[s.length - 1]!.toNat = 97)
theorem plCh_eq (c : UInt8) : ((decide ((c.toNat : Int) < 97)) || (decide (122 < (c.toNat : Int)))) = !plCh c := by
  unfold plCh
  rw [Bool.eq_iff_iff]
  simp only [Bool.or_eq_true, decide_eq_true_eq, Bool.not_eq_true', Bool.and_eq_false_imp, decide_eq_false_iff_not]
  omega
theorem replica_Place_iter (s : List UInt8) (hm : s.length ≤ 1048576) : iter (fun (a : Int) => replica_Place_L1 s a) 0 = some (outOf (if s.all plCh then none else some false)) := by
  rw [iter_find (n := s.length) (fun k => if plCh s[k]! then none else some false) (fun k hk => by
    unfold replica_Place_L1
    rw [if_pos (by simpa using hk), idx_nat hk, bnd1_some, chk_nat (by omega), plCh_eq]
    cases plCh s[k]! <;> rfl) (by unfold replica_Place_L1; rw [if_neg (by simp)]), find_all]
theorem ref_Place_iter (s : List UInt8) (hm : s.length ≤ 1048576) : iter (fun (a : Int) => ref_Place_L1 s a) 0 = some (outOf (if s.all plCh then none else some false)) := replica_Place_iter s hm
theorem toNat97 (c : UInt8) : decide ((c.toNat : Int) = 97) = decide (c.toNat = 97) := by
  rw [Bool.eq_iff_iff]; simp only [decide_eq_true_eq]; omega
theorem replica_Place_eq (s : List UInt8) (hm : s.length ≤ 1048576) : replica_Place s = some (placeB s) := by
  unfold replica_Place
  rw [replica_Place_iter s hm]
  unfold placeB
  by_cases h0 : s = []
  · subst h0; rfl
  · have hl : 1 ≤ s.length := List.length_pos_iff.2 h0
    rw [decide_eq_false h0, Bool.false_or]
    by_cases h1 : s.length ≤ 200
    · have e1 : decide (200 < (s.length : Int)) = false := by simp; omega
      rw [e1, show ((false == false) = true) from rfl, gd_true, chk_pred hl (by omega), bnd1_some, gd_true, idx_nat (by omega), bnd1_some, Bool.false_or, toNat97]
      rw [decide_eq_true hl, decide_eq_true h1]
      generalize s.all plCh = al
      cases decide (s[s.length - 1]!.toNat = 97) <;> cases al <;> rfl
    · have e1 : decide (200 < (s.length : Int)) = true := by simp; omega
      rw [e1, show ((true == false) = false) from rfl, gd_false, bnd1_some, gd_false, bnd1_some, Bool.true_or, if_pos rfl, decide_eq_false h1]
      simp
theorem ref_Place_eq (s : List UInt8) (hm : s.length ≤ 1048576) : ref_Place s = some (placeB s) := by
  unfold ref_Place
  rw [ref_Place_iter s hm]
  unfold placeB
  generalize hal : s.all plCh = al
  cases al
  · rfl
  · rw [show (if true = true then (none : Option Bool) else some false) = none from rfl, show (outOf (none : Option Bool)) = .nrm () from rfl, ctl1_nrm]
    by_cases hl : 1 ≤ s.length
    · by_cases h1 : s.length ≤ 200
      · have e1 : decide (1 ≤ (s.length : Int)) = true := by simp; omega
        have e2 : decide ((s.length : Int) ≤ 200) = true := by simp; omega
        rw [e1, e2, show ((true && true) == true) = true from rfl, gd_true, chk_pred hl (by omega), bnd1_some, gd_true, idx_nat (by omega), bnd1_some, toNat97, decide_eq_true hl, decide_eq_true h1]
        rfl
      · have e2 : decide ((s.length : Int) ≤ 200) = false := by simp; omega
        rw [e2, Bool.and_false, show (false == true) = false from rfl, gd_false, bnd1_some, gd_false, bnd1_some, decide_eq_false h1]
        simp
    · have e1 : decide (1 ≤ (s.length : Int)) = false := by simp; omega
      rw [e1, Bool.false_and, show (false == true) = false from rfl, gd_false, bnd1_some, gd_false, bnd1_some, decide_eq_false hl]
      simp
structure OkOp (x : GDrawOp) : Prop where
  place : x.Place.length ≤ 1048576
  name : x.Name.length ≤ 1048576
  value : x.Value.length ≤ 1048576
end Go.Proofs.Ytelkfhdgmbahgaa.Al


namespace Go.Proofs.Ytelkfhdgmbahgaa.Al
theorem sLt_diff : ∀ (i : Nat) (p q : List UInt8), (∀ j, j < i → p[j]! = q[j]!) → i < p.length → i < q.length → p[i]! < q[i]! → sLt p q = true
  | 0, c :: p, d :: q, _, _, _, h => by
    rw [sLt_cons]
    have : c < d := h
    simp [this]
  | i + 1, c :: p, d :: q, he, h1, h2, h => by
    have h0 : c = d := he 0 (by omega)
    rw [sLt_cons, sLt_diff i p q (fun j hj => by have := he (j + 1) (by omega); simpa using this) (by simpa using h1) (by simpa using h2) (by simpa using h)]
    simp [h0]
  | _, [], _, _, h, _, _ => by simp at h
  | _, _ :: _, [], _, _, h, _ => by simp at h
theorem sLt_prefix : ∀ (p q : List UInt8), (∀ j, j < q.length → p[j]! = q[j]!) → q.length ≤ p.length → sLt p q = false
  | p, [], _, _ => by cases p <;> rfl
  | [], d :: q, _, h => by simp at h
  | c :: p, d :: q, he, h => by
    have h0 : c = d := he 0 (by simp)
    subst h0
    rw [sLt_cons, sLt_prefix p q (fun j hj => by have := he (j + 1) (by simpa using hj); simpa using this) (by simpa using h)]
    have : ¬ c < c := fun e => by have := UInt8.lt_irrefl c; exact this e
    simp [this]
theorem strOf_push (l : List Int) (c : Int) : strOf (l ++ [c]) = strOf l ++ [UInt8.ofNat c.toNat] := by simp [strOf]
section
variable (a b : List UInt8)
def pX (i : Nat) : Int := if i < a.length then (a[i]!.toNat : Int) - 97 else 0
structure InvB (i : Nat) (opn : Bool) (out : List Int) : Prop where
  len : out.length = i
  op : opn = true → b = [] ∨ ¬ strOf out <+: b
  lt : opn = false → i < b.length
  pre : opn = false → strOf out = b.take i
  eqs : opn = false → ∀ j, j < i → (b[j]!.toNat : Int) = 97 + pX a j
structure HypB : Prop where
  ha : ∀ j, j < a.length → 97 ≤ a[j]!.toNat ∧ a[j]!.toNat ≤ 122
  hb : ∀ j, j < b.length → 97 ≤ b[j]!.toNat ∧ b[j]!.toNat ≤ 122
  hl : b ≠ [] → b[b.length - 1]!.toNat ≠ 97
  lt : a ≠ [] → b ≠ [] → sLt a b = true
  la : a.length ≤ 1048576
  lb : b.length ≤ 1048576
variable {a b}
theorem pX_bd (h : HypB a b) (i : Nat) : 0 ≤ pX a i ∧ pX a i ≤ 25 := by
  unfold pX
  split
  · rename_i hi; have := h.ha i hi; omega
  · omega
set_option maxRecDepth 20000 in
theorem wrapu {z : Int} (h1 : 0 ≤ z) (h2 : z ≤ 255) : IntKind.u8.wrap z = z := by
  have h : ∀ m : Fin 256, IntKind.u8.wrap ((m.val : Nat) : Int) = ((m.val : Nat) : Int) := by decide
  have := h ⟨z.toNat, by omega⟩
  simp only [Int.toNat_of_nonneg h1] at this
  exact this
theorem wrap8 (c : UInt8) (h1 : 97 ≤ c.toNat) (h2 : c.toNat ≤ 122) : IntKind.i64.wrap (IntKind.u8.wrap ((c.toNat : Int) - 97)) = (c.toNat : Int) - 97 := by
  rw [wrapu (by omega) (by omega), w64 (by omega) (by omega)]
theorem wrapc (c : UInt8) : IntKind.i64.wrap (c.toNat : Int) = (c.toNat : Int) := by
  have := UInt8.toNat_lt c
  exact w64 (by omega) (by omega)
def pY (b : List UInt8) (i : Nat) (opn : Bool) : Int := if opn then 26 else (b[i]!.toNat : Int) - 97
theorem pY_bd (h : HypB a b) {i : Nat} {opn : Bool} {out : List Int} (hI : InvB a b i opn out) : 0 ≤ pY b i opn ∧ pY b i opn ≤ 26 := by
  unfold pY
  cases opn
  · have := h.hb i (hI.lt rfl); rw [if_neg (by decide)]; omega
  · rw [if_pos rfl]; omega
def newB (x y : Int) : Int := 97 + x + (y - x) / 2
def stepB (a b : List UInt8) (i : Nat) (opn : Bool) (out : List Int) : (Int × Bool × List Int) ⊕ List Int :=
  if 2 ≤ pY b i opn - pX a i then .inr (out ++ [newB (pX a i) (pY b i opn)]) else .inl (((i + 1 : Nat) : Int), (opn || decide (pX a i < pY b i opn)), out ++ [97 + pX a i])
def stepR (a b : List UInt8) (i : Nat) (opn : Bool) (out : List Int) : (Int × List Int) ⊕ List Int :=
  if 2 ≤ pY b i opn - pX a i then .inr (out ++ [newB (pX a i) (pY b i opn)]) else .inl (((i + 1 : Nat) : Int), out ++ [97 + pX a i])
theorem app1b {o : List Int} {x : Int} (h : o.length ≤ 4194304) : app 1 o [x] = some (o ++ [x]) := by
  unfold app; rw [if_pos (by simp <;> omega)]
theorem quo2 {z : Int} (h0 : 0 ≤ z) (h1 : z ≤ 100) : quoM .i64 z 2 = some (z / 2) := by
  unfold quoM
  rw [if_neg (by decide), Int.tdiv_eq_ediv_of_nonneg h0, chk64 (by omega) (by omega)]
theorem between_step (h : HypB a b) {i : Nat} {opn : Bool} {out : List Int} (hI : InvB a b i opn out) (hi : i ≤ 1048577) : replica_Between_L1 a b i opn out = some (stepB a b i opn out) := by
  have hx := pX_bd h i
  have hy := pY_bd h hI
  unfold replica_Between_L1 stepB
  have e1 : (if (decide ((i : Int) < (a.length : Int))) = true then (bnd1 (idx a i) fun (ch2 : UInt8) => some (IntKind.i64.wrap (IntKind.u8.wrap ((ch2.toNat : Int) - 97)))) else some 0) = some (pX a i) := by
    unfold pX
    by_cases hia : i < a.length
    · rw [if_pos (by simpa using hia), if_pos hia, idx_nat hia, bnd1_some, wrap8 _ (h.ha i hia).1 (h.ha i hia).2]
    · rw [if_neg (by simpa using hia), if_neg hia]
  have e2 : (if (!opn) = true then (bnd1 (idx b i) fun (ch1 : UInt8) => some (IntKind.i64.wrap (IntKind.u8.wrap ((ch1.toNat : Int) - 97)))) else some 26) = some (pY b i opn) := by
    unfold pY
    cases opn
    · have hib := hI.lt rfl
      rw [if_pos (by decide), if_neg (by decide), idx_nat hib, bnd1_some, wrap8 _ (h.hb i hib).1 (h.hb i hib).2]
    · rfl
  rw [e1, bnd1_some, e2, bnd1_some]
  generalize pX a i = x at hx ⊢
  generalize pY b i opn = y at hy ⊢
  have hl := hI.len
  rw [chk64 (by omega) (by omega), bnd1_some]
  by_cases hd : 2 ≤ y - x
  · rw [if_pos (by simpa using hd), if_pos hd, chk64 (by omega) (by omega), bnd1_some, quo2 (by omega) (by omega), bnd1_some, chk64 (by omega) (by omega), bnd1_some, wrapu (by omega) (by omega), app1b (by omega), bnd1_some]; rfl
  · rw [if_neg (by simpa using hd), if_neg hd, chk64 (by omega) (by omega), bnd1_some, wrapu (by omega) (by omega), app1b (by omega), bnd1_some, chk_nat (by omega), bnd1_some]
theorem law_step (h : HypB a b) {i : Nat} {opn : Bool} {out : List Int} (hI : InvB a b i opn out) (hi : i ≤ 1048577) : law_ReplicaBetweenMatches_L1 a b i out = some (stepR a b i opn out) := by
  have hx := pX_bd h i
  have hy := pY_bd h hI
  unfold law_ReplicaBetweenMatches_L1 stepR
  have e1 : (if (decide ((i : Int) < (a.length : Int))) = true then (bnd1 (idx a i) fun (ch2 : UInt8) => bnd1 (chk .i64 ((IntKind.i64.wrap (ch2.toNat : Int)) - 97)) fun (x7 : Int) => some x7) else some 0) = some (pX a i) := by
    unfold pX
    by_cases hia : i < a.length
    · have := h.ha i hia
      rw [if_pos (by simpa using hia), if_pos hia, idx_nat hia, bnd1_some, wrapc, chk64 (by omega) (by omega), bnd1_some]
    · rw [if_neg (by simpa using hia), if_neg hia]
  have e2 : (bnd1 (gd (((!decide (b = [])) && (decide ((i : Int) < (b.length : Int)))) == true) (slc b 0 i)) fun (s1 : List UInt8) =>
      bnd1 (if (((!decide (b = [])) && (decide ((i : Int) < (b.length : Int)))) && (decide ((strOf out) = s1))) = true then (bnd1 (idx b i) fun (ch1 : UInt8) => bnd1 (chk .i64 ((IntKind.i64.wrap (ch1.toNat : Int)) - 97)) fun (y2 : Int) => some y2) else some 26)
        fun (y1 : Int) => some y1) = some (pY b i opn) := by
    by_cases hib : i < b.length
    · have hbn : b ≠ [] := by rintro rfl; simp at hib
      have c1 : ((!decide (b = [])) && (decide ((i : Int) < (b.length : Int)))) = true := by simp [hbn]; omega
      have s1 : slc b 0 (i : Int) = some (b.take i) := by unfold slc; rw [if_pos (by omega)]; simp
      rw [c1, show (true == true) = true from rfl, gd_true, s1, bnd1_some, Bool.true_and]
      cases opn
      · have := h.hb i hib
        rw [if_pos (by simpa using hI.pre rfl), idx_nat hib, bnd1_some, wrapc, chk64 (by omega) (by omega), bnd1_some, bnd1_some]; rfl
      · rw [if_neg, bnd1_some]
        · rfl
        · intro e
          rw [decide_eq_true_eq] at e
          rcases hI.op rfl with hb | hb
          · exact hbn hb
          · exact hb (by rw [e]; exact List.take_prefix i b)
    · have ho : opn = true := by
        cases opn
        · exact absurd (hI.lt rfl) hib
        · rfl
      subst ho
      have c1 : ((!decide (b = [])) && (decide ((i : Int) < (b.length : Int)))) = false := by
        rw [← Bool.not_eq_true]; simp only [Bool.and_eq_true, decide_eq_true_eq]; omega
      rw [c1, show (false == true) = false from rfl, gd_false, bnd1_some, Bool.false_and, if_neg (by decide), bnd1_some]; rfl
  have e3 : ∀ (F : Int → Option ((Int × (List Int)) ⊕ (List Int))), (bnd1 (gd (((!decide (b = [])) && (decide ((i : Int) < (b.length : Int)))) == true) (slc b 0 i)) fun (s1 : List UInt8) =>
      bnd1 (if (((!decide (b = [])) && (decide ((i : Int) < (b.length : Int)))) && (decide ((strOf out) = s1))) = true then (bnd1 (idx b i) fun (ch1 : UInt8) => bnd1 (chk .i64 ((IntKind.i64.wrap (ch1.toNat : Int)) - 97)) fun (y2 : Int) => some y2) else some 26) F) = F (pY b i opn) := by
    intro F
    generalize (gd (((!decide (b = [])) && (decide ((i : Int) < (b.length : Int)))) == true) (slc b 0 i)) = m at e2 ⊢
    cases m with
    | none => cases e2
    | some s1 =>
      rw [bnd1_some] at e2 ⊢
      generalize (if (((!decide (b = [])) && (decide ((i : Int) < (b.length : Int)))) && (decide ((strOf out) = s1))) = true then (bnd1 (idx b i) fun (ch1 : UInt8) => bnd1 (chk .i64 ((IntKind.i64.wrap (ch1.toNat : Int)) - 97)) fun (y2 : Int) => some y2) else some 26) = m2 at e2 ⊢
      cases m2 with
      | none => cases e2
      | some z => rw [bnd1_some] at e2 ⊢; cases e2; rfl
  rw [e1, bnd1_some, e3]
  generalize pX a i = x at hx ⊢
  generalize pY b i opn = y at hy ⊢
  have hl := hI.len
  rw [chk64 (by omega) (by omega), bnd1_some]
  by_cases hd : 2 ≤ y - x
  · rw [if_pos (by simp; omega), if_pos hd, chk64 (by omega) (by omega), bnd1_some, quo2 (by omega) (by omega), bnd1_some, chk64 (by omega) (by omega), bnd1_some, wrapu (by omega) (by omega), app1b (by omega), bnd1_some]
    unfold newB
    rw [show 97 + (x + y) / 2 = 97 + x + (y - x) / 2 by omega]
  · rw [if_neg (by simp; omega), if_neg hd, chk64 (by omega) (by omega), bnd1_some, wrapu (by omega) (by omega), app1b (by omega), bnd1_some, chk_nat (by omega), bnd1_some]
theorem pX_le (h : HypB a b) {i : Nat} {out : List Int} (hI : InvB a b i false out) : pX a i ≤ pY b i false := by
  have hib := hI.lt rfl
  have hbn : b ≠ [] := by rintro rfl; simp at hib
  have h1 := h.hb i hib
  unfold pX pY
  by_cases hia : i < a.length
  · rw [if_pos hia, if_neg (by decide)]
    have han : a ≠ [] := by rintro rfl; simp at hia
    by_cases hle : a[i]!.toNat ≤ b[i]!.toNat
    · omega
    · have : sLt b a = true := sLt_diff i b a (fun j hj => by
        have := hI.eqs rfl j hj
        unfold pX at this
        rw [if_pos (by omega)] at this
        have e : b[j]!.toNat = a[j]!.toNat := by omega
        exact UInt8.toNat_inj.1 e) hib hia (by rw [UInt8.lt_iff_toNat_lt]; omega)
      have h2 := sLt_asymm this
      rw [h.lt han hbn] at h2; cases h2
  · rw [if_neg hia, if_neg (by decide)]; omega
theorem inv_next (h : HypB a b) {i : Nat} {opn : Bool} {out : List Int} (hI : InvB a b i opn out) (hd : ¬ 2 ≤ pY b i opn - pX a i) : InvB a b (i + 1) (opn || decide (pX a i < pY b i opn)) (out ++ [97 + pX a i]) := by
  have hx := pX_bd h i
  cases opn with
  | true =>
    rw [Bool.true_or]
    refine ⟨by simp [hI.len], fun _ => ?_, fun e => (by cases e), fun e => (by cases e), fun e => (by cases e)⟩
    rcases hI.op rfl with hb | hb
    · exact .inl hb
    · right
      rw [strOf_push]
      exact fun hp => hb ((List.prefix_append _ _).trans hp)
  | false =>
    have hib := hI.lt rfl
    have hbn : b ≠ [] := by rintro rfl; simp at hib
    have hbc := h.hb i hib
    have hle := pX_le h hI
    rw [Bool.false_or]
    have hY : pY b i false = (b[i]!.toNat : Int) - 97 := rfl
    by_cases hlt : pX a i < pY b i false
    · rw [decide_eq_true hlt]
      refine ⟨by simp [hI.len], fun _ => ?_, fun e => (by cases e), fun e => (by cases e), fun e => (by cases e)⟩
      right
      rw [strOf_push, hI.pre rfl]
      intro hp
      have hlen : (b.take i).length = i := by simp; omega
      have h3 : some (UInt8.ofNat (97 + pX a i).toNat) = b[i]? := by
        obtain ⟨t, ht⟩ := hp
        have h6 : (b.take i ++ [UInt8.ofNat (97 + pX a i).toNat] ++ t)[i]? = b[i]? := by rw [ht]
        rw [← h6, List.append_assoc, List.getElem?_append_right (by omega), hlen, Nat.sub_self]; rfl
      have h4 : b[i]! = UInt8.ofNat (97 + pX a i).toNat := by rw [getElem!_def, ← h3]
      have h5 : b[i]!.toNat = (97 + pX a i).toNat := by rw [h4, UInt8.toNat_ofNat_of_lt' (by simp; omega)]
      omega
    · have hxy : pX a i = pY b i false := by omega
      rw [decide_eq_false hlt]
      have hnext : i + 1 < b.length := by
        by_cases hn : i + 1 < b.length
        · exact hn
        · have hlast : i = b.length - 1 := by omega
          exfalso
          by_cases hia : i < a.length
          · have han : a ≠ [] := by rintro rfl; simp at hia
            have := sLt_prefix a b (fun j hj => by
              by_cases hji : j < i
              · have := hI.eqs rfl j hji
                unfold pX at this
                rw [if_pos (by omega)] at this
                exact (UInt8.toNat_inj.1 (by omega)).symm
              · obtain rfl : j = i := by omega
                unfold pX at hxy
                rw [if_pos hia, hY] at hxy
                exact UInt8.toNat_inj.1 (by omega)) (by omega)
            rw [h.lt han hbn] at this; cases this
          · unfold pX at hxy
            rw [if_neg hia, hY] at hxy
            have := h.hl hbn
            rw [← hlast] at this
            omega
      have hc : b[i]! = UInt8.ofNat (97 + pX a i).toNat := by
        apply UInt8.toNat_inj.1
        rw [UInt8.toNat_ofNat_of_lt' (by simp; omega)]
        omega
      refine ⟨by simp [hI.len], fun e => (by cases e), fun _ => hnext, fun _ => ?_, fun _ j hj => ?_⟩
      · rw [strOf_push, hI.pre rfl, take_at hib, hc]
      · by_cases hji : j < i
        · exact hI.eqs rfl j hji
        · obtain rfl : j = i := by omega
          omega
theorem between_both (h : HypB a b) : ∃ l, iter (fun (s : Int × Bool × (List Int)) => replica_Between_L1 a b s.1 s.2.1 s.2.2) (0, (decide (b = [])), []) = some l ∧ iter (fun (s : Int × (List Int)) => law_ReplicaBetweenMatches_L1 a b s.1 s.2) (0, []) = some l := by
  have key : ∀ (m i : Nat) (opn : Bool) (out : List Int), i + m = max a.length b.length → InvB a b i opn out →
      ∃ l, iter (fun (s : Int × Bool × (List Int)) => replica_Between_L1 a b s.1 s.2.1 s.2.2) ((i : Int), opn, out) = some l ∧ iter (fun (s : Int × (List Int)) => law_ReplicaBetweenMatches_L1 a b s.1 s.2) ((i : Int), out) = some l := by
    intro m
    induction m with
    | zero =>
      intro i opn out hm hI
      have hla := h.la
      have hlb := h.lb
      have s1 := between_step h hI (by omega)
      have s2 := law_step h hI (by omega)
      have ho : opn = true := by
        cases opn
        · have := hI.lt rfl; omega
        · rfl
      subst ho
      have hd : 2 ≤ pY b i true - pX a i := by
        have e1 : pX a i = 0 := by unfold pX; rw [if_neg (by omega)]
        have e2 : pY b i true = 26 := rfl
        omega
      unfold stepB at s1
      unfold stepR at s2
      rw [if_pos hd] at s1 s2
      exact ⟨_, iter_stop s1, iter_stop s2⟩
    | succ m ih =>
      intro i opn out hm hI
      have hla := h.la
      have hlb := h.lb
      have s1 := between_step h hI (by omega)
      have s2 := law_step h hI (by omega)
      unfold stepB at s1
      unfold stepR at s2
      by_cases hd : 2 ≤ pY b i opn - pX a i
      · rw [if_pos hd] at s1 s2
        exact ⟨_, iter_stop s1, iter_stop s2⟩
      · rw [if_neg hd] at s1 s2
        obtain ⟨l, h1, h2⟩ := ih (i + 1) _ _ (by omega) (inv_next h hI hd)
        exact ⟨l, (iter_next (f := fun (s : Int × Bool × (List Int)) => replica_Between_L1 a b s.1 s.2.1 s.2.2) (s := ((i : Int), opn, out)) s1).trans h1, (iter_next (f := fun (s : Int × (List Int)) => law_ReplicaBetweenMatches_L1 a b s.1 s.2) (s := ((i : Int), out)) s2).trans h2⟩
  refine key (max a.length b.length) 0 (decide (b = [])) [] (by omega) ⟨rfl, fun e => .inl (by simpa using e), fun e => ?_, fun _ => rfl, fun _ j hj => by omega⟩
  have : b ≠ [] := by simpa using e
  exact List.length_pos_iff.2 this
end
theorem placeB_all {s : List UInt8} (h : placeB s = true) : (∀ j, j < s.length → 97 ≤ s[j]!.toNat ∧ s[j]!.toNat ≤ 122) ∧ s[s.length - 1]!.toNat ≠ 97 := by
  unfold placeB at h
  simp only [Bool.and_eq_true, Bool.not_eq_true', decide_eq_false_iff_not] at h
  refine ⟨fun j hj => ?_, h.2⟩
  have := (all_iff s plCh).1 h.1.1.1 j hj
  unfold plCh at this
  simpa using this
theorem law_ReplicaBetween_true (a b : List UInt8) (la : a.length ≤ 1048576) (lb : b.length ≤ 1048576) : law_ReplicaBetweenMatches a b = some true := by
  unfold law_ReplicaBetweenMatches replica_Between
  rw [show law_draws = some true from rfl, bnd1_some, if_neg (by decide), replica_Place_eq a la, replica_Place_eq b lb, ref_Place_eq a la, ref_Place_eq b lb]
  by_cases h1 : ((!decide (a = [])) && !placeB a) = true
  · simp only [Bool.and_eq_true, Bool.not_eq_true', decide_eq_false_iff_not] at h1
    simp [h1.1, h1.2, gd]
  have ga : a = [] ∨ placeB a = true := by
    by_cases ha : a = []
    · exact .inl ha
    · right
      cases hq : placeB a
      · exact absurd (by simp [ha, hq]) h1
      · rfl
  by_cases h2 : ((!decide (b = [])) && !placeB b) = true
  · simp only [Bool.and_eq_true, Bool.not_eq_true', decide_eq_false_iff_not] at h2
    rcases ga with ha | ha
    · simp [ha, h2.1, h2.2, gd]
    · by_cases ha0 : a = []
      · simp [ha0, h2.1, h2.2, gd]
      · simp [ha0, ha, h2.1, h2.2, gd]
  have gb : b = [] ∨ placeB b = true := by
    by_cases hb : b = []
    · exact .inl hb
    · right
      cases hq : placeB b
      · exact absurd (by simp [hb, hq]) h2
      · rfl
  have key : ∀ (r4 r5 : Bool), (r4 = placeB a ∨ a = []) → (r5 = placeB b ∨ b = []) → (((!decide (a = [])) && (!r4)) || ((!decide (b = [])) && (!r5))) = false := by
    intro r4 r5 h4 h5
    have e1 : ((!decide (a = [])) && (!r4)) = false := by
      rcases ga with g | g
      · simp [g]
      · rcases h4 with h | h
        · simp [h, g]
        · simp [h]
    have e2 : ((!decide (b = [])) && (!r5)) = false := by
      rcases gb with g | g
      · simp [g]
      · rcases h5 with h | h
        · simp [h, g]
        · simp [h]
    rw [e1, e2]; rfl
  have gdA : ∃ r4 : Bool, gd ((!decide (a = [])) == true) (some (placeB a)) = some r4 ∧ (r4 = placeB a ∨ a = []) := by
    by_cases ha : a = []
    · exact ⟨false, by simp [ha, gd], .inr ha⟩
    · exact ⟨placeB a, by simp [ha, gd], .inl rfl⟩
  obtain ⟨r4, e4, h4⟩ := gdA
  have gdB : ∃ r5 : Bool, gd ((((!decide (a = [])) && (!r4)) == false) && ((!decide (b = [])) == true)) (some (placeB b)) = some r5 ∧ (r5 = placeB b ∨ b = []) := by
    have e1 : ((!decide (a = [])) && (!r4)) = false := by
      have := key r4 true h4 (by
        rcases gb with g | g
        · exact .inr g
        · exact .inl g.symm)
      simp only [Bool.or_eq_false_iff] at this
      exact this.1
    by_cases hb : b = []
    · exact ⟨false, by rw [e1]; simp [hb, gd], .inr hb⟩
    · exact ⟨placeB b, by rw [e1]; simp [hb, gd], .inl rfl⟩
  obtain ⟨r5, e5, h5⟩ := gdB
  rw [e4, bnd1_some, e5, bnd1_some, key r4 r5 h4 h5, if_neg (by decide)]
  by_cases h3 : (((!decide (a = [])) && (!decide (b = []))) && (!sLt a b)) = true
  · rw [if_pos h3, bnd2_some, bnd1_some, e5, bnd1_some, key r4 r5 h4 h5, if_neg (by decide), if_pos h3]; rfl
  · rw [if_neg h3]
    have hyp : HypB a b := by
      refine ⟨?_, ?_, ?_, ?_, la, lb⟩
      · rcases ga with g | g
        · subst g; intro j hj; simp at hj
        · exact (placeB_all g).1
      · rcases gb with g | g
        · subst g; intro j hj; simp at hj
        · exact (placeB_all g).1
      · intro hb
        rcases gb with g | g
        · exact absurd g hb
        · exact (placeB_all g).2
      · intro ha hb
        cases hs : sLt a b
        · exact absurd (by simp [ha, hb, hs]) h3
        · rfl
    obtain ⟨l, i1, i2⟩ := between_both hyp
    rw [i1, bnd1_some]
    by_cases h6 : decide (200 < (l.length : Int)) = true
    · rw [if_pos h6, bnd2_some, bnd1_some, e5, bnd1_some, key r4 r5 h4 h5, if_neg (by decide), if_neg h3, i2, bnd1_some, if_pos h6]; rfl
    · rw [if_neg h6, bnd2_some, bnd1_some, e5, bnd1_some, key r4 r5 h4 h5, if_neg (by decide), if_neg h3, i2, bnd1_some, if_neg h6]; simp
end Go.Proofs.Ytelkfhdgmbahgaa.Al

