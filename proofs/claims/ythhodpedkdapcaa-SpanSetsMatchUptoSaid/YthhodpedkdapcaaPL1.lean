/- Plain laws over the models, a part of them. -/
import Derived.Test.YthhodpedkdapcaaMod1
namespace Go.Proofs.Ythhodpedkdapcaa.Al
@[simp] theorem bnd1_some {a α : Type} (x : a) (f : a → Option α) : bnd1 (some x) f = f x := rfl
@[simp] theorem bnd2_some {a b α : Type} (x : a) (y : b) (f : a → b → Option α) : bnd2 (some (x, y)) f = f x y := rfl
@[simp] theorem bnd3_some {a b c α : Type} (x : a) (y : b) (z : c) (f : a → b → c → Option α) : bnd3 (some (x, y, z)) f = f x y z := rfl
@[simp] theorem bnd4_some {a b c d α : Type} (x : a) (y : b) (z : c) (u : d) (f : a → b → c → d → Option α) : bnd4 (some (x, y, z, u)) f = f x y z u := rfl
@[simp] theorem ctl1_nrm {a α : Type} (x : a) (f : a → Option α) : ctl1 (some (.nrm x)) f = f x := rfl
@[simp] theorem ctl1_ext {a α : Type} (t : α) (f : a → Option α) : ctl1 (some (.ext t)) f = some t := rfl
@[simp] theorem ctl2_nrm {a b α : Type} (x : a) (y : b) (f : a → b → Option α) : ctl2 (some (.nrm (x, y))) f = f x y := rfl
@[simp] theorem ctl2_ext {a b α : Type} (t : α) (f : a → b → Option α) : ctl2 (some (.ext t)) f = some t := rfl
@[simp] theorem ctl3_nrm {a b c α : Type} (x : a) (y : b) (z : c) (f : a → b → c → Option α) : ctl3 (some (.nrm (x, y, z))) f = f x y z := rfl
@[simp] theorem ctl3_ext {a b c α : Type} (t : α) (f : a → b → c → Option α) : ctl3 (some (.ext t)) f = some t := rfl
@[simp] theorem gd_true {α : Type} [Inhabited α] (m : Option α) : gd true m = m := rfl
@[simp] theorem gd_false {α : Type} [Inhabited α] (m : Option α) : gd false m = some default := rfl
theorem idx_nat {α : Type} [Inhabited α] {l : List α} {k : Nat} (h : k < l.length) : idx l (k : Int) = some l[k]! := by
  unfold idx
  rw [if_pos (Int.natCast_nonneg k), Int.toNat_natCast, List.getElem?_eq_getElem h, getElem!_pos l k h]
theorem chk_nat {k : Nat} (h : k < 9223372036854775807) : chk .i64 ((k : Int) + 1) = some (((k + 1 : Nat)) : Int) := by
  rw [chk64 (by omega) (by omega)]; rfl
def stepOf {ρ : Type} (k : Nat) : Option ρ → Option (Int ⊕ Ctl Unit ρ)
  | none => some (.inl ((k + 1 : Nat) : Int))
  | some r => some (.inr (.ext r))
def outOf {ρ : Type} : Option ρ → Ctl Unit ρ
  | none => .nrm ()
  | some r => .ext r
theorem iter_find {ρ : Type} {f : Int → Option (Int ⊕ Ctl Unit ρ)} {n : Nat} (g : Nat → Option ρ) (h1 : ∀ k : Nat, k < n → f k = stepOf k (g k))
    (h2 : f n = some (.inr (.nrm ()))) : iter f 0 = some (outOf ((List.range n).findSome? g)) := by
  have key : ∀ m k : Nat, k + m = n → iter f (k : Int) = some (outOf ((List.range' k m).findSome? g)) := by
    intro m
    induction m with
    | zero =>
      intro k hk
      obtain rfl : k = n := by omega
      rw [iter_stop h2]; rfl
    | succ m ih =>
      intro k hk
      rw [List.range'_succ, List.findSome?_cons]
      have := h1 k (by omega)
      cases hg : g k with
      | none => rw [hg] at this; rw [iter_next this, ih (k + 1) (by omega)]
      | some r => rw [hg] at this; rw [iter_stop this]; rfl
  rw [List.range_eq_range']
  exact key n 0 (by omega)
theorem ctl_outOf {ρ : Type} (o : Option ρ) (f : Unit → Option ρ) : ctl1 (some (outOf o)) f = match o with | none => f () | some r => some r := by cases o <;> rfl
end Go.Proofs.Ythhodpedkdapcaa.Al


namespace Go.Proofs.Ythhodpedkdapcaa.Al
def chOK (c : UInt8) : Bool := (decide (97 ≤ c.toNat) && decide (c.toNat ≤ 122)) || (decide (48 ≤ c.toNat) && decide (c.toNat ≤ 57)) || decide (c.toNat = 46) || decide (c.toNat = 45)
def nameOK (s : List UInt8) : Bool := decide (1 ≤ s.length) && decide (s.length ≤ 24) && (decide (97 ≤ s[0]!.toNat) && decide (s[0]!.toNat ≤ 122)) && s.all chOK
def valCh (c : UInt8) : Bool := decide (32 ≤ c.toNat) && decide (c.toNat ≤ 126)
def valOK (s : List UInt8) : Bool := decide (1 ≤ s.length) && decide (s.length ≤ 200) && s.all valCh
def okStr (l : List GAttr) : Prop := ∀ a ∈ l, a.Name.length ≤ 9223372036854775807 ∧ a.Value.length ≤ 9223372036854775807
def errA (l : List GAttr) (ch : Bool) (k : Nat) : Option Int :=
  if nameOK l[k]!.Name = false then some 9 else if valOK l[k]!.Value = false ∧ ¬ (ch = true ∧ l[k]!.Value = []) then some 23 else if 0 < k ∧ sLt l[k - 1]!.Name l[k]!.Name = false then some 5 else none
def attrErr (l : List GAttr) (ch : Bool) : Int := ((List.range l.length).findSome? (errA l ch)).getD 0
theorem okStr.at {l : List GAttr} (h : okStr l) {k : Nat} (hk : k < l.length) : l[k]!.Name.length ≤ 9223372036854775807 ∧ l[k]!.Value.length ≤ 9223372036854775807 := by
  rw [getElem!_pos l k hk]; exact h _ (List.getElem_mem hk)
theorem out_getD {o : Option Int} : (ctl1 (some (outOf o)) fun _ : Unit => some 0) = some (o.getD 0) := by cases o <;> rfl
end Go.Proofs.Ythhodpedkdapcaa.Al


namespace Go.Proofs.Ythhodpedkdapcaa.Al
def nil2 : GAttr := ⟨[], []⟩
end Go.Proofs.Ythhodpedkdapcaa.Al


namespace Go.Proofs.Ythhodpedkdapcaa.Al
end Go.Proofs.Ythhodpedkdapcaa.Al


namespace Go.Proofs.Ythhodpedkdapcaa.Al
def One (l : List GAttr) (n : List UInt8) (o : Option GAttr) : Prop := l = o.toList ∧ ∀ e, o = some e → e.Name = n
structure GOK (g : GAttr → GAttr → List GAttr) (G : Option GAttr → Option GAttr → Option GAttr) : Prop where
  l : ∀ x : GAttr, x.Name ≠ [] → One (g x nil2) x.Name (G (some x) none)
  r : ∀ y : GAttr, y.Name ≠ [] → One (g nil2 y) y.Name (G none (some y))
  b : ∀ x y : GAttr, x.Name = y.Name → x.Name ≠ [] → One (g x y) x.Name (G (some x) (some y))
  n : G none none = none
end Go.Proofs.Ythhodpedkdapcaa.Al


namespace Go.Proofs.Ythhodpedkdapcaa.Al
end Go.Proofs.Ythhodpedkdapcaa.Al


namespace Go.Proofs.Ythhodpedkdapcaa.Al
theorem take_at {α : Type} [Inhabited α] {l : List α} {k : Nat} (h : k < l.length) : l.take (k + 1) = l.take k ++ [l[k]!] := by
  rw [List.take_add_one, List.getElem?_eq_getElem h, getElem!_pos l k h]; rfl
theorem mem_at {α : Type} [Inhabited α] {l : List α} {k : Nat} (h : k < l.length) : l[k]! ∈ l := by
  rw [getElem!_pos l k h]; exact List.getElem_mem h
def oldN (s : GAxisStep) : Int := if s.Kind = 1 then 0 else s.N
def nowN (s : GAxisStep) : Int := if s.Kind = 2 then 0 else s.N
def oldLen (a : List GAxisStep) : Int := (a.map oldN).sum
def nowLen (a : List GAxisStep) : Int := (a.map nowN).sum
def Stp (s : GAxisStep) : Prop := 0 ≤ s.Kind ∧ s.Kind ≤ 2 ∧ 1 ≤ s.N ∧ s.N ≤ 2147483647
theorem ref_In_eq (x lo hi : Int) : ref_In x lo hi = some (decide (lo ≤ x) && decide (x ≤ hi)) := by
  unfold ref_In
  rfl
end Go.Proofs.Ythhodpedkdapcaa.Al


namespace Go.Proofs.Ythhodpedkdapcaa.Al
structure GoodA (a : List GAxisStep) : Prop where
  stp : ∀ s ∈ a, Stp s
  olds : oldLen a ≤ 2147483647
  nows : nowLen a ≤ 2147483647
theorem oldLen_cons (s : GAxisStep) (a : List GAxisStep) : oldLen (s :: a) = oldN s + oldLen a := by simp [oldLen]
theorem nowLen_cons (s : GAxisStep) (a : List GAxisStep) : nowLen (s :: a) = nowN s + nowLen a := by simp [nowLen]
theorem GoodA.len {a : List GAxisStep} (h : GoodA a) : (a.length : Int) ≤ 4294967294 := by
  have key : ∀ l : List GAxisStep, (∀ s ∈ l, Stp s) → (l.length : Int) ≤ oldLen l + nowLen l := by
    intro l
    induction l with
    | nil => intro _; simp [oldLen, nowLen]
    | cons s l ih =>
      intro h
      have h1 := ih fun x hx => h x (List.mem_cons_of_mem _ hx)
      have h2 := h s (List.mem_cons_self ..)
      rw [oldLen_cons, nowLen_cons, List.length_cons]
      unfold oldN nowN
      unfold Stp at h2
      split <;> split <;> omega
  have h1 := key a h.stp
  have h2 := h.olds
  have h3 := h.nows
  omega
def Run (a : List GAxisStep) (k : Nat) (f t : Int) : Prop := 0 ≤ f ∧ f + oldLen (a.drop k) ≤ 2147483647 ∧ 0 ≤ t ∧ t + nowLen (a.drop k) ≤ 2147483647
theorem GoodA.run {a : List GAxisStep} (h : GoodA a) : Run a 0 0 0 := by
  have h2 := h.olds
  have h3 := h.nows
  unfold Run
  rw [List.drop_zero]
  omega
def sizeLen (a : List GAxisStep) : Int := (a.map (·.N)).sum
end Go.Proofs.Ythhodpedkdapcaa.Al


namespace Go.Proofs.Ythhodpedkdapcaa.Al
def charOK (c : Int) : Bool := decide (c = 9) || decide (c = 10) || (decide (32 ≤ c) && decide (c ≤ 126)) || (decide (160 ≤ c) && decide (c ≤ 55295)) || (decide (57344 ≤ c) && decide (c ≤ 1114111))
def elemErr (x : GElem) : Int :=
  if (x.Char = 0 ∧ x.Ref = 0) ∨ (x.Char ≠ 0 ∧ x.Ref ≠ 0) then 4 else if (x.Char ≠ 0 ∧ charOK x.Char = false) ∨ (x.Ref ≠ 0 ∧ ¬ (1 ≤ x.Ref ∧ x.Ref ≤ 1073741824)) then 2 else attrErr x.Attrs false
def okE (x : GElem) : Prop := x.Attrs.length ≤ 9223372036854775807 ∧ okStr x.Attrs
def errE (f : List GElem) (k : Nat) : Option Int := if elemErr f[k]! = 0 then none else some (elemErr f[k]!)
def partErr (f : List GElem) : Int := ((List.range f.length).findSome? (errE f)).getD 0
theorem app16 {o : List GSpan} {x : GSpan} (h : o.length + 1 ≤ 1099511627776) : app 16 o [x] = some (o ++ [x]) := by
  unfold app; rw [if_pos (by simp; omega)]
end Go.Proofs.Ythhodpedkdapcaa.Al


namespace Go.Proofs.Ythhodpedkdapcaa.Al
theorem ndT {p : Prop} [Decidable p] (h : ¬ p) : (!decide p) = true := by simp [h]
theorem ndF {p : Prop} [Decidable p] (h : p) : ¬ ((!decide p) = true) := by simp [h]
def okA (l : List GAttr) : Prop := l.length ≤ 1073741824 ∧ okStr l
theorem okA.e {x : GElem} (h : okA x.Attrs) : okE x := ⟨by have := h.1; omega, h.2⟩
structure OkSt (s : GStep) : Prop where
  at_ : okA s.Attrs
  el : s.Elems.length ≤ 1073741824
  ea : ∀ e ∈ s.Elems, okA e.Attrs
structure OkD (d : List GStep) : Prop where
  len : d.length ≤ 1099511627776
  st : ∀ s ∈ d, OkSt s
  sum : (d.map fun s => s.Elems.length).sum ≤ 1073741824
structure GoodS (s : GStep) : Prop where
  kind : (s.Kind = 0 ∧ s.Elems = [] ∧ 1 ≤ s.N ∧ s.N ≤ 2147483647 ∧ attrErr s.Attrs true = 0) ∨ (s.Kind = 2 ∧ s.Elems = [] ∧ s.Attrs = [] ∧ 1 ≤ s.N ∧ s.N ≤ 2147483647) ∨
    (s.Kind = 1 ∧ s.N = 0 ∧ s.Attrs = [] ∧ s.Elems ≠ [] ∧ partErr s.Elems = 0)
def ordBad (p s : GStep) : Bool := (decide (p.Kind = s.Kind) && (!decide (s.Kind = 0) || decide (p.Attrs = s.Attrs))) || (decide (p.Kind = 2) && decide (s.Kind = 1))
def oldS (s : GStep) : Int := if s.Kind = 1 then 0 else s.N
def nowS (s : GStep) : Int := if s.Kind = 2 then 0 else if s.Kind = 1 then s.Elems.length else s.N
def oldD (d : List GStep) : Int := (d.map oldS).sum
def nowD (d : List GStep) : Int := (d.map nowS).sum
end Go.Proofs.Ythhodpedkdapcaa.Al


namespace Go.Proofs.Ythhodpedkdapcaa.Al
end Go.Proofs.Ythhodpedkdapcaa.Al


namespace Go.Proofs.Ythhodpedkdapcaa.Al
inductive Un where
  | a (e : GElem)
  | r (cut : Bool) (at_ : List GAttr)
def uOf : List (List GElem) → List Bool → List (List GAttr) → List Un
  | A :: As, c :: cs, t :: ts => A.map Un.a ++ Un.r c t :: uOf As cs ts
  | A :: _, _, _ => A.map Un.a
  | [], _, _ => []
structure WfA (x : Ref_Act) : Prop where
  adds : x.Adds.length = x.Cuts.length + 1
  attrs : x.Attrs.length = x.Cuts.length
def Ref_Act.us (x : Ref_Act) : List Un := uOf x.Adds x.Cuts x.Attrs
theorem set_eq {α : Type} {l : List α} {k : Nat} {x : α} : l.set ((k : Int).toNat) x = l.set k x := by simp
end Go.Proofs.Ythhodpedkdapcaa.Al


namespace Go.Proofs.Ythhodpedkdapcaa.Al
end Go.Proofs.Ythhodpedkdapcaa.Al


namespace Go.Proofs.Ythhodpedkdapcaa.Al
structure DS where
  out : List GStep
  adds : List GElem
  cuts : Nat
structure DB (m : Nat) (s : DS) : Prop where
  len : s.out.length + s.adds.length + s.cuts ≤ m
  mem : ∀ x ∈ s.out, 0 ≤ x.N ∧ x.N ≤ m ∧ x.Elems.length ≤ m ∧ x.Attrs.length ≤ 1099511627776
end Go.Proofs.Ythhodpedkdapcaa.Al


namespace Go.Proofs.Ythhodpedkdapcaa.Al
structure GoodD (d : List GStep) : Prop where
  st : ∀ s ∈ d, GoodS s
  ord : ∀ k, 0 < k → k < d.length → ordBad d[k - 1]! d[k]! = false
  olds : oldD d ≤ 2147483647
  nows : nowD d ≤ 2147483647
end Go.Proofs.Ythhodpedkdapcaa.Al


namespace Go.Proofs.Ythhodpedkdapcaa.Al
end Go.Proofs.Ythhodpedkdapcaa.Al


namespace Go.Proofs.Ythhodpedkdapcaa.Al
def Okk2 (a : Nat) (s : GStep) : Prop := ((s.Kind = 0 ∧ s.Elems = [] ∧ 1 ≤ s.N ∧ attrErr s.Attrs true = 0) ∨ (s.Kind = 2 ∧ s.Elems = [] ∧ s.Attrs = [] ∧ 1 ≤ s.N) ∨
    (s.Kind = 1 ∧ s.N = 0 ∧ s.Attrs = [] ∧ s.Elems ≠ [] ∧ ∀ e ∈ s.Elems, elemErr e = 0)) ∧ okA s.Attrs ∧ s.Elems.length ≤ a ∧ ∀ e ∈ s.Elems, okA e.Attrs
def AdjD (l : List GStep) : Prop := ∀ k, 0 < k → k < l.length → ordBad l[k - 1]! l[k]! = false
structure CD (m a r n : Nat) (s : DS) : Prop where
  ok : ∀ x ∈ s.out, Okk2 a x
  adj : AdjD s.out
  last : 0 < s.out.length → s.out[s.out.length - 1]!.Kind = 0
  add : ∀ e ∈ s.adds, elemErr e = 0 ∧ okA e.Attrs
  olds : oldD s.out + s.cuts = r
  nows : nowD s.out + s.adds.length = n
  len : s.out.length + s.adds.length + s.cuts ≤ m
  al : s.adds.length ≤ a
theorem Okk2.mono {a b : Nat} {s : GStep} (h : Okk2 a s) (hab : a ≤ b) : Okk2 b s := ⟨h.1, h.2.1, Nat.le_trans h.2.2.1 hab, h.2.2.2⟩
end Go.Proofs.Ythhodpedkdapcaa.Al


namespace Go.Proofs.Ythhodpedkdapcaa.Al
end Go.Proofs.Ythhodpedkdapcaa.Al


namespace Go.Proofs.Ythhodpedkdapcaa.Al
def OkU2 (us : List Un) : Prop := ∀ u ∈ us, match u with | .a e => elemErr e = 0 ∧ e.Attrs.length ≤ 1048576 | .r c t => (c = false → attrErr t true = 0) ∧ t.length ≤ 1048576
end Go.Proofs.Ythhodpedkdapcaa.Al


namespace Go.Proofs.Ythhodpedkdapcaa.Al
end Go.Proofs.Ythhodpedkdapcaa.Al


namespace Go.Proofs.Ythhodpedkdapcaa.Al
structure SmD (d : List GStep) : Prop where
  at_ : ∀ s ∈ d, s.Attrs.length ≤ 1048576
  ea : ∀ s ∈ d, ∀ e ∈ s.Elems, e.Attrs.length ≤ 1048576
  sum : (d.map fun s => s.Elems.length).sum ≤ 1048576
  len : d.length ≤ 1048576
end Go.Proofs.Ythhodpedkdapcaa.Al


namespace Go.Proofs.Ythhodpedkdapcaa.Al
def OkU3 (us : List Un) : Prop := ∀ u ∈ us, match u with | .a e => elemErr e = 0 ∧ e.Attrs.length ≤ 1048576 | .r c t => (c = false → attrErr t true = 0) ∧ (c = true → t = []) ∧ t.length ≤ 1048576
theorem OkU3.two {us : List Un} (h : OkU3 us) : OkU2 us := by
  intro u hu
  have := h u hu
  match u, this with
  | .a e, he => exact he
  | .r c t, ht => exact ⟨ht.1, ht.2.2⟩
def szS (s : GStep) : Int := if s.Kind = 1 then s.Elems.length else s.N
structure RdD (p : Delta_Reader) : Prop where
  stp : ∀ s ∈ p.steps, GoodS s ∧ OkSt s
  u0 : 0 ≤ p.used
  fit : ∀ s rest, p.steps = s :: rest → p.used < szS s
end Go.Proofs.Ythhodpedkdapcaa.Al


namespace Go.Proofs.Ythhodpedkdapcaa.Al
end Go.Proofs.Ythhodpedkdapcaa.Al


namespace Go.Proofs.Ythhodpedkdapcaa.Al
end Go.Proofs.Ythhodpedkdapcaa.Al


namespace Go.Proofs.Ythhodpedkdapcaa.Al
def wFl (w : Axis_Writer) : List GAxisStep := (if 0 < w.add then w.out ++ [⟨1, w.add⟩] else w.out) ++ (if 0 < w.cut then [⟨2, w.cut⟩] else [])
def Adj (l : List GAxisStep) : Prop := ∀ k, k + 1 < l.length → l[k]!.Kind ≠ l[k + 1]!.Kind ∧ ¬ (l[k]!.Kind = 2 ∧ l[k + 1]!.Kind = 1)
def Okk (s : GAxisStep) : Prop := 0 ≤ s.Kind ∧ s.Kind ≤ 2 ∧ 1 ≤ s.N
structure WB (m : Int) (w : Axis_Writer) : Prop where
  a0 : 0 ≤ w.add
  c0 : 0 ≤ w.cut
  ok : ∀ s ∈ w.out, Okk s
  sum : sizeLen w.out + w.add + w.cut = m
  adj : Adj w.out
  last : 0 < w.out.length → w.out[w.out.length - 1]!.Kind = 0
end Go.Proofs.Ythhodpedkdapcaa.Al


namespace Go.Proofs.Ythhodpedkdapcaa.Al
structure RdOK (p : Axis_Reader) : Prop where
  stp : ∀ s ∈ p.steps, Stp s
  u0 : 0 ≤ p.used
  fit : ∀ s rest, p.steps = s :: rest → p.used < s.N
end Go.Proofs.Ythhodpedkdapcaa.Al


namespace Go.Proofs.Ythhodpedkdapcaa.Al
end Go.Proofs.Ythhodpedkdapcaa.Al


namespace Go.Proofs.Ythhodpedkdapcaa.Al
theorem OkU3.app {a b : List Un} (h : OkU3 (a ++ b)) : OkU3 b := fun u hu => h u (List.mem_append_right _ hu)
end Go.Proofs.Ythhodpedkdapcaa.Al


namespace Go.Proofs.Ythhodpedkdapcaa.Al
end Go.Proofs.Ythhodpedkdapcaa.Al


namespace Go.Proofs.Ythhodpedkdapcaa.Al
structure AxI (d : List GStep) (k : Nat) (w : Axis_Writer) : Prop where
  len : (wFl w).length ≤ k
  olds : oldLen (wFl w) = oldD (d.take k)
  nows : nowLen (wFl w) = nowD (d.take k)
  zero : k = 0 → w.add = 0 ∧ w.cut = 0
  keep : 0 < k → d[k - 1]!.Kind = 0 → w.add = 0 ∧ w.cut = 0
  addd : 0 < k → d[k - 1]!.Kind = 1 → w.cut = 0
end Go.Proofs.Ythhodpedkdapcaa.Al


namespace Go.Proofs.Ythhodpedkdapcaa.Al
def errSp (l : List GSpan) (k : Nat) : Option Int := if l[k]!.From < 0 ∨ l[k]!.To ≤ l[k]!.From ∨ 2147483647 < l[k]!.To then some 2 else if 0 < k ∧ l[k]!.From ≤ l[k - 1]!.To then some 5 else none
def setErr (l : List GSpan) : Int := ((List.range l.length).findSome? (errSp l)).getD 0
theorem span_Check_eq (l : List GSpan) (hm : l.length ≤ 1099511627776) : span_Check l = some (setErr l) := by
  unfold span_Check
  rw [iter_find (n := l.length) (errSp l) (fun k hk => by
    unfold span_Check_L1 errSp
    rw [if_pos (by simpa using hk), idx_nat hk, bnd1_some]
    by_cases c : l[k]!.From < 0 ∨ l[k]!.To ≤ l[k]!.From ∨ 2147483647 < l[k]!.To
    · rw [if_pos (by simp only [Bool.or_eq_true, decide_eq_true_eq]; omega), if_pos c]; rfl
    · rw [if_neg (by simp only [Bool.or_eq_true, decide_eq_true_eq]; omega), if_neg c]
      by_cases h0 : 0 < k
      · rw [decide_eq_true (show (0 : Int) < (k : Int) by omega), show (true == true) = true from rfl, gd_true, show ((k : Int) - 1) = ((k - 1 : Nat) : Int) by omega, chk64 (by omega) (by omega), bnd1_some, gd_true, idx_nat (by omega), bnd1_some, Bool.true_and]
        by_cases h1 : l[k]!.From ≤ l[k - 1]!.To
        · rw [if_pos (by rw [decide_eq_true_eq]; exact h1), if_pos ⟨h0, h1⟩]; rfl
        · rw [if_neg (by rw [decide_eq_true_eq]; exact h1), if_neg (fun h => h1 h.2), chk_nat (by omega)]; rfl
      · have : k = 0 := by omega
        subst this
        rw [show decide ((0 : Int) < ((0 : Nat) : Int)) = false by decide, show (false == true) = false from rfl, gd_false, bnd1_some, gd_false, bnd1_some, Bool.false_and, if_neg (by decide), if_neg (fun h => h0 h.1), chk_nat (by omega)]; rfl) (by unfold span_Check_L1; rw [if_neg (by simp)]), out_getD]; rfl
theorem law_setError_eq (l : List GSpan) (hm : l.length ≤ 1099511627776) : law_setError l = some (setErr l) := by
  rw [← span_Check_eq l hm]; rfl
theorem errSp_ne {l : List GSpan} {k : Nat} {r : Int} (h : errSp l k = some r) : r ≠ 0 := by
  unfold errSp at h
  split at h
  · cases h; decide
  · split at h
    · cases h; decide
    · cases h
theorem setErr_all {l : List GSpan} (h : setErr l = 0) {k : Nat} (hk : k < l.length) : 0 ≤ l[k]!.From ∧ l[k]!.From < l[k]!.To ∧ l[k]!.To ≤ 2147483647 ∧ (0 < k → l[k - 1]!.To < l[k]!.From) := by
  have hn : errSp l k = none := by
    cases hr : (List.range l.length).findSome? (errSp l) with
    | none => exact List.findSome?_eq_none_iff.1 hr k (List.mem_range.2 hk)
    | some r =>
      obtain ⟨j, hj⟩ := List.exists_of_findSome?_eq_some hr
      unfold setErr at h
      rw [hr] at h
      exact absurd h (errSp_ne hj.2)
  unfold errSp at hn
  split at hn
  · cases hn
  · split at hn
    · cases hn
    · refine ⟨by omega, by omega, by omega, fun h => by omega⟩
theorem spans_u1 : span_merged__Union_f1_L1 [⟨0, 2⟩] [⟨2, 3⟩] 0 0 0 [] = some (.inl (0, 1, 0, [])) := by
  have h2 : iter (fun (a : Int) => span_merged__Union_f1_L2 [⟨0, 2⟩] 2 0 a) 0 = some 1 := (iter_next (s' := 1) rfl).trans (iter_stop rfl)
  have h3 : iter (fun (a : Int) => span_merged__Union_f1_L3 [⟨2, 3⟩] 2 0 [] 1 a) 0 = some (.ext (.inl (0, 1, 0, []))) := iter_stop rfl
  show (bnd1 (iter (fun (a : Int) => span_merged__Union_f1_L2 [⟨0, 2⟩] 2 0 a) 0) fun (i19 : Int) => ctl1 (iter (fun (a : Int) => span_merged__Union_f1_L3 [⟨2, 3⟩] 2 0 [] i19 a) 0) fun (u4 : Unit) => none) = _
  rw [h2, bnd1_some, h3]; rfl
theorem spans_u2 : span_merged__Union_f1_L1 [⟨0, 2⟩] [⟨2, 3⟩] 0 1 0 [] = some (.inl (2, 2, 1, [⟨0, 2⟩])) := by
  have h2 : iter (fun (a : Int) => span_merged__Union_f1_L2 [⟨0, 2⟩] 2 2 a) 1 = some 2 := (iter_next (s' := 2) rfl).trans (iter_stop rfl)
  have h3 : iter (fun (a : Int) => span_merged__Union_f1_L3 [⟨2, 3⟩] 2 2 [⟨0, 2⟩] 2 a) 0 = some (.ext (.inl (2, 2, 1, [⟨0, 2⟩]))) := (iter_next (s' := 1) rfl).trans (iter_stop rfl)
  show (bnd1 (iter (fun (a : Int) => span_merged__Union_f1_L2 [⟨0, 2⟩] 2 2 a) 1) fun (i19 : Int) => ctl1 (iter (fun (a : Int) => span_merged__Union_f1_L3 [⟨2, 3⟩] 2 2 [⟨0, 2⟩] i19 a) 0) fun (u4 : Unit) => none) = _
  rw [h2, bnd1_some, h3]; rfl
theorem spans_u3 : span_merged__Union_f1_L1 [⟨0, 2⟩] [⟨2, 3⟩] 2 2 1 [⟨0, 2⟩] = some (.inl (3, 2, 2, [⟨0, 3⟩])) := by
  have h2 : iter (fun (a : Int) => span_merged__Union_f1_L2 [⟨0, 2⟩] 2 3 a) 2 = some 2 := iter_stop rfl
  have h3 : iter (fun (a : Int) => span_merged__Union_f1_L3 [⟨2, 3⟩] 2 3 [⟨0, 3⟩] 2 a) 1 = some (.ext (.inl (3, 2, 2, [⟨0, 3⟩]))) := (iter_next (s' := 2) rfl).trans (iter_stop rfl)
  show (bnd1 (iter (fun (a : Int) => span_merged__Union_f1_L2 [⟨0, 2⟩] 2 3 a) 2) fun (i19 : Int) => ctl1 (iter (fun (a : Int) => span_merged__Union_f1_L3 [⟨2, 3⟩] 2 3 [⟨0, 3⟩] i19 a) 1) fun (u4 : Unit) => none) = _
  rw [h2, bnd1_some, h3]; rfl
theorem law_spans_eq : law_spans = some true := by
  unfold law_spans span_Union span_two__Union_f1 span_merged__Union_f1
  rw [span_Check_eq _ (by decide), span_Check_eq _ (by decide), show setErr [⟨0, 2⟩] = 0 by decide +kernel, show setErr [⟨2, 3⟩] = 0 by decide +kernel, bnd1_some, if_neg (by decide), bnd1_some, if_neg (by decide)]
  rw [iter_next (s' := (0, 1, 0, [])) spans_u1, iter_next (s' := (2, 2, 1, [⟨0, 2⟩])) spans_u2, iter_next (s' := (3, 2, 2, [⟨0, 3⟩])) spans_u3, iter_stop (r := [⟨0, 3⟩]) rfl]
  rfl
end Go.Proofs.Ythhodpedkdapcaa.Al


namespace Go.Proofs.Ythhodpedkdapcaa.Al
def SepS (l : List GSpan) : Prop := ∀ k, k < l.length → 0 ≤ l[k]!.From ∧ l[k]!.From < l[k]!.To ∧ l[k]!.To ≤ 2147483647 ∧ (0 < k → l[k - 1]!.To < l[k]!.From)
theorem sep_of {l : List GSpan} (h : setErr l = 0) : SepS l := fun _ hk => setErr_all h hk
theorem setErr_of {l : List GSpan} (h : SepS l) : setErr l = 0 := by
  unfold setErr
  rw [show (List.range l.length).findSome? (errSp l) = none from List.findSome?_eq_none_iff.2 fun k hk => by
    obtain ⟨f1, f2, f3, f4⟩ := h k (List.mem_range.1 hk)
    unfold errSp
    rw [if_neg (by omega), if_neg (fun q => by have := f4 q.1; omega)]]
  rfl
def memS (l : List GSpan) (x : Int) : Bool := l.any fun s => decide (s.From ≤ x) && decide (x < s.To)
def endOf (l : List GSpan) (k : Nat) : Int := if k % 2 = 0 then l[k / 2]!.From else l[k / 2]!.To
theorem end_lt {l : List GSpan} (h : SepS l) {k : Nat} (hk : k + 1 < 2 * l.length) : endOf l k < endOf l (k + 1) := by
  unfold endOf
  by_cases hp : k % 2 = 0
  · rw [if_pos hp, if_neg (by omega), show (k + 1) / 2 = k / 2 by omega]
    exact (h (k / 2) (by omega)).2.1
  · rw [if_neg hp, if_pos (by omega)]
    have := (h ((k + 1) / 2) (by omega)).2.2.2 (by omega)
    rwa [show (k + 1) / 2 - 1 = k / 2 by omega] at this
theorem end_mono {l : List GSpan} (h : SepS l) {k : Nat} : ∀ j, k + j < 2 * l.length → endOf l k + j ≤ endOf l (k + j)
  | 0, _ => by simp
  | j + 1, hj => by
    have h1 := end_mono h (k := k) j (by omega)
    have h2 := end_lt h (k := k + j) (by omega)
    rw [show k + (j + 1) = k + j + 1 by omega]
    omega
theorem end_ran {l : List GSpan} (h : SepS l) {k : Nat} (hk : k < 2 * l.length) : 0 ≤ endOf l k ∧ endOf l k ≤ 2147483647 := by
  obtain ⟨f1, f2, f3, f4⟩ := h (k / 2) (by omega)
  unfold endOf
  split <;> omega
theorem mem_ends {l : List GSpan} (h : SepS l) {i : Nat} {x : Int} (hi : i ≤ 2 * l.length) (h1 : 0 < i → endOf l (i - 1) ≤ x) (h2 : i < 2 * l.length → x < endOf l i) : memS l x = decide (i % 2 = 1) := by
  by_cases hp : i % 2 = 1
  · rw [decide_eq_true hp]
    unfold memS
    rw [List.any_eq_true]
    have q1 := h1 (by omega)
    have q2 := h2 (by omega)
    unfold endOf at q1 q2
    rw [if_pos (by omega), show (i - 1) / 2 = i / 2 by omega] at q1
    rw [if_neg (by omega)] at q2
    refine ⟨l[i / 2]!, mem_at (by omega), ?_⟩
    rw [decide_eq_true q1, decide_eq_true q2]; rfl
  · rw [decide_eq_false hp]
    unfold memS
    rw [List.any_eq_false]
    intro s hs
    obtain ⟨m, hm, rfl⟩ := List.mem_iff_getElem.1 hs
    rw [Bool.and_eq_true, decide_eq_true_eq, decide_eq_true_eq, ← getElem!_pos l m hm]
    rintro ⟨a1, a2⟩
    by_cases hlt : 2 * m < i
    · have q1 := h1 (by omega)
      have q3 := end_mono h (k := 2 * m + 1) (i - 1 - (2 * m + 1)) (by omega)
      rw [show 2 * m + 1 + (i - 1 - (2 * m + 1)) = i - 1 by omega] at q3
      have q4 : endOf l (2 * m + 1) = l[m]!.To := by unfold endOf; rw [if_neg (by omega), show (2 * m + 1) / 2 = m by omega]
      omega
    · have q2 := h2 (by omega)
      have q3 := end_mono h (k := i) (2 * m - i) (by omega)
      rw [show i + (2 * m - i) = 2 * m by omega] at q3
      have q4 : endOf l (2 * m) = l[m]!.From := by unfold endOf; rw [if_pos (by omega), show 2 * m / 2 = m by omega]
      omega
theorem remM2 (k : Nat) : remM (k : Int) 2 = some ((k % 2 : Nat) : Int) := by
  unfold remM
  rw [if_neg (by decide), Int.tmod_eq_emod_of_nonneg (by omega)]
  rfl
theorem quoM2 (k : Nat) (h : k ≤ 4398046511104) : quoM .i64 (k : Int) 2 = some ((k / 2 : Nat) : Int) := by
  unfold quoM
  rw [if_neg (by decide), Int.tdiv_eq_ediv_of_nonneg (by omega), show (k : Int) / 2 = ((k / 2 : Nat) : Int) from rfl, chk64 (by omega) (by omega)]
theorem span_end_eq (l : List GSpan) {k : Nat} (hk : k < 2 * l.length) (hm : l.length ≤ 1099511627776) : span_end l (k : Int) = some (endOf l k) := by
  unfold span_end endOf
  rw [remM2, bnd1_some, quoM2 k (by omega), bnd1_some, bnd1_some, idx_nat (by omega), bnd1_some, bnd1_some]
  by_cases hp : k % 2 = 0
  · rw [if_pos (by rw [hp]; rfl), if_pos hp]
  · rw [if_neg (by rw [decide_eq_true_eq]; omega), if_neg hp]
theorem law_member_eq (l : List GSpan) (h : SepS l) (x : Int) (hm : l.length ≤ 1099511627776) : law_member l x = some (memS l x) := by
  unfold law_member
  rw [iter_find (n := l.length) (fun k => if (decide (l[k]!.From ≤ x) && decide (x < l[k]!.To)) = true then some true else none) (fun k hk => by
    obtain ⟨f1, f2, f3, f4⟩ := h k hk
    unfold law_member_L1
    rw [if_pos (by simpa using hk), idx_nat hk, bnd1_some, chk64 (by omega) (by omega), bnd1_some, ref_In_eq, bnd1_some, chk_nat (by omega)]
    rw [show decide (x ≤ l[k]!.To - 1) = decide (x < l[k]!.To) by rw [decide_eq_decide]; omega]
    cases (decide (l[k]!.From ≤ x) && decide (x < l[k]!.To)) <;> rfl) (by unfold law_member_L1; rw [if_neg (by simp)]), ctl_outOf]
  unfold memS
  cases hr : (List.range l.length).findSome? (fun k => if (decide (l[k]!.From ≤ x) && decide (x < l[k]!.To)) = true then some true else none) with
  | some b =>
    obtain ⟨k, hk, hb⟩ := List.exists_of_findSome?_eq_some hr
    split at hb
    · rename_i hc
      cases hb
      have : (l.any fun s => decide (s.From ≤ x) && decide (x < s.To)) = true := List.any_eq_true.2 ⟨l[k]!, mem_at (List.mem_range.1 hk), hc⟩
      rw [this]
    · cases hb
  | none =>
    have : (l.any fun s => decide (s.From ≤ x) && decide (x < s.To)) = false := by
      rw [List.any_eq_false]
      intro s hs
      obtain ⟨m, hm, rfl⟩ := List.mem_iff_getElem.1 hs
      have h1 := List.findSome?_eq_none_iff.1 hr m (List.mem_range.2 hm)
      split at h1
      · cases h1
      · rename_i hc; rwa [getElem!_pos l m hm] at hc
    rw [this]
end Go.Proofs.Ythhodpedkdapcaa.Al


namespace Go.Proofs.Ythhodpedkdapcaa.Al
def adv (l : List GSpan) (i : Nat) (next : Int) : Nat := if i < 2 * l.length ∧ endOf l i = next then i + 1 else i
theorem adv_L2 {a : List GSpan} (h : SepS a) (hm : a.length ≤ 1073741824) {i : Nat} (hi : i ≤ 2 * a.length) (next : Int) : iter (fun (x : Int) => span_merged__Union_f1_L2 a (2 * (a.length : Int)) next x) (i : Int) = some ((adv a i next : Nat) : Int) := by
  have stop : ∀ i : Nat, i ≤ 2 * a.length → ¬ (i < 2 * a.length ∧ endOf a i = next) → iter (fun (x : Int) => span_merged__Union_f1_L2 a (2 * (a.length : Int)) next x) (i : Int) = some (i : Int) := by
    intro i hi hn
    refine iter_stop ?_
    unfold span_merged__Union_f1_L2
    by_cases hl : i < 2 * a.length
    · rw [decide_eq_true (show (i : Int) < 2 * (a.length : Int) by omega), show (true == true) = true from rfl, gd_true, span_end_eq a hl (by omega), bnd1_some, Bool.true_and, if_neg (by rw [decide_eq_true_eq]; exact fun h => hn ⟨hl, h⟩)]
    · rw [decide_eq_false (show ¬ (i : Int) < 2 * (a.length : Int) by omega), show (false == true) = false from rfl, gd_false, bnd1_some, Bool.false_and, if_neg (show ¬ (false = true) by decide)]
  unfold adv
  by_cases hc : i < 2 * a.length ∧ endOf a i = next
  · rw [if_pos hc, iter_next (s' := ((i + 1 : Nat) : Int))]
    · refine stop _ (by omega) ?_
      rintro ⟨h1, h2⟩
      have := end_lt h h1
      omega
    · unfold span_merged__Union_f1_L2
      rw [decide_eq_true (show (i : Int) < 2 * (a.length : Int) by omega), show (true == true) = true from rfl, gd_true, span_end_eq a hc.1 (by omega), bnd1_some, Bool.true_and, if_pos (by rw [decide_eq_true_eq]; exact hc.2), chk_nat (by omega), bnd1_some]
  · rw [if_neg hc]
    exact stop i hi hc
theorem adv_L3 {b : List GSpan} (h : SepS b) (hm : b.length ≤ 1073741824) {j : Nat} (hj : j ≤ 2 * b.length) (next i19 : Int) (out : List GSpan) : iter (fun (x : Int) => span_merged__Union_f1_L3 b (2 * (b.length : Int)) next out i19 x) (j : Int) = some (.ext (.inl (next, i19, ((adv b j next : Nat) : Int), out))) := by
  have stop : ∀ j : Nat, j ≤ 2 * b.length → ¬ (j < 2 * b.length ∧ endOf b j = next) → iter (fun (x : Int) => span_merged__Union_f1_L3 b (2 * (b.length : Int)) next out i19 x) (j : Int) = some (.ext (.inl (next, i19, (j : Int), out))) := by
    intro j hj hn
    refine iter_stop ?_
    unfold span_merged__Union_f1_L3
    by_cases hl : j < 2 * b.length
    · rw [decide_eq_true (show (j : Int) < 2 * (b.length : Int) by omega), show (true == true) = true from rfl, gd_true, span_end_eq b hl (by omega), bnd1_some, Bool.true_and, if_neg (by rw [decide_eq_true_eq]; exact fun h => hn ⟨hl, h⟩)]
    · rw [decide_eq_false (show ¬ (j : Int) < 2 * (b.length : Int) by omega), show (false == true) = false from rfl, gd_false, bnd1_some, Bool.false_and, if_neg (show ¬ (false = true) by decide)]
  unfold adv
  by_cases hc : j < 2 * b.length ∧ endOf b j = next
  · rw [if_pos hc, iter_next (s' := ((j + 1 : Nat) : Int))]
    · refine stop _ (by omega) ?_
      rintro ⟨h1, h2⟩
      have := end_lt h h1
      omega
    · unfold span_merged__Union_f1_L3
      rw [decide_eq_true (show (j : Int) < 2 * (b.length : Int) by omega), show (true == true) = true from rfl, gd_true, span_end_eq b hc.1 (by omega), bnd1_some, Bool.true_and, if_pos (by rw [decide_eq_true_eq]; exact hc.2), chk_nat (by omega), bnd1_some]
  · rw [if_neg hc]
    exact stop j hj hc
structure MgI (F : Int → Bool) (at1 : Int) (out : List GSpan) : Prop where
  sep : SepS out
  last : 0 < out.length → out[out.length - 1]!.To ≤ at1
  mem : ∀ x, x < at1 → memS out x = F x
theorem mem_past {out : List GSpan} (h : SepS out) {at1 x : Int} (hl : 0 < out.length → out[out.length - 1]!.To ≤ at1) (hx : at1 ≤ x) : memS out x = false := by
  have := mem_ends h (i := 2 * out.length) (x := x) (Nat.le_refl _) (fun h0 => by
    have := hl (by omega)
    unfold endOf
    rw [if_neg (by omega), show (2 * out.length - 1) / 2 = out.length - 1 by omega]
    omega) (fun h => by omega)
  rw [this, decide_eq_false (by omega)]
end Go.Proofs.Ythhodpedkdapcaa.Al


namespace Go.Proofs.Ythhodpedkdapcaa.Al
def addP (out : List GSpan) (x y : Int) : List GSpan := if 0 < out.length ∧ x ≤ out[out.length - 1]!.To then out.set (out.length - 1) ⟨out[out.length - 1]!.From, y⟩ else out ++ [⟨x, y⟩]
theorem span_addP {out : List GSpan} {x y : Int} (h : x < y) (hle : 0 < out.length → out[out.length - 1]!.To ≤ x) (hm : out.length + 1 ≤ 1099511627776) : span_add out ⟨x, y⟩ = some (addP out x y) := by
  unfold span_add addP
  by_cases h0 : 0 < out.length
  · have h1 := hle h0
    rw [show ((out.length : Int) - 1) = ((out.length - 1 : Nat) : Int) by omega, chk64 (by omega) (by omega), bnd1_some, decide_eq_true (show (0 : Int) ≤ ((out.length - 1 : Nat) : Int) by omega), show (true == true) = true from rfl, gd_true, idx_nat (by omega), bnd1_some, Bool.true_and]
    by_cases h2 : x ≤ out[out.length - 1]!.To
    · rw [if_pos (by rw [decide_eq_true_eq]; exact h2), bnd1_some, if_pos ⟨h0, h2⟩, set_eq, show max out[out.length - 1]!.To y = y by omega]
    · rw [if_neg (by rw [decide_eq_true_eq]; exact h2), app16 hm, bnd1_some, if_neg (fun h => h2 h.2)]
  · have : out = [] := List.eq_nil_of_length_eq_zero (by omega)
    subst this
    rw [show ((([] : List GSpan).length : Int) - 1) = -1 from rfl, chk64 (by decide) (by decide), bnd1_some, show decide ((0 : Int) ≤ -1) = false by decide, show (false == true) = false from rfl, gd_false, bnd1_some, Bool.false_and, if_neg (show ¬ (false = true) by decide), app16 hm, bnd1_some, if_neg (fun h => h0 h.1)]
theorem getSp_app {out : List GSpan} {s : GSpan} {k : Nat} (h : k < out.length) : (out ++ [s])[k]! = out[k]! := by
  rw [getElem!_pos (out ++ [s]) k (by simp; omega), getElem!_pos out k h, List.getElem_append_left h]
theorem getSp_last {out : List GSpan} {s : GSpan} : (out ++ [s])[out.length]! = s := by
  rw [getElem!_pos (out ++ [s]) out.length (by simp), List.getElem_append_right (by omega)]; simp
theorem addP_spec {F : Int → Bool} {out : List GSpan} {x y : Int} (hI : MgI F x out) (h : x < y) (h0 : 0 ≤ x) (hy : y ≤ 2147483647) (hF : ∀ z, x ≤ z → z < y → F z = true) : MgI F y (addP out x y) ∧ (addP out x y).length ≤ out.length + 1 := by
  have hpast := fun z hz => mem_past hI.sep (at1 := x) (x := z) hI.last hz
  unfold addP
  by_cases hc : 0 < out.length ∧ x ≤ out[out.length - 1]!.To
  · rw [if_pos hc]
    have hl := hI.last hc.1
    obtain ⟨p, s, hps⟩ : ∃ p s, out = p ++ [s] := ⟨out.take (out.length - 1), out[out.length - 1]!, by
      rw [← take_at (by omega), show out.length - 1 + 1 = out.length by omega, List.take_length]⟩
    subst hps
    have e : (p ++ [s]).length - 1 = p.length := by simp
    rw [e, getSp_last] at hc hl ⊢
    rw [List.set_append_right _ _ (by omega), Nat.sub_self, List.set_cons_zero]
    obtain ⟨g1, g2, g3, g4⟩ := hI.sep p.length (by simp)
    rw [getSp_last] at g1 g2 g3 g4
    refine ⟨⟨fun k hk => ?_, fun _ => ?_, fun z hz => ?_⟩, by simp⟩
    · by_cases hkp : k < p.length
      · have := hI.sep k (by simp; omega)
        rw [getSp_app hkp, getSp_app (by omega)] at this
        rw [getSp_app hkp, getSp_app (by omega)]
        exact this
      · have : k = p.length := by simp at hk; omega
        subst this
        rw [getSp_last]
        refine ⟨g1, by show s.From < y; omega, hy, fun hp => ?_⟩
        have := g4 hp
        rw [getSp_app (by omega)] at this ⊢
        exact this
    · rw [show (p ++ [(⟨s.From, y⟩ : GSpan)]).length - 1 = p.length by simp, getSp_last]
      exact Int.le_refl _
    · have hm : memS (p ++ [(⟨s.From, y⟩ : GSpan)]) z = (memS (p ++ [s]) z || (decide (x ≤ z) && decide (z < y))) := by
        unfold memS
        rw [List.any_append, List.any_append, List.any_cons, List.any_cons, List.any_nil, Bool.or_false, Bool.or_false, Bool.or_assoc]
        congr 1
        rw [Bool.eq_iff_iff]
        simp only [Bool.or_eq_true, Bool.and_eq_true, decide_eq_true_eq]
        omega
      rw [hm]
      by_cases hz2 : z < x
      · rw [hI.mem z hz2, decide_eq_false (show ¬ x ≤ z by omega), Bool.false_and, Bool.or_false]
      · rw [decide_eq_true (show x ≤ z by omega), decide_eq_true hz, hF z (by omega) hz]; simp
  · rw [if_neg hc]
    refine ⟨⟨fun k hk => ?_, fun _ => ?_, fun z hz => ?_⟩, by simp⟩
    · by_cases hkp : k < out.length
      · have := hI.sep k hkp
        rw [getSp_app hkp]
        refine ⟨this.1, this.2.1, this.2.2.1, fun h0 => ?_⟩
        rw [getSp_app (by omega)]
        exact this.2.2.2 h0
      · have : k = out.length := by simp at hk; omega
        subst this
        rw [getSp_last]
        refine ⟨h0, h, hy, fun hp => ?_⟩
        rw [getSp_app (by omega)]
        have h3 : ¬ (x ≤ out[out.length - 1]!.To) := fun h4 => hc ⟨hp, h4⟩
        show out[out.length - 1]!.To < x
        omega
    · rw [show (out ++ [(⟨x, y⟩ : GSpan)]).length - 1 = out.length by simp, getSp_last]
      exact Int.le_refl _
    · have hm : memS (out ++ [(⟨x, y⟩ : GSpan)]) z = (memS out z || (decide (x ≤ z) && decide (z < y))) := by
        unfold memS
        rw [List.any_append, List.any_cons, List.any_nil, Bool.or_false]
      rw [hm]
      by_cases hz2 : z < x
      · rw [hI.mem z hz2, decide_eq_false (show ¬ x ≤ z by omega), Bool.false_and, Bool.or_false]
      · rw [decide_eq_true (show x ≤ z by omega), decide_eq_true hz, hF z (by omega) hz]; simp
theorem keepP_spec {F : Int → Bool} {out : List GSpan} {x y : Int} (hI : MgI F x out) (h : x ≤ y) (hF : ∀ z, x ≤ z → z < y → F z = false) : MgI F y out := by
  refine ⟨hI.sep, fun h0 => by have := hI.last h0; omega, fun z hz => ?_⟩
  by_cases hz2 : z < x
  · exact hI.mem z hz2
  · rw [hF z (by omega) hz, mem_past hI.sep hI.last (by omega)]
end Go.Proofs.Ythhodpedkdapcaa.Al


namespace Go.Proofs.Ythhodpedkdapcaa.Al
noncomputable def mgL1 (f : Bool → Bool → Option Bool) (a1 : List GSpan) (b1 : List GSpan) (at2 : Int) (i4 : Int) (j2 : Int) (out2 : List GSpan) : Option ((Int × Int × Int × (List GSpan)) ⊕ (List GSpan)) :=
  bnd1 (chk .i64 (2 * (a1.length : Int))) fun (x1 : Int) =>
  bnd1 (gd ((decide (i4 < x1)) == false) (chk .i64 (2 * (b1.length : Int)))) fun (x2 : Int) =>
  if ((decide (i4 < x1)) || (decide (j2 < x2))) then (
    bnd1 (
      if (decide (i4 < x1)) then (
        bnd1 (span_end a1 i4) fun (next3 : Int) =>
        some next3
      ) else (
        some 2147483648
      )
    ) fun (next1 : Int) =>
    bnd1 (chk .i64 (2 * (b1.length : Int))) fun (x3 : Int) =>
    bnd1 (
      if (decide (j2 < x3)) then (
        bnd1 (span_end b1 j2) fun (r4 : Int) =>
        some (min next1 r4)
      ) else (
        some next1
      )
    ) fun (next2 : Int) =>
    bnd1 (gd ((decide (at2 < next2)) == true) (remM i4 2)) fun (x4 : Int) =>
    bnd1 (gd ((decide (at2 < next2)) == true) (remM j2 2)) fun (x5 : Int) =>
    bnd1 (gd ((decide (at2 < next2)) == true) (f (decide (x4 = 1)) (decide (x5 = 1)))) fun (r1 : Bool) =>
    bnd1 (
      if ((decide (at2 < next2)) && r1) then (
        bnd1 (span_add out2 (GSpan.mk at2 next2)) fun (w1 : List GSpan) =>
        some w1
      ) else (
        some out2
      )
    ) fun (out5 : List GSpan) =>
    bnd1 (iter (fun (a : Int) => span_merged__Union_f1_L2 a1 x1 next2 a) i4) fun (i19 : Int) =>
    ctl1 (iter (fun (a : Int) => span_merged__Union_f1_L3 b1 x3 next2 out5 i19 a) j2) fun (u4 : Unit) =>
    none
  ) else (
    some (.inr out2)
  )
theorem mg_union : span_merged__Union_f1_L1 = mgL1 span_Union_f1 := rfl
theorem mg_meet : span_merged__Meet_f1_L1 = mgL1 span_Meet_f1 := rfl
theorem mg_minus : span_merged__Minus_f1_L1 = mgL1 span_Minus_f1 := rfl
def nxt (l : List GSpan) (i : Nat) : Int := if i < 2 * l.length then endOf l i else 2147483648
structure MgS (F : Int → Bool) (a b : List GSpan) (at1 : Int) (i j : Nat) (out : List GSpan) : Prop where
  ia : i ≤ 2 * a.length
  jb : j ≤ 2 * b.length
  a0 : 0 ≤ at1
  am : at1 ≤ 2147483647
  il : 0 < i → endOf a (i - 1) ≤ at1
  ir : i < 2 * a.length → at1 ≤ endOf a i
  jl : 0 < j → endOf b (j - 1) ≤ at1
  jr : j < 2 * b.length → at1 ≤ endOf b j
  len : out.length ≤ i + j
  mg : MgI F at1 out
theorem adv_ok {l : List GSpan} (h : SepS l) {i : Nat} {at1 next : Int} (hi : i ≤ 2 * l.length) (h1 : 0 < i → endOf l (i - 1) ≤ at1) (h2 : at1 ≤ next) (h3 : next ≤ nxt l i) :
    adv l i next ≤ 2 * l.length ∧ i ≤ adv l i next ∧ (0 < adv l i next → endOf l (adv l i next - 1) ≤ next) ∧ (adv l i next < 2 * l.length → next ≤ endOf l (adv l i next)) ∧ (i < 2 * l.length → next = endOf l i → i < adv l i next) := by
  unfold nxt at h3
  unfold adv
  by_cases hc : i < 2 * l.length ∧ endOf l i = next
  · rw [if_pos hc]
    refine ⟨by omega, by omega, fun _ => ?_, fun hl => ?_, fun _ _ => by omega⟩
    · rw [show i + 1 - 1 = i by omega]; omega
    · have := end_lt h hl; omega
  · rw [if_neg hc]
    refine ⟨hi, Nat.le_refl _, fun h0 => by have := h1 h0; omega, fun hl => ?_, fun hl he => absurd ⟨hl, he.symm⟩ hc⟩
    rw [if_pos hl] at h3
    exact h3
theorem merge_all {f : Bool → Bool → Option Bool} {g : Bool → Bool → Bool} (hf : ∀ x y, f x y = some (g x y)) (hg : g false false = false) {a b : List GSpan} (ha : SepS a) (hb : SepS b) (hma : a.length ≤ 1073741824) (hmb : b.length ≤ 1073741824) :
    ∃ r, iter (fun (s : Int × Int × Int × (List GSpan)) => mgL1 f a b s.1 s.2.1 s.2.2.1 s.2.2.2) (0, 0, 0, []) = some r ∧ (SepS r ∧ r.length ≤ 4294967296 ∧ ∀ x, memS r x = g (memS a x) (memS b x)) := by
  refine iter_inv (fun s => ∃ i j : Nat, s.2.1 = (i : Int) ∧ s.2.2.1 = (j : Int) ∧ MgS (fun x => g (memS a x) (memS b x)) a b s.1 i j s.2.2.2) (fun s => (2 * a.length - s.2.1.toNat) + (2 * b.length - s.2.2.1.toNat)) _ ?_ ⟨0, 0, rfl, rfl, ⟨by omega, by omega, by decide, by decide, fun h => absurd h (by decide), fun h => (end_ran ha h).1, fun h => absurd h (by decide), fun h => (end_ran hb h).1, by simp, ⟨fun k hk => by simp at hk, fun h => by simp at h, fun x hx => ?_⟩⟩⟩
  · rintro ⟨at1, i, j, out⟩ ⟨i, j, rfl, rfl, hS⟩
    dsimp only at hS ⊢
    obtain ⟨s1, s2, s3, s4, s5, s6, s7, s8, s9, hM⟩ := hS
    unfold mgL1
    rw [chk64 (by omega) (by omega), bnd1_some, chk64 (by omega) (by omega)]
    by_cases hend : i = 2 * a.length ∧ j = 2 * b.length
    · obtain ⟨rfl, rfl⟩ := hend
      refine .inr ⟨out, ?_, hM.sep, by omega, fun x => ?_⟩
      · rw [decide_eq_false (by omega), show (false == false) = true from rfl, gd_true, bnd1_some, decide_eq_false (by omega), if_neg (by decide)]
      · by_cases hx : x < at1
        · exact hM.mem x hx
        · rw [mem_past hM.sep hM.last (by omega), mem_ends ha (i := 2 * a.length) (x := x) (Nat.le_refl _) (fun h => by have := s5 h; omega) (fun h => by omega), mem_ends hb (i := 2 * b.length) (x := x) (Nat.le_refl _) (fun h => by have := s7 h; omega) (fun h => by omega), decide_eq_false (by omega), decide_eq_false (by omega), hg]
    · refine .inl ?_
      have hx2 : ∃ y, gd ((decide ((i : Int) < 2 * (a.length : Int))) == false) (some (2 * (b.length : Int))) = some y ∧ ((decide ((i : Int) < 2 * (a.length : Int))) || (decide ((j : Int) < y))) = true := by
        by_cases hl : i < 2 * a.length
        · rw [decide_eq_true (by omega), show (true == false) = false from rfl, gd_false]; exact ⟨_, rfl, rfl⟩
        · rw [decide_eq_false (by omega), show (false == false) = true from rfl, gd_true]; exact ⟨_, rfl, by rw [Bool.false_or, decide_eq_true_eq]; omega⟩
      obtain ⟨y, hy, hy2⟩ := hx2
      rw [hy, bnd1_some, if_pos hy2]
      have hn1 : (if (decide ((i : Int) < 2 * (a.length : Int))) = true then (bnd1 (span_end a (i : Int)) fun (next3 : Int) => some next3) else some 2147483648) = some (nxt a i) := by
        unfold nxt
        by_cases hl : i < 2 * a.length
        · rw [if_pos (by rw [decide_eq_true_eq]; omega), span_end_eq a hl (by omega), bnd1_some, if_pos hl]
        · rw [if_neg (by rw [decide_eq_true_eq]; omega), if_neg hl]
      have hn2 : (if (decide ((j : Int) < 2 * (b.length : Int))) = true then (bnd1 (span_end b (j : Int)) fun (r4 : Int) => some (min (nxt a i) r4)) else some (nxt a i)) = some (min (nxt a i) (nxt b j)) := by
        unfold nxt
        by_cases hl : j < 2 * b.length
        · rw [if_pos (by rw [decide_eq_true_eq]; omega), span_end_eq b hl (by omega), bnd1_some, if_pos hl]
        · rw [if_neg (by rw [decide_eq_true_eq]; omega), if_neg hl]
          have : (if i < 2 * a.length then endOf a i else 2147483648) ≤ 2147483648 := by
            split
            · have := (end_ran ha (k := i) (by assumption)).2; omega
            · omega
          rw [show min (if i < 2 * a.length then endOf a i else 2147483648) 2147483648 = (if i < 2 * a.length then endOf a i else 2147483648) by omega]
      rw [hn1, bnd1_some, bnd1_some, hn2, bnd1_some]
      generalize hN : min (nxt a i) (nxt b j) = next
      have hna : next ≤ nxt a i := by omega
      have hnb : next ≤ nxt b j := by omega
      have hat : at1 ≤ next := by
        have q1 : at1 ≤ nxt a i := by unfold nxt; split; exact s6 (by assumption); omega
        have q2 : at1 ≤ nxt b j := by unfold nxt; split; exact s8 (by assumption); omega
        omega
      have hnm : next ≤ 2147483647 ∧ (i < 2 * a.length ∧ next = endOf a i ∨ j < 2 * b.length ∧ next = endOf b j) := by
        by_cases hl : i < 2 * a.length
        · have e1 : nxt a i = endOf a i := by unfold nxt; rw [if_pos hl]
          have r1 := (end_ran ha hl).2
          by_cases hl2 : j < 2 * b.length
          · have e2 : nxt b j = endOf b j := by unfold nxt; rw [if_pos hl2]
            have r2 := (end_ran hb hl2).2
            omega
          · have e2 : nxt b j = 2147483648 := by unfold nxt; rw [if_neg hl2]
            omega
        · have e1 : nxt a i = 2147483648 := by unfold nxt; rw [if_neg hl]
          have hl2 : j < 2 * b.length := by omega
          have e2 : nxt b j = endOf b j := by unfold nxt; rw [if_pos hl2]
          have r2 := (end_ran hb hl2).2
          omega
      have hF : ∀ z, at1 ≤ z → z < next → g (memS a z) (memS b z) = g (decide (i % 2 = 1)) (decide (j % 2 = 1)) := fun z h1 h2 => by
        rw [mem_ends ha (i := i) (x := z) s1 (fun h => by have := s5 h; omega) (fun h => by unfold nxt at hna; rw [if_pos h] at hna; omega), mem_ends hb (i := j) (x := z) s2 (fun h => by have := s7 h; omega) (fun h => by unfold nxt at hnb; rw [if_pos h] at hnb; omega)]
      obtain ⟨A1, A2, A3, A4, A5⟩ := adv_ok ha s1 s5 hat hna
      obtain ⟨B1, B2, B3, B4, B5⟩ := adv_ok hb s2 s7 hat hnb
      have hmore : i + j + 1 ≤ adv a i next + adv b j next := by
        rcases hnm.2 with ⟨h1, h2⟩ | ⟨h1, h2⟩
        · have := A5 h1 h2; omega
        · have := B5 h1 h2; omega
      have fin : ∀ out5, MgI (fun x => g (memS a x) (memS b x)) next out5 → out5.length ≤ out.length + 1 → ∃ s', (bnd1 (some out5) fun (out5 : List GSpan) => bnd1 (iter (fun (x : Int) => span_merged__Union_f1_L2 a (2 * (a.length : Int)) next x) (i : Int)) fun (i19 : Int) => ctl1 (iter (fun (x : Int) => span_merged__Union_f1_L3 b (2 * (b.length : Int)) next out5 i19 x) (j : Int)) fun (u4 : Unit) => (none : Option ((Int × Int × Int × (List GSpan)) ⊕ (List GSpan)))) = some (.inl s') ∧
          (∃ i j : Nat, s'.2.1 = (i : Int) ∧ s'.2.2.1 = (j : Int) ∧ MgS (fun x => g (memS a x) (memS b x)) a b s'.1 i j s'.2.2.2) ∧ (2 * a.length - s'.2.1.toNat) + (2 * b.length - s'.2.2.1.toNat) < (2 * a.length - (i : Int).toNat) + (2 * b.length - (j : Int).toNat) := fun out5 hM5 hl5 => by
        rw [bnd1_some, adv_L2 ha hma s1, bnd1_some, adv_L3 hb hmb s2, ctl1_ext]
        exact ⟨_, rfl, ⟨_, _, rfl, rfl, ⟨A1, B1, by dsimp only; omega, hnm.1, A3, A4, B3, B4, by dsimp only; omega, hM5⟩⟩, by dsimp only; omega⟩
      by_cases hlt : at1 < next
      · rw [decide_eq_true hlt, show (true == true) = true from rfl, gd_true, gd_true, remM2, remM2, bnd1_some, bnd1_some, gd_true, hf, bnd1_some, Bool.true_and]
        rw [show decide (((i % 2 : Nat) : Int) = 1) = decide (i % 2 = 1) by rw [decide_eq_decide]; omega, show decide (((j % 2 : Nat) : Int) = 1) = decide (j % 2 = 1) by rw [decide_eq_decide]; omega]
        cases hgv : g (decide (i % 2 = 1)) (decide (j % 2 = 1)) with
        | true =>
          obtain ⟨m1, m2⟩ := addP_spec hM hlt s3 hnm.1 (fun z h1 h2 => by show g _ _ = _; rw [hF z h1 h2, hgv])
          rw [if_pos rfl, span_addP hlt hM.last (by omega), bnd1_some]
          exact fin _ m1 m2
        | false =>
          rw [if_neg (by decide)]
          exact fin out (keepP_spec hM hat (fun z h1 h2 => by show g _ _ = _; rw [hF z h1 h2, hgv])) (by omega)
      · rw [decide_eq_false hlt, show (false == true) = false from rfl, gd_false, gd_false, bnd1_some, bnd1_some, gd_false, bnd1_some, Bool.false_and, if_neg (by decide)]
        exact fin out (keepP_spec hM hat (fun z h1 h2 => by omega)) (by omega)
  · show memS [] x = g _ _
    have e : ∀ l : List GSpan, SepS l → memS l x = false := fun l hl => by
      rw [mem_ends hl (i := 0) (x := x) (by omega) (fun h => by omega) (fun h => by have := (end_ran hl h).1; show x < _; omega)]; rfl
    rw [e a ha, e b hb, hg]; rfl
end Go.Proofs.Ythhodpedkdapcaa.Al


namespace Go.Proofs.Ythhodpedkdapcaa.Al
theorem mem_change {r : List GSpan} (h : SepS r) {i : Nat} (hi : i < 2 * r.length) : memS r (endOf r i) ≠ memS r (endOf r i - 1) := by
  have e1 := mem_ends h (i := i + 1) (x := endOf r i) (by omega) (fun _ => by rw [show i + 1 - 1 = i by omega]; exact Int.le_refl _) (fun hl => end_lt h hl)
  have e2 := mem_ends h (i := i) (x := endOf r i - 1) (by omega) (fun h0 => by
    have := end_lt h (k := i - 1) (by omega)
    rw [show i - 1 + 1 = i by omega] at this
    omega) (fun _ => by omega)
  rw [e1, e2]
  by_cases hp : i % 2 = 1
  · rw [decide_eq_true hp, decide_eq_false (by omega)]; decide
  · rw [decide_eq_false hp, decide_eq_true (by omega)]; decide
theorem change_from {r : List GSpan} (h : SepS r) {k : Nat} (hk : k < r.length) : memS r r[k]!.From ≠ memS r (r[k]!.From - 1) ∧ memS r r[k]!.To ≠ memS r (r[k]!.To - 1) := by
  have e1 : endOf r (2 * k) = r[k]!.From := by unfold endOf; rw [if_pos (by omega), show 2 * k / 2 = k by omega]
  have e2 : endOf r (2 * k + 1) = r[k]!.To := by unfold endOf; rw [if_neg (by omega), show (2 * k + 1) / 2 = k by omega]
  have h1 := mem_change h (i := 2 * k) (by omega)
  have h2 := mem_change h (i := 2 * k + 1) (by omega)
  rw [e1] at h1
  rw [e2] at h2
  exact ⟨h1, h2⟩
def SetIs (g : Bool → Bool → Bool) (a b r : List GSpan) : Prop := SepS r ∧ r.length ≤ 4294967296 ∧ ∀ x, memS r x = g (memS a x) (memS b x)
def setRes (a b r : List GSpan) : List GSpan × Int := if setErr a ≠ 0 then ([], setErr a) else if setErr b ≠ 0 then ([], setErr b) else (r, 0)
theorem union_eq (a b : List GSpan) (hma : a.length ≤ 1073741824) (hmb : b.length ≤ 1073741824) : ∃ r, span_Union a b = some (setRes a b r) ∧ (setErr a = 0 → setErr b = 0 → SetIs (fun x y => x || y) a b r) := by
  unfold span_Union span_two__Union_f1 setRes
  rw [span_Check_eq a (by omega), bnd1_some]
  by_cases e1 : setErr a ≠ 0
  · exact ⟨[], by rw [if_pos (ndT e1), if_pos e1]; rfl, fun h => absurd h e1⟩
  have e1 := Classical.not_not.1 e1
  rw [if_neg (ndF e1), span_Check_eq b (by omega), bnd1_some]
  by_cases e2 : setErr b ≠ 0
  · exact ⟨[], by rw [if_pos (ndT e2), if_neg (by simpa using e1), if_pos e2]; rfl, fun _ h => absurd h e2⟩
  have e2 := Classical.not_not.1 e2
  obtain ⟨r, h1, h2⟩ := merge_all (f := span_Union_f1) (g := fun x y => x || y) (fun _ _ => rfl) rfl (sep_of e1) (sep_of e2) hma hmb
  refine ⟨r, ?_, fun _ _ => h2⟩
  rw [if_neg (ndF e2), if_neg (by simpa using e1), if_neg (by simpa using e2)]
  unfold span_merged__Union_f1
  rw [mg_union, h1]; rfl
theorem meet_eq (a b : List GSpan) (hma : a.length ≤ 1073741824) (hmb : b.length ≤ 1073741824) : ∃ r, span_Meet a b = some (setRes a b r) ∧ (setErr a = 0 → setErr b = 0 → SetIs (fun x y => x && y) a b r) := by
  unfold span_Meet span_two__Meet_f1 setRes
  rw [span_Check_eq a (by omega), bnd1_some]
  by_cases e1 : setErr a ≠ 0
  · exact ⟨[], by rw [if_pos (ndT e1), if_pos e1]; rfl, fun h => absurd h e1⟩
  have e1 := Classical.not_not.1 e1
  rw [if_neg (ndF e1), span_Check_eq b (by omega), bnd1_some]
  by_cases e2 : setErr b ≠ 0
  · exact ⟨[], by rw [if_pos (ndT e2), if_neg (by simpa using e1), if_pos e2]; rfl, fun _ h => absurd h e2⟩
  have e2 := Classical.not_not.1 e2
  obtain ⟨r, h1, h2⟩ := merge_all (f := span_Meet_f1) (g := fun x y => x && y) (fun _ _ => rfl) rfl (sep_of e1) (sep_of e2) hma hmb
  refine ⟨r, ?_, fun _ _ => h2⟩
  rw [if_neg (ndF e2), if_neg (by simpa using e1), if_neg (by simpa using e2)]
  unfold span_merged__Meet_f1
  rw [mg_meet, h1]; rfl
theorem minus_eq (a b : List GSpan) (hma : a.length ≤ 1073741824) (hmb : b.length ≤ 1073741824) : ∃ r, span_Minus a b = some (setRes a b r) ∧ (setErr a = 0 → setErr b = 0 → SetIs (fun x y => x && !y) a b r) := by
  unfold span_Minus span_two__Minus_f1 setRes
  rw [span_Check_eq a (by omega), bnd1_some]
  by_cases e1 : setErr a ≠ 0
  · exact ⟨[], by rw [if_pos (ndT e1), if_pos e1]; rfl, fun h => absurd h e1⟩
  have e1 := Classical.not_not.1 e1
  rw [if_neg (ndF e1), span_Check_eq b (by omega), bnd1_some]
  by_cases e2 : setErr b ≠ 0
  · exact ⟨[], by rw [if_pos (ndT e2), if_neg (by simpa using e1), if_pos e2]; rfl, fun _ h => absurd h e2⟩
  have e2 := Classical.not_not.1 e2
  obtain ⟨r, h1, h2⟩ := merge_all (f := span_Minus_f1) (g := fun x y => x && !y) (fun _ _ => rfl) rfl (sep_of e1) (sep_of e2) hma hmb
  refine ⟨r, ?_, fun _ _ => h2⟩
  rw [if_neg (ndF e2), if_neg (by simpa using e1), if_neg (by simpa using e2)]
  unfold span_merged__Minus_f1
  rw [mg_minus, h1]; rfl
end Go.Proofs.Ythhodpedkdapcaa.Al


namespace Go.Proofs.Ythhodpedkdapcaa.Al
theorem findNo {ρ : Type} (n : Nat) : (List.range n).findSome? (fun _ => (none : Option ρ)) = none := by rw [List.findSome?_eq_none_iff]; intros; rfl
section
variable {a b u m d : List GSpan} (ha : SepS a) (hb : SepS b) (hma : a.length ≤ 1073741824) (hmb : b.length ≤ 1073741824)
include ha hb hma hmb
theorem L6_pass (hu : SetIs (fun x y => x || y) a b u) (hm : SetIs (fun x y => x && y) a b m) (hd : SetIs (fun x y => x && !y) a b d) (s : GSpan) (p q : Int) : iter (fun (x : Int) => law_SpanSetsMatch_L6 a b u m d s p q x) 0 = some (.nrm ()) := by
  rw [iter_find (n := 4) (fun _ => none) (fun k hk => by
    unfold law_SpanSetsMatch_L6
    rw [if_pos (by rw [decide_eq_true_eq]; omega), idx_nat (by exact hk), bnd1_some]
    generalize ([p, s.From, q, s.To] : List Int)[k]! = x
    rw [law_member_eq a ha x (by omega), bnd1_some, law_member_eq b hb x (by omega), bnd1_some, law_member_eq u hu.1 x (by have := hu.2.1; omega), bnd1_some, law_member_eq m hm.1 x (by have := hm.2.1; omega), law_member_eq d hd.1 x (by have := hd.2.1; omega), hu.2.2 x, hm.2.2 x, hd.2.2 x]
    generalize memS a x = y
    generalize memS b x = z
    have hc : chk .i64 ((k : Int) + 1) = some (((k + 1 : Nat)) : Int) := chk_nat (by omega)
    cases y <;> cases z <;> simp [hc, stepOf, gd]) (by unfold law_SpanSetsMatch_L6; rw [if_neg (by decide)]), findNo]; rfl
theorem L5_pass (hu : SetIs (fun x y => x || y) a b u) (hm : SetIs (fun x y => x && y) a b m) (hd : SetIs (fun x y => x && !y) a b d) {l : List GSpan} (hl : SepS l) (hml : l.length ≤ 1073741824) : iter (fun (x : Int) => law_SpanSetsMatch_L5 a b u m d l x) 0 = some (.nrm ()) := by
  rw [iter_find (n := l.length) (fun _ => none) (fun k hk => by
    obtain ⟨f1, f2, f3, f4⟩ := hl k hk
    unfold law_SpanSetsMatch_L5
    rw [if_pos (by simpa using hk), idx_nat hk, bnd1_some, chk64 (by omega) (by omega), bnd1_some, chk64 (by omega) (by omega), bnd1_some, L6_pass ha hb hma hmb hu hm hd, ctl1_nrm, chk_nat (by omega), bnd1_some]; rfl) (by unfold law_SpanSetsMatch_L5; rw [if_neg (by simp)]), findNo]; rfl
theorem L1_pass (hu : SetIs (fun x y => x || y) a b u) (hm : SetIs (fun x y => x && y) a b m) (hd : SetIs (fun x y => x && !y) a b d) : iter (fun (x : Int) => law_SpanSetsMatch_L1 a b u m d x) 0 = some (.nrm ()) := by
  rw [iter_find (n := 2) (fun _ => none) (fun k hk => by
    unfold law_SpanSetsMatch_L1
    rw [if_pos (by rw [decide_eq_true_eq]; omega), idx_nat (by exact hk), bnd1_some]
    have : ∀ l, l = a ∨ l = b → iter (fun (x : Int) => law_SpanSetsMatch_L5 a b u m d l x) 0 = some (.nrm ()) := by
      rintro l (rfl | rfl)
      · exact L5_pass ha hb hma hmb hu hm hd ha hma
      · exact L5_pass ha hb hma hmb hu hm hd hb hmb
    rw [this _ (by
      match k, hk with
      | 0, _ => exact .inl rfl
      | 1, _ => exact .inr rfl), ctl1_nrm, chk_nat (by omega), bnd1_some]; rfl) (by unfold law_SpanSetsMatch_L1; rw [if_neg (by decide)]), findNo]; rfl
theorem L4_pass {g : Bool → Bool → Bool} {r : List GSpan} (hr : SetIs g a b r) {s : GSpan} (hs1 : memS r s.From ≠ memS r (s.From - 1)) (hs2 : memS r s.To ≠ memS r (s.To - 1)) (hF : 0 ≤ s.From ∧ s.To ≤ 2147483647 ∧ s.From < s.To) : iter (fun (x : Int) => law_SpanSetsMatch_L4 a b s x) 0 = some (.nrm ()) := by
  rw [iter_find (n := 2) (fun _ => none) (fun k hk => by
    unfold law_SpanSetsMatch_L4
    rw [if_pos (by rw [decide_eq_true_eq]; omega), idx_nat (by exact hk), bnd1_some]
    have hx : ∃ x, ([s.From, s.To] : List Int)[k]! = x ∧ memS r x ≠ memS r (x - 1) ∧ 0 ≤ x ∧ x ≤ 2147483647 := by
      match k, hk with
      | 0, _ => exact ⟨_, rfl, hs1, by show 0 ≤ s.From; omega, by show s.From ≤ _; omega⟩
      | 1, _ => exact ⟨_, rfl, hs2, by show 0 ≤ s.To; omega, by show s.To ≤ _; omega⟩
    obtain ⟨x, hx, hne, x0, x1⟩ := hx
    rw [hx, law_member_eq a ha x (by omega), bnd1_some, chk64 (by omega) (by omega), bnd1_some, law_member_eq a ha (x - 1) (by omega), bnd1_some, law_member_eq b hb x (by omega), law_member_eq b hb (x - 1) (by omega)]
    rw [hr.2.2, hr.2.2] at hne
    have hc : chk .i64 ((k : Int) + 1) = some (((k + 1 : Nat)) : Int) := chk_nat (by omega)
    generalize memS a x = y at hne ⊢
    generalize memS b x = z at hne ⊢
    generalize memS a (x - 1) = y' at hne ⊢
    generalize memS b (x - 1) = z' at hne ⊢
    cases y <;> cases z <;> cases y' <;> cases z' <;> first | exact absurd rfl hne | simp [hc, stepOf, gd]) (by unfold law_SpanSetsMatch_L4; rw [if_neg (by decide)]), findNo]; rfl
theorem L3_pass {g : Bool → Bool → Bool} {r : List GSpan} (hr : SetIs g a b r) : iter (fun (x : Int) => law_SpanSetsMatch_L3 a b r x) 0 = some (.nrm ()) := by
  have hrl := hr.2.1
  rw [iter_find (n := r.length) (fun _ => none) (fun k hk => by
    obtain ⟨f1, f2, f3, f4⟩ := hr.1 k hk
    obtain ⟨c1, c2⟩ := change_from hr.1 hk
    unfold law_SpanSetsMatch_L3
    rw [if_pos (by simpa using hk), idx_nat hk, bnd1_some, L4_pass ha hb hma hmb hr c1 c2 ⟨f1, f3, f2⟩, ctl1_nrm, chk_nat (by omega), bnd1_some]; rfl) (by unfold law_SpanSetsMatch_L3; rw [if_neg (by simp)]), findNo]; rfl
theorem L2_pass (hu : SetIs (fun x y => x || y) a b u) (hm : SetIs (fun x y => x && y) a b m) (hd : SetIs (fun x y => x && !y) a b d) : iter (fun (x : Int) => law_SpanSetsMatch_L2 a b u m d x) 0 = some (.nrm ()) := by
  rw [iter_find (n := 3) (fun _ => none) (fun k hk => by
    unfold law_SpanSetsMatch_L2
    rw [if_pos (by rw [decide_eq_true_eq]; omega), idx_nat (by exact hk), bnd1_some]
    have : ∀ l, l = u ∨ l = m ∨ l = d → iter (fun (x : Int) => law_SpanSetsMatch_L3 a b l x) 0 = some (.nrm ()) := by
      rintro l (rfl | rfl | rfl)
      · exact L3_pass ha hb hma hmb hu
      · exact L3_pass ha hb hma hmb hm
      · exact L3_pass ha hb hma hmb hd
    rw [this _ (by
      match k, hk with
      | 0, _ => exact .inl rfl
      | 1, _ => exact .inr (.inl rfl)
      | 2, _ => exact .inr (.inr rfl)), ctl1_nrm, chk_nat (by omega), bnd1_some]; rfl) (by unfold law_SpanSetsMatch_L2; rw [if_neg (by decide)]), findNo]; rfl
end
theorem law_SpanSets_true (a b : List GSpan) (hma : a.length ≤ 1073741824) (hmb : b.length ≤ 1073741824) : law_SpanSetsMatch a b = some true := by
  obtain ⟨u, u1, u2⟩ := union_eq a b hma hmb
  obtain ⟨m, m1, m2⟩ := meet_eq a b hma hmb
  obtain ⟨d, d1, d2⟩ := minus_eq a b hma hmb
  unfold law_SpanSetsMatch
  rw [law_spans_eq, bnd1_some, show ((!true) == false) = true from rfl, gd_true, gd_true, span_Check_eq a (by omega), bnd1_some, law_setError_eq a (by omega), bnd1_some, if_neg (by simp), u1, m1, d1]
  unfold setRes
  by_cases e1 : setErr a ≠ 0
  · rw [if_pos e1, if_pos e1, if_pos e1, bnd2_some, bnd2_some, bnd2_some, bnd1_some, if_neg (by rw [decide_eq_true_eq]; exact e1), bnd1_some, if_pos (ndT e1)]
    rw [show decide (setErr a = setErr a) = true from decide_eq_true rfl]
    rfl
  have e1 := Classical.not_not.1 e1
  rw [if_neg (show ¬ (setErr a ≠ 0) by simpa using e1), if_neg (show ¬ (setErr a ≠ 0) by simpa using e1), if_neg (show ¬ (setErr a ≠ 0) by simpa using e1)]
  by_cases e2 : setErr b ≠ 0
  · rw [if_pos e2, if_pos e2, if_pos e2, bnd2_some, bnd2_some, bnd2_some, bnd1_some, if_pos (by rw [decide_eq_true_eq]; exact e1), law_setError_eq b (by omega), bnd1_some, bnd1_some, if_pos (ndT e2)]
    rw [show decide (setErr b = setErr b) = true from decide_eq_true rfl]
    rfl
  have e2 := Classical.not_not.1 e2
  have hu := u2 e1 e2
  have hm := m2 e1 e2
  have hd := d2 e1 e2
  rw [if_neg (show ¬ (setErr b ≠ 0) by simpa using e2), if_neg (show ¬ (setErr b ≠ 0) by simpa using e2), if_neg (show ¬ (setErr b ≠ 0) by simpa using e2), bnd2_some, bnd2_some, bnd2_some, bnd1_some, if_pos (by rw [decide_eq_true_eq]; exact e1), law_setError_eq b (by omega), bnd1_some, bnd1_some, if_neg (ndF e2)]
  rw [law_setError_eq u (by have := hu.2.1; omega), law_setError_eq m (by have := hm.2.1; omega), law_setError_eq d (by have := hd.2.1; omega), setErr_of hu.1, setErr_of hm.1, setErr_of hd.1]
  rw [L1_pass (sep_of e1) (sep_of e2) hma hmb hu hm hd, L2_pass (sep_of e1) (sep_of e2) hma hmb hu hm hd]
  rfl
end Go.Proofs.Ythhodpedkdapcaa.Al

