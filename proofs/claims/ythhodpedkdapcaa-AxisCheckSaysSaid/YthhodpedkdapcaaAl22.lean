/-
  THE MODEL's WORDS: what a function computes, as a plain Lean function into 'Option' ('none': it panics, does not end, or needs more room than there is);
  and the logic's rules over them.
-/
import Derived.Test.YthhodpedkdapcaaAl21
namespace Go.Proofs.Ythhodpedkdapcaa.Al

/-! What models are made of. -/
inductive Ctl (β τ : Type) where
  | nrm (b : β)
  | ext (t : τ)
/-- An element of a list, at an index of Go's. -/
def idx {α : Type} (l : List α) (z : Int) : Option α := if 0 ≤ z then l[z.toNat]? else none
/-- Only where a guard says so. -/
def gd {α : Type} [Inhabited α] (c : Bool) (m : Option α) : Option α := if c then m else some default
/-- A number that must fit its kind. -/
def chk (k : IntKind) (z : Int) : Option Int := if k.wrap z = z then some z else none
def quoM (k : IntKind) (a b : Int) : Option Int := if b = 0 then none else chk k (a.tdiv b)
def remM (a b : Int) : Option Int := if b = 0 then none else some (a.tmod b)
/-- 'append', of elements of so many bytes. -/
def app {α : Type} (by_ : Nat) (xs ys : List α) : Option (List α) := if (xs.length + ys.length) * by_ ≤ 140737488355328 ∧ xs.length + ys.length ≤ 9223372036854775807 then some (xs ++ ys) else none
def mk {α : Type} (by_ : Nat) (n : Int) (z : α) : Option (List α) := if 0 ≤ n ∧ n * by_ ≤ 281474976710656 ∧ n ≤ 9223372036854775807 then some (List.replicate n.toNat z) else none
/-- A slice expression. -/
def slc {α : Type} (l : List α) (lo hi : Int) : Option (List α) := if 0 ≤ lo ∧ lo ≤ hi ∧ hi ≤ l.length then some ((l.drop lo.toNat).take (hi.toNat - lo.toNat)) else none
def catM (a b : List UInt8) : Option (List UInt8) := if a.length + b.length ≤ 9223372036854775807 then some (a ++ b) else none

def iterN {σ ρ : Type} (f : σ → Option (σ ⊕ ρ)) : Nat → σ → Option ρ
  | 0, _ => none
  | n + 1, s => match f s with
    | some (.inl s') => iterN f n s'
    | some (.inr r) => some r
    | none => none
open Classical in
/-- A loop. -/
noncomputable def iter {σ ρ : Type} (f : σ → Option (σ ⊕ ρ)) (s : σ) : Option ρ := if h : ∃ n r, iterN f n s = some r then iterN f h.choose s else none

def bnd0 {α : Type} (m : Option (Unit)) (f : Option α) : Option α := match m with | some _ => f  | none => none
def ctl0 {α : Type} (m : Option (Ctl (Unit) α)) (f : Option α) : Option α := match m with | some (.nrm _) => f  | some (.ext t) => some t | none => none
def bnd1 {a0 α : Type} (m : Option (a0)) (f : a0 → Option α) : Option α := match m with | some x0 => f x0 | none => none
def ctl1 {a0 α : Type} (m : Option (Ctl (a0) α)) (f : a0 → Option α) : Option α := match m with | some (.nrm x0) => f x0 | some (.ext t) => some t | none => none
def bnd2 {a0 a1 α : Type} (m : Option (a0 × a1)) (f : a0 → a1 → Option α) : Option α := match m with | some (x0, x1) => f x0 x1 | none => none
def ctl2 {a0 a1 α : Type} (m : Option (Ctl (a0 × a1) α)) (f : a0 → a1 → Option α) : Option α := match m with | some (.nrm (x0, x1)) => f x0 x1 | some (.ext t) => some t | none => none
def bnd3 {a0 a1 a2 α : Type} (m : Option (a0 × a1 × a2)) (f : a0 → a1 → a2 → Option α) : Option α := match m with | some (x0, x1, x2) => f x0 x1 x2 | none => none
def ctl3 {a0 a1 a2 α : Type} (m : Option (Ctl (a0 × a1 × a2) α)) (f : a0 → a1 → a2 → Option α) : Option α := match m with | some (.nrm (x0, x1, x2)) => f x0 x1 x2 | some (.ext t) => some t | none => none
def bnd4 {a0 a1 a2 a3 α : Type} (m : Option (a0 × a1 × a2 × a3)) (f : a0 → a1 → a2 → a3 → Option α) : Option α := match m with | some (x0, x1, x2, x3) => f x0 x1 x2 x3 | none => none
def ctl4 {a0 a1 a2 a3 α : Type} (m : Option (Ctl (a0 × a1 × a2 × a3) α)) (f : a0 → a1 → a2 → a3 → Option α) : Option α := match m with | some (.nrm (x0, x1, x2, x3)) => f x0 x1 x2 x3 | some (.ext t) => some t | none => none
def bnd5 {a0 a1 a2 a3 a4 α : Type} (m : Option (a0 × a1 × a2 × a3 × a4)) (f : a0 → a1 → a2 → a3 → a4 → Option α) : Option α := match m with | some (x0, x1, x2, x3, x4) => f x0 x1 x2 x3 x4 | none => none
def ctl5 {a0 a1 a2 a3 a4 α : Type} (m : Option (Ctl (a0 × a1 × a2 × a3 × a4) α)) (f : a0 → a1 → a2 → a3 → a4 → Option α) : Option α := match m with | some (.nrm (x0, x1, x2, x3, x4)) => f x0 x1 x2 x3 x4 | some (.ext t) => some t | none => none
def bnd6 {a0 a1 a2 a3 a4 a5 α : Type} (m : Option (a0 × a1 × a2 × a3 × a4 × a5)) (f : a0 → a1 → a2 → a3 → a4 → a5 → Option α) : Option α := match m with | some (x0, x1, x2, x3, x4, x5) => f x0 x1 x2 x3 x4 x5 | none => none
def ctl6 {a0 a1 a2 a3 a4 a5 α : Type} (m : Option (Ctl (a0 × a1 × a2 × a3 × a4 × a5) α)) (f : a0 → a1 → a2 → a3 → a4 → a5 → Option α) : Option α := match m with | some (.nrm (x0, x1, x2, x3, x4, x5)) => f x0 x1 x2 x3 x4 x5 | some (.ext t) => some t | none => none
def bnd7 {a0 a1 a2 a3 a4 a5 a6 α : Type} (m : Option (a0 × a1 × a2 × a3 × a4 × a5 × a6)) (f : a0 → a1 → a2 → a3 → a4 → a5 → a6 → Option α) : Option α := match m with | some (x0, x1, x2, x3, x4, x5, x6) => f x0 x1 x2 x3 x4 x5 x6 | none => none
def ctl7 {a0 a1 a2 a3 a4 a5 a6 α : Type} (m : Option (Ctl (a0 × a1 × a2 × a3 × a4 × a5 × a6) α)) (f : a0 → a1 → a2 → a3 → a4 → a5 → a6 → Option α) : Option α := match m with | some (.nrm (x0, x1, x2, x3, x4, x5, x6)) => f x0 x1 x2 x3 x4 x5 x6 | some (.ext t) => some t | none => none
def bnd8 {a0 a1 a2 a3 a4 a5 a6 a7 α : Type} (m : Option (a0 × a1 × a2 × a3 × a4 × a5 × a6 × a7)) (f : a0 → a1 → a2 → a3 → a4 → a5 → a6 → a7 → Option α) : Option α := match m with | some (x0, x1, x2, x3, x4, x5, x6, x7) => f x0 x1 x2 x3 x4 x5 x6 x7 | none => none
def ctl8 {a0 a1 a2 a3 a4 a5 a6 a7 α : Type} (m : Option (Ctl (a0 × a1 × a2 × a3 × a4 × a5 × a6 × a7) α)) (f : a0 → a1 → a2 → a3 → a4 → a5 → a6 → a7 → Option α) : Option α := match m with | some (.nrm (x0, x1, x2, x3, x4, x5, x6, x7)) => f x0 x1 x2 x3 x4 x5 x6 x7 | some (.ext t) => some t | none => none
def bnd9 {a0 a1 a2 a3 a4 a5 a6 a7 a8 α : Type} (m : Option (a0 × a1 × a2 × a3 × a4 × a5 × a6 × a7 × a8)) (f : a0 → a1 → a2 → a3 → a4 → a5 → a6 → a7 → a8 → Option α) : Option α := match m with | some (x0, x1, x2, x3, x4, x5, x6, x7, x8) => f x0 x1 x2 x3 x4 x5 x6 x7 x8 | none => none
def ctl9 {a0 a1 a2 a3 a4 a5 a6 a7 a8 α : Type} (m : Option (Ctl (a0 × a1 × a2 × a3 × a4 × a5 × a6 × a7 × a8) α)) (f : a0 → a1 → a2 → a3 → a4 → a5 → a6 → a7 → a8 → Option α) : Option α := match m with | some (.nrm (x0, x1, x2, x3, x4, x5, x6, x7, x8)) => f x0 x1 x2 x3 x4 x5 x6 x7 x8 | some (.ext t) => some t | none => none
def bnd10 {a0 a1 a2 a3 a4 a5 a6 a7 a8 a9 α : Type} (m : Option (a0 × a1 × a2 × a3 × a4 × a5 × a6 × a7 × a8 × a9)) (f : a0 → a1 → a2 → a3 → a4 → a5 → a6 → a7 → a8 → a9 → Option α) : Option α := match m with | some (x0, x1, x2, x3, x4, x5, x6, x7, x8, x9) => f x0 x1 x2 x3 x4 x5 x6 x7 x8 x9 | none => none
def ctl10 {a0 a1 a2 a3 a4 a5 a6 a7 a8 a9 α : Type} (m : Option (Ctl (a0 × a1 × a2 × a3 × a4 × a5 × a6 × a7 × a8 × a9) α)) (f : a0 → a1 → a2 → a3 → a4 → a5 → a6 → a7 → a8 → a9 → Option α) : Option α := match m with | some (.nrm (x0, x1, x2, x3, x4, x5, x6, x7, x8, x9)) => f x0 x1 x2 x3 x4 x5 x6 x7 x8 x9 | some (.ext t) => some t | none => none
def bnd11 {a0 a1 a2 a3 a4 a5 a6 a7 a8 a9 a10 α : Type} (m : Option (a0 × a1 × a2 × a3 × a4 × a5 × a6 × a7 × a8 × a9 × a10)) (f : a0 → a1 → a2 → a3 → a4 → a5 → a6 → a7 → a8 → a9 → a10 → Option α) : Option α := match m with | some (x0, x1, x2, x3, x4, x5, x6, x7, x8, x9, x10) => f x0 x1 x2 x3 x4 x5 x6 x7 x8 x9 x10 | none => none
def ctl11 {a0 a1 a2 a3 a4 a5 a6 a7 a8 a9 a10 α : Type} (m : Option (Ctl (a0 × a1 × a2 × a3 × a4 × a5 × a6 × a7 × a8 × a9 × a10) α)) (f : a0 → a1 → a2 → a3 → a4 → a5 → a6 → a7 → a8 → a9 → a10 → Option α) : Option α := match m with | some (.nrm (x0, x1, x2, x3, x4, x5, x6, x7, x8, x9, x10)) => f x0 x1 x2 x3 x4 x5 x6 x7 x8 x9 x10 | some (.ext t) => some t | none => none
def bnd12 {a0 a1 a2 a3 a4 a5 a6 a7 a8 a9 a10 a11 α : Type} (m : Option (a0 × a1 × a2 × a3 × a4 × a5 × a6 × a7 × a8 × a9 × a10 × a11)) (f : a0 → a1 → a2 → a3 → a4 → a5 → a6 → a7 → a8 → a9 → a10 → a11 → Option α) : Option α := match m with | some (x0, x1, x2, x3, x4, x5, x6, x7, x8, x9, x10, x11) => f x0 x1 x2 x3 x4 x5 x6 x7 x8 x9 x10 x11 | none => none
def ctl12 {a0 a1 a2 a3 a4 a5 a6 a7 a8 a9 a10 a11 α : Type} (m : Option (Ctl (a0 × a1 × a2 × a3 × a4 × a5 × a6 × a7 × a8 × a9 × a10 × a11) α)) (f : a0 → a1 → a2 → a3 → a4 → a5 → a6 → a7 → a8 → a9 → a10 → a11 → Option α) : Option α := match m with | some (.nrm (x0, x1, x2, x3, x4, x5, x6, x7, x8, x9, x10, x11)) => f x0 x1 x2 x3 x4 x5 x6 x7 x8 x9 x10 x11 | some (.ext t) => some t | none => none
def bnd13 {a0 a1 a2 a3 a4 a5 a6 a7 a8 a9 a10 a11 a12 α : Type} (m : Option (a0 × a1 × a2 × a3 × a4 × a5 × a6 × a7 × a8 × a9 × a10 × a11 × a12)) (f : a0 → a1 → a2 → a3 → a4 → a5 → a6 → a7 → a8 → a9 → a10 → a11 → a12 → Option α) : Option α := match m with | some (x0, x1, x2, x3, x4, x5, x6, x7, x8, x9, x10, x11, x12) => f x0 x1 x2 x3 x4 x5 x6 x7 x8 x9 x10 x11 x12 | none => none
def ctl13 {a0 a1 a2 a3 a4 a5 a6 a7 a8 a9 a10 a11 a12 α : Type} (m : Option (Ctl (a0 × a1 × a2 × a3 × a4 × a5 × a6 × a7 × a8 × a9 × a10 × a11 × a12) α)) (f : a0 → a1 → a2 → a3 → a4 → a5 → a6 → a7 → a8 → a9 → a10 → a11 → a12 → Option α) : Option α := match m with | some (.nrm (x0, x1, x2, x3, x4, x5, x6, x7, x8, x9, x10, x11, x12)) => f x0 x1 x2 x3 x4 x5 x6 x7 x8 x9 x10 x11 x12 | some (.ext t) => some t | none => none

/-! Taking them apart. -/
theorem ob0 {α : Type} {m : Option (Unit)} {f : Option α} {r : α} (h : bnd0 m f = some r) : m = some () ∧ f  = some r := by
  cases m with
  | none => cases h
  | some p => exact ⟨rfl, h⟩
theorem jb0 {α : Type} {m : Option (Unit)} {f : Option α} {r : α} (h : bnd0 m f = some r) : ∃ p, m = some p ∧ ∀ q0 : Unit, p = q0 → f  = some r := by
  cases m with
  | none => cases h
  | some p => exact ⟨p, rfl, fun _ e => by subst e; exact h⟩
theorem jc0 {α : Type} {m : Option (Ctl (Unit) α)} {f : Option α} {r : α} (h : ctl0 m f = some r) : ∃ o, m = some o ∧ (∀ q0 : Unit, o = .nrm q0 → f  = some r) ∧ ∀ t, o = .ext t → some t = some r := by
  cases m with
  | none => cases h
  | some o => cases o with
    | nrm p => exact ⟨_, rfl, (fun _ e => by cases e; exact h), (fun _ e => by cases e)⟩
    | ext t => exact ⟨_, rfl, (fun _ e => by cases e), (fun _ e => by cases e; exact h)⟩
theorem ob1 {a0 α : Type} {m : Option (a0)} {f : a0 → Option α} {r : α} (h : bnd1 m f = some r) : ∃ x0, m = some x0 ∧ f x0 = some r := by
  cases m with
  | none => cases h
  | some p => exact ⟨_, rfl, h⟩
theorem jb1 {a0 α : Type} {m : Option (a0)} {f : a0 → Option α} {r : α} (h : bnd1 m f = some r) : ∃ p, m = some p ∧ ∀ x0, p = x0 → f x0 = some r := by
  cases m with
  | none => cases h
  | some p => exact ⟨p, rfl, fun x0 e => by subst e; exact h⟩
theorem jc1 {a0 α : Type} {m : Option (Ctl (a0) α)} {f : a0 → Option α} {r : α} (h : ctl1 m f = some r) : ∃ o, m = some o ∧ (∀ x0, o = .nrm x0 → f x0 = some r) ∧ ∀ t, o = .ext t → some t = some r := by
  cases m with
  | none => cases h
  | some o => cases o with
    | nrm p => exact ⟨_, rfl, (fun x0 e => by cases e; exact h), (fun _ e => by cases e)⟩
    | ext t => exact ⟨_, rfl, (fun x0 e => by cases e), (fun _ e => by cases e; exact h)⟩
theorem ob2 {a0 a1 α : Type} {m : Option (a0 × a1)} {f : a0 → a1 → Option α} {r : α} (h : bnd2 m f = some r) : ∃ x0 x1, m = some (x0, x1) ∧ f x0 x1 = some r := by
  cases m with
  | none => cases h
  | some p => exact ⟨_, _, rfl, h⟩
theorem jb2 {a0 a1 α : Type} {m : Option (a0 × a1)} {f : a0 → a1 → Option α} {r : α} (h : bnd2 m f = some r) : ∃ p, m = some p ∧ ∀ x0 x1, p = (x0, x1) → f x0 x1 = some r := by
  cases m with
  | none => cases h
  | some p => exact ⟨p, rfl, fun x0 x1 e => by subst e; exact h⟩
theorem jc2 {a0 a1 α : Type} {m : Option (Ctl (a0 × a1) α)} {f : a0 → a1 → Option α} {r : α} (h : ctl2 m f = some r) : ∃ o, m = some o ∧ (∀ x0 x1, o = .nrm (x0, x1) → f x0 x1 = some r) ∧ ∀ t, o = .ext t → some t = some r := by
  cases m with
  | none => cases h
  | some o => cases o with
    | nrm p => exact ⟨_, rfl, (fun x0 x1 e => by cases e; exact h), (fun _ e => by cases e)⟩
    | ext t => exact ⟨_, rfl, (fun x0 x1 e => by cases e), (fun _ e => by cases e; exact h)⟩
theorem ob3 {a0 a1 a2 α : Type} {m : Option (a0 × a1 × a2)} {f : a0 → a1 → a2 → Option α} {r : α} (h : bnd3 m f = some r) : ∃ x0 x1 x2, m = some (x0, x1, x2) ∧ f x0 x1 x2 = some r := by
  cases m with
  | none => cases h
  | some p => exact ⟨_, _, _, rfl, h⟩
theorem jb3 {a0 a1 a2 α : Type} {m : Option (a0 × a1 × a2)} {f : a0 → a1 → a2 → Option α} {r : α} (h : bnd3 m f = some r) : ∃ p, m = some p ∧ ∀ x0 x1 x2, p = (x0, x1, x2) → f x0 x1 x2 = some r := by
  cases m with
  | none => cases h
  | some p => exact ⟨p, rfl, fun x0 x1 x2 e => by subst e; exact h⟩
theorem jc3 {a0 a1 a2 α : Type} {m : Option (Ctl (a0 × a1 × a2) α)} {f : a0 → a1 → a2 → Option α} {r : α} (h : ctl3 m f = some r) : ∃ o, m = some o ∧ (∀ x0 x1 x2, o = .nrm (x0, x1, x2) → f x0 x1 x2 = some r) ∧ ∀ t, o = .ext t → some t = some r := by
  cases m with
  | none => cases h
  | some o => cases o with
    | nrm p => exact ⟨_, rfl, (fun x0 x1 x2 e => by cases e; exact h), (fun _ e => by cases e)⟩
    | ext t => exact ⟨_, rfl, (fun x0 x1 x2 e => by cases e), (fun _ e => by cases e; exact h)⟩
theorem ob4 {a0 a1 a2 a3 α : Type} {m : Option (a0 × a1 × a2 × a3)} {f : a0 → a1 → a2 → a3 → Option α} {r : α} (h : bnd4 m f = some r) : ∃ x0 x1 x2 x3, m = some (x0, x1, x2, x3) ∧ f x0 x1 x2 x3 = some r := by
  cases m with
  | none => cases h
  | some p => exact ⟨_, _, _, _, rfl, h⟩
theorem jb4 {a0 a1 a2 a3 α : Type} {m : Option (a0 × a1 × a2 × a3)} {f : a0 → a1 → a2 → a3 → Option α} {r : α} (h : bnd4 m f = some r) : ∃ p, m = some p ∧ ∀ x0 x1 x2 x3, p = (x0, x1, x2, x3) → f x0 x1 x2 x3 = some r := by
  cases m with
  | none => cases h
  | some p => exact ⟨p, rfl, fun x0 x1 x2 x3 e => by subst e; exact h⟩
theorem jc4 {a0 a1 a2 a3 α : Type} {m : Option (Ctl (a0 × a1 × a2 × a3) α)} {f : a0 → a1 → a2 → a3 → Option α} {r : α} (h : ctl4 m f = some r) : ∃ o, m = some o ∧ (∀ x0 x1 x2 x3, o = .nrm (x0, x1, x2, x3) → f x0 x1 x2 x3 = some r) ∧ ∀ t, o = .ext t → some t = some r := by
  cases m with
  | none => cases h
  | some o => cases o with
    | nrm p => exact ⟨_, rfl, (fun x0 x1 x2 x3 e => by cases e; exact h), (fun _ e => by cases e)⟩
    | ext t => exact ⟨_, rfl, (fun x0 x1 x2 x3 e => by cases e), (fun _ e => by cases e; exact h)⟩
theorem ob5 {a0 a1 a2 a3 a4 α : Type} {m : Option (a0 × a1 × a2 × a3 × a4)} {f : a0 → a1 → a2 → a3 → a4 → Option α} {r : α} (h : bnd5 m f = some r) : ∃ x0 x1 x2 x3 x4, m = some (x0, x1, x2, x3, x4) ∧ f x0 x1 x2 x3 x4 = some r := by
  cases m with
  | none => cases h
  | some p => exact ⟨_, _, _, _, _, rfl, h⟩
theorem jb5 {a0 a1 a2 a3 a4 α : Type} {m : Option (a0 × a1 × a2 × a3 × a4)} {f : a0 → a1 → a2 → a3 → a4 → Option α} {r : α} (h : bnd5 m f = some r) : ∃ p, m = some p ∧ ∀ x0 x1 x2 x3 x4, p = (x0, x1, x2, x3, x4) → f x0 x1 x2 x3 x4 = some r := by
  cases m with
  | none => cases h
  | some p => exact ⟨p, rfl, fun x0 x1 x2 x3 x4 e => by subst e; exact h⟩
theorem jc5 {a0 a1 a2 a3 a4 α : Type} {m : Option (Ctl (a0 × a1 × a2 × a3 × a4) α)} {f : a0 → a1 → a2 → a3 → a4 → Option α} {r : α} (h : ctl5 m f = some r) : ∃ o, m = some o ∧ (∀ x0 x1 x2 x3 x4, o = .nrm (x0, x1, x2, x3, x4) → f x0 x1 x2 x3 x4 = some r) ∧ ∀ t, o = .ext t → some t = some r := by
  cases m with
  | none => cases h
  | some o => cases o with
    | nrm p => exact ⟨_, rfl, (fun x0 x1 x2 x3 x4 e => by cases e; exact h), (fun _ e => by cases e)⟩
    | ext t => exact ⟨_, rfl, (fun x0 x1 x2 x3 x4 e => by cases e), (fun _ e => by cases e; exact h)⟩
theorem ob6 {a0 a1 a2 a3 a4 a5 α : Type} {m : Option (a0 × a1 × a2 × a3 × a4 × a5)} {f : a0 → a1 → a2 → a3 → a4 → a5 → Option α} {r : α} (h : bnd6 m f = some r) : ∃ x0 x1 x2 x3 x4 x5, m = some (x0, x1, x2, x3, x4, x5) ∧ f x0 x1 x2 x3 x4 x5 = some r := by
  cases m with
  | none => cases h
  | some p => exact ⟨_, _, _, _, _, _, rfl, h⟩
theorem jb6 {a0 a1 a2 a3 a4 a5 α : Type} {m : Option (a0 × a1 × a2 × a3 × a4 × a5)} {f : a0 → a1 → a2 → a3 → a4 → a5 → Option α} {r : α} (h : bnd6 m f = some r) : ∃ p, m = some p ∧ ∀ x0 x1 x2 x3 x4 x5, p = (x0, x1, x2, x3, x4, x5) → f x0 x1 x2 x3 x4 x5 = some r := by
  cases m with
  | none => cases h
  | some p => exact ⟨p, rfl, fun x0 x1 x2 x3 x4 x5 e => by subst e; exact h⟩
theorem jc6 {a0 a1 a2 a3 a4 a5 α : Type} {m : Option (Ctl (a0 × a1 × a2 × a3 × a4 × a5) α)} {f : a0 → a1 → a2 → a3 → a4 → a5 → Option α} {r : α} (h : ctl6 m f = some r) : ∃ o, m = some o ∧ (∀ x0 x1 x2 x3 x4 x5, o = .nrm (x0, x1, x2, x3, x4, x5) → f x0 x1 x2 x3 x4 x5 = some r) ∧ ∀ t, o = .ext t → some t = some r := by
  cases m with
  | none => cases h
  | some o => cases o with
    | nrm p => exact ⟨_, rfl, (fun x0 x1 x2 x3 x4 x5 e => by cases e; exact h), (fun _ e => by cases e)⟩
    | ext t => exact ⟨_, rfl, (fun x0 x1 x2 x3 x4 x5 e => by cases e), (fun _ e => by cases e; exact h)⟩
theorem ob7 {a0 a1 a2 a3 a4 a5 a6 α : Type} {m : Option (a0 × a1 × a2 × a3 × a4 × a5 × a6)} {f : a0 → a1 → a2 → a3 → a4 → a5 → a6 → Option α} {r : α} (h : bnd7 m f = some r) : ∃ x0 x1 x2 x3 x4 x5 x6, m = some (x0, x1, x2, x3, x4, x5, x6) ∧ f x0 x1 x2 x3 x4 x5 x6 = some r := by
  cases m with
  | none => cases h
  | some p => exact ⟨_, _, _, _, _, _, _, rfl, h⟩
theorem jb7 {a0 a1 a2 a3 a4 a5 a6 α : Type} {m : Option (a0 × a1 × a2 × a3 × a4 × a5 × a6)} {f : a0 → a1 → a2 → a3 → a4 → a5 → a6 → Option α} {r : α} (h : bnd7 m f = some r) : ∃ p, m = some p ∧ ∀ x0 x1 x2 x3 x4 x5 x6, p = (x0, x1, x2, x3, x4, x5, x6) → f x0 x1 x2 x3 x4 x5 x6 = some r := by
  cases m with
  | none => cases h
  | some p => exact ⟨p, rfl, fun x0 x1 x2 x3 x4 x5 x6 e => by subst e; exact h⟩
theorem jc7 {a0 a1 a2 a3 a4 a5 a6 α : Type} {m : Option (Ctl (a0 × a1 × a2 × a3 × a4 × a5 × a6) α)} {f : a0 → a1 → a2 → a3 → a4 → a5 → a6 → Option α} {r : α} (h : ctl7 m f = some r) : ∃ o, m = some o ∧ (∀ x0 x1 x2 x3 x4 x5 x6, o = .nrm (x0, x1, x2, x3, x4, x5, x6) → f x0 x1 x2 x3 x4 x5 x6 = some r) ∧ ∀ t, o = .ext t → some t = some r := by
  cases m with
  | none => cases h
  | some o => cases o with
    | nrm p => exact ⟨_, rfl, (fun x0 x1 x2 x3 x4 x5 x6 e => by cases e; exact h), (fun _ e => by cases e)⟩
    | ext t => exact ⟨_, rfl, (fun x0 x1 x2 x3 x4 x5 x6 e => by cases e), (fun _ e => by cases e; exact h)⟩
theorem ob8 {a0 a1 a2 a3 a4 a5 a6 a7 α : Type} {m : Option (a0 × a1 × a2 × a3 × a4 × a5 × a6 × a7)} {f : a0 → a1 → a2 → a3 → a4 → a5 → a6 → a7 → Option α} {r : α} (h : bnd8 m f = some r) : ∃ x0 x1 x2 x3 x4 x5 x6 x7, m = some (x0, x1, x2, x3, x4, x5, x6, x7) ∧ f x0 x1 x2 x3 x4 x5 x6 x7 = some r := by
  cases m with
  | none => cases h
  | some p => exact ⟨_, _, _, _, _, _, _, _, rfl, h⟩
theorem jb8 {a0 a1 a2 a3 a4 a5 a6 a7 α : Type} {m : Option (a0 × a1 × a2 × a3 × a4 × a5 × a6 × a7)} {f : a0 → a1 → a2 → a3 → a4 → a5 → a6 → a7 → Option α} {r : α} (h : bnd8 m f = some r) : ∃ p, m = some p ∧ ∀ x0 x1 x2 x3 x4 x5 x6 x7, p = (x0, x1, x2, x3, x4, x5, x6, x7) → f x0 x1 x2 x3 x4 x5 x6 x7 = some r := by
  cases m with
  | none => cases h
  | some p => exact ⟨p, rfl, fun x0 x1 x2 x3 x4 x5 x6 x7 e => by subst e; exact h⟩
theorem jc8 {a0 a1 a2 a3 a4 a5 a6 a7 α : Type} {m : Option (Ctl (a0 × a1 × a2 × a3 × a4 × a5 × a6 × a7) α)} {f : a0 → a1 → a2 → a3 → a4 → a5 → a6 → a7 → Option α} {r : α} (h : ctl8 m f = some r) : ∃ o, m = some o ∧ (∀ x0 x1 x2 x3 x4 x5 x6 x7, o = .nrm (x0, x1, x2, x3, x4, x5, x6, x7) → f x0 x1 x2 x3 x4 x5 x6 x7 = some r) ∧ ∀ t, o = .ext t → some t = some r := by
  cases m with
  | none => cases h
  | some o => cases o with
    | nrm p => exact ⟨_, rfl, (fun x0 x1 x2 x3 x4 x5 x6 x7 e => by cases e; exact h), (fun _ e => by cases e)⟩
    | ext t => exact ⟨_, rfl, (fun x0 x1 x2 x3 x4 x5 x6 x7 e => by cases e), (fun _ e => by cases e; exact h)⟩
theorem ob9 {a0 a1 a2 a3 a4 a5 a6 a7 a8 α : Type} {m : Option (a0 × a1 × a2 × a3 × a4 × a5 × a6 × a7 × a8)} {f : a0 → a1 → a2 → a3 → a4 → a5 → a6 → a7 → a8 → Option α} {r : α} (h : bnd9 m f = some r) : ∃ x0 x1 x2 x3 x4 x5 x6 x7 x8, m = some (x0, x1, x2, x3, x4, x5, x6, x7, x8) ∧ f x0 x1 x2 x3 x4 x5 x6 x7 x8 = some r := by
  cases m with
  | none => cases h
  | some p => exact ⟨_, _, _, _, _, _, _, _, _, rfl, h⟩
theorem jb9 {a0 a1 a2 a3 a4 a5 a6 a7 a8 α : Type} {m : Option (a0 × a1 × a2 × a3 × a4 × a5 × a6 × a7 × a8)} {f : a0 → a1 → a2 → a3 → a4 → a5 → a6 → a7 → a8 → Option α} {r : α} (h : bnd9 m f = some r) : ∃ p, m = some p ∧ ∀ x0 x1 x2 x3 x4 x5 x6 x7 x8, p = (x0, x1, x2, x3, x4, x5, x6, x7, x8) → f x0 x1 x2 x3 x4 x5 x6 x7 x8 = some r := by
  cases m with
  | none => cases h
  | some p => exact ⟨p, rfl, fun x0 x1 x2 x3 x4 x5 x6 x7 x8 e => by subst e; exact h⟩
theorem jc9 {a0 a1 a2 a3 a4 a5 a6 a7 a8 α : Type} {m : Option (Ctl (a0 × a1 × a2 × a3 × a4 × a5 × a6 × a7 × a8) α)} {f : a0 → a1 → a2 → a3 → a4 → a5 → a6 → a7 → a8 → Option α} {r : α} (h : ctl9 m f = some r) : ∃ o, m = some o ∧ (∀ x0 x1 x2 x3 x4 x5 x6 x7 x8, o = .nrm (x0, x1, x2, x3, x4, x5, x6, x7, x8) → f x0 x1 x2 x3 x4 x5 x6 x7 x8 = some r) ∧ ∀ t, o = .ext t → some t = some r := by
  cases m with
  | none => cases h
  | some o => cases o with
    | nrm p => exact ⟨_, rfl, (fun x0 x1 x2 x3 x4 x5 x6 x7 x8 e => by cases e; exact h), (fun _ e => by cases e)⟩
    | ext t => exact ⟨_, rfl, (fun x0 x1 x2 x3 x4 x5 x6 x7 x8 e => by cases e), (fun _ e => by cases e; exact h)⟩
theorem ob10 {a0 a1 a2 a3 a4 a5 a6 a7 a8 a9 α : Type} {m : Option (a0 × a1 × a2 × a3 × a4 × a5 × a6 × a7 × a8 × a9)} {f : a0 → a1 → a2 → a3 → a4 → a5 → a6 → a7 → a8 → a9 → Option α} {r : α} (h : bnd10 m f = some r) : ∃ x0 x1 x2 x3 x4 x5 x6 x7 x8 x9, m = some (x0, x1, x2, x3, x4, x5, x6, x7, x8, x9) ∧ f x0 x1 x2 x3 x4 x5 x6 x7 x8 x9 = some r := by
  cases m with
  | none => cases h
  | some p => exact ⟨_, _, _, _, _, _, _, _, _, _, rfl, h⟩
theorem jb10 {a0 a1 a2 a3 a4 a5 a6 a7 a8 a9 α : Type} {m : Option (a0 × a1 × a2 × a3 × a4 × a5 × a6 × a7 × a8 × a9)} {f : a0 → a1 → a2 → a3 → a4 → a5 → a6 → a7 → a8 → a9 → Option α} {r : α} (h : bnd10 m f = some r) : ∃ p, m = some p ∧ ∀ x0 x1 x2 x3 x4 x5 x6 x7 x8 x9, p = (x0, x1, x2, x3, x4, x5, x6, x7, x8, x9) → f x0 x1 x2 x3 x4 x5 x6 x7 x8 x9 = some r := by
  cases m with
  | none => cases h
  | some p => exact ⟨p, rfl, fun x0 x1 x2 x3 x4 x5 x6 x7 x8 x9 e => by subst e; exact h⟩
theorem jc10 {a0 a1 a2 a3 a4 a5 a6 a7 a8 a9 α : Type} {m : Option (Ctl (a0 × a1 × a2 × a3 × a4 × a5 × a6 × a7 × a8 × a9) α)} {f : a0 → a1 → a2 → a3 → a4 → a5 → a6 → a7 → a8 → a9 → Option α} {r : α} (h : ctl10 m f = some r) : ∃ o, m = some o ∧ (∀ x0 x1 x2 x3 x4 x5 x6 x7 x8 x9, o = .nrm (x0, x1, x2, x3, x4, x5, x6, x7, x8, x9) → f x0 x1 x2 x3 x4 x5 x6 x7 x8 x9 = some r) ∧ ∀ t, o = .ext t → some t = some r := by
  cases m with
  | none => cases h
  | some o => cases o with
    | nrm p => exact ⟨_, rfl, (fun x0 x1 x2 x3 x4 x5 x6 x7 x8 x9 e => by cases e; exact h), (fun _ e => by cases e)⟩
    | ext t => exact ⟨_, rfl, (fun x0 x1 x2 x3 x4 x5 x6 x7 x8 x9 e => by cases e), (fun _ e => by cases e; exact h)⟩
theorem ob11 {a0 a1 a2 a3 a4 a5 a6 a7 a8 a9 a10 α : Type} {m : Option (a0 × a1 × a2 × a3 × a4 × a5 × a6 × a7 × a8 × a9 × a10)} {f : a0 → a1 → a2 → a3 → a4 → a5 → a6 → a7 → a8 → a9 → a10 → Option α} {r : α} (h : bnd11 m f = some r) : ∃ x0 x1 x2 x3 x4 x5 x6 x7 x8 x9 x10, m = some (x0, x1, x2, x3, x4, x5, x6, x7, x8, x9, x10) ∧ f x0 x1 x2 x3 x4 x5 x6 x7 x8 x9 x10 = some r := by
  cases m with
  | none => cases h
  | some p => exact ⟨_, _, _, _, _, _, _, _, _, _, _, rfl, h⟩
theorem jb11 {a0 a1 a2 a3 a4 a5 a6 a7 a8 a9 a10 α : Type} {m : Option (a0 × a1 × a2 × a3 × a4 × a5 × a6 × a7 × a8 × a9 × a10)} {f : a0 → a1 → a2 → a3 → a4 → a5 → a6 → a7 → a8 → a9 → a10 → Option α} {r : α} (h : bnd11 m f = some r) : ∃ p, m = some p ∧ ∀ x0 x1 x2 x3 x4 x5 x6 x7 x8 x9 x10, p = (x0, x1, x2, x3, x4, x5, x6, x7, x8, x9, x10) → f x0 x1 x2 x3 x4 x5 x6 x7 x8 x9 x10 = some r := by
  cases m with
  | none => cases h
  | some p => exact ⟨p, rfl, fun x0 x1 x2 x3 x4 x5 x6 x7 x8 x9 x10 e => by subst e; exact h⟩
theorem jc11 {a0 a1 a2 a3 a4 a5 a6 a7 a8 a9 a10 α : Type} {m : Option (Ctl (a0 × a1 × a2 × a3 × a4 × a5 × a6 × a7 × a8 × a9 × a10) α)} {f : a0 → a1 → a2 → a3 → a4 → a5 → a6 → a7 → a8 → a9 → a10 → Option α} {r : α} (h : ctl11 m f = some r) : ∃ o, m = some o ∧ (∀ x0 x1 x2 x3 x4 x5 x6 x7 x8 x9 x10, o = .nrm (x0, x1, x2, x3, x4, x5, x6, x7, x8, x9, x10) → f x0 x1 x2 x3 x4 x5 x6 x7 x8 x9 x10 = some r) ∧ ∀ t, o = .ext t → some t = some r := by
  cases m with
  | none => cases h
  | some o => cases o with
    | nrm p => exact ⟨_, rfl, (fun x0 x1 x2 x3 x4 x5 x6 x7 x8 x9 x10 e => by cases e; exact h), (fun _ e => by cases e)⟩
    | ext t => exact ⟨_, rfl, (fun x0 x1 x2 x3 x4 x5 x6 x7 x8 x9 x10 e => by cases e), (fun _ e => by cases e; exact h)⟩
theorem ob12 {a0 a1 a2 a3 a4 a5 a6 a7 a8 a9 a10 a11 α : Type} {m : Option (a0 × a1 × a2 × a3 × a4 × a5 × a6 × a7 × a8 × a9 × a10 × a11)} {f : a0 → a1 → a2 → a3 → a4 → a5 → a6 → a7 → a8 → a9 → a10 → a11 → Option α} {r : α} (h : bnd12 m f = some r) : ∃ x0 x1 x2 x3 x4 x5 x6 x7 x8 x9 x10 x11, m = some (x0, x1, x2, x3, x4, x5, x6, x7, x8, x9, x10, x11) ∧ f x0 x1 x2 x3 x4 x5 x6 x7 x8 x9 x10 x11 = some r := by
  cases m with
  | none => cases h
  | some p => exact ⟨_, _, _, _, _, _, _, _, _, _, _, _, rfl, h⟩
theorem jb12 {a0 a1 a2 a3 a4 a5 a6 a7 a8 a9 a10 a11 α : Type} {m : Option (a0 × a1 × a2 × a3 × a4 × a5 × a6 × a7 × a8 × a9 × a10 × a11)} {f : a0 → a1 → a2 → a3 → a4 → a5 → a6 → a7 → a8 → a9 → a10 → a11 → Option α} {r : α} (h : bnd12 m f = some r) : ∃ p, m = some p ∧ ∀ x0 x1 x2 x3 x4 x5 x6 x7 x8 x9 x10 x11, p = (x0, x1, x2, x3, x4, x5, x6, x7, x8, x9, x10, x11) → f x0 x1 x2 x3 x4 x5 x6 x7 x8 x9 x10 x11 = some r := by
  cases m with
  | none => cases h
  | some p => exact ⟨p, rfl, fun x0 x1 x2 x3 x4 x5 x6 x7 x8 x9 x10 x11 e => by subst e; exact h⟩
theorem jc12 {a0 a1 a2 a3 a4 a5 a6 a7 a8 a9 a10 a11 α : Type} {m : Option (Ctl (a0 × a1 × a2 × a3 × a4 × a5 × a6 × a7 × a8 × a9 × a10 × a11) α)} {f : a0 → a1 → a2 → a3 → a4 → a5 → a6 → a7 → a8 → a9 → a10 → a11 → Option α} {r : α} (h : ctl12 m f = some r) : ∃ o, m = some o ∧ (∀ x0 x1 x2 x3 x4 x5 x6 x7 x8 x9 x10 x11, o = .nrm (x0, x1, x2, x3, x4, x5, x6, x7, x8, x9, x10, x11) → f x0 x1 x2 x3 x4 x5 x6 x7 x8 x9 x10 x11 = some r) ∧ ∀ t, o = .ext t → some t = some r := by
  cases m with
  | none => cases h
  | some o => cases o with
    | nrm p => exact ⟨_, rfl, (fun x0 x1 x2 x3 x4 x5 x6 x7 x8 x9 x10 x11 e => by cases e; exact h), (fun _ e => by cases e)⟩
    | ext t => exact ⟨_, rfl, (fun x0 x1 x2 x3 x4 x5 x6 x7 x8 x9 x10 x11 e => by cases e), (fun _ e => by cases e; exact h)⟩
theorem ob13 {a0 a1 a2 a3 a4 a5 a6 a7 a8 a9 a10 a11 a12 α : Type} {m : Option (a0 × a1 × a2 × a3 × a4 × a5 × a6 × a7 × a8 × a9 × a10 × a11 × a12)} {f : a0 → a1 → a2 → a3 → a4 → a5 → a6 → a7 → a8 → a9 → a10 → a11 → a12 → Option α} {r : α} (h : bnd13 m f = some r) : ∃ x0 x1 x2 x3 x4 x5 x6 x7 x8 x9 x10 x11 x12, m = some (x0, x1, x2, x3, x4, x5, x6, x7, x8, x9, x10, x11, x12) ∧ f x0 x1 x2 x3 x4 x5 x6 x7 x8 x9 x10 x11 x12 = some r := by
  cases m with
  | none => cases h
  | some p => exact ⟨_, _, _, _, _, _, _, _, _, _, _, _, _, rfl, h⟩
theorem jb13 {a0 a1 a2 a3 a4 a5 a6 a7 a8 a9 a10 a11 a12 α : Type} {m : Option (a0 × a1 × a2 × a3 × a4 × a5 × a6 × a7 × a8 × a9 × a10 × a11 × a12)} {f : a0 → a1 → a2 → a3 → a4 → a5 → a6 → a7 → a8 → a9 → a10 → a11 → a12 → Option α} {r : α} (h : bnd13 m f = some r) : ∃ p, m = some p ∧ ∀ x0 x1 x2 x3 x4 x5 x6 x7 x8 x9 x10 x11 x12, p = (x0, x1, x2, x3, x4, x5, x6, x7, x8, x9, x10, x11, x12) → f x0 x1 x2 x3 x4 x5 x6 x7 x8 x9 x10 x11 x12 = some r := by
  cases m with
  | none => cases h
  | some p => exact ⟨p, rfl, fun x0 x1 x2 x3 x4 x5 x6 x7 x8 x9 x10 x11 x12 e => by subst e; exact h⟩
theorem jc13 {a0 a1 a2 a3 a4 a5 a6 a7 a8 a9 a10 a11 a12 α : Type} {m : Option (Ctl (a0 × a1 × a2 × a3 × a4 × a5 × a6 × a7 × a8 × a9 × a10 × a11 × a12) α)} {f : a0 → a1 → a2 → a3 → a4 → a5 → a6 → a7 → a8 → a9 → a10 → a11 → a12 → Option α} {r : α} (h : ctl13 m f = some r) : ∃ o, m = some o ∧ (∀ x0 x1 x2 x3 x4 x5 x6 x7 x8 x9 x10 x11 x12, o = .nrm (x0, x1, x2, x3, x4, x5, x6, x7, x8, x9, x10, x11, x12) → f x0 x1 x2 x3 x4 x5 x6 x7 x8 x9 x10 x11 x12 = some r) ∧ ∀ t, o = .ext t → some t = some r := by
  cases m with
  | none => cases h
  | some o => cases o with
    | nrm p => exact ⟨_, rfl, (fun x0 x1 x2 x3 x4 x5 x6 x7 x8 x9 x10 x11 x12 e => by cases e; exact h), (fun _ e => by cases e)⟩
    | ext t => exact ⟨_, rfl, (fun x0 x1 x2 x3 x4 x5 x6 x7 x8 x9 x10 x11 x12 e => by cases e), (fun _ e => by cases e; exact h)⟩
theorem ite_t {α : Type} {b : Bool} {x y z : α} (hc : b = true) (h : (if b = true then x else y) = z) : x = z := by rw [if_pos hc] at h; exact h
theorem ite_f {α : Type} {b : Bool} {x y z : α} (hc : b = false) (h : (if b = true then x else y) = z) : y = z := by rw [if_neg (by rw [hc]; decide)] at h; exact h
theorem gdt {α : Type} [Inhabited α] {c : Bool} {m : Option α} {x : α} (h : gd c m = some x) : c = true → m = some x := by intro hc; subst hc; exact h
theorem chk_some {k : IntKind} {z x : Int} (h : chk k z = some x) : k.wrap z = z ∧ x = z := by
  unfold chk at h; split at h
  · exact ⟨‹_›, (Option.some.inj h).symm⟩
  · cases h
theorem chk64 {z : Int} (h1 : -9223372036854775808 ≤ z) (h2 : z ≤ 9223372036854775807) : chk .i64 z = some z := if_pos (w64 h1 h2)

/-! Loops. -/
section
variable {σ ρ : Type} {f : σ → Option (σ ⊕ ρ)}
theorem iterN_mono {n : Nat} {s : σ} {r : ρ} (h : iterN f n s = some r) (k : Nat) : iterN f (n + k) s = some r := by
  induction n generalizing s with
  | zero => cases h
  | succ n ih =>
    rw [show n + 1 + k = (n + k) + 1 by omega]
    unfold iterN at h ⊢
    split at h
    · exact ih h
    · exact h
    · cases h
theorem iterN_det {n m : Nat} {s : σ} {r q : ρ} (h : iterN f n s = some r) (k : iterN f m s = some q) : r = q := by
  have h1 := iterN_mono h m
  have h2 := iterN_mono k n
  rw [Nat.add_comm] at h2
  rw [h1] at h2
  exact Option.some.inj h2
theorem iter_iff {s : σ} {r : ρ} : iter f s = some r ↔ ∃ n, iterN f n s = some r := by
  unfold iter
  constructor
  · intro h; split at h
    · exact ⟨_, h⟩
    · cases h
  · rintro ⟨n, h⟩
    have hx : ∃ n r, iterN f n s = some r := ⟨n, r, h⟩
    rw [dif_pos hx]
    obtain ⟨q, hq⟩ := hx.choose_spec
    rw [hq, iterN_det hq h]
theorem iter_stop {s : σ} {r : ρ} (h : f s = some (.inr r)) : iter f s = some r := iter_iff.2 ⟨1, by unfold iterN; rw [h]⟩
theorem iter_next {s s' : σ} (h : f s = some (.inl s')) : iter f s = iter f s' := by
  apply Option.ext
  intro r
  rw [iter_iff, iter_iff]
  constructor
  · rintro ⟨n, hn⟩
    cases n with
    | zero => cases hn
    | succ n => unfold iterN at hn; rw [h] at hn; exact ⟨n, hn⟩
  · rintro ⟨n, hn⟩; exact ⟨n + 1, by unfold iterN; rw [h]; exact hn⟩
/-- A loop by an invariant and a measure. -/
theorem iter_inv (I : σ → Prop) (μ : σ → Nat) (Q : ρ → Prop) (h : ∀ s, I s → (∃ s', f s = some (.inl s') ∧ I s' ∧ μ s' < μ s) ∨ ∃ r, f s = some (.inr r) ∧ Q r) {s : σ} (hs : I s) : ∃ r, iter f s = some r ∧ Q r := by
  generalize hm : μ s = m
  induction m using Nat.strongRecOn generalizing s with
  | _ m ih =>
    rcases h s hs with ⟨s', h1, h2, h3⟩ | ⟨r, h1, h2⟩
    · rw [iter_next h1]; exact ih _ (by omega) h2 rfl
    · exact ⟨r, iter_stop h1, h2⟩
/-- A loop that brings about what a plain function says. -/
theorem iter_eq (I : σ → Prop) (μ : σ → Nat) (F : σ → ρ) (h : ∀ s, I s → (∃ s', f s = some (.inl s') ∧ I s' ∧ μ s' < μ s ∧ F s' = F s) ∨ f s = some (.inr (F s))) {s : σ} (hs : I s) : iter f s = some (F s) := by
  generalize hm : μ s = m
  induction m using Nat.strongRecOn generalizing s with
  | _ m ih =>
    rcases h s hs with ⟨s', h1, h2, h3, h4⟩ | h1
    · rw [iter_next h1, ih _ (by omega) h2 rfl, h4]
    · exact iter_stop h1

/-- THE LOOP OF THE LOGIC. -/
theorem AW.iter {P : Program} {Q : Exit → St → Prop} {s : St} {x : Code} {a0 : σ} {o : ρ} (R : σ → St → Prop) (hit : Al.iter f a0 = some o) (h0 : ∃ s', Weak s s' ∧ R a0 s')
    (round : ∀ a st v, R a st → f a = some v → (∀ q, v = .inr q → o = q) → AW P x (ThenQ (fun st' => ∃ a', v = .inl a' ∧ ∃ st'', Weak st' st'' ∧ R a' st'') Q) st) : AW P (.loop x) Q s := by
  obtain ⟨n, hn⟩ := iter_iff.1 hit
  obtain ⟨s1, hw1, hR1⟩ := h0
  refine AW.loop (fun m st => ∃ a, R a st ∧ iterN f m a = some o) n ⟨s1, hw1, a0, hR1, hn⟩ ?_
  rintro m st ⟨a, hR, ha⟩
  cases m with
  | zero => cases ha
  | succ m =>
    cases hf : f a with
    | none => unfold iterN at ha; rw [hf] at ha; cases ha
    | some v =>
      unfold iterN at ha
      rw [hf] at ha
      refine (round a st v hR hf ?_).mono fun e st' hq => ?_
      · rintro q rfl; exact (Option.some.inj ha).symm
      · cases e with
        | normal =>
          obtain ⟨a', rfl, st'', hw, hR'⟩ := hq
          exact ⟨m, Nat.lt_succ_self m, st'', hw, a', hR', ha⟩
        | exit i => exact hq
        | goto l => exact hq
        | ret => exact hq
        | panic ch => exact hq
        | outgrown => exact hq
end
end Go.Proofs.Ythhodpedkdapcaa.Al
