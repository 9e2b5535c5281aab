/-
  Calls that work upon objects of the caller's: the callee knows them as 1000, 1001, .. .
-/
import Derived.Test.YthhodpedkdapcaaAl15
namespace Go.Proofs.Ythhodpedkdapcaa.Al

def rid (L : List Nat) (i : Nat) : Nat := L.getD (i - 1000) 0
mutual
/-- The callee's names turned into the caller's. -/
def ren (L : List Nat) : AV → AV
  | .own id g => .own (rid L id) g
  | .ptr id g i k => .ptr (rid L id) g i k
  | .agg cs => .agg (renL L cs)
  | .tup cs => .tup (renL L cs)
  | .fn f cs => .fn f (renL L cs)
  | .r d => .r d
  | .rop row k => .rop row k
  | .cst v => .cst v
  | .whn b v => .whn b v
  | .any => .any
def renL (L : List Nat) : List AV → List AV
  | [] => []
  | a :: l => ren L a :: renL L l
end
mutual
/-- Names that callee and caller share, no others. -/
def AV.canon (k : Nat) : AV → Bool
  | .own id _ => Nat.ble 1000 id && Nat.blt id (1000 + k)
  | .ptr id _ _ _ => Nat.ble 1000 id && Nat.blt id (1000 + k)
  | .agg cs => canonL k cs
  | .tup cs => canonL k cs
  | .fn _ cs => canonL k cs
  | .whn _ _ => false
  | .r _ => true
  | .rop _ _ => true
  | .cst _ => true
  | .any => true
def canonL (k : Nat) : List AV → Bool
  | [] => true
  | a :: l => a.canon k && canonL k l
end
def AObj.ren (L : List Nat) : AObj → AObj
  | .arr g e sz xs => .arr g e sz xs
  | .box g e cs => .box g e (renL L cs)
def AObj.canon (k : Nat) : AObj → Bool
  | .arr _ _ _ _ => true
  | .box _ _ cs => canonL k cs

theorem renL_length (L : List Nat) (l : List AV) : (renL L l).length = l.length := by
  induction l with
  | nil => rfl
  | cons a l ih => simp [renL, ih]
theorem renL_get (L : List Nat) (l : List AV) (i : Nat) : (renL L l)[i]? = (l[i]?).map (ren L) := by
  induction l generalizing i with
  | nil => simp [renL]
  | cons a l ih => cases i with
    | zero => simp [renL]
    | succ i => simp [renL, ih]
theorem canonL_get {k : Nat} {cs : List AV} (h : canonL k cs = true) {i : Nat} {a : AV} (hi : cs[i]? = some a) : a.canon k = true := by
  induction cs generalizing i with
  | nil => simp at hi
  | cons b l ih =>
    simp only [canonL, Bool.and_eq_true] at h
    cases i with
    | zero => simp at hi; subst hi; exact h.1
    | succ i => exact ih h.2 (by simpa using hi)
theorem AObj.ren_gen (L : List Nat) (o : AObj) : (o.ren L).gen = o.gen := by cases o <;> rfl
theorem AObj.ren_shape (L : List Nat) (o : AObj) : (o.ren L).shape = o.shape := by cases o <;> simp [AObj.ren, AObj.shape, renL_length]

/-- What the caller's context holds of a shared object the callee's holds too, and the other way round. -/
def SameObj (x : Cx) (i : Nat) (y : Cx) (j : Nat) : Prop := ∀ o, x.H i = some o → ∃ o2, y.H j = some o2 ∧ o2.gen = o.gen ∧ o2.shape = o.shape ∧ y.β j = x.β i

theorem ren_out {x y : Cx} {L : List Nat} {k : Nat} (hw : y.w = x.w) (hS : ∀ b, x.S b → y.S b) (hn : x.n ≤ y.n) (hH : ∀ id, 1000 ≤ id → id < 1000 + k → SameObj y (rid L id) x id) {a : AV} {v : Value} (hv : AVRep x a v) (ha : a.canon k = true) :
    AVRep y (ren L a) v := by
  have hb : ∀ b, x.S b → y.w.heap[b]? = x.w.heap[b]? := fun _ _ => by rw [hw]
  induction hv with
  | r h => exact .r (h.mono hb hS)
  | cst v => exact .cst v
  | any v => exact .any v
  | rop u h1 h2 h3 => exact .rop u (fun h => hS _ (h1 h)) (fun j d hj => by rw [hw]; exact h2 j d hj) (fun j d hj => (h3 j d hj).mono hb hS)
  | agg hl _ ih =>
    simp only [AV.canon] at ha
    refine .agg (by rw [renL_length]; exact hl) fun i c u h1 h2 => ?_
    rw [renL_get, Option.map_eq_some_iff] at h1
    obtain ⟨c0, h3, rfl⟩ := h1
    exact ih i c0 u h3 h2 (canonL_get ha h3)
  | tup hl _ ih =>
    simp only [AV.canon] at ha
    refine .tup (by rw [renL_length]; exact hl) fun i c u h1 h2 => ?_
    rw [renL_get, Option.map_eq_some_iff] at h1
    obtain ⟨c0, h3, rfl⟩ := h1
    exact ih i c0 u h3 h2 (canonL_get ha h3)
  | fn hl _ ih =>
    simp only [AV.canon] at ha
    refine .fn (by rw [renL_length]; exact hl) fun i c u h1 h2 => ?_
    rw [renL_get, Option.map_eq_some_iff] at h1
    obtain ⟨c0, h3, rfl⟩ := h1
    exact ih i c0 u h3 h2 (canonL_get ha h3)
  | own hg h1 ho =>
    simp only [AV.canon, Bool.and_eq_true, Nat.ble_eq, Nat.blt_eq] at ha
    refine .own (Nat.lt_of_lt_of_le hg hn) h1 fun o hoo hgen => ?_
    obtain ⟨o2, k1, k2, k3, k4⟩ := hH _ ha.1 ha.2 o hoo
    rw [← k4, ← k3]
    exact ho o2 k1 (k2.trans hgen)
  | ptr hg h1 ho =>
    simp only [AV.canon, Bool.and_eq_true, Nat.ble_eq, Nat.blt_eq] at ha
    refine .ptr (Nat.lt_of_lt_of_le hg hn) h1 fun o hoo hgen => ?_
    obtain ⟨o2, k1, k2, k3, k4⟩ := hH _ ha.1 ha.2 o hoo
    rw [← k4, ← k3]
    exact ho o2 k1 (k2.trans hgen)
  | whn _ _ _ => simp [AV.canon] at ha

theorem ren_in {x y : Cx} {L : List Nat} {k : Nat} (hw : y.w = x.w) (hS : ∀ b, x.S b → y.S b) (hn : x.n ≤ y.n) (hH : ∀ id, 1000 ≤ id → id < 1000 + k → SameObj y id x (rid L id)) {b : AV} {v : Value} (hv : AVRep x b v) :
    ∀ a : AV, ren L a = b → a.canon k = true → AVRep y a v := by
  have hb : ∀ b, x.S b → y.w.heap[b]? = x.w.heap[b]? := fun _ _ => by rw [hw]
  induction hv with
  | r h => intro a he ha; cases a <;> simp only [ren, reduceCtorEq] at he <;> cases he; exact .r (h.mono hb hS)
  | cst v => intro a he ha; cases a <;> simp only [ren, reduceCtorEq] at he <;> cases he; exact .cst v
  | any v => intro a he ha; cases a <;> simp only [ren, reduceCtorEq] at he; exact .any v
  | rop u h1 h2 h3 =>
    intro a he ha; cases a <;> simp only [ren, reduceCtorEq] at he <;> cases he
    exact .rop u (fun h => hS _ (h1 h)) (fun j d hj => by rw [hw]; exact h2 j d hj) (fun j d hj => (h3 j d hj).mono hb hS)
  | agg hl _ ih =>
    intro a he ha; cases a <;> simp only [ren, reduceCtorEq] at he <;> cases he
    rename_i cs
    simp only [AV.canon] at ha
    rw [renL_length] at hl
    exact .agg hl fun i c u h1 h2 => ih i _ u (by rw [renL_get, h1]; rfl) h2 c rfl (canonL_get ha h1)
  | tup hl _ ih =>
    intro a he ha; cases a <;> simp only [ren, reduceCtorEq] at he <;> cases he
    rename_i cs
    simp only [AV.canon] at ha
    rw [renL_length] at hl
    exact .tup hl fun i c u h1 h2 => ih i _ u (by rw [renL_get, h1]; rfl) h2 c rfl (canonL_get ha h1)
  | fn hl _ ih =>
    intro a he ha; cases a <;> simp only [ren, reduceCtorEq] at he <;> cases he
    rename_i cs
    simp only [AV.canon] at ha
    rw [renL_length] at hl
    exact .fn hl fun i c u h1 h2 => ih i _ u (by rw [renL_get, h1]; rfl) h2 c rfl (canonL_get ha h1)
  | own hg h1 ho =>
    intro a he ha; cases a <;> simp only [ren, reduceCtorEq] at he <;> cases he
    simp only [AV.canon, Bool.and_eq_true, Nat.ble_eq, Nat.blt_eq] at ha
    refine .own (Nat.lt_of_lt_of_le hg hn) h1 fun o hoo hgen => ?_
    obtain ⟨o2, k1, k2, k3, k4⟩ := hH _ ha.1 ha.2 o hoo
    rw [← k4, ← k3]
    exact ho o2 k1 (k2.trans hgen)
  | ptr hg h1 ho =>
    intro a he ha; cases a <;> simp only [ren, reduceCtorEq] at he <;> cases he
    simp only [AV.canon, Bool.and_eq_true, Nat.ble_eq, Nat.blt_eq] at ha
    refine .ptr (Nat.lt_of_lt_of_le hg hn) h1 fun o hoo hgen => ?_
    obtain ⟨o2, k1, k2, k3, k4⟩ := hH _ ha.1 ha.2 o hoo
    rw [← k4, ← k3]
    exact ho o2 k1 (k2.trans hgen)
  | whn _ _ _ => intro a he ha; cases a <;> simp only [ren, reduceCtorEq] at he <;> cases he; simp [AV.canon] at ha
end Go.Proofs.Ythhodpedkdapcaa.Al
