/-
  A small program logic over the model's 'Code.wp': abstract values, what they stand for in a world, and how that is kept.
-/
import Derived.WalkKit
import Derived.WalkLawsBesides
import Derived.Maps.AppendAt
import Derived.Deep.LoopGhost
import Derived.Laws.CopyRow
namespace Go.Proofs.Ythhodpedkdapcaa.Al

/-- Data that never changes: a slice is the list of its elements, an element the list of its cells. -/
inductive RV where
  | int (k : IntKind) (n : Int)
  | bool (b : Bool)
  | str (s : List UInt8)
  | sl (xs : List (List RV))
  | any

/-- What a slot or a cell of an own variable holds. -/
inductive AV where
  | r (x : RV)
  | agg (cs : List AV)
  | tup (vs : List AV)
  | own (id g : Nat)
  | ptr (id g i k : Nat)
  | rop (row : List RV) (k : Nat)
  | fn (f : FuncId) (caps : List AV)
  | cst (v : Value)
  | whn (b : Bool) (v : AV)
  | any

/-- An object of the call's own: a row that grows (its elements are data), or one variable. 'g': its generation. -/
inductive AObj where
  | arr (g : Nat) (e : TypeId) (sz : Nat) (xs : List (List RV))
  | box (g : Nat) (e : TypeId) (cs : List AV)

def AObj.gen : AObj → Nat
  | .arr g _ _ _ => g
  | .box g _ _ => g
def AObj.shape : AObj → Bool × Nat × Nat
  | .arr _ _ sz xs => (true, sz, xs.length)
  | .box _ _ cs => (false, cs.length, 1)

abbrev Env := List (Nat × AV)
abbrev Heap := List (Nat × Option AObj)

def get : Env → Nat → AV
  | [], _ => .any
  | (t, v) :: r, k => match Nat.beq t k with | true => v | false => get r k
def hget : Heap → Nat → Option AObj
  | [], _ => none
  | (t, v) :: r, k => match Nat.beq t k with | true => v | false => hget r k

inductive RRep (w : World) (S : Nat → Prop) : RV → Value → Prop
  | int (k : IntKind) (n : Int) : RRep w S (.int k n) (.int k n)
  | bool (b : Bool) : RRep w S (.bool b) (.bool b)
  | str (s : ByteArray) : RRep w S (.str s.data.toList) (.string s)
  | snil : RRep w S (.sl []) (.slice none 0 0)
  | sl0 (a : Addr) : RRep w S (.sl []) (.slice (some a) 0 0)
  | sl (b off : Nat) (xs : List (List RV)) (cap size : Nat) (u : Nat → Nat → Value) (hS : xs ≠ [] → S b) (hc : xs.length ≤ cap) (hm : cap ≤ maxLen)
      (hsz : ∀ row ∈ xs, row.length = size)
      (hcell : ∀ i row c x, xs[i]? = some row → row[c]? = some x → w.cell? ⟨b, off + i * size + c, none⟩ = some (u i c))
      (hrep : ∀ i row c x, xs[i]? = some row → row[c]? = some x → RRep w S x (u i c)) :
      RRep w S (.sl xs) (.slice (some ⟨b, off, none⟩) xs.length cap)
  | any (v : Value) (h : v.oneCell' = true) : RRep w S .any v

theorem RRep.one {w : World} {S : Nat → Prop} {x : RV} {v : Value} (h : RRep w S x v) : v.oneCell' = true := by
  cases h <;> first | rfl | assumption

theorem RRep.mono {w w' : World} {S S' : Nat → Prop} (hb : ∀ b, S b → w'.heap[b]? = w.heap[b]?) (hS : ∀ b, S b → S' b) {x : RV} {v : Value}
    (h : RRep w S x v) : RRep w' S' x v := by
  induction h with
  | int k n => exact .int k n
  | bool b => exact .bool b
  | str s => exact .str s
  | snil => exact .snil
  | sl0 a => exact .sl0 a
  | sl b off xs cap size u hS1 hc hm hsz hcell hrep ih =>
    refine .sl b off xs cap size u (fun h => hS _ (hS1 h)) hc hm hsz (fun i row c x h1 h2 => ?_) ih
    have hne : xs ≠ [] := by rintro rfl; simp at h1
    rw [← hcell i row c x h1 h2]
    exact World.cell?_of_block (hb _ (hS1 hne))
  | any v h => exact .any v h

structure Cx where
  w : World
  S : Nat → Prop
  F : Nat → Prop
  H : Nat → Option AObj
  β : Nat → Option (Nat × Nat)
  n : Nat

def hdrOk (β : Option (Nat × Nat)) (len : Nat) (v : Value) : Prop :=
  match β with
  | none => len = 0 ∧ v = .slice none 0 0
  | some (b, cap) => v = .slice (some ⟨b, 0, none⟩) len cap

inductive AVRep (x : Cx) : AV → Value → Prop
  | r {d : RV} {v : Value} (h : RRep x.w x.S d v) : AVRep x (.r d) v
  | agg {cs : List AV} {us : Array Value} (hl : cs.length = us.size) (h : ∀ (i : Nat) (c : AV) (u : Value), cs[i]? = some c → us[i]? = some u → AVRep x c u) : AVRep x (.agg cs) (.agg us)
  | tup {cs : List AV} {us : Array Value} (hl : cs.length = us.size) (h : ∀ (i : Nat) (c : AV) (u : Value), cs[i]? = some c → us[i]? = some u → AVRep x c u) : AVRep x (.tup cs) (.tuple us)
  | own {id g : Nat} {v : Value} (hg : g < x.n) (h1 : v.oneCell' = true) (h : ∀ o, x.H id = some o → o.gen = g → hdrOk (x.β id) o.shape.2.2 v) : AVRep x (.own id g) v
  | ptr {id g i k : Nat} {v : Value} (hg : g < x.n) (h1 : v.oneCell' = true) (h : ∀ o, x.H id = some o → o.gen = g → ∃ b cap, x.β id = some (b, cap) ∧ v = .pointer (some ⟨b, i * o.shape.2.1 + k, none⟩)) :
      AVRep x (.ptr id g i k) v
  | rop {row : List RV} {k b off : Nat} (u : Nat → Value) (hS : row ≠ [] → x.S b) (hc : ∀ j d, row[j]? = some d → x.w.cell? ⟨b, off + j, none⟩ = some (u j))
      (hr : ∀ j d, row[j]? = some d → RRep x.w x.S d (u j)) : AVRep x (.rop row k) (.pointer (some ⟨b, off + k, none⟩))
  | fn {f : FuncId} {cs : List AV} {us : Array Value} (hl : cs.length = us.size) (h : ∀ (i : Nat) (c : AV) (u : Value), cs[i]? = some c → us[i]? = some u → AVRep x c u) : AVRep x (.fn f cs) (.func (.func f) #[] us)
  | cst (v : Value) : AVRep x (.cst v) v
  | whn {b : Bool} {a : AV} {v : Value} (h : b = true → AVRep x a v) (h2 : b = false → v = undef) : AVRep x (.whn b a) v
  | any (v : Value) : AVRep x .any v

structure Cx.le (x y : Cx) : Prop where
  size : x.w.heap.size ≤ y.w.heap.size
  os : y.w.os = x.w.os
  tape : y.w.tape = x.w.tape
  output : y.w.output = x.w.output
  blk : ∀ b, x.S b ∨ x.F b → y.w.heap[b]? = x.w.heap[b]?
  S : ∀ b, x.S b → y.S b
  F : y.F = x.F
  n : x.n ≤ y.n
  H : ∀ id o', y.H id = some o' → o'.gen < x.n → ∃ o, x.H id = some o ∧ o.gen = o'.gen ∧ o.shape = o'.shape ∧ y.β id = x.β id

theorem Cx.le.refl (x : Cx) : x.le x := ⟨Nat.le_refl _, rfl, rfl, rfl, fun _ _ => rfl, fun _ h => h, rfl, Nat.le_refl _, fun _ o h _ => ⟨o, h, rfl, rfl, rfl⟩⟩
theorem Cx.le.trans {x y z : Cx} (h : x.le y) (k : y.le z) : x.le z where
  size := Nat.le_trans h.size k.size
  os := k.os.trans h.os
  tape := k.tape.trans h.tape
  output := k.output.trans h.output
  blk b hb := (k.blk b (hb.imp (h.S b) (fun f => by rw [h.F]; exact f))).trans (h.blk b hb)
  S b hb := k.S b (h.S b hb)
  F := k.F.trans h.F
  n := Nat.le_trans h.n k.n
  H id o'' ho hg := by
    obtain ⟨o', h1, h2, h3, h4⟩ := k.H id o'' ho (Nat.lt_of_lt_of_le hg h.n)
    obtain ⟨o, k1, k2, k3, k4⟩ := h.H id o' h1 (by rw [h2]; exact hg)
    exact ⟨o, k1, k2.trans h2, k3.trans h3, h4.trans k4⟩

theorem AVRep.mono {x y : Cx} (h : x.le y) {a : AV} {v : Value} (ha : AVRep x a v) : AVRep y a v := by
  have hb : ∀ b, x.S b → y.w.heap[b]? = x.w.heap[b]? := fun b hb => h.blk b (.inl hb)
  induction ha with
  | r hr => exact .r (hr.mono hb h.S)
  | agg hl _ ih => exact .agg hl ih
  | tup hl _ ih => exact .tup hl ih
  | own hg h1 ho =>
    refine .own (Nat.lt_of_lt_of_le hg h.n) h1 fun o' ho' hgen => ?_
    obtain ⟨o, h1, h2, h3, h4⟩ := h.H _ o' ho' (by rw [hgen]; exact hg)
    rw [h4, ← h3]
    exact ho o h1 (h2.trans hgen)
  | ptr hg h1 ho =>
    refine .ptr (Nat.lt_of_lt_of_le hg h.n) h1 fun o' ho' hgen => ?_
    obtain ⟨o, h1, h2, h3, h4⟩ := h.H _ o' ho' (by rw [hgen]; exact hg)
    rw [h4, ← h3]
    exact ho o h1 (h2.trans hgen)
  | @rop row k b off u hS hc hr =>
    refine .rop u (fun hn => h.S _ (hS hn)) (fun j d hj => ?_) (fun j d hj => (hr j d hj).mono hb h.S)
    have hne : row ≠ [] := fun e => by subst e; simp at hj
    rw [← hc j d hj]
    exact World.cell?_of_block (hb _ (hS hne))
  | fn hl _ ih => exact .fn hl ih
  | cst v => exact .cst v
  | whn _ h2 ih => exact .whn ih h2
  | any v => exact .any v

/-- An object's row in the world. -/
def ORep (x : Cx) (β : Option (Nat × Nat)) : AObj → Prop
  | .arr _ e sz xs => 0 < sz ∧ (∀ row ∈ xs, row.length = sz) ∧ ∃ hdr us, hdrOk β xs.length hdr ∧ x.w.ownsRow 0 e sz hdr xs.length us ∧
      ∀ i row c d, xs[i]? = some row → row[c]? = some d → ∃ u, us[i * sz + c]? = some u ∧ RRep x.w x.S d u
  | .box _ e cs => ∃ (b : Nat) (cur : Array Value), β = some (b, 1) ∧ x.w.heap[b]? = some (.cells cur e (0, 0)) ∧ cur.size = cs.length ∧
      ∀ (j : Nat) (c : AV), cs[j]? = some c → ∃ u : Value, cur[j]? = some u ∧ u.oneCell' = true ∧ AVRep x c u

structure Cx.ok (x : Cx) : Prop where
  S_lt : ∀ b, x.S b → b < x.w.heap.size
  F_lt : ∀ b, x.F b → b < x.w.heap.size
  SF : ∀ b, x.S b → ¬ x.F b
  obj : ∀ id o, x.H id = some o → o.gen < x.n ∧ ORep x (x.β id) o
  own : ∀ id o b k, x.H id = some o → x.β id = some (b, k) → b < x.w.heap.size ∧ ¬ x.S b ∧ ¬ x.F b
  inj : ∀ id id' o o' b k k', x.H id = some o → x.H id' = some o' → x.β id = some (b, k) → x.β id' = some (b, k') → id = id'

/-- An object's row is kept where its block is. -/
theorem ORep.mono {x y : Cx} (h : x.le y) {β : Option (Nat × Nat)} (hblk : ∀ b k, β = some (b, k) → y.w.heap[b]? = x.w.heap[b]?) {o : AObj} (ho : ORep x β o) : ORep y β o := by
  have hb : ∀ b, x.S b → y.w.heap[b]? = x.w.heap[b]? := fun b hb => h.blk b (.inl hb)
  cases o with
  | arr g e sz xs =>
    obtain ⟨h0, hrow, hdr, us, hh, hown, hc⟩ := ho
    refine ⟨h0, hrow, hdr, us, hh, ?_, fun i row c d h1 h2 => ?_⟩
    · obtain ⟨hl, hr⟩ := hown
      refine ⟨hl, ?_⟩
      rcases hr with hr | ⟨gg, cap, cur, hv, h1, h2, h3, h4, h5, h6⟩
      · exact .inl hr
      · refine .inr ⟨gg, cap, cur, hv, h1, ?_, h3, h4, h5, h6⟩
        rw [← h2]
        subst hv
        cases β with
        | none => obtain ⟨_, hh⟩ := hh; cases hh
        | some p =>
          obtain ⟨b, k⟩ := p
          simp only [hdrOk, Value.slice.injEq, Option.some.injEq, Addr.mk.injEq] at hh
          rw [hh.1.1]
          exact hblk b k rfl
    · obtain ⟨u, h3, h4⟩ := hc i row c d h1 h2
      exact ⟨u, h3, h4.mono hb h.S⟩
  | box g e cs =>
    obtain ⟨b, cur, hβ, hh, hs, hc⟩ := ho
    refine ⟨b, cur, hβ, (hblk b 1 hβ).trans hh, hs, fun j c hj => ?_⟩
    obtain ⟨u, h1, h2, h3⟩ := hc j c hj
    exact ⟨u, h1, h2, h3.mono h⟩

/-- Of one cell, as far as the abstract value tells. -/
def AV.one : AV → Bool
  | .agg _ | .tup _ | .any | .whn _ _ => false
  | .cst v => v.oneCell'
  | _ => true
theorem AVRep.one {x : Cx} {a : AV} {v : Value} (h : AVRep x a v) (ha : a.one = true) : v.oneCell' = true := by
  cases h <;> first | rfl | assumption | (simp [AV.one] at ha; done) | skip
  · rename_i h; exact h.one

/-- One object is made anew or changed: all else stays. -/
theorem Cx.upd {x : Cx} (hok : x.ok) (id : Nat) (o : AObj) (w' : World) (β' : Option (Nat × Nat)) (n' : Nat)
    (hsize : x.w.heap.size ≤ w'.heap.size) (hos : w'.os = x.w.os) (htape : w'.tape = x.w.tape) (hout : w'.output = x.w.output)
    (hfr : ∀ b, b < x.w.heap.size → (∀ o0 k, x.H id = some o0 → x.β id = some (b, k) → False) → w'.heap[b]? = x.w.heap[b]?)
    (hβ : ∀ b k, β' = some (b, k) → b < w'.heap.size ∧ (x.w.heap.size ≤ b ∨ ∃ o0 k', x.H id = some o0 ∧ x.β id = some (b, k')))
    (hn : x.n ≤ n') (hgen : o.gen < n') (hold : o.gen < x.n → ∃ o0, x.H id = some o0 ∧ o0.gen = o.gen ∧ o0.shape = o.shape ∧ β' = x.β id)
    (hrep : x.le { x with w := w', H := fun i => if id = i then some o else x.H i, β := fun i => if id = i then β' else x.β i, n := n' } →
      ORep { x with w := w', H := fun i => if id = i then some o else x.H i, β := fun i => if id = i then β' else x.β i, n := n' } β' o) :
    x.le { x with w := w', H := fun i => if id = i then some o else x.H i, β := fun i => if id = i then β' else x.β i, n := n' } ∧
    ({ x with w := w', H := fun i => if id = i then some o else x.H i, β := fun i => if id = i then β' else x.β i, n := n' } : Cx).ok := by
  have hle : x.le { x with w := w', H := fun i => if id = i then some o else x.H i, β := fun i => if id = i then β' else x.β i, n := n' } := by
    refine ⟨hsize, hos, htape, hout, fun b hb => ?_, fun _ h => h, rfl, hn, fun i o' ho' hg => ?_⟩
    · refine hfr b (hb.elim (hok.S_lt b) (hok.F_lt b)) fun o0 k h1 h2 => ?_
      have := hok.own id o0 b k h1 h2
      exact hb.elim this.2.1 this.2.2
    · dsimp only at ho' ⊢
      split at ho'
      · rename_i hi; subst hi
        cases ho'
        obtain ⟨o0, h1, h2, h3, h4⟩ := hold hg
        exact ⟨o0, h1, h2, h3, by rw [if_pos rfl]; exact h4⟩
      · rename_i hi
        exact ⟨o', ho', rfl, rfl, by rw [if_neg hi]⟩
  have hblk' : ∀ i o', i ≠ id → x.H i = some o' → ∀ b k, x.β i = some (b, k) → w'.heap[b]? = x.w.heap[b]? := by
    intro i o' hne hi b k hb
    refine hfr b (hok.own i o' b k hi hb).1 fun o0 k' h1 h2 => hne (hok.inj i id o' o0 b k k' hi h1 hb h2)
  refine ⟨hle, fun b hb => Nat.lt_of_lt_of_le (hok.S_lt b hb) hsize, fun b hb => Nat.lt_of_lt_of_le (hok.F_lt b hb) hsize, hok.SF, fun i o' ho' => ?_, fun i o' b k ho' hb => ?_, fun i i' o1 o2 b k k' h1 h2 hb hb' => ?_⟩
  · dsimp only at ho' ⊢
    split at ho'
    · rename_i hi; subst hi
      cases ho'
      rw [if_pos rfl]
      exact ⟨hgen, hrep hle⟩
    · rename_i hi
      rw [if_neg hi]
      obtain ⟨h1, h2⟩ := hok.obj i o' ho'
      exact ⟨Nat.lt_of_lt_of_le h1 hn, h2.mono hle fun b k hb => hblk' i o' (fun e => hi e.symm) ho' b k hb⟩
  · dsimp only at ho' hb ⊢
    split at hb
    · rename_i hi; subst hi
      obtain ⟨h1, h2⟩ := hβ b k hb
      refine ⟨h1, ?_⟩
      rcases h2 with h2 | ⟨o0, k', h2, h3⟩
      · exact ⟨fun h => by have := hok.S_lt b h; omega, fun h => by have := hok.F_lt b h; omega⟩
      · exact (hok.own id o0 b k' h2 h3).2
    · rename_i hi
      rw [if_neg hi] at ho'
      have := hok.own i o' b k ho' hb
      exact ⟨Nat.lt_of_lt_of_le this.1 hsize, this.2⟩
  · dsimp only at h1 h2 hb hb'
    by_cases hi : id = i <;> by_cases hi' : id = i'
    · rw [← hi, ← hi']
    · rw [if_pos hi] at hb
      rw [if_neg hi'] at h2 hb'
      have hlt := (hok.own i' o2 b k' h2 hb').1
      rcases (hβ b k hb).2 with h3 | ⟨o0, k3, h3, h4⟩
      · omega
      · exact absurd (hok.inj id i' o0 o2 b k3 k' h3 h2 h4 hb') hi'
    · rw [if_pos hi'] at hb'
      rw [if_neg hi] at h1 hb
      have hlt := (hok.own i o1 b k h1 hb).1
      rcases (hβ b k' hb').2 with h3 | ⟨o0, k3, h3, h4⟩
      · omega
      · exact absurd (hok.inj id i o0 o1 b k3 k h3 h1 h4 hb) hi
    · rw [if_neg hi] at h1 hb
      rw [if_neg hi'] at h2 hb'
      exact hok.inj i i' o1 o2 b k k' h1 h2 hb hb'
end Go.Proofs.Ythhodpedkdapcaa.Al
