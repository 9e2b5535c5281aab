/-
  The program logic: states, what an operation does to a state, regions in the text's order, control flow.
-/
import Derived.Test.YthhodpedkdapcaaAl1
namespace Go.Proofs.Ythhodpedkdapcaa.Al

structure St where
  e : Env
  h : Heap
  n : Nat
  N : Nat

def ofConst : Value → AV
  | .int k n => .r (.int k n)
  | .bool b => .r (.bool b)
  | .string s => .r (.str s.data.toList)
  | v => .cst v

def evalOp (R : Env) : Operand → AV
  | .tmp t => get R t
  | .const v => ofConst v
  | .global _ => .any
  | .func f => .fn f []

/-- What an operand holds, where the guard says 'c'. -/
def Ev (c : Bool) (R : Env) (x : Operand) (v : AV) : Prop := evalOp R x = v ∨ ∃ c2, (c = true → c2 = true) ∧ evalOp R x = .whn c2 v

def EnvOk (x : Cx) (R : Env) (a : Act) : Prop := ∀ t, AVRep x (get R t) (a.tmps.getD t undef)

theorem ofConst_rep (x : Cx) (v : Value) : AVRep x (ofConst v) v := by
  cases v <;> first | exact .r (.int _ _) | exact .r (.bool _) | exact .r (.str _) | exact .cst _

theorem EnvOk.eval {x : Cx} {R : Env} {a : Act} (h : EnvOk x R a) (o : Operand) : AVRep x (evalOp R o) (a.eval o) := by
  cases o with
  | tmp t => exact h t
  | const v => exact ofConst_rep x v
  | global g => exact .any _
  | func f => exact .fn rfl (fun i c u h => by simp at h)

theorem Ev.rep {x : Cx} {R : Env} {a : Act} {c : Bool} {o : Operand} {v : AV} (he : EnvOk x R a) (h : Ev c R o v) (hc : c = true) : AVRep x v (a.eval o) := by
  have h0 := he.eval o
  rcases h with h | ⟨c2, h2, h⟩
  · rwa [h] at h0
  · rw [h] at h0
    cases h0 with
    | whn hw _ => exact hw (h2 hc)

theorem EnvOk.mono {x y : Cx} (h : x.le y) {R : Env} {a : Act} (he : EnvOk x R a) : EnvOk y R a := fun t => (he t).mono h

theorem getD_set {a : Array Value} {d t : Nat} {u : Value} (hd : d < a.size) : (a.setIfInBounds d u).getD t undef = if d = t then u else a.getD t undef := by
  by_cases h : d = t
  · subst h; simp [hd]
  · simp [h]

theorem get_cons (d : Nat) (v : AV) (R : Env) (t : Nat) : get ((d, v) :: R) t = if d = t then v else get R t := by
  show (match Nat.beq d t with | true => v | false => get R t) = _
  cases h : Nat.beq d t with
  | true => rw [if_pos (Nat.eq_of_beq_eq_true h)]
  | false => rw [if_neg (Nat.ne_of_beq_eq_false h)]
theorem hget_cons (d : Nat) (v : Option AObj) (R : Heap) (t : Nat) : hget ((d, v) :: R) t = if d = t then v else hget R t := by
  show (match Nat.beq d t with | true => v | false => hget R t) = _
  cases h : Nat.beq d t with
  | true => rw [if_pos (Nat.eq_of_beq_eq_true h)]
  | false => rw [if_neg (Nat.ne_of_beq_eq_false h)]
theorem lt_of_blt {d N : Nat} (h : Nat.blt d N = true) : d < N := Nat.le_of_ble_eq_true h

theorem EnvOk.put {x : Cx} {R : Env} {a : Act} {d : Nat} {v : AV} {u : Value} (hd : d < a.tmps.size) (he : EnvOk x R a) (hv : AVRep x v u) :
    EnvOk x ((d, v) :: R) (a.put (some d) u) := by
  intro t
  simp only [Act.put, getD_set hd, get_cons]
  split
  · exact hv
  · exact he t

/-- The concrete frame and world are as the state says; 'c0': how things stood when the call began. -/
def Sim (c0 : Cx) (s : St) (a : Act) (w : World) : Prop :=
  a.defers = [] ∧ a.tmps.size = s.N ∧ ∃ y : Cx, y.w = w ∧ c0.le y ∧ y.ok ∧ y.H = hget s.h ∧ y.n = s.n ∧ EnvOk y s.e a

/-- WHAT ONE OPERATION DOES, where its guard says 'c': the value 'v', the heap 'h'', the clock 'n''. -/
def OpSpec (P : Program) (c : Bool) (o : Oper) (R : Env) (h : Heap) (n : Nat) (v : AV) (h' : Heap) (n' : Nat) : Prop :=
  c = true → ∀ (x : Cx) (a : Act), x.ok → x.H = hget h → x.n = n → EnvOk x R a → ∀ (K : Act → World → Prop) (Q : Exit → Act → World → Prop),
    (∀ (u : Value) (y : Cx), x.le y → y.ok → y.H = hget h' → y.n = n' → AVRep y v u → K (a.put o.dst u) y.w) → o.wp P a x.w K Q

/-- The world 'w2' is as the context's own, where data and the call's own objects lie. -/
def Agree (x : Cx) (w2 : World) : Prop := ∀ b, (x.S b ∨ ∃ id o k, x.H id = some o ∧ x.β id = some (b, k)) → w2.heap[b]? = x.w.heap[b]?
theorem Agree.cellS {x : Cx} {w2 : World} (h : Agree x w2) {b k : Nat} (hS : x.S b) : w2.cell? ⟨b, k, none⟩ = x.w.cell? ⟨b, k, none⟩ := World.cell?_of_block (h b (.inl hS))
theorem Agree.cellO {x : Cx} {w2 : World} (h : Agree x w2) {id b k j : Nat} {o : AObj} (h1 : x.H id = some o) (h2 : x.β id = some (b, k)) : w2.cell? ⟨b, j, none⟩ = x.w.cell? ⟨b, j, none⟩ := World.cell?_of_block (h b (.inr ⟨id, o, k, h1, h2⟩))

/-- An operation that yields a value and leaves the world alone; the value is one in every world that agrees. -/
def OpQ (P : Program) (c : Bool) (o : Oper) (R : Env) (h : Heap) (v : AV) : Prop :=
  c = true → ∀ (x : Cx) (a : Act), x.ok → x.H = hget h → EnvOk x R a → ∃ u, (∀ w2, Agree x w2 → (execOp a.eval o).run P w2 = .ok (.value u) w2) ∧ AVRep x v u

theorem OpQ.spec {P : Program} {c : Bool} {o : Oper} {R : Env} {h : Heap} {v : AV} (H : OpQ P c o R h v) (n : Nat) : OpSpec P c o R h n v h n := by
  intro hc x a hok hH hn he K Q hK
  obtain ⟨u, hr, hv⟩ := H hc x a hok hH he
  unfold Oper.wp
  rw [hr x.w fun _ _ => rfl]
  exact hK u x (.refl x) hok hH hn hv

/-- The rest of a region, in the text's order. -/
def AOps (P : Program) (ops : Array Oper) (rest : List Oper) (s : St) (K : St → Prop) : Prop :=
  ∀ (c0 : Cx) (a : Act) (w : World), Sim c0 s a w → ∀ Q : Exit → Act → World → Prop, (∀ s' a' w', K s' → Sim c0 s' a' w' → Q .normal a' w') → wpList P ops Q rest a w

section
variable {P : Program} {ops : Array Oper} {rest : List Oper} {s : St} {K : St → Prop} {o : Oper}

theorem AOps.nil (h : K s) : AOps P ops [] s K := fun _ a w hs _ hQ => hQ s a w h hs

theorem AOps.step {d : Nat} {v : AV} {h' : Heap} {n' : Nat} (hg : o.guard = none) (hd : o.dst = some d) (hN : Nat.blt d s.N = true) (hs : OpSpec P true o s.e s.h s.n v h' n')
    (hr : AOps P ops rest { e := (d, v) :: s.e, h := h', n := n', N := s.N } K) : AOps P ops (o :: rest) s K := by
  intro c0 a w ⟨hdef, hsz, y, hyw, hle, hok, hH, hn, he⟩ Q hQ
  subst hyw
  refine wpList_plain hg fun K' hK' => ?_
  refine hs rfl y a hok hH hn he K' Q fun u z hyz hzok hzH hzn hzv => ?_
  refine hK' _ _ ?_
  have hN' : d < a.tmps.size := by rw [hsz]; exact lt_of_blt hN
  rw [hd]
  exact hr c0 (a.put (some d) u) z.w ⟨hdef, by simpa [Act.put] using hsz, z, rfl, hle.trans hyz, hzok, hzH, hzn, (he.mono hyz).put hN' hzv⟩ Q hQ

theorem AOps.step0 {v : AV} {h' : Heap} {n' : Nat} (hg : o.guard = none) (hd : o.dst = none) (hs : OpSpec P true o s.e s.h s.n v h' n')
    (hr : AOps P ops rest { e := s.e, h := h', n := n', N := s.N } K) : AOps P ops (o :: rest) s K := by
  intro c0 a w ⟨hdef, hsz, y, hyw, hle, hok, hH, hn, he⟩ Q hQ
  subst hyw
  refine wpList_plain hg fun K' hK' => ?_
  refine hs rfl y a hok hH hn he K' Q fun u z hyz hzok hzH hzn hzv => ?_
  refine hK' _ _ ?_
  rw [hd]
  exact hr c0 _ _ ⟨hdef, hsz, z, rfl, hle.trans hyz, hzok, hzH, hzn, he.mono hyz⟩ Q hQ

/-- A guarded operation that leaves heap and clock alone ('b': what the guard's slot holds). -/
theorem AOps.stepG {d j dj : Nat} {want b : Bool} {v : AV} (hg : o.guard = some (j, want)) (hj : (ops[j]?).bind (·.dst) = some dj) (hb : evalOp s.e (.tmp dj) = .r (.bool b)) (hd : o.dst = some d)
    (hN : Nat.blt d s.N = true) (hs : OpSpec P (b == want) o s.e s.h s.n v s.h s.n)
    (hr : AOps P ops rest { e := (d, .whn (b == want) v) :: s.e, h := s.h, n := s.n, N := s.N } K) : AOps P ops (o :: rest) s K := by
  intro c0 a w ⟨hdef, hsz, y, hyw, hle, hok, hH, hn, he⟩ Q hQ
  subst hyw
  have hN' : d < a.tmps.size := by rw [hsz]; exact lt_of_blt hN
  have hbv : a.tmps.getD dj undef = .bool b := by
    have h0 := he dj
    rw [show get s.e dj = .r (.bool b) from hb] at h0
    generalize a.tmps.getD dj undef = u at h0
    cases h0 with
    | r h1 => cases h1; rfl
  have hwanted : Region.wanted o (yielded ops a.tmps) = (b == want) := by
    simp only [Region.wanted, hg, yielded]
    cases hoj : ops[j]? with
    | none => rw [hoj] at hj; cases hj
    | some oj =>
      rw [hoj] at hj
      simp only [Option.bind_some] at hj
      simp only [hj, Option.bind_some]
      have : a.tmps[dj]? = some (.bool b) := by
        have hlt : dj < a.tmps.size := by
          rcases Nat.lt_or_ge dj a.tmps.size with h | h
          · exact h
          · simp [Array.getD, Nat.not_lt.2 h] at hbv; cases hbv
        rw [Array.getElem?_eq_getElem hlt]
        simpa [Array.getD, hlt] using hbv
      simp [this]
  refine wpList_step fun K' hK' => ?_
  rw [hwanted]
  split
  · rename_i hc
    refine hs hc y a hok hH hn he K' Q fun u z hyz hzok hzH hzn hzv => ?_
    refine hK' _ _ ?_
    rw [hd]
    exact hr c0 (a.put (some d) u) z.w ⟨hdef, by simpa [Act.put] using hsz, z, rfl, hle.trans hyz, hzok, hzH, hzn, (he.mono hyz).put hN' (.whn (fun _ => hzv) (fun h => by rw [‹(b == want) = true›] at h; cases h))⟩ Q hQ
  · rename_i hc
    refine hK' _ _ ?_
    rw [hd]
    exact hr c0 (a.put (some d) undef) y.w ⟨hdef, by simpa [Act.put] using hsz, y, rfl, hle, hok, hH, hn, he.put hN' (.whn (fun h => absurd h hc) (fun _ => rfl))⟩ Q hQ
end

/-! Control flow. -/
def AW (P : Program) (c : Code) (Q : Exit → St → Prop) (s : St) : Prop :=
  ∀ (c0 : Cx) (a : Act) (w : World), Sim c0 s a w → c.wp P (fun e a' w' => ∃ s', Q e s' ∧ Sim c0 s' a' w') a w

def ThenQ (K : St → Prop) (Q : Exit → St → Prop) : Exit → St → Prop
  | .normal, s => K s
  | e, s => Q e s
def BlockQ (id : Nat) (Q : Exit → St → Prop) : Exit → St → Prop
  | .exit i, s => if i = id then Q .normal s else Q (.exit i) s
  | e, s => Q e s

/-- What a state says may be forgotten, in part. -/
def Weak (s s' : St) : Prop := ∀ c0 a w, Sim c0 s a w → Sim c0 s' a w

section
variable {P : Program} {Q : Exit → St → Prop} {s : St} {x y : Code}
theorem AW.mono {Q' : Exit → St → Prop} (h : AW P x Q s) (hq : ∀ e s, Q e s → Q' e s) : AW P x Q' s :=
  fun c0 a w hs => wp_mono (h c0 a w hs) fun e _ _ ⟨s', hq', hs'⟩ => ⟨s', hq e s' hq', hs'⟩
theorem AW.weak {s' : St} (hw : Weak s s') (h : AW P x Q s') : AW P x Q s := fun c0 a w hs => h c0 a w (hw _ _ _ hs)
theorem AW.skip (h : Q .normal s) : AW P .skip Q s := fun _ _ _ hs => wp_skip ⟨s, h, hs⟩
theorem AW.ret (h : Q .ret s) : AW P .ret Q s := fun _ _ _ hs => wp_ret ⟨s, h, hs⟩
theorem AW.exit {id : Nat} (h : Q (.exit id) s) : AW P (.exit id) Q s := fun _ _ _ hs => wp_exit ⟨s, h, hs⟩
theorem AW.seq (h : AW P x (ThenQ (AW P y Q) Q) s) : AW P (.seq x y) Q s := by
  intro c0 a w hs
  refine wp_seq (wp_mono (h c0 a w hs) fun e a' w' ⟨s', hq, hs'⟩ => ?_)
  cases e with
  | normal => exact hq c0 a' w' hs'
  | exit id => exact ⟨s', hq, hs'⟩
  | goto l => exact ⟨s', hq, hs'⟩
  | ret => exact ⟨s', hq, hs'⟩
  | panic ch => exact ⟨s', hq, hs'⟩
  | outgrown => exact ⟨s', hq, hs'⟩
/-- What follows stands behind a name. -/
theorem AW.seq_k (h : ∀ K : St → Prop, (∀ s, AW P y Q s → K s) → AW P x (ThenQ K Q) s) : AW P (.seq x y) Q s := .seq (h _ fun _ h => h)
/-- A cut: what holds where the first part has ended. -/
theorem AW.seq_cut (J : St → Prop) (h : AW P x (ThenQ J Q) s) (k : ∀ s, J s → AW P y Q s) : AW P (.seq x y) Q s :=
  .seq (h.mono fun e s hq => by cases e <;> first | exact k _ hq | exact hq)
theorem AW.block {id : Nat} (h : AW P x (BlockQ id Q) s) : AW P (.block id x) Q s := by
  intro c0 a w hs
  refine wp_block (wp_mono (h c0 a w hs) fun e a' w' ⟨s', hq, hs'⟩ => ?_)
  cases e with
  | exit i =>
    simp only [BlockQ, Exit.inBlock] at hq ⊢
    split
    · rename_i hi; rw [if_pos hi] at hq; exact ⟨s', hq, hs'⟩
    · rename_i hi; rw [if_neg hi] at hq; exact ⟨s', hq, hs'⟩
  | normal => exact ⟨s', hq, hs'⟩
  | goto l => exact ⟨s', hq, hs'⟩
  | ret => exact ⟨s', hq, hs'⟩
  | panic ch => exact ⟨s', hq, hs'⟩
  | outgrown => exact ⟨s', hq, hs'⟩
theorem AW.cond {c : Operand} {b : Bool} (hc : evalOp s.e c = .r (.bool b)) (ht : b = true → AW P x Q s) (hf : b = false → AW P y Q s) : AW P (.cond c x y) Q s := by
  intro c0 a w hs
  have hb : a.eval c = .bool b := by
    obtain ⟨_, _, z, _, _, _, _, _, he⟩ := hs
    have h0 := he.eval c
    rw [hc] at h0
    cases h0 with
    | r h1 => generalize a.eval c = u at h1 ⊢; cases h1; rfl
  exact wp_cond_split hb (fun h => ht h c0 a w hs) (fun h => hf h c0 a w hs)
theorem AW.loop (I : Nat → St → Prop) (m : Nat) (h0 : ∃ s', Weak s s' ∧ I m s') (round : ∀ m s, I m s → AW P x (ThenQ (fun s' => ∃ m', m' < m ∧ ∃ s'', Weak s' s'' ∧ I m' s'') Q) s) : AW P (.loop x) Q s := by
  intro c0 a w hs
  obtain ⟨s0, hw0, hI0⟩ := h0
  refine wp_loop_ghost (fun k a w => ∃ s, I k s ∧ Sim c0 s a w) m ⟨s0, hI0, hw0 _ _ _ hs⟩ ?_
  intro k a w ⟨s1, hI, hs1⟩
  refine wp_mono (round k s1 hI c0 a w hs1) fun e a' w' ⟨s', hq, hs'⟩ => ?_
  cases e with
  | normal =>
    obtain ⟨m', hlt, s'', hw, hI'⟩ := hq
    exact ⟨m', hlt, s'', hI', hw _ _ _ hs'⟩
  | exit id => exact ⟨s', hq, hs'⟩
  | goto l => exact ⟨s', hq, hs'⟩
  | ret => exact ⟨s', hq, hs'⟩
  | panic ch => exact ⟨s', hq, hs'⟩
  | outgrown => exact ⟨s', hq, hs'⟩
theorem AW.region {id : Nat} {l : List Oper} (h : AOps P l.toArray l s (Q .normal)) : AW P (.region id l.toArray false) Q s := by
  intro c0 a w hs
  exact wp_region_lit (h c0 a w hs _ fun s' a' w' hk hs' => ⟨s', hk, hs'⟩)
end

/-! Forgetting. -/
theorem Weak.refl (s : St) : Weak s s := fun _ _ _ h => h
theorem Weak.trans {a b c : St} (h : Weak a b) (k : Weak b c) : Weak a c := fun _ _ _ x => k _ _ _ (h _ _ _ x)

def WkE : Env → Env → Prop
  | [], _ => True
  | (t, v) :: r, e => (v = .any ∨ get e t = v) ∧ WkE r e
def WkH : Heap → Heap → Prop
  | [], _ => True
  | (id, o) :: r, h => (o = none ∨ hget h id = o) ∧ WkH r h

theorem WkE.get {e' e : Env} (h : WkE e' e) (t : Nat) : get e' t = .any ∨ get e' t = get e t := by
  induction e' with
  | nil => exact .inl rfl
  | cons p r ih =>
    obtain ⟨d, v⟩ := p
    rw [get_cons]
    split
    · rename_i hd; subst hd
      rcases h.1 with h1 | h1
      · exact .inl h1
      · exact .inr h1.symm
    · exact ih h.2
theorem WkH.get {h' h : Heap} (k : WkH h' h) (t : Nat) : hget h' t = none ∨ hget h' t = hget h t := by
  induction h' with
  | nil => exact .inl rfl
  | cons p r ih =>
    obtain ⟨d, v⟩ := p
    rw [hget_cons]
    split
    · rename_i hd; subst hd
      rcases k.1 with h1 | h1
      · exact .inl h1
      · exact .inr h1.symm
    · exact ih k.2

/-- Objects may be forgotten, and the clock may go on. -/
theorem Cx.forget {y : Cx} (hok : y.ok) (H' : Nat → Option AObj) (hH : ∀ id o, H' id = some o → y.H id = some o) (n' : Nat) (hn : y.n ≤ n') :
    y.le { y with H := H', n := n' } ∧ ({ y with H := H', n := n' } : Cx).ok := by
  have hle : y.le { y with H := H', n := n' } := ⟨Nat.le_refl _, rfl, rfl, rfl, fun _ _ => rfl, fun _ h => h, rfl, hn, fun id o h _ => ⟨o, hH id o h, rfl, rfl, rfl⟩⟩
  refine ⟨hle, hok.S_lt, hok.F_lt, hok.SF, fun id o h => ?_, fun id o b k h => hok.own id o b k (hH _ _ h), fun id id' o o' b k k' h h' => hok.inj id id' o o' b k k' (hH _ _ h) (hH _ _ h')⟩
  obtain ⟨h1, h2⟩ := hok.obj id o (hH _ _ h)
  exact ⟨Nat.lt_of_lt_of_le h1 hn, h2.mono hle fun _ _ _ => rfl⟩

theorem Weak.mk {e' e : Env} {h' h : Heap} {n' n N : Nat} (he : WkE e' e) (hh : WkH h' h) (hn : n ≤ n') : Weak ⟨e, h, n, N⟩ ⟨e', h', n', N⟩ := by
  intro c0 a w ⟨hdef, hsz, y, hyw, hle, hok, hH, hyn, henv⟩
  have hsub : ∀ id o, hget h' id = some o → y.H id = some o := by
    intro id o ho
    rw [hH]
    rcases hh.get id with h1 | h1
    · rw [h1] at ho; cases ho
    · rw [← h1]; exact ho
  obtain ⟨k1, k2⟩ := Cx.forget hok (hget h') hsub n' (by rw [hyn]; exact hn)
  refine ⟨hdef, hsz, { y with H := hget h', n := n' }, hyw, hle.trans k1, k2, rfl, rfl, fun t => ?_⟩
  rcases he.get t with h1 | h1
  · rw [h1]; exact .any _
  · rw [h1]; exact (henv t).mono k1
end Go.Proofs.Ythhodpedkdapcaa.Al
