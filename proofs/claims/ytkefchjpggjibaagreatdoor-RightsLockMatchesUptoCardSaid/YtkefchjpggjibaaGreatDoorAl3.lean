/- The program logic, a part of it. -/
import Derived.Test.YtkefchjpggjibaaGreatDoorAl2
import Derived.Lib.LaidU8
namespace Go.Proofs.YtkefchjpggjibaaGreatDoor.Al
structure PE where
  d : Option Nat
  v : AV
  eff : Bool
def PE.po (p : PE) : PO := ⟨p.d, fun _ => p.v, none, []⟩
def cntE (D : Nat → Bool) : List PE → Nat → Nat
  | [], _ => 0
  | p :: l, k => (match p.eff && D k with | true => 1 | false => 0) + cntE D l (k + 1)
theorem cntE_mono {D D' : Nat → Bool} : ∀ (l : List PE) (k : Nat), (∀ j, k ≤ j → j < k + l.length → D j = true → D' j = true) → cntE D l k ≤ cntE D' l k
  | [], _, _ => Nat.le_refl _
  | p :: l, k, h => by
    have ih := cntE_mono l (k + 1) fun j h1 h2 => h j (by omega) (by simp; omega)
    have h0 := h k (Nat.le_refl _) (by simp)
    unfold cntE
    cases p.eff
    · simpa using ih
    · cases hD : D k
      · simp only [Bool.and_false]; omega
      · rw [h0 hD]; simp only [Bool.and_self]; omega
theorem cntE_set {D D' : Nat → Bool} {i : Nat} (h0 : D i = false) (h1 : D' i = true) (h2 : ∀ j, j ≠ i → D' j = D j) : ∀ (l : List PE) (k : Nat) (p : PE), k ≤ i → l[i - k]? = some p → cntE D' l k = cntE D l k + (match p.eff with | true => 1 | false => 0)
  | [], k, p, _, h => by simp at h
  | q :: l, k, p, hk, h => by
    unfold cntE
    by_cases hki : k = i
    · subst hki
      rw [Nat.sub_self] at h
      cases h
      have : cntE D' l (k + 1) = cntE D l (k + 1) := Nat.le_antisymm (cntE_mono l _ fun j h3 _ h4 => by rwa [← h2 j (by omega)]) (cntE_mono l _ fun j h3 _ h4 => by rwa [h2 j (by omega)])
      rw [this, h0, h1]
      cases q.eff <;> simp <;> omega
    · have ih := cntE_set h0 h1 h2 l (k + 1) p (by omega) (by rw [show i - k = (i - (k + 1)) + 1 by omega] at h; simpa using h)
      rw [ih, h2 k hki]; omega
section
variable {P : Program} {ops : Array Oper}
def laterT (T : List (List Nat)) (i t : Nat) : List PO → Nat → Bool
  | [], _ => true
  | p :: L, k => (match p.d with | some d => !Nat.beq d t || tw T k i | none => true) && laterT T i t L (k + 1)
theorem laterT_NoW {T : List (List Nat)} (hT : ∀ a b, tw T a b = true → Tw ops a b) {D : Nat → Bool} {i t : Nat} (hr : RdyP ops D i) : ∀ {L : List PO} {k : Nat}, laterT T i t L k = true → NoW PO.wE D t L k
  | [], _, _ => fun j p v h => by simp at h
  | q :: L, k, hB => by
    simp only [laterT, Bool.and_eq_true] at hB
    obtain ⟨h1, h2⟩ := hB
    intro j p v hj hD hw
    cases j with
    | zero =>
      cases hj
      rw [(wE_some hw).1] at h1
      simp only [Bool.or_eq_true, Bool.not_eq_true', Nat.add_zero] at h1 hD
      rcases h1 with h1 | h1
      · rw [Nat.beq_refl] at h1; cases h1
      · rw [hr.noT (hT _ _ h1)] at hD; cases hD
    | succ j => exact laterT_NoW hT hr h2 j p v (by simpa using hj) (by rwa [show k + 1 + j = k + (j + 1) by omega]) hw
def valT (T : List (List Nat)) (e : Env) (L : List PO) (i t : Nat) : Option AV :=
  match laterT T i t L 0 with
  | true => some (get e t)
  | false => (List.range L.length).findSome? fun j => match L[j]? with
    | some p => match p.d with
      | some t' => if (t' = t ∧ tw T i j = true) ∧ noWE (L.drop (j + 1)) t = true then some (p.v fun _ => 0) else none
      | none => none
    | none => none
theorem valT_get {T : List (List Nat)} (hT : ∀ a b, tw T a b = true → Tw ops a b) {e : Env} {L : List PE} {i t : Nat} {a : AV} {D : Nat → Bool} (hr : RdyP ops D i) (h : valT T e (L.map PE.po) i t = some a) : get (runE D (fun _ => 0) e (L.map PE.po)) t = a := by
  unfold valT at h
  split at h
  · rename_i hB; cases h; exact (runL_none get_cons _ e 0 (laterT_NoW hT hr hB)).trans rfl
  · obtain ⟨j, _, hj⟩ := List.exists_of_findSome?_eq_some h
    split at hj
    · rename_i p hp
      split at hj
      · rename_i t' hd
        split at hj
        · rename_i h1; obtain ⟨⟨rfl, h2⟩, h3⟩ := h1
          cases hj
          exact (runL_some get_cons (wE_mk hd) _ e 0 j hp (by rw [Nat.zero_add]; exact hr.yesT (hT _ _ h2)) (noWE_NoW h3)).trans rfl
        · cases hj
      · cases hj
    · cases hj
def usesOp : Op → List Operand
  | .move x | .assign x | .unOp _ _ x | .nilCheck x | .fieldAddr _ x _ | .field _ x _ | .load _ x | .convert _ _ x | .extract x _ | .box _ x => [x]
  | .binOp _ _ x y _ | .indexAddr _ x y | .index _ x y | .store _ x y | .makeSlice _ x y => [x, y]
  | .pick x y z => [x, y, z]
  | .slice _ x lo hi mx => x :: (lo.toList ++ hi.toList ++ mx.toList)
  | .makeFunc _ _ xs => xs.toList
  | .build _ ps => ps.toList.map (·.2)
  | .buildSlice _ _ ps => ps.toList.map (·.2)
  | .call c => (match c.callee with | .value f => [f] | _ => []) ++ c.args.toList
  | _ => []
def usesT (ops : Array Oper) (o : Oper) : List Nat :=
  (usesOp o.op).filterMap (fun x => match x with | .tmp t => some t | _ => none) ++ (match o.guard with | some (j, _) => ((ops[j]?).bind (·.dst)).toList | none => [])
def insE (T : List (List Nat)) (e : Env) (L : List PO) (i : Nat) : List Nat → Option Env
  | [] => some []
  | t :: l => match valT T e L i t, insE T e L i l with
    | some a, some r => some ((t, a) :: r)
    | _, _ => none
theorem insE_get {T : List (List Nat)} (hT : ∀ a b, tw T a b = true → Tw ops a b) {e : Env} {L : List PE} {i : Nat} {D : Nat → Bool} (hr : RdyP ops D i) : ∀ {l : List Nat} {R : Env}, insE T e (L.map PE.po) i l = some R → ∀ t, get R t = .any ∨ get R t = get (runE D (fun _ => 0) e (L.map PE.po)) t
  | [], R, h, t => by cases h; exact .inl rfl
  | t0 :: l, R, h, t => by
    unfold insE at h
    split at h
    · rename_i a r h1 h2
      cases h
      rw [get_cons]
      split
      · rename_i ht; subst ht; exact .inr (valT_get hT hr h1).symm
      · exact insE_get hT hr h2 t
    · cases h
theorem OpSpec.weakE {c : Bool} {o : Oper} {R R' : Env} {h h' : Heap} {n n' : Nat} {v : AV} (hs : OpSpec P c o R h n v h' n') (hR : ∀ t, get R t = .any ∨ get R t = get R' t) : OpSpec P c o R' h n v h' n' :=
  fun hc x a hok hH hn he K Q hK => hs hc x a hok hH hn (fun t => by
    rcases hR t with h1 | h1
    · rw [h1]; exact .any _
    · rw [h1]; exact he t) K Q hK
theorem GuardC.weakE {o : Oper} {c : Bool} {R R' : Env} (h : GuardC R ops o c) (hR : ∀ t, get R t = .any ∨ get R t = get R' t) : GuardC R' ops o c := by
  cases h with
  | @one j dj want b hg hj hb =>
    refine .one hg hj ?_
    rcases hR dj with h1 | h1
    · rw [show evalOp R (.tmp dj) = get R dj from rfl, h1] at hb; cases hb
    · exact h1.symm.trans hb
  | @two j dj want b c1 hg hj hb =>
    refine .two hg hj ?_
    rcases hR dj with h1 | h1
    · rw [show evalOp R (.tmp dj) = get R dj from rfl, h1] at hb; cases hb
    · exact h1.symm.trans hb
abbrev OpRun := Env → Heap → Nat → Oper → Option (AV × Heap × Nat)
def SOk (P : Program) (S : OpRun) : Prop := ∀ R h n o r, S R h n o = some r → OpSpec P true o R h n r.1 r.2.1 r.2.2
abbrev OpPure := Env → Heap → Oper → Option AV
def SpOk (P : Program) (Sp : OpPure) : Prop := ∀ R h o v, Sp R h o = some v → ∀ n, OpSpec P true o R h n v h n
def rdS (P : Program) (Sp : OpPure) (R : Env) (h : Heap) (o : Oper) : Option AV := match rdQ P R h o with
  | some v => some v
  | none => Sp R h o
theorem rdS_s {P : Program} {Sp : OpPure} (hSp : SpOk P Sp) {R : Env} {h : Heap} {o : Oper} {v : AV} (hv : rdS P Sp R h o = some v) (n : Nat) : OpSpec P true o R h n v h n := by
  unfold rdS at hv
  split at hv
  · rename_i v' h1; cases hv; exact (rdQ_q (c := true) h1).spec n
  · exact hSp R h o v hv n
def ckAt (P : Program) (S : OpRun) (Sp : OpPure) (ops : Array Oper) (Hs : List (Heap × Nat)) (R : Env) (k : Nat) (o : Oper) (p : PE) : Bool := match p.eff with
  | false => match Hs[k]? with
    | some (h, _) => match o.guard with
      | none => match rdS P Sp R h o with
        | some v => eqAV v p.v
        | none => false
      | some _ => match guardQ R ops o with
        | some true => match rdS P Sp R h o with
          | some v => eqAV v p.v
          | none => false
        | some false => eqAV (.whn false (.r (.bool false))) p.v
        | none => false
    | none => false
  | true => match Hs[k]?, Hs[k + 1]? with
    | some (h, n), some (h2, n2) =>
      match o.guard with
      | none => match S R h n o with
        | some (v, h', n') => (eqAV v p.v && eqHeap h' h2) && Nat.beq n' n2
        | none => false
      | some _ => match guardQ R ops o with
        | some true => match S R h n o with
          | some (v, h', n') => (eqAV v p.v && eqHeap h' h2) && Nat.beq n' n2
          | none => false
        | some false => (eqAV (.whn false (.r (.bool false))) p.v && eqHeap h h2) && Nat.beq n n2
        | none => false
    | _, _ => false
theorem ckAt_spec {P : Program} {S : OpRun} {Sp : OpPure} (hS : SOk P S) (hSp : SpOk P Sp) {ops : Array Oper} {Hs : List (Heap × Nat)} {R : Env} {k : Nat} {o : Oper} {p : PE} {h : Heap} {n : Nat} (hk : Hs[k]? = some (h, n)) (hck : ckAt P S Sp ops Hs R k o p = true) :
    ∃ (h2 : Heap) (n2 : Nat), Hs[k + (match p.eff with | true => 1 | false => 0)]? = some (h2, n2) ∧
      ((o.guard = none ∧ OpSpec P true o R h n p.v h2 n2) ∨ (GuardC R ops o true ∧ OpSpec P true o R h n p.v h2 n2) ∨ (GuardC R ops o false ∧ p.v = .whn false (.r (.bool false)) ∧ h2 = h ∧ n2 = n)) := by
  unfold ckAt at hck
  cases he : p.eff with
  | false =>
    rw [he, hk] at hck
    refine ⟨h, n, hk, ?_⟩
    simp only at hck
    split at hck
    · rename_i hg
      split at hck
      · rename_i v hv; rw [← eqAV_eq hck]; exact .inl ⟨hg, rdS_s hSp hv n⟩
      · cases hck
    · split at hck
      · rename_i hgc
        split at hck
        · rename_i v hv; rw [← eqAV_eq hck]; exact .inr (.inl ⟨guardQ_c hgc, rdS_s hSp hv n⟩)
        · cases hck
      · rename_i hgc; exact .inr (.inr ⟨guardQ_c hgc, (eqAV_eq hck).symm, rfl, rfl⟩)
      · cases hck
  | true =>
    rw [he, hk] at hck
    simp only at hck
    split at hck
    · rename_i h0 n0 h2 n2 e1 e2
      simp only [Option.some.injEq, Prod.mk.injEq] at e1
      obtain ⟨rfl, rfl⟩ := e1
      refine ⟨h2, n2, e2, ?_⟩
      have fin : ∀ {v h' n'}, S R h n o = some (v, h', n') → ((eqAV v p.v && eqHeap h' h2) && Nat.beq n' n2) = true → OpSpec P true o R h n p.v h2 n2 := by
        intro v h' n' hs hq
        simp only [Bool.and_eq_true] at hq
        obtain ⟨⟨q1, q2⟩, q3⟩ := hq
        rw [← eqAV_eq q1, ← eqHeap_eq q2, ← Nat.eq_of_beq_eq_true q3]
        exact hS R h n o _ hs
      split at hck
      · rename_i hg
        split at hck
        · rename_i v h' n' hs; exact .inl ⟨hg, fin hs hck⟩
        · cases hck
      · split at hck
        · rename_i hgc
          split at hck
          · rename_i v h' n' hs; exact .inr (.inl ⟨guardQ_c hgc, fin hs hck⟩)
          · cases hck
        · rename_i hgc
          simp only [Bool.and_eq_true] at hck
          obtain ⟨⟨q1, q2⟩, q3⟩ := hck
          exact .inr (.inr ⟨guardQ_c hgc, (eqAV_eq q1).symm, (eqHeap_eq q2).symm, (Nat.eq_of_beq_eq_true q3).symm⟩)
        · cases hck
    · cases hck
def ckOp (P : Program) (T : List (List Nat)) (S : OpRun) (Sp : OpPure) (ops : Array Oper) (e : Env) (N : Nat) (L : List PE) (Hs : List (Heap × Nat)) (i : Nat) (o : Oper) (p : PE) : Bool :=
  (match o.dst, p.d with | some d, some d' => Nat.beq d d' && Nat.blt d N | none, none => true | _, _ => false) &&
  match insE T e (L.map PE.po) i (usesT ops o) with
  | some R => (List.range (cntE (fun j => !(tw T j i || Nat.beq j i)) L 0 + 1)).all fun k => Nat.blt k (cntE (fun j => tw T i j) L 0) || ckAt P S Sp ops Hs R k o p
  | none => false
def ckReg (P : Program) (S : OpRun) (Sp : OpPure) (ops : Array Oper) (s : St) (L : List PE) (Hs : List (Heap × Nat)) : Bool :=
  (backB ops ops.size && oneEB (L.map PE.po) && Nat.beq L.length ops.size) && (match Hs[0]? with | some (h, n) => eqHeap s.h h && Nat.beq s.n n | none => false) &&
  (List.range ops.size).all fun i => match ops[i]?, L[i]? with
    | some o, some p => ckOp P (closOf ops) S Sp ops s.e s.N L Hs i o p
    | _, _ => false
def InvE (c0 : Cx) (s : St) (L : List PE) (Hs : List (Heap × Nat)) (listed : Array Bool) (a : Act) (w : World) : Prop :=
  ∃ ds, a.defers = ds ∧ a.tmps.size = s.N ∧ ∃ (y : Cx) (h : Heap) (n : Nat), Hs[cntE (fun k => listed.getD k false) L 0]? = some (h, n) ∧ y.w = w ∧ c0.leM ds y ∧ y.ok ∧ y.H = hget h ∧ y.n = n ∧
    ∀ t, AVRep y (get (runE (fun k => listed.getD k false) (fun _ => 0) s.e (L.map PE.po)) t) (a.tmps.getD t undef)
theorem InvE.put {c0 : Cx} {s : St} {L : List PE} {Hs : List (Heap × Nat)} {listed : Array Bool} {a : Act} {i : Nat} {p : PE} {y z : Cx} {u : Value} {h2 : Heap} {n2 : Nat} (hp : L[i]? = some p) (hN : ∀ d, p.d = some d → Nat.blt d s.N = true) (hE : oneEB (L.map PE.po) = true)
    (hi : i < listed.size) (hr : RdyP ops (fun k => listed.getD k false) i) {ds : List Deferred} (hdef : a.defers = ds) (hsz : a.tmps.size = s.N) (hle : c0.leM ds y)
    (hk : Hs[cntE (fun k => listed.getD k false) L 0 + (match p.eff with | true => 1 | false => 0)]? = some (h2, n2))
    (he : ∀ t, AVRep y (get (runE (fun k => listed.getD k false) (fun _ => 0) s.e (L.map PE.po)) t) (a.tmps.getD t undef)) (hyz : y.le z) (hzok : z.ok) (hzH : z.H = hget h2) (hzn : z.n = n2)
    (hv : AVRep z p.v u) : InvE c0 s L Hs (listed.setIfInBounds i true) (a.put p.d u) z.w := by
  have hp' : (L.map PE.po)[i]? = some p.po := by rw [List.getElem?_map, hp]; rfl
  have hD' : ∀ k, (listed.setIfInBounds i true).getD k false = (listed.getD k false || decide (k = i)) := fun k => by
    by_cases hk : i = k
    · subst hk; simp [hi]
    · rw [getD_set_ne false hk]; simp [Ne.symm hk]
  have hsame : ∀ k, k ≠ i → (listed.setIfInBounds i true).getD k false = listed.getD k false := fun k hk => by rw [hD']; simp [hk]
  have hdi : (fun k => (listed.setIfInBounds i true).getD k false) (0 + i) = true := by show (listed.setIfInBounds i true).getD (0 + i) false = true; rw [Nat.zero_add, hD']; simp
  refine ⟨ds, by cases hdd : p.d <;> simpa [Act.put, hdd] using hdef, ?_, z, h2, n2, ?_, rfl, hle.trans hyz, hzok, hzH, hzn, fun t => ?_⟩
  · cases hdd : p.d <;> simpa [Act.put, hdd] using hsz
  · rw [cntE_set (D := fun k => listed.getD k false) (i := i) hr.un (by show (listed.setIfInBounds i true).getD i false = true; rw [hD']; simp) hsame L 0 p (Nat.zero_le _) (by simpa using hp)]
    exact hk
  · by_cases hpt : p.d = some t
    · have e1 : get (runE (fun k => (listed.setIfInBounds i true).getD k false) (fun _ => 0) s.e (L.map PE.po)) t = p.v :=
        runL_some get_cons (wE_mk (p := p.po) hpt) (L.map PE.po) _ 0 i hp' hdi (noWE_NoW (oneE_later hE hp' hpt))
      have hN' : t < a.tmps.size := by rw [hsz]; exact lt_of_blt (hN t hpt)
      rw [e1, hpt]
      simp only [Act.put, getD_set hN', if_true]
      exact hv
    · have e1 : get (runE (fun k => (listed.setIfInBounds i true).getD k false) (fun _ => 0) s.e (L.map PE.po)) t = get (runE (fun k => listed.getD k false) (fun _ => 0) s.e (L.map PE.po)) t := by
        refine runL_congr get_cons (L.map PE.po) _ _ 0 rfl fun j q v h1 h2 => ?_
        obtain ⟨h4, h5⟩ := wE_some h2
        have hji : j ≠ i := fun e => by subst e; rw [hp'] at h1; cases h1; exact hpt h4
        rw [Nat.zero_add]
        exact ⟨hsame j hji, fun _ => by
          have : q ∈ L.map PE.po := List.mem_of_getElem? h1
          obtain ⟨q', _, rfl⟩ := List.mem_map.1 this
          rfl⟩
      rw [e1]
      have h0 := (he t).mono hyz
      cases hdd : p.d with
      | none => exact h0
      | some d =>
        have hdt : d ≠ t := fun e => hpt (by rw [hdd, e])
        have hN' : d < a.tmps.size := by rw [hsz]; exact lt_of_blt (hN d hdd)
        simp only [Act.put, getD_set hN', if_neg hdt]
        exact h0
theorem InvE.step {T : List (List Nat)} (hT : ∀ a b, tw T a b = true → Tw ops a b) {S : OpRun} {Sp : OpPure} (hS : SOk P S) (hSp : SpOk P Sp) {c0 : Cx} {s : St} {L : List PE} {Hs : List (Heap × Nat)} {listed : Array Bool} {a : Act} {w : World} {i : Nat} {p : PE} {o : Oper} {Q : Exit → Act → World → Prop} (hp : L[i]? = some p) (ho : ops[i]? = some o) (hck : ckOp P T S Sp ops s.e s.N L Hs i o p = true)
    (hE : oneEB (L.map PE.po) = true) (hi : i < listed.size) (hr : RdyP ops (fun k => listed.getD k false) i) (hinv : InvE c0 s L Hs listed a w) :
    wpOp P ops Q i (InvE c0 s L Hs (listed.setIfInBounds i true)) a w := by
  obtain ⟨_, hdef, hsz, y, h, n, hHs, hyw, hle, hok, hyH, hyn, he⟩ := hinv
  subst hyw
  unfold ckOp at hck
  rw [Bool.and_eq_true] at hck
  obtain ⟨hd0, hck⟩ := hck
  have hd : o.dst = p.d ∧ ∀ d, p.d = some d → Nat.blt d s.N = true := by
    split at hd0
    · rename_i d d' h1 h2
      rw [Bool.and_eq_true] at hd0
      have := Nat.eq_of_beq_eq_true hd0.1
      subst this
      exact ⟨h1.trans h2.symm, fun d2 h3 => by rw [h2] at h3; cases h3; exact hd0.2⟩
    · rename_i h1 h2; exact ⟨h1.trans h2.symm, fun d2 h3 => by rw [h2] at h3; cases h3⟩
    · cases hd0
  split at hck
  · rename_i R hR
    have hRw := insE_get hT (D := fun k => listed.getD k false) hr hR
    have hlo : cntE (fun j => tw T i j) L 0 ≤ cntE (fun k => listed.getD k false) L 0 := cntE_mono L 0 fun j _ _ h1 => hr.yesT (hT _ _ h1)
    have hhi : cntE (fun k => listed.getD k false) L 0 ≤ cntE (fun j => !(tw T j i || Nat.beq j i)) L 0 := cntE_mono L 0 fun j _ _ h1 => by
      cases hw : tw T j i with
      | true => have := hr.noT (hT _ _ hw); rw [this] at h1; cases h1
      | false =>
        cases hji : Nat.beq j i with
        | true => have := Nat.eq_of_beq_eq_true hji; subst this; exact absurd (h1.symm.trans hr.un) (by decide)
        | false => rfl
    have hk := List.all_eq_true.1 hck (cntE (fun k => listed.getD k false) L 0) (List.mem_range.2 (by omega))
    rw [Bool.or_eq_true] at hk
    rcases hk with hk | hk
    · have := lt_of_blt hk; omega
    · obtain ⟨h2, n2, e2, hcase⟩ := ckAt_spec hS hSp hHs hk
      unfold wpOp
      simp only [ho]
      have run : OpSpec P true o R h n p.v h2 n2 → o.wp P a y.w (InvE c0 s L Hs (listed.setIfInBounds i true)) Q := fun hs =>
        (hs.weakE hRw) rfl y a hok hyH hyn he _ Q fun u z k1 k2 k3 k4 k5 => by
          rw [hd.1]
          exact InvE.put hp hd.2 hE hi hr hdef hsz hle e2 he k1 k2 k3 k4 k5
      rcases hcase with ⟨hg, hs⟩ | ⟨hgc, hs⟩ | ⟨hgc, hv, rfl, rfl⟩
      · rw [if_pos (by simp [Region.wanted, hg])]
        exact .inl (run hs)
      · have hw : Region.wanted o (yielded ops a.tmps) = true := GuardC.wanted (s := ⟨_, [], 0, 0⟩) (hgc.weakE hRw) he
        rw [hw, if_pos rfl]
        exact .inl (run hs)
      · have hw : Region.wanted o (yielded ops a.tmps) = false := GuardC.wanted (s := ⟨_, [], 0, 0⟩) (hgc.weakE hRw) he
        rw [hw, if_neg (by decide), hd.1]
        refine InvE.put hp hd.2 hE hi hr hdef hsz hle e2 he (.refl y) hok hyH hyn ?_
        rw [hv]; exact .whn (fun e => by cases e) (fun _ => rfl)
  · cases hck
theorem AW.regionE {S : OpRun} {Sp : OpPure} (hS : SOk P S) (hSp : SpOk P Sp) {id : Nat} {s : St} {Q : Exit → St → Prop} (L : List PE) (Hs : List (Heap × Nat)) {h' : Heap} {n' : Nat} (hm : P.follows .mixedOrders = true) (hB : ckReg P S Sp ops s L Hs = true) (hend : Hs[cntE (fun _ => true) L 0]? = some (h', n'))
    (h : Q .normal ⟨runE (fun _ => true) (fun _ => 0) s.e (L.map PE.po), h', n', s.N⟩) : AW P (.region id ops true) Q s := by
  intro z0 hz0 c0 a w ⟨_, hdef, hsz, y, hyw, hle, hok, hH, hn, he⟩
  subst hyw
  obtain ⟨r1, r2⟩ := Cx.redraw hok
  unfold ckReg at hB
  simp only [Bool.and_eq_true] at hB
  obtain ⟨⟨⟨⟨b1, b2⟩, b3⟩, b4⟩, b5⟩ := hB
  have hlen := Nat.eq_of_beq_eq_true b3
  have h00 : Hs[0]? = some (s.h, s.n) := by
    split at b4
    · rename_i h0 n0 e0
      rw [Bool.and_eq_true] at b4
      rw [e0, eqHeap_eq b4.1, Nat.eq_of_beq_eq_true b4.2]
    · cases b4
  refine wpIn_region_any_z PostZ.noOut hm hz0 ?_
  generalize hz : ({ y with w := { y.w with drawn := y.w.drawn + 1 } } : Cx) = z at r1 r2
  have hzw : z.w = { y.w with drawn := y.w.drawn + 1 } := by rw [← hz]
  have hzH : z.H = hget s.h := by rw [← hz]; exact hH
  have hzn : z.n = s.n := by rw [← hz]; exact hn
  rw [← hzw]
  have hrep : ∀ j, (Array.replicate ops.size false).getD j false = false := getD_replicate_false _
  have key : ∀ (f : Nat) (listed : Array Bool) (a : Act) (w : World), countF listed ops.size = f → HeadInv .any ops ops.size listed → InvE c0 s L Hs listed a w → wpAny P .any ops (PostZ c0 Q) f listed a w := by
    intro f
    induction f with
    | zero =>
      intro listed a w hcnt inv hinv
      have hall := countF_zero hcnt
      refine ⟨?_, ?_⟩
      · rw [List.eq_nil_iff_forall_not_mem]
        intro j hj
        obtain ⟨h1, o, ho, _⟩ := mem_ready.1 hj
        have hjl : j < ops.size := (Array.getElem?_eq_some_iff.1 ho).1
        have := getD_both h1
        rw [hall j hjl] at this; cases this
      · obtain ⟨_, i1, i2, z', hh, nn, i0, i3, i4, i5, i6, i6', i7⟩ := hinv
        subst i3
        have hcE : cntE (fun k => listed.getD k false) L 0 = cntE (fun _ => true) L 0 :=
          Nat.le_antisymm (cntE_mono L 0 fun _ _ _ _ => rfl) (cntE_mono L 0 fun j _ hj _ => hall j (by omega))
        rw [hcE, hend] at i0
        cases i0
        refine ⟨by simp, _, h, _, i1, i2, z', rfl, i4, i5, i6, i6', fun t => ?_⟩
        show AVRep z' (get (runL _ _ _ _ _ _) t) _
        rw [runL_all (L.map PE.po) _ 0 (D' := fun k => listed.getD k false) fun j _ hj => (hall j (by simp at hj; omega)).symm]
        exact i7 t
    | succ f ih =>
      intro listed a w hcnt inv hinv
      obtain ⟨i0, hi0, hun0, hbefore⟩ := countF_pos (listed := listed) (n := ops.size) (by omega)
      have hs0 : i0 < listed.size := by rw [inv.size]; omega
      have hready0 : i0 ∈ Region.ready .any ops listed := by
        refine mem_ready.2 ⟨getD_in hs0 hun0, ?_⟩
        have hio : ∃ o, ops[i0]? = some o := ⟨ops[i0]'(by omega), by simp [Array.getElem?_eq_getElem (show i0 < ops.size by omega)]⟩
        obtain ⟨o, ho⟩ := hio
        refine ⟨o, ho, fun e he hb => ?_⟩
        have h1 := List.all_eq_true.1 b1 i0 (List.mem_range.2 hi0)
        simp only [ho] at h1
        have h2 := (Array.all_eq_true_iff_forall_mem.1 h1) e he
        simp only [hb, Bool.not_true, Bool.false_or, decide_eq_true_eq] at h2
        exact hbefore _ h2
      refine ⟨fun h => (by rw [h] at hready0; cases hready0), fun i hi => ?_⟩
      obtain ⟨hun, o, ho, hall⟩ := mem_ready.1 hi
      have hin : i < ops.size := (Array.getElem?_eq_some_iff.1 ho).1
      have hunf := getD_both hun
      have his : i < listed.size := by rw [inv.size]; omega
      obtain ⟨p, hp⟩ : ∃ p, L[i]? = some p := ⟨L[i]'(by omega), by simp [List.getElem?_eq_getElem (show i < L.length by omega)]⟩
      have hck := List.all_eq_true.1 b5 i (List.mem_range.2 hin)
      simp only [ho, hp] at hck
      have hrd : RdyP ops (fun k => listed.getD k false) i := by
        refine ⟨fun j k hj hk => ?_, fun k hk => ?_, hunf⟩
        · obtain ⟨oj, hoj, e, he, hb, hon⟩ := Region.waitsFor_spec hk
          rw [← hon]; exact inv.closed j oj hoj hj e he hb
        · obtain ⟨oi, hoi, e, he, hb, hon⟩ := Region.waitsFor_spec hk
          have : oi = o := Option.some.inj (hoi.symm.trans ho)
          subst this
          rw [← hon]; exact hall e he hb
      have step := InvE.step (Q := PostZ c0 Q) (fun _ _ => tw_ok) hS hSp hp ho hck b2 his hrd hinv
      refine wpOp_mono (fun a' w' h' => ih _ a' w' ?_ (inv.set hi hin) h') step
      have := countF_set his hunf ops.size
      rw [if_pos hin] at this
      omega
  have hcnt0 : countF (Array.replicate ops.size false) ops.size = ops.size := countF_all hrep ops.size
  have h0c : cntE (fun k => (Array.replicate ops.size false).getD k false) L 0 = 0 := by
    have : ∀ (l : List PE) (k : Nat), cntE (fun k => (Array.replicate ops.size false).getD k false) l k = 0 := by
      intro l
      induction l with
      | nil => intro k; rfl
      | cons q l ih => intro k; unfold cntE; rw [ih, hrep, Bool.and_false]
    exact this L 0
  exact key ops.size _ a z.w hcnt0 ⟨by simp, fun j oj _ hl => (by rw [hrep] at hl; cases hl), fun t ht1 ht => by omega⟩
    ⟨_, hdef, hsz, z, s.h, s.n, by rw [h0c]; exact h00, rfl, hle.trans r1, r2, hzH, hzn, fun t => by
      have e1 : get (runE (fun k => (Array.replicate ops.size false).getD k false) (fun _ => 0) s.e (L.map PE.po)) t = get s.e t := runL_none get_cons (L.map PE.po) _ 0 fun j p _ _ h1 => by rw [hrep] at h1; cases h1
      rw [e1]; exact (he t).mono r1⟩
end
end Go.Proofs.YtkefchjpggjibaaGreatDoor.Al


namespace Go.Proofs.YtkefchjpggjibaaGreatDoor.Al
variable {β : Type}
def fcNat (n : Nat) (k : Nat → β) : β := match n with
  | 0 => k 0
  | m + 1 => k (m + 1)
theorem fcNat_eq (n : Nat) (k : Nat → β) : fcNat n k = k n := by cases n <;> rfl
def fcInt (z : Int) (k : Int → β) : β := match z with
  | .ofNat n => fcNat n fun n => k (.ofNat n)
  | .negSucc n => fcNat n fun n => k (.negSucc n)
theorem fcInt_eq (z : Int) (k : Int → β) : fcInt z k = k z := by cases z <;> simp only [fcInt, fcNat_eq]
def fcU8 (c : UInt8) (k : UInt8 → β) : β := fcNat c.toNat fun n => k (UInt8.ofNat n)
theorem fcU8_eq (c : UInt8) (k : UInt8 → β) : fcU8 c k = k c := by unfold fcU8; rw [fcNat_eq]; congr 1; simp
def fcStr : List UInt8 → (List UInt8 → β) → β
  | [], k => k []
  | c :: r, k => fcU8 c fun c => fcStr r fun r => k (c :: r)
theorem fcStr_eq : ∀ (l : List UInt8) (k : List UInt8 → β), fcStr l k = k l
  | [], _ => rfl
  | c :: r, k => by unfold fcStr; rw [fcU8_eq, fcStr_eq r]
def fcK (x : IntKind) (k : IntKind → β) : β := match x with
  | .i8 => k .i8 | .i16 => k .i16 | .i32 => k .i32 | .i64 => k .i64 | .u8 => k .u8 | .u16 => k .u16 | .u32 => k .u32 | .u64 => k .u64
theorem fcK_eq (x : IntKind) (k : IntKind → β) : fcK x k = k x := by cases x <;> rfl
def fcB (x : Bool) (k : Bool → β) : β := match x with
  | true => k true
  | false => k false
theorem fcB_eq (x : Bool) (k : Bool → β) : fcB x k = k x := by cases x <;> rfl
mutual
def fcRV : RV → (RV → β) → β
  | .int kd n, k => fcK kd fun kd => fcInt n fun n => k (.int kd n)
  | .bool b, k => fcB b fun b => k (.bool b)
  | .str s, k => fcStr s fun s => k (.str s)
  | .sl xs, k => fcRows xs fun xs => k (.sl xs)
  | .any, k => k .any
def fcRow : List RV → (List RV → β) → β
  | [], k => k []
  | a :: l, k => fcRV a fun a => fcRow l fun l => k (a :: l)
def fcRows : List (List RV) → (List (List RV) → β) → β
  | [], k => k []
  | a :: l, k => fcRow a fun a => fcRows l fun l => k (a :: l)
end
mutual
theorem fcRV_eq : ∀ (a : RV) (k : RV → β), fcRV a k = k a
  | .int kd n, k => by unfold fcRV; rw [fcK_eq, fcInt_eq]
  | .bool b, k => by unfold fcRV; rw [fcB_eq]
  | .str s, k => by unfold fcRV; rw [fcStr_eq]
  | .sl xs, k => by unfold fcRV; rw [fcRows_eq xs]
  | .any, k => by unfold fcRV; rfl
theorem fcRow_eq : ∀ (a : List RV) (k : List RV → β), fcRow a k = k a
  | [], k => by unfold fcRow; rfl
  | a :: l, k => by unfold fcRow; rw [fcRV_eq a, fcRow_eq l]
theorem fcRows_eq : ∀ (a : List (List RV)) (k : List (List RV) → β), fcRows a k = k a
  | [], k => by unfold fcRows; rfl
  | a :: l, k => by unfold fcRows; rw [fcRow_eq a, fcRows_eq l]
end
mutual
def fcAV : AV → (AV → β) → β
  | .r x, k => fcRV x fun x => k (.r x)
  | .agg cs, k => fcAVs cs fun cs => k (.agg cs)
  | .tup cs, k => fcAVs cs fun cs => k (.tup cs)
  | .own i g, k => fcNat i fun i => fcNat g fun g => k (.own i g)
  | .ptr i g j m, k => fcNat i fun i => fcNat g fun g => fcNat j fun j => fcNat m fun m => k (.ptr i g j m)
  | .rop row m, k => fcRow row fun row => fcNat m fun m => k (.rop row m)
  | .fn f cs, k => fcNat f fun f => fcAVs cs fun cs => k (.fn f cs)
  | a, k => k a
def fcAVs : List AV → (List AV → β) → β
  | [], k => k []
  | a :: l, k => fcAV a fun a => fcAVs l fun l => k (a :: l)
end
mutual
theorem fcAV_eq : ∀ (a : AV) (k : AV → β), fcAV a k = k a
  | .r x, k => by unfold fcAV; rw [fcRV_eq]
  | .agg cs, k => by unfold fcAV; rw [fcAVs_eq cs]
  | .tup cs, k => by unfold fcAV; rw [fcAVs_eq cs]
  | .own i g, k => by unfold fcAV; rw [fcNat_eq, fcNat_eq]
  | .ptr i g j m, k => by unfold fcAV; rw [fcNat_eq, fcNat_eq, fcNat_eq, fcNat_eq]
  | .rop row m, k => by unfold fcAV; rw [fcRow_eq, fcNat_eq]
  | .fn f cs, k => by unfold fcAV; rw [fcNat_eq, fcAVs_eq cs]
  | .mref _ _, k => by unfold fcAV; rfl
  | .yld _ _, k => by unfold fcAV; rfl
  | .full _, k => by unfold fcAV; rfl
  | .cst _, k => by unfold fcAV; rfl
  | .whn _ _, k => by unfold fcAV; rfl
  | .any, k => by unfold fcAV; rfl
theorem fcAVs_eq : ∀ (a : List AV) (k : List AV → β), fcAVs a k = k a
  | [], k => by unfold fcAVs; rfl
  | a :: l, k => by unfold fcAVs; rw [fcAV_eq a, fcAVs_eq l]
end
def fcObj : Option AObj → (Option AObj → β) → β
  | some (.arr g e sz xs), k => fcNat g fun g => fcNat e fun e => fcNat sz fun sz => fcRows xs fun xs => k (some (.arr g e sz xs))
  | some (.box g e cs), k => fcNat g fun g => fcNat e fun e => fcAVs cs fun cs => k (some (.box g e cs))
  | o, k => k o
theorem fcObj_eq (o : Option AObj) (k : Option AObj → β) : fcObj o k = k o := by
  unfold fcObj
  split
  · rw [fcNat_eq, fcNat_eq, fcNat_eq, fcRows_eq]
  · rw [fcNat_eq, fcNat_eq, fcAVs_eq]
  · rfl
def fcHeap : Heap → (Heap → β) → β
  | [], k => k []
  | (i, o) :: r, k => fcNat i fun i => fcObj o fun o => fcHeap r fun r => k ((i, o) :: r)
theorem fcHeap_eq : ∀ (h : Heap) (k : Heap → β), fcHeap h k = k h
  | [], _ => rfl
  | (i, o) :: r, k => by unfold fcHeap; rw [fcNat_eq, fcObj_eq, fcHeap_eq r]
def fcS (a : AV) (k : AV → β) : β := match a with
  | .r (.int kd n) => fcK kd fun kd => fcInt n fun n => k (.r (.int kd n))
  | .r (.bool b) => fcB b fun b => k (.r (.bool b))
  | .own i g => fcNat i fun i => fcNat g fun g => k (.own i g)
  | .ptr i g j m => fcNat i fun i => fcNat g fun g => fcNat j fun j => fcNat m fun m => k (.ptr i g j m)
  | a => k a
theorem fcS_eq (a : AV) (k : AV → β) : fcS a k = k a := by
  unfold fcS
  split
  · rw [fcK_eq, fcInt_eq]
  · rw [fcB_eq]
  · rw [fcNat_eq, fcNat_eq]
  · rw [fcNat_eq, fcNat_eq, fcNat_eq, fcNat_eq]
  · rfl
def fcTop (s : St) (k : St → β) : β := match s with
  | ⟨(d, v) :: e, h, n, N⟩ => fcS v fun v => fcNat n fun n => k ⟨(d, v) :: e, h, n, N⟩
  | s => k s
theorem fcTop_eq (s : St) (k : St → β) : fcTop s k = k s := by
  unfold fcTop
  split
  · rw [fcS_eq, fcNat_eq]
  · rfl
end Go.Proofs.YtkefchjpggjibaaGreatDoor.Al


namespace Go.Proofs.YtkefchjpggjibaaGreatDoor.Al
section
variable {P : Program}
theorem OpSpec.frzV {c : Bool} {o : Oper} {R : Env} {h h1 : Heap} {n n1 : Nat} {v : AV} {id g e sz : Nat} {xs : List (List RV)} (hs : OpSpec P c o R h n v h1 n1) (hh : hget h1 id = some (.arr g e sz xs)) :
    OpSpec P c o R h n (frA id g xs v) (frzS id g xs ⟨[(0, v)], h1, n1, 1⟩).h n1 := by
  intro hc x a hok hH hn he K Q hK
  refine hs hc x a hok hH hn he K Q fun u y k1 k2 k3 k4 k5 => ?_
  have hsim : Sim y ⟨[(0, v)], h1, n1, 1⟩ { tmps := #[u], defers := [] } y.w := by
    refine ⟨_, rfl, rfl, y, rfl, .refl y, k2, k3, k4, fun t => ?_⟩
    rw [get_cons]
    split
    · rename_i ht; subst ht; exact k5
    · exact .any _
  obtain ⟨_, _, _, z, hzw, hle, hzok, hzH, hzn, hze⟩ := frzS_weak (s := ⟨[(0, v)], h1, n1, 1⟩) hh y _ _ hsim
  have h0 := hze 0
  have : get (frzS id g xs ⟨[(0, v)], h1, n1, 1⟩).e 0 = frA id g xs v := rfl
  rw [this] at h0
  have hr := hK u z (k1.trans hle.le) hzok hzH hzn h0
  rw [hzw] at hr; exact hr
def frzAll : Nat → AV → Heap → Nat → AV × Heap
  | 0, v, h, _ => (v, h)
  | f + 1, v, h, n => match ownOf h v with
    | some id => match hget h id with
      | some (.arr g _ _ xs) => frzAll f (frA id g xs v) (frzS id g xs ⟨[(0, v)], h, n, 1⟩).h n
      | _ => (v, h)
    | none => (v, h)
theorem frzAll_s {c : Bool} {o : Oper} {R : Env} {h : Heap} {n n1 : Nat} : ∀ (f : Nat) {v : AV} {h1 : Heap}, OpSpec P c o R h n v h1 n1 → OpSpec P c o R h n (frzAll f v h1 n1).1 (frzAll f v h1 n1).2 n1
  | 0, v, h1, hs => hs
  | f + 1, v, h1, hs => by
    unfold frzAll
    split
    · split
      · rename_i hh; exact frzAll_s f (hs.frzV hh)
      · exact hs
    · exact hs
def wantsData (o : Oper) : Bool := match o.op with
  | .buildSlice _ _ _ => true
  | .call ⟨.builtin .append, ⟨[.const _, _]⟩, _⟩ => true
  | .call ⟨.value _, _, _⟩ => true
  | _ => false
def opR (S : OpRun) : OpRun := fun R h n o => match S R h n o with
  | some (v, h', n') => match wantsData o with
    | true => some ((frzAll 9 v h' n').1, (frzAll 9 v h' n').2, n')
    | false => some (v, h', n')
  | none => none
theorem opR_ok {S : OpRun} (hS : SOk P S) : SOk P (opR S) := by
  intro R h n o r hr
  unfold opR at hr
  split at hr
  · rename_i v h' n' hs
    have h0 := hS R h n o _ hs
    split at hr
    · cases hr; exact frzAll_s 9 h0
    · cases hr; exact h0
  · cases hr
def goReg (S : OpRun) (Sp : OpPure) (ops : Array Oper) : List Oper → List PE → List (Heap × Nat) → Env → Heap → Nat → Option (List PE × List (Heap × Nat))
  | [], L, Hs, _, _, _ => some (L.reverse, Hs.reverse)
  | o :: rest, L, Hs, e, h, n =>
    match (match o.guard with | none => some true | some _ => guardQ e ops o) with
    | some true => match isQ o with
      | true => match S e h n o with
        | some (v, _, _) => goReg S Sp ops rest (⟨o.dst, v, false⟩ :: L) Hs (putE o.dst v e) h n
        | none => none
      | false => match Sp e h o with
        | some v => goReg S Sp ops rest (⟨o.dst, v, false⟩ :: L) Hs (putE o.dst v e) h n
        | none => match S e h n o with
          | some (v, h', n') => goReg S Sp ops rest (⟨o.dst, v, true⟩ :: L) ((h', n') :: Hs) (putE o.dst v e) h' n'
          | none => none
    | some false => goReg S Sp ops rest (⟨o.dst, .whn false (.r (.bool false)), false⟩ :: L) Hs (putE o.dst (.whn false (.r (.bool false))) e) h n
    | none => none
def regE (P : Program) (S : OpRun) (Sp : OpPure) (ops : Array Oper) (s : St) : Option St := match goReg S Sp ops ops.toList [] [(s.h, s.n)] s.e s.h s.n with
  | some (L, Hs) => match ckReg P S Sp ops s L Hs with
    | true => match Hs[cntE (fun _ => true) L 0]? with
      | some (h', n') => some ⟨runE (fun _ => true) (fun _ => 0) s.e (L.map PE.po), h', n', s.N⟩
      | none => none
    | false => none
  | none => none
def failId (S : OpRun) (ops : Array Oper) : List Oper → Env → Heap → Nat → Option Nat
  | [], _, _, _ => none
  | o :: rest, e, h, n =>
    match (match o.guard with | none => some true | some _ => guardQ e ops o) with
    | some true => match S e h n o with
      | some (v, h', n') => match isQ o with
        | true => failId S ops rest (putE o.dst v e) h n
        | false => failId S ops rest (putE o.dst v e) h' n'
      | none => frzFor ⟨e, h, n, 0⟩ o
    | some false => failId S ops rest (putE o.dst (.whn false (.r (.bool false))) e) h n
    | none => none
def argOwn (F : List Nat) (s : St) (o : Oper) : Option Nat := match o.op with
  | .call ⟨.value fo, xs, _⟩ => match evx s.e fo with
    | .fn f _ => match F.any (Nat.beq f) with
      | true => xs.toList.findSome? fun x => ownOf s.h (evx s.e x)
      | false => none
    | _ => none
  | _ => none
def preX (F : List Nat) (c : Cfg) : Cfg := match c with
  | .ops ops (o :: rest) ks s => match argOwn F s o with
    | some id => match hget s.h id with
      | some (.arr g _ _ xs) => .ops ops (o :: rest) ks (frzS id g xs s)
      | _ => c
    | none => c
  | c => c
theorem preX_sound {F : List Nat} {Q : Exit → St → Prop} {c : Cfg} (h : Holds P Q (preX F c)) : Holds P Q c := by
  unfold preX at h
  split at h
  · split at h
    · split at h
      · rename_i hh; exact AOpsY.weak (frzS_weak hh) h
      · exact h
    · exact h
  · exact h
structure Lv where
  S : OpRun
  Sp : OpPure
structure LvOk (P : Program) (p : Lv) : Prop where
  S : SOk P p.S
  Sp : SpOk P p.Sp
def pureStep (p : Lv) (ops : Array Oper) (o : Oper) (rest : List Oper) (ks : List Fr) (s : St) : Option Cfg := match o.op with
  | .call ⟨.value _, _, _⟩ => match (match o.guard with | none => some true | some _ => guardQ s.e ops o) with
    | some true => match p.Sp s.e s.h o with
      | some v => match o.dst with
        | some d => match Nat.blt d s.N with
          | true => some (.ops ops rest ks { e := (d, v) :: s.e, h := s.h, n := s.n, N := s.N })
          | false => none
        | none => none
      | none => none
    | _ => none
  | _ => none
theorem pureStep_sound {p : Lv} (hp : LvOk P p) {Q : Exit → St → Prop} {ops : Array Oper} {o : Oper} {rest : List Oper} {ks : List Fr} {s : St} {c' : Cfg} (h : pureStep p ops o rest ks s = some c') (hc : Holds P Q c') : Holds P Q (.ops ops (o :: rest) ks s) := by
  unfold pureStep at h
  split at h
  · split at h
    · rename_i hg
      split at h
      · rename_i v hv
        split at h
        · rename_i d hd
          split at h
          · rename_i hN; cases h
            have hg' : (false = false ∧ o.guard = none) ∨ GuardC s.e ops o true := by
              cases hgd : o.guard with
              | none => exact .inl ⟨rfl, rfl⟩
              | some j => rw [hgd] at hg; exact .inr (guardQ_c hg)
            exact AOpsY.cons (K1 := fun s2 => s2 = _) (AOps.step1 hg' hd hN (hp.Sp _ _ _ _ hv _) (AOps.nil rfl)) fun s2 e => e ▸ hc
          · cases h
        · cases h
      · cases h
    · cases h
  · cases h
def stepX (P : Program) (p : Lv) (c : Cfg) : Option Cfg := match stepF P c with
  | some (.ops o r ks s) => fcTop s fun s => some (.ops o r ks s)
  | some c' => some c'
  | none => match c with
    | .code (.region i ops true) ks s => match regE P (opR p.S) p.Sp ops s with
      | some s' => some (.out .normal ks s')
      | none => match failId (opR p.S) ops ops.toList s.e s.h s.n with
        | some id => match hget s.h id with
          | some (.arr g _ _ xs) => some (.code (.region i ops true) ks (frzS id g xs s))
          | _ => none
        | none => none
    | _ => none
def stepZ (P : Program) (p : Lv) (c : Cfg) : Option Cfg := match c with
  | .ops ops (o :: rest) ks s => match pureStep p ops o rest ks s with
    | some c' => some c'
    | none => stepX P p c
  | c => stepX P p c
theorem regE_sound {S : OpRun} {Sp : OpPure} {Q : Exit → St → Prop} (hm : P.follows .mixedOrders = true) (hS : SOk P S) (hSp : SpOk P Sp) {ops : Array Oper} {s s' : St} {id : Nat} (h1 : regE P S Sp ops s = some s') (hc : Q .normal s') : AW P (.region id ops true) Q s := by
  unfold regE at h1
  split at h1
  · rename_i L Hs _
    split at h1
    · rename_i hB
      split at h1
      · rename_i h' n' hend
        cases h1
        exact AW.regionE hS hSp L Hs hm hB hend hc
      · cases h1
    · cases h1
  · cases h1
theorem stepX_sound {p : Lv} {Q : Exit → St → Prop} (hm : P.follows .mixedOrders = true) (hp : LvOk P p) {c c' : Cfg} (h : stepX P p c = some c') (hc : Holds P Q c') : Holds P Q c := by
  unfold stepX at h
  split at h
  · rename_i o r ks s h1; rw [fcTop_eq] at h; cases h; exact stepF_sound hm h1 hc
  · rename_i c2 _ h1; cases h; exact stepF_sound hm h1 hc
  · split at h
    · split at h
      · rename_i s' h1; cases h; exact regE_sound hm (opR_ok hp.S) hp.Sp h1 hc
      · split at h
        · split at h
          · rename_i hh; cases h; exact AW.weak (frzS_weak hh) hc
          · cases h
        · cases h
    · cases h
theorem stepZ_sound {p : Lv} {Q : Exit → St → Prop} (hm : P.follows .mixedOrders = true) (hp : LvOk P p) {c c' : Cfg} (h : stepZ P p c = some c') (hc : Holds P Q c') : Holds P Q c := by
  unfold stepZ at h
  split at h
  · split at h
    · rename_i c2 h1; cases h; exact pureStep_sound hp h1 hc
    · exact stepX_sound hm hp h hc
  · exact stepX_sound hm hp h hc
def runX (P : Program) (F : List Nat) (p : Lv) : Nat → Cfg → Cfg
  | 0, c => c
  | n + 1, c => match stepZ P p (preX F (preX F c)) with
    | some c' => runX P F p n c'
    | none => c
theorem runX_sound {F : List Nat} {p : Lv} {Q : Exit → St → Prop} (hm : P.follows .mixedOrders = true) (hp : LvOk P p) : ∀ {n : Nat} {c : Cfg}, Holds P Q (runX P F p n c) → Holds P Q c
  | 0, c, h => h
  | n + 1, c, h => by
    unfold runX at h
    split at h
    · rename_i c' hs; exact preX_sound (preX_sound (stepZ_sound hm hp hs (runX_sound hm hp h)))
    · exact h
def opBase (P : Program) : OpRun := fun R h n o => match rdQ P R h o with
  | some v => some (v, h, n)
  | none => rdE P R h n o
theorem opBase_ok : SOk P (opBase P) := by
  intro R h n o r hr
  unfold opBase at hr
  split at hr
  · rename_i v hv; cases hr; exact (rdQ_q (c := true) hv).spec _
  · exact rdE_s hr
def callX (P : Program) (F : List Nat) (p : Lv) (R : Env) (h : Heap) (n : Nat) (o : Oper) : Option (AV × Heap × Nat) := match o.op with
  | .call ⟨.value fo, xs, _⟩ => match evx R fo with
    | .fn f caps => match P.funcs[f]? with
      | some fn => match fn.body with
        | some code => if (fn.name == "runtime.NumGoroutine") = false ∧ Nat.ble (xs.toList.map (evx R) ++ caps).length fn.ntmps = true then
            fcAVs (xs.toList.map (evx R) ++ caps) fun bs => fcNat n fun n => fcHeap h fun h =>
            match runX P F p 1000000 (.code code [] ⟨argEnv 0 bs, h, n, fn.ntmps⟩) with
            | .out .ret [] s => match resQ P s fn.results.toList with
              | some r => some (r, s.h, s.n)
              | none => none
            | .out .normal [] s => match resQ P s fn.results.toList with
              | some r => some (r, s.h, s.n)
              | none => none
            | _ => none
          else none
        | none => none
      | none => none
    | _ => none
  | _ => none
theorem callX_s {F : List Nat} {p : Lv} (hm : P.follows .mixedOrders = true) (hp : LvOk P p) {R : Env} {h : Heap} {n : Nat} {o : Oper} {r : AV × Heap × Nat} (hr : callX P F p R h n o = some r) : OpSpec P true o R h n r.1 r.2.1 r.2.2 := by
  unfold callX at hr
  split at hr
  · rename_i fo xs ats ho
    split at hr
    · rename_i f caps hfo
      split at hr
      · rename_i fn hf
        split at hr
        · rename_i code hb
          split at hr
          · rename_i h1
            rw [fcAVs_eq, fcNat_eq, fcHeap_eq] at hr
            have hfo' : Ev true R fo (.fn f caps) := by rw [← hfo]; exact evx_ev true R fo
            have fin : ∀ (v : AV) (h' : Heap) (n' : Nat), AW P code (RetI P fn.results.toList fun r h2 n2 => r = v ∧ h2 = h' ∧ n2 = n') ⟨argEnv 0 (xs.toList.map (evx R) ++ caps), h, n, fn.ntmps⟩ → OpSpec P true o R h n v h' n' := by
              intro v h' n' hw hc z a hok hH hn he K Q hK
              refine wp_callI ho hfo' (evAll_map true R xs.toList) hf hb h1.1 rfl (Nat.le_of_ble_eq_true h1.2) hok hH hn he hw K Q fun u y r h2 n2 k1 k2 k3 k4 k5 ⟨e1, e2, e3⟩ => ?_
              subst e1; subst e2; subst e3
              exact hK u y k1 k2 k3 k4 k5
            split at hr
            · rename_i s hx
              split at hr
              · rename_i r' hres; cases hr
                refine fin _ _ _ (runX_sound (F := F) (Q := RetI P fn.results.toList fun r h2 n2 => r = r' ∧ h2 = s.h ∧ n2 = s.n) (c := .code code [] _) (n := 1000000) hm hp ?_)
                rw [hx]; exact ⟨r', resQ_v hres, rfl, rfl, rfl⟩
              · cases hr
            · rename_i s hx
              split at hr
              · rename_i r' hres; cases hr
                refine fin _ _ _ (runX_sound (F := F) (Q := RetI P fn.results.toList fun r h2 n2 => r = r' ∧ h2 = s.h ∧ n2 = s.n) (c := .code code [] _) (n := 1000000) hm hp ?_)
                rw [hx]; exact ⟨r', resQ_v hres, rfl, rfl, rfl⟩
              · cases hr
            · cases hr
          · cases hr
        · cases hr
      · cases hr
    · cases hr
  · cases hr
def frzL (h : Heap) : List AV → Option (List AV)
  | [] => some []
  | a :: l => match (match a with
      | .own id g => match hget h id with
        | some (.arr g' _ _ xs) => if g' = g then some (.r (.sl xs)) else none
        | _ => none
      | a => match a.closed with
        | true => some a
        | false => none), frzL h l with
    | some b, some m => some (b :: m)
    | _, _ => none
def frzB (h : Heap) (a : AV) : Option AV := match a with
  | .own id g => match hget h id with
    | some (.arr g' _ _ xs) => if g' = g then some (.r (.sl xs)) else none
    | _ => none
  | .agg cs => (frzL h cs).map .agg
  | a => match a.closed with
    | true => some a
    | false => none
theorem frzL_fz {h : Heap} : ∀ {cs ds : List AV}, frzL h cs = some ds → FzL h cs ds
  | [], ds, hf => by cases hf; trivial
  | a :: l, ds, hf => by
    unfold frzL at hf
    split at hf
    · rename_i b m h1 h2
      cases hf
      refine ⟨?_, frzL_fz h2⟩
      split at h1
      · split at h1
        · rename_i hh
          split at h1
          · rename_i hg; subst hg; cases h1; exact .own hh
          · cases h1
        · cases h1
      · split at h1
        · rename_i hc; cases h1; exact .closed _ hc
        · cases h1
    · cases hf
theorem frzB_fz {h : Heap} {a b : AV} (hf : frzB h a = some b) : Fz h a b := by
  unfold frzB at hf
  split at hf
  · split at hf
    · rename_i hh
      split at hf
      · rename_i hg; subst hg; cases hf; exact .one (.own hh)
      · cases hf
    · cases hf
  · rw [Option.map_eq_some_iff] at hf
    obtain ⟨ds, h1, rfl⟩ := hf
    exact .agg (frzL_fz h1)
  · split at hf
    · rename_i hc; cases hf; exact .one (.closed _ hc)
    · cases hf
def argsP (R : Env) (h : Heap) : List Operand → Option (List AV)
  | [] => some []
  | x :: xs => match frzB h (evx R x), argsP R h xs with
    | some b, some bs => some (b :: bs)
    | _, _ => none
theorem argsP_ev {R : Env} {h : Heap} : ∀ {xs : List Operand} {bs : List AV}, argsP R h xs = some bs → ArgsEv true R h xs bs
  | [], bs, hf => by cases hf; trivial
  | x :: xs, bs, hf => by
    unfold argsP at hf
    split at hf
    · rename_i b bs' h1 h2
      cases hf
      exact ⟨⟨_, evx_ev true R x, frzB_fz h1⟩, argsP_ev h2⟩
    · cases hf
theorem argsCl_ev {R : Env} : ∀ (xs : List Operand), closedL (xs.map (evx R)) = true → ArgsCl true R xs (xs.map (evx R))
  | [], _ => trivial
  | x :: xs, h => by
    simp only [List.map_cons, closedL, Bool.and_eq_true] at h
    exact ⟨.inl ⟨evx_ev true R x, h.1⟩, argsCl_ev xs h.2⟩
def resF1 (P : Program) (s : St) : ResultVar → Option AV
  | .tmp t => frzB s.h (get s.e t)
  | .cell a t => match get s.e a with
    | .ptr id g 0 0 => match hget s.h id with
      | some (.box g' _ cs) => if g' = g then match scalOk P t with
          | true => match cs with
            | [r] => frzB s.h r
            | _ => none
          | false => match aggSz P t with
            | some sz => if cs.length = sz then frzB s.h (.agg cs) else none
            | none => none
        else none
      | _ => none
    | _ => none
theorem resF1_v {s : St} {x : ResultVar} {r : AV} (h : resF1 P s x = some r) : RetV P s x r := by
  unfold resF1 at h
  split at h
  · exact frzB_fz h
  · split at h
    · rename_i id g hp
      split at h
      · rename_i g' e cs hh
        split at h
        · rename_i hg; subst hg
          split at h
          · rename_i hs
            split at h
            · exact .inl ⟨id, _, _, _, scalOk_ty hs, hp, hh, frzB_fz h⟩
            · cases h
          · split at h
            · rename_i sz ha
              split at h
              · rename_i hl; exact .inr ⟨sz, id, _, _, _, aggSz_ty ha, hp, hh, hl, frzB_fz h⟩
              · cases h
            · cases h
        · cases h
      · cases h
    · cases h
def resFs (P : Program) (s : St) : List ResultVar → Option (List AV)
  | [] => some []
  | x :: l => match resF1 P s x, resFs P s l with
    | some r, some rs => some (r :: rs)
    | _, _ => none
theorem resFs_v {s : St} : ∀ {l : List ResultVar} {rs : List AV}, resFs P s l = some rs → GVs (RetV P s) l rs
  | [], rs, h => by cases h; trivial
  | x :: l, rs, h => by
    unfold resFs at h
    split at h
    · rename_i r rs' h1 h2; cases h; exact ⟨resF1_v h1, resFs_v h2⟩
    · cases h
def resF (P : Program) (s : St) (l : List ResultVar) : Option AV := match l with
  | [x] => resF1 P s x
  | l => (resFs P s l).map .tup
theorem resF_v {s : St} {l : List ResultVar} {r : AV} (h : resF P s l = some r) : GAll (RetV P s) l r := by
  unfold resF at h
  split at h
  · exact resF1_v h
  · rename_i l' hne
    rw [Option.map_eq_some_iff] at h
    obtain ⟨rs, h1, rfl⟩ := h
    have h2 := resFs_v h1
    unfold GAll
    split
    · rename_i x; exact absurd rfl (hne x)
    · exact ⟨rs, rfl, h2⟩
def outF (P : Program) (rs : List ResultVar) : Cfg → Option AV
  | .out .ret [] s => resF P s rs
  | .out .normal [] s => resF P s rs
  | _ => none
theorem outF_ret {rs : List ResultVar} {c : Cfg} {r : AV} (h : outF P rs c = some r) : Holds P (RetF P rs r) c := by
  unfold outF at h
  split at h
  · exact resF_v h
  · exact resF_v h
  · cases h
def pureX (P : Program) (F X : List Nat) (p : Lv) (R : Env) (h : Heap) (o : Oper) : Option AV := match o.op with
  | .call ⟨.value fo, xs, _⟩ => match evx R fo with
    | .fn f caps => match X.any (Nat.beq f) with
      | true => none
      | false => match closedL caps, argsP R h xs.toList with
        | true, some bs0 => match P.funcs[f]? with
          | some fn => match fn.body with
            | some code => if (fn.name == "runtime.NumGoroutine") = false ∧ Nat.ble (bs0 ++ caps).length fn.ntmps = true ∧ closedL (bs0 ++ caps) = true then
                fcAVs (bs0 ++ caps) fun bs =>
                match outF P fn.results.toList (runX P F p 1000000 (.code code [] ⟨argEnv 0 bs, [], 0, fn.ntmps⟩)) with
                | some r => fcAV r fun r => if r.closed = true ∧ (r.flat = true ∨ closedL (xs.toList.map (evx R)) = true) then some r else none
                | none => none
              else none
            | none => none
          | none => none
        | _, _ => none
    | _ => none
  | _ => none
theorem argsP_cl {R : Env} {h : Heap} : ∀ {xs : List Operand} {bs : List AV}, argsP R h xs = some bs → closedL (xs.map (evx R)) = true → bs = xs.map (evx R)
  | [], bs, hf, _ => by cases hf; rfl
  | x :: xs, bs, hf, hc => by
    unfold argsP at hf
    simp only [List.map_cons, closedL, Bool.and_eq_true] at hc
    split at hf
    · rename_i b bs' h1 h2
      cases hf
      rw [List.map_cons, argsP_cl h2 hc.2]
      congr 1
      unfold frzB at h1
      split at h1
      · rename_i he; rw [he] at hc; cases hc.1
      · rename_i cs he
        rw [Option.map_eq_some_iff] at h1
        obtain ⟨ds, h3, rfl⟩ := h1
        rw [he] at hc ⊢
        have : ∀ (cs ds : List AV), closedL cs = true → frzL h cs = some ds → ds = cs := by
          intro cs
          induction cs with
          | nil => intro ds _ hf; cases hf; rfl
          | cons a l ih =>
            intro ds hcl hf
            simp only [closedL, Bool.and_eq_true] at hcl
            unfold frzL at hf
            split at hf
            · rename_i b m h5 h6
              cases hf
              rw [ih m hcl.2 h6]
              congr 1
              split at h5
              · cases hcl.1
              · split at h5
                · cases h5; rfl
                · cases h5
            · cases hf
        rw [this cs ds hc.1 h3]
      · split at h1
        · cases h1; rfl
        · cases h1
    · cases hf
theorem pureX_s {F X : List Nat} {p : Lv} (hm : P.follows .mixedOrders = true) (hp : LvOk P p) : SpOk P (pureX P F X p) := by
  intro R h o v hr n
  unfold pureX at hr
  split at hr
  · rename_i fo xs ats ho
    split at hr
    · rename_i f caps hfo
      split at hr
      · cases hr
      · split at hr
        · rename_i bs0 hcaps hargs
          split at hr
          · rename_i fn hf
            split at hr
            · rename_i code hb
              split at hr
              · rename_i h1
                rw [fcAVs_eq] at hr
                split at hr
                · rename_i r hout
                  rw [fcAV_eq] at hr
                  split at hr
                  · rename_i h2
                    cases hr
                    have hfo' : Ev true R fo (.fn f caps) := by rw [← hfo]; exact evx_ev true R fo
                    have haro : ARO P f (bs0 ++ caps) v := ARO.mk0 hf hb h1.1 rfl h2.1 h1.2.2 (Nat.le_of_ble_eq_true h1.2.1) (runX_sound (F := F) (Q := RetF P fn.results.toList v) hm hp (outF_ret hout))
                    rcases h2.2 with h3 | h3
                    · exact sp_call ho hfo' hcaps (argsP_ev hargs) (fun _ => haro) h3
                    · refine sp_callS ho hfo' hcaps (argsCl_ev xs.toList h3) (fun _ => ?_)
                      rw [← argsP_cl hargs h3]; exact haro
                  · cases hr
                · cases hr
              · cases hr
            · cases hr
          · cases hr
        · cases hr
    · cases hr
  · cases hr
def TOk (P : Program) (T : List (FuncId × Bool)) : Prop := ∀ p ∈ T, ARO P p.1 [] (.r (.bool p.2))
def tabP (T : List (FuncId × Bool)) (R : Env) (o : Oper) : Option AV := match o.op with
  | .call ⟨.value fo, ⟨[]⟩, _⟩ => match evx R fo with
    | .fn f [] => match T.find? (fun p => Nat.beq p.1 f) with
      | some p => some (.r (.bool p.2))
      | none => none
    | _ => none
  | _ => none
theorem tabP_s {T : List (FuncId × Bool)} (hT : TOk P T) {R : Env} {h : Heap} {n : Nat} {o : Oper} {r : AV} (hr : tabP T R o = some r) : OpSpec P true o R h n r h n := by
  unfold tabP at hr
  split at hr
  · rename_i fo ats ho
    split at hr
    · rename_i f hfo
      split at hr
      · rename_i p hp
        cases hr
        have hm := List.mem_of_find?_eq_some hp
        have hf : p.1 = f := Nat.eq_of_beq_eq_true (by have := List.find?_some hp; exact this)
        have hfo' : Ev true R fo (.fn f []) := by rw [← hfo]; exact evx_ev true R fo
        have h0 := hT p hm
        rw [hf] at h0
        exact sp_call (caps := []) (bs := []) ho hfo' rfl trivial (fun _ => h0) rfl
      · cases hr
    · cases hr
  · cases hr
def lev (P : Program) (T : List (FuncId × Bool)) (F X : List Nat) : Nat → Lv
  | 0 => ⟨opBase P, fun _ _ _ => none⟩
  | l + 1 =>
    ⟨fun R h n o => match opBase P R h n o with
      | some r => some r
      | none => match tabP T R o with
        | some v => some (v, h, n)
        | none => match pureX P F X (lev P T F X l) R h o with
          | some v => some (v, h, n)
          | none => callX P F (lev P T F X l) R h n o,
     fun R h o => match tabP T R o with
      | some v => some v
      | none => pureX P F X (lev P T F X l) R h o⟩
theorem lev_ok {T : List (FuncId × Bool)} {F X : List Nat} (hm : P.follows .mixedOrders = true) (hT : TOk P T) : ∀ l : Nat, LvOk P (lev P T F X l)
  | 0 => ⟨opBase_ok, fun R h o v hr => by cases hr⟩
  | l + 1 => by
    have ih := lev_ok hm hT l (F := F) (X := X)
    refine ⟨fun R h n o r hr => ?_, fun R h o v hr n => ?_⟩
    · unfold lev at hr
      dsimp only at hr
      split at hr
      · rename_i r' hb; cases hr; exact opBase_ok R h n o _ hb
      · split at hr
        · rename_i v hb; cases hr; exact tabP_s hT hb
        · split at hr
          · rename_i v hb; cases hr; exact pureX_s hm ih _ _ _ _ hb _
          · exact callX_s hm ih hr
    · unfold lev at hr
      dsimp only at hr
      split at hr
      · rename_i v' hb; cases hr; exact tabP_s hT hb
      · exact pureX_s hm ih _ _ _ _ hr _
theorem ARO.runX {f : FuncId} {fn : Func} {code : Code} {N : Nat} {b : Bool} (T : List (FuncId × Bool)) (hT : TOk P T) (F X : List Nat) (l n : Nat) (hm : P.follows .mixedOrders = true) (hf : P.funcs[f]? = some fn) (hb : fn.body = some code) (hname : (fn.name == "runtime.NumGoroutine") = false) (hN : fn.ntmps = N)
    (hx : finB fn.results.toList (Al.runX P F (lev P T F X l) n (.code code [] ⟨[], [], 0, N⟩)) = some b) : ARO P f [] (.r (.bool b)) :=
  ARO.mk0 hf hb hname hN rfl rfl (Nat.zero_le _) (runX_sound (F := F) (Q := RetF P fn.results.toList (.r (.bool b))) hm (lev_ok hm hT l) (finB_ret hx))
end
end Go.Proofs.YtkefchjpggjibaaGreatDoor.Al


namespace Go.Proofs.YtkefchjpggjibaaGreatDoor.Al
open Go.Lib
theorem tab_rep {W : World} {g : Nat} {row : List RV} (h : ∀ j d, row[j]? = some d → ∃ v, W.cell? ⟨g, j, none⟩ = some v ∧ RRep W (· < W.heap.size) d v) : AVRep (Cx.start W) (.rop row 0) (.pointer (some ⟨g, 0, none⟩)) := by
  have hlt : row ≠ [] → g < W.heap.size := by
    intro hne
    obtain ⟨d, hd⟩ : ∃ d, row[0]? = some d := by
      cases row with
      | nil => exact absurd rfl hne
      | cons d r => exact ⟨d, rfl⟩
    obtain ⟨v, h1, _⟩ := h 0 d hd
    unfold World.cell? at h1
    rcases Nat.lt_or_ge g W.heap.size with h2 | h2
    · exact h2
    · rw [Array.getElem?_eq_none h2] at h1; cases h1
  exact AVRep.rop (x := Cx.start W) (row := row) (k := 0) (b := g) (off := 0) (fun j => (W.cell? ⟨g, j, none⟩).getD undef) hlt
    (fun j d hj => by obtain ⟨v, h1, _⟩ := h j d hj; rw [Nat.zero_add]; show W.cell? _ = _; rw [h1]; rfl)
    (fun j d hj => by obtain ⟨v, h1, h2⟩ := h j d hj; rw [h1]; exact h2)
theorem flat1_get {α β : Type} (f : α → β) : ∀ (l : List α) (j : Nat), (l.flatMap fun z => [f z])[j]? = (l[j]?).map f
  | [], j => by simp
  | x :: l, 0 => by simp
  | x :: l, j + 1 => by
    have := flat1_get f l j
    rw [List.flatMap_cons, List.singleton_append, List.getElem?_cons_succ, this, List.getElem?_cons_succ]
theorem flat2_get {α β : Type} (f g : α → β) : ∀ (l : List α) (j : Nat) (d : β), (l.flatMap fun z => [f z, g z])[j]? = some d → ∃ i a, l[i]? = some a ∧ ((j = 2 * i ∧ d = f a) ∨ (j = 2 * i + 1 ∧ d = g a))
  | [], j, d, h => by simp at h
  | x :: l, 0, d, h => by
    have : f x = d := by simpa using h
    exact ⟨0, x, rfl, .inl ⟨rfl, this.symm⟩⟩
  | x :: l, 1, d, h => by
    have : g x = d := by simpa using h
    exact ⟨0, x, rfl, .inr ⟨rfl, this.symm⟩⟩
  | x :: l, j + 2, d, h => by
    rw [List.flatMap_cons] at h
    have h' : (l.flatMap fun z => [f z, g z])[j]? = some d := by simpa using h
    obtain ⟨i, a, h1, h2⟩ := flat2_get f g l j d h'
    refine ⟨i + 1, a, by simpa using h1, ?_⟩
    rcases h2 with ⟨h2, h3⟩ | ⟨h2, h3⟩
    · exact .inl ⟨by omega, h3⟩
    · exact .inr ⟨by omega, h3⟩
theorem tabs_start {P : Program} {W : World} {d1 d2 : DataW Unit} {t1 t2 e1 e2 : TypeId} {fs : Array Field} (h1 : VarReads P W "unicode/utf8.first" d1) (hd1 : d1 = tabData .u8 tabFirst) (n1 : P.globalNamed "unicode/utf8.first" = some gFirst)
    (y1 : (P.globals[gFirst]?).map (·.type) = some t1) (u1 : P.underlying t1 = some (.array 256 e1)) (ue : P.underlying e1 = some (.int .u8)) (ce : P.cellsOf e1 = 1) (ct : P.cellsOf t1 = 256)
    (h2 : VarReads P W "unicode/utf8.acceptRanges" d2) (hd2 : d2 = .agg (tabAccept0.map fun p => .agg ([p.1, p.2].map fun z => .lit (.int .u8 z)))) (n2 : P.globalNamed "unicode/utf8.acceptRanges" = some gAccept)
    (y2 : (P.globals[gAccept]?).map (·.type) = some t2) (u2 : P.underlying t2 = some (.array 16 e2)) (us : P.underlying e2 = some (.struct fs)) (hfs : ∀ (i : Nat) (f : Field), fs[i]? = some f → P.underlying f.type = some (.int .u8) ∧ f.offset = i ∧ P.cellsOf f.type = 1)
    (hsz : fs.size = 2) (c2 : P.cellsOf e2 = 2) : TabsOk (Cx.start W) := by
  intro g row hg
  unfold theTabs at hg
  by_cases hF : g = gFirst
  · rw [if_pos hF] at hg
    cases hg
    subst hF
    obtain ⟨g, t, cs, fuel, p, hg, hty, hvar, hd⟩ := h1
    obtain rfl := Option.some.inj (n1.symm.trans hg)
    obtain rfl := Option.some.inj (y1.symm.trans hty)
    subst hd1
    have hcs := cells_of_tab u1 ue ce ct hd
    refine tab_rep fun j d hj => ?_
    rw [flat1_get, Option.map_eq_some_iff] at hj
    obtain ⟨z, hz, rfl⟩ := hj
    refine ⟨.int .u8 z, ?_, .int _ _⟩
    rw [World.var?_cell hg hvar j, ← Array.getElem?_toList, hcs, List.getElem?_map, hz]; rfl
  · rw [if_neg hF] at hg
    by_cases hA : g = gAccept
    · rw [if_pos hA] at hg
      cases hg
      subst hA
      obtain ⟨g, t, cs, fuel, p, hg, hty, hvar, hd⟩ := h2
      obtain rfl := Option.some.inj (n2.symm.trans hg)
      obtain rfl := Option.some.inj (y2.symm.trans hty)
      subst hd2
      refine tab_rep fun j d hj => ?_
      obtain ⟨i, a, hi, hja⟩ := flat2_get _ _ _ _ _ hj
      have hil : i < 16 := (List.getElem?_eq_some_iff.1 hi).1
      obtain ⟨fuel', d', q, hdi, he⟩ := array_elem u2 hd i hil
      rw [List.getElem?_map, hi] at hdi
      cases hdi
      rw [c2] at he
      have hcs := ints_of_struct us hfs (by rw [c2, hsz]) he
      have e0 := congrArg (·[0]?) hcs
      have e1 := congrArg (·[1]?) hcs
      simp only [List.getElem?_take, List.getElem?_drop] at e0 e1
      rcases hja with ⟨rfl, rfl⟩ | ⟨rfl, rfl⟩
      · refine ⟨.int .u8 a.1, ?_, .int _ _⟩
        rw [World.var?_cell hg hvar (2 * i), ← Array.getElem?_toList]
        simpa [Nat.mul_comm] using e0
      · refine ⟨.int .u8 a.2, ?_, .int _ _⟩
        rw [World.var?_cell hg hvar (2 * i + 1), ← Array.getElem?_toList]
        simpa [Nat.mul_comm] using e1
    · rw [if_neg hA] at hg; cases hg
end Go.Proofs.YtkefchjpggjibaaGreatDoor.Al

