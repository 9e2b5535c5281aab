/-
  Regions that draw their order, with floating moves and operations that make memory: the rules.
-/
import Derived.Test.YthhodpedkdapcaaAl31
import Derived.Test.YthhodpedkdapcaaAl28
namespace Go.Proofs.Ythhodpedkdapcaa.Al
section
variable {P : Program} {ops : Array Oper} {rest : List Oper} {s : St} {K : St → Prop} {o : Oper}

/-- Moves that may come up at any time. -/
def AFl (P : Program) (ops : Array Oper) (rest : List Oper) (s : St) (K : St → Prop) : Prop :=
  ∀ (y : Cx) (a : Act), y.ok → y.H = hget s.h → y.n = s.n → a.tmps.size = s.N → EnvOk y s.e a → ∀ Qa : Act → Prop,
    (∀ s' a', K s' → s'.h = s.h → s'.n = s.n → s'.N = s.N → a'.tmps.size = s.N → a'.defers = a.defers → EnvOk y s'.e a' → Qa a') → wpYld P ops (fun _ => True) Qa rest a
theorem AFl.nil (h : K s) : AFl P ops [] s K := fun _ a _ _ _ hN he _ hQ => hQ s a h rfl rfl rfl hN rfl he
theorem AFl.move {d : Nat} {x : Operand} (hg : o.guard = none) (ho : o.op = .move x) (hd : o.dst = some d) (hN : Nat.blt d s.N = true)
    (hr : AFl P ops rest { e := (d, evalOp s.e x) :: s.e, h := s.h, n := s.n, N := s.N } K) : AFl P ops (o :: rest) s K := by
  intro y a hok hH hn hsz he Qa hQ
  have hN' : d < a.tmps.size := by rw [hsz]; exact lt_of_blt hN
  refine ⟨a.eval x, .inl ⟨by simp [Region.wanted, hg], fun w _ => by unfold execOp; simp only [ho]; rfl⟩, ?_⟩
  rw [hd]
  exact hr y (a.put (some d) (a.eval x)) hok hH hn (by simpa [Act.put] using hsz) (he.put hN' (he.eval x)) Qa fun s' a' k1 k2 k3 k4 k5 k6 k7 => hQ s' a' k1 k2 k3 k4 k5 k6 k7

/-- Operations that only read. -/
def AF (P : Program) (ops : Array Oper) (rest : List Oper) (s : St) (K : St → Prop) : Prop :=
  ∀ (y : Cx) (a : Act), y.ok → y.H = hget s.h → y.n = s.n → a.tmps.size = s.N → EnvOk y s.e a → ∀ Qa : Act → Prop,
    (∀ s' a', K s' → s'.h = s.h → s'.n = s.n → s'.N = s.N → a'.tmps.size = s.N → a'.defers = a.defers → EnvOk y s'.e a' → Qa a') → wpYld P ops (Agree y) Qa rest a
theorem AF.nil (h : K s) : AF P ops [] s K := fun _ a _ _ _ hN he _ hQ => hQ s a h rfl rfl rfl hN rfl he
theorem AF.step {d : Nat} {v : AV} (hg : o.guard = none) (hd : o.dst = some d) (hN : Nat.blt d s.N = true) (hs : OpQ P true o s.e s.h v)
    (hr : AF P ops rest { e := (d, v) :: s.e, h := s.h, n := s.n, N := s.N } K) : AF P ops (o :: rest) s K := by
  intro y a hok hH hn hsz he Qa hQ
  obtain ⟨u, hrun, hv⟩ := hs rfl y a hok hH he
  have hN' : d < a.tmps.size := by rw [hsz]; exact lt_of_blt hN
  refine ⟨u, .inl ⟨by simp [Region.wanted, hg], hrun⟩, ?_⟩
  rw [hd]
  exact hr y (a.put (some d) u) hok hH hn (by simpa [Act.put] using hsz) (he.put hN' hv) Qa fun s' a' k1 k2 k3 k4 k5 k6 k7 => hQ s' a' k1 k2 k3 k4 k5 k6 k7
theorem AF.stepW {d : Nat} {c : Bool} {v : AV} (hG : GuardC s.e ops o c) (hd : o.dst = some d) (hN : Nat.blt d s.N = true) (hs : OpQ P c o s.e s.h v)
    (hr : AF P ops rest { e := (d, .whn c v) :: s.e, h := s.h, n := s.n, N := s.N } K) : AF P ops (o :: rest) s K := by
  intro y a hok hH hn hsz he Qa hQ
  have hN' : d < a.tmps.size := by rw [hsz]; exact lt_of_blt hN
  cases hc : c with
  | true =>
    subst hc
    obtain ⟨u, hrun, hv⟩ := hs rfl y a hok hH he
    refine ⟨u, .inl ⟨hG.wanted he, hrun⟩, ?_⟩
    rw [hd]
    exact hr y (a.put (some d) u) hok hH hn (by simpa [Act.put] using hsz) (he.put hN' (.whn (fun _ => hv) (fun h => by cases h))) Qa fun s' a' k1 k2 k3 k4 k5 k6 k7 => hQ s' a' k1 k2 k3 k4 k5 k6 k7
  | false =>
    subst hc
    refine ⟨undef, .inr ⟨hG.wanted he, rfl⟩, ?_⟩
    rw [hd]
    exact hr y (a.put (some d) undef) hok hH hn (by simpa [Act.put] using hsz) (he.put hN' (.whn (fun h => by cases h) (fun _ => rfl))) Qa fun s' a' k1 k2 k3 k4 k5 k6 k7 => hQ s' a' k1 k2 k3 k4 k5 k6 k7

/-- An operation that makes memory: the blocks that were there are as they were. -/
def OpSpecA (P : Program) (o : Oper) (R : Env) (h : Heap) (n : Nat) (v : AV) (h' : Heap) (n' : Nat) : Prop :=
  ∀ (x : Cx) (a : Act), x.ok → x.H = hget h → x.n = n → EnvOk x R a → ∀ (K : Act → World → Prop) (Q : Exit → Act → World → Prop),
    (∀ (u : Value) (y : Cx), x.le y → y.ok → y.H = hget h' → y.n = n' → AVRep y v u → (∀ b, b < x.w.heap.size → y.w.heap[b]? = x.w.heap[b]?) → K (a.put o.dst u) y.w) → o.wp P a x.w K Q
def AA (P : Program) (ops : Array Oper) (rest : List Oper) (s : St) (K : St → Prop) : Prop :=
  ∀ (y0 y : Cx) (a : Act), y0.ok → y0.le y → Agree y0 y.w → y.ok → y.H = hget s.h → y.n = s.n → a.tmps.size = s.N → EnvOk y s.e a → ∀ (Q : Exit → Act → World → Prop) (Qa : Act → World → Prop),
    (∀ s' a' y', K s' → y0.le y' → y'.ok → y'.H = hget s'.h → y'.n = s'.n → s'.N = s.N → a'.tmps.size = s.N → a'.defers = a.defers → EnvOk y' s'.e a' → Qa a' y'.w) → wpAlone P ops Q (Agree y0) Qa rest a y.w
theorem AA.nil (h : K s) : AA P ops [] s K := fun _ y a _ hle _ hok hH hn hN he _ _ hQ => hQ s a y h hle hok hH hn rfl hN rfl he
theorem AA.step {d : Nat} {v : AV} {h' : Heap} {n' : Nat} (hg : o.guard = none) (hd : o.dst = some d) (hN : Nat.blt d s.N = true) (hs : OpSpecA P o s.e s.h s.n v h' n')
    (hr : AA P ops rest { e := (d, v) :: s.e, h := h', n := n', N := s.N } K) : AA P ops (o :: rest) s K := by
  intro y0 y a hok0 hle hag hok hH hn hsz he Q Qa hQ
  have hN' : d < a.tmps.size := by rw [hsz]; exact lt_of_blt hN
  refine ⟨hg, hs y a hok hH hn he _ _ fun u y' k1 k2 k3 k4 k5 k6 => ?_⟩
  have hag' : Agree y0 y'.w := by
    intro b hb
    have hlt : b < y0.w.heap.size := by
      rcases hb with hb | ⟨id, o, k, h1, h2⟩
      · exact hok0.S_lt b hb
      · exact (hok0.own id o b k h1 h2).1
    rw [k6 b (Nat.lt_of_lt_of_le hlt hle.size)]
    exact hag b hb
  refine ⟨hag', ?_⟩
  rw [hd]
  exact hr y0 y' (a.put (some d) u) hok0 (hle.trans k1) hag' k2 k3 k4 (by simpa [Act.put] using hsz) ((he.mono k1).put hN' k5) Q Qa fun s' a' y' j1 j2 j3 j4 j5 j6 j7 j8 => hQ s' a' y' j1 j2 j3 j4 j5 j6 j7 j8

def regB (ops : Array Oper) (fl hq al : List Nat) (n : Nat) : Bool :=
  let r0 := Array.replicate ops.size false
  let l0 := setAll r0 fl
  let l1 := setAll l0 hq
  let l2 := setAll l1 al
  Region.noSelect ops && decide (n < ops.size) && sink0 .any ops n l0 && Region.chainB .any ops n && takeB .any ops fl r0 && takeB .any ops hq l0 && soleB .any ops al l1
    && Region.seqB .any ops (ops.size - n) n l2 && decide (fl.length + hq.length + al.length = n) && (hq.all fun i => decide (i < n)) && ((List.range ops.size).all fun t => decide (t < n) || !l0.getD t true)
theorem setAll_size (is : List Nat) (l : Array Bool) : (setAll l is).size = l.size := by
  induction is generalizing l with
  | nil => rfl
  | cons i is ih => show (setAll (l.setIfInBounds i true) is).size = _; rw [ih]; simp
theorem agree_refl (y : Cx) : Agree y y.w := fun _ _ => rfl

theorem AW.regionF {id : Nat} {l : List Oper} {Q : Exit → St → Prop} (fl hq al : List Nat) (n : Nat) {lf lh la lt : List Oper} (hm : P.follows .mixedOrders = true) (hB : regB l.toArray fl hq al n = true)
    (e1 : fl.map (fun i => l.toArray[i]?) = lf.map some) (e2 : hq.map (fun i => l.toArray[i]?) = lh.map some) (e3 : al.map (fun i => l.toArray[i]?) = la.map some) (e4 : l.drop n = lt)
    (h : AFl P l.toArray lf s fun s1 => AF P l.toArray lh s1 fun s2 => AA P l.toArray la s2 fun s3 => AOps P l.toArray lt s3 (Q .normal)) : AW P (.region id l.toArray true) Q s := by
  intro c0 a w ⟨hdef, hsz, y, hyw, hle, hok, hH, hn, he⟩
  subst hyw
  obtain ⟨r1, r2⟩ := Cx.redraw hok
  simp only [regB, Bool.and_eq_true, decide_eq_true_eq] at hB
  obtain ⟨⟨⟨⟨⟨⟨⟨⟨⟨⟨b1, b2⟩, b3⟩, b4⟩, b5⟩, b6⟩, b7⟩, b8⟩, b9⟩, b10⟩, b11⟩ := hB
  refine wp_mono (Q := fun e a' w' => e = .normal ∧ ∃ s', Q .normal s' ∧ Sim c0 s' a' w') ?_ fun e a' w' ⟨k1, k2⟩ => by subst k1; exact k2
  refine wp_region_any hm ?_
  have hQ : NoPanic (fun (e : Exit) (a' : Act) (w' : World) => e = .normal ∧ ∃ s', Q .normal s' ∧ Sim c0 s' a' w') := fun c a w h => by cases h.1
  generalize hz : ({ y with w := { y.w with drawn := y.w.drawn + 1 } } : Cx) = z at r1 r2
  have hzw : z.w = { y.w with drawn := y.w.drawn + 1 } := by rw [← hz]
  have hzH : z.H = hget s.h := by rw [← hz]; exact hH
  have hzn : z.n = s.n := by rw [← hz]; exact hn
  rw [← hzw]
  have hsize : l.toArray.size = (l.toArray.size - n) + al.length + hq.length + fl.length := by omega
  have goal := wpAny_floats (P := P) (md := .any) (f := (l.toArray.size - n) + al.length + hq.length) b1 hQ fl lf (Array.replicate l.toArray.size false) a z.w e1 b5
    (h z a r2 hzH hzn hsz (he.mono r1) _ fun s1 a1 k1 k2 k3 k4 k5 k6 k7 => by
      rw [show l.toArray.size - n + al.length + hq.length = (al.length + hq.length) + (l.toArray.size - n) by omega]
      refine wpAny_of_M (S := Agree z) (L := fun listed a' w' => listed = setAll (setAll (setAll (Array.replicate l.toArray.size false) fl) hq) al ∧ wpList P l.toArray (fun e a' w' => e = .normal ∧ ∃ s', Q .normal s' ∧ Sim c0 s' a' w') lt a' w') (fun listed a' w' ⟨q1, q2⟩ => ?_) _ _ _ _ ?_
      · subst q1; subst e4
        have hdl : (l.drop n).length = l.toArray.size - n := by simp
        have := wpAny_of_seq (md := .any) (l.drop n) n _ a' w' (fun j => by simp [List.getElem?_drop]) (by rw [hdl]; exact b8) q2
        rwa [hdl] at this
      · refine wpAnyM_quiet (n := n) (l0 := setAll (Array.replicate l.toArray.size false) fl) b1 hQ b3 b4 b2 (fun listed a' w' ⟨q1, _⟩ j hj => by subst q1; exact seqB_ready b8 j hj) (agree_refl z) hq lh _ a1 e2 b6
          (fun i hi => by simpa using (List.all_eq_true.1 b10 i hi)) ⟨by rw [setAll_size]; simp, fun j oj _ hl => .inl hl, fun t ht htl => ?_, fun _ h => h⟩ ?_
        · have := List.all_eq_true.1 b11 t (List.mem_range.2 htl)
          simp only [Bool.or_eq_true, decide_eq_true_eq, Bool.not_eq_true'] at this
          rcases this with h | h
          · omega
          · exact h
        · refine k1 z a1 r2 (by rw [k2]; exact hzH) (by rw [k3]; exact hzn) (by rw [k4, k5]) k7 _ fun s2 a2 m1 m2 m3 m4 m5 m6 m7 => ?_
          refine wpAnyM_alone (n := n) (l0 := setAll (Array.replicate l.toArray.size false) fl) al la _ a2 z.w e3 b7 ?_
          refine m1 z z a2 r2 (.refl z) (agree_refl z) r2 (by rw [m2, k2]; exact hzH) (by rw [m3, k3]; exact hzn) (by rw [m4, m5]) m7 _ _ fun s3 a3 y3 t1 t2 t3 t4 t5 t6 t7 t8 t9 => ⟨rfl, ?_⟩
          exact t1 c0 a3 y3.w ⟨t8.trans (m6.trans (k6.trans hdef)), by rw [t7, t6], y3, rfl, (hle.trans r1).trans t2, t3, t4, t5, t9⟩ _ fun s'' a'' w'' j1 j2 => ⟨rfl, s'', j1, j2⟩)
  have e : l.toArray.size - n + al.length + hq.length + fl.length = l.toArray.size := by omega
  rw [e] at goal
  exact goal
end
end Go.Proofs.Ythhodpedkdapcaa.Al
