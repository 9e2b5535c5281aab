/-
  The call by a contract with an effect; such a contract from a body's walk.
-/
import Derived.Test.YthhodpedkdapcaaAl17
namespace Go.Proofs.Ythhodpedkdapcaa.Al
section
variable {P : Program} {ops : Array Oper} {rest : List Oper} {s : St} {K : St → Prop} {o : Oper}

/-- The operands of such a call, under the callee's names. -/
def ArgsRn (R : Env) (L : List Nat) : List Operand → List AV → Prop
  | [], [] => True
  | x :: xs, b :: bs => ((Ev true R x (ren L b) ∧ b.canon L.length = true) ∨ (Ev true R x (.cst (.slice none 0 0)) ∧ b = .r (.sl []))) ∧ ArgsRn R L xs bs
  | _, _ => False
theorem ArgsRn.get {R : Env} {L : List Nat} {xs : List Operand} {bs : List AV} (hx : ArgsRn R L xs bs) :
    xs.length = bs.length ∧ ∀ (i : Nat) (b : AV), bs[i]? = some b → ∃ x, xs[i]? = some x ∧ ((Ev true R x (ren L b) ∧ b.canon L.length = true) ∨ (Ev true R x (.cst (.slice none 0 0)) ∧ b = .r (.sl []))) := by
  induction xs generalizing bs with
  | nil => cases bs with | nil => exact ⟨rfl, by simp⟩ | cons _ _ => exact hx.elim
  | cons x l ih =>
    cases bs with
    | nil => exact hx.elim
    | cons b m =>
      obtain ⟨h1, h2⟩ := ih hx.2
      refine ⟨by simp [h1], fun i c hi => ?_⟩
      cases i with
      | zero => simp at hi; subst hi; exact ⟨x, rfl, hx.1⟩
      | succ i => simpa using h2 i c (by simpa using hi)

theorem wp_callH {f : FuncId} {fo : Operand} {xs : Array Operand} {ats : Array TypeId} {caps bs : List AV} {L : List Nat} {hc : Heap} {Post : AV → Heap → Prop} {R : Env} {h : Heap} {a : Act} {z : Cx}
    (ho : o.op = .call { callee := .value fo, args := xs, argTypes := ats }) (hfo : Ev true R fo (.fn f (renL L caps))) (hcc : canonL L.length caps = true) (hx : ArgsRn R L xs.toList bs) (hsh : Shares h L hc) (hnd : L.Nodup)
    (hcon : AHC P f L.length (bs ++ caps) hc Post) (hok : z.ok) (hH : z.H = hget h) (he : EnvOk z R a) (K : Act → World → Prop) (Q : Exit → Act → World → Prop)
    (hK : ∀ (u : Value) (y : Cx) (r : AV) (h' : Heap), z.le y → y.ok → y.H = hget (backH L h' 1000 L ++ h) → AVRep y (ren L r) u → Post r h' → K (a.put o.dst u) y.w) : o.wp P a z.w K Q := by
  obtain ⟨hcall, hcon⟩ := hcon
  obtain ⟨hlen, hget'⟩ := hx.get
  have hv := hfo.rep he rfl
  generalize hfv : a.eval fo = v at hv
  cases hv with
  | @fn _ _ us hl hall =>
    have hrun := run_callV hcall ho hfv z.w
    rw [renL_length] at hl
    have hin : ∀ {b : AV} {u : Value}, AVRep z (ren L b) u → b.canon L.length = true → AVRep (z.view L hc) b u := fun {b u} h1 h2 => ren_in (x := z) (y := z.view L hc) (L := L) (k := L.length) rfl (fun _ h => h) (Nat.le_refl _) (view_same hH hsh) h1 b rfl h2
    have hargs : ArgsRep (z.view L hc) (bs ++ caps) (xs.map a.eval ++ us).toList := by
      refine ⟨by simp [hl]; simpa using hlen, fun i b u h1 h2 => ?_⟩
      have h2' : ((xs.toList.map a.eval) ++ us.toList)[i]? = some u := by simpa using h2
      by_cases hi : i < bs.length
      · rw [List.getElem?_append_left hi] at h1
        obtain ⟨x, k1, k2⟩ := hget' i b h1
        rw [List.getElem?_append_left (by simp at hlen ⊢; omega), List.getElem?_map, k1] at h2'
        simp only [Option.map_some, Option.some.injEq] at h2'
        subst h2'
        rcases k2 with ⟨k2, k3⟩ | ⟨k2, rfl⟩
        · exact hin (k2.rep he rfl) k3
        · have := k2.rep he rfl
          generalize a.eval x = v at this ⊢
          cases this; exact .r .snil
      · rw [List.getElem?_append_right (by omega)] at h1
        rw [List.getElem?_append_right (by simp at hlen ⊢; omega)] at h2'
        have hxl : (xs.toList.map a.eval).length = bs.length := by simpa using hlen
        rw [hxl] at h2'
        exact hin (hall _ (ren L b) u (by rw [renL_get, h1]; rfl) (by simpa using h2')) (canonL_get hcc h1)
    unfold Oper.wp
    rw [hrun]
    refine (hcon (z.view L hc) _ (view_ok hok hH hsh hnd) rfl hargs).mono fun e w' ⟨u, y, r, h', he', hyw, hle, hyok, hyH, hyr, hrc, hhc, hpost⟩ => ?_
    subst he'
    subst hyw
    obtain ⟨k1, k2⟩ := back_spec hok hH hsh hnd hle hyok hyH hhc
    exact hK u (z.back y L h' h) r h' k1 k2 rfl (ren_out (x := y) (y := z.back y L h' h) (L := L) (k := L.length) rfl (fun _ h => h) (Nat.le_refl _) (back_same hnd hyH) hyr hrc) hpost

/-- A CALL BY A CONTRACT WITH AN EFFECT. -/
theorem AOps.stepH {d : Nat} {f : FuncId} {fo : Operand} {xs : Array Operand} {ats : Array TypeId} {caps bs : List AV} (L : List Nat) {hc : Heap} {Post : AV → Heap → Prop} (hg : o.guard = none) (hd : o.dst = some d) (hN : Nat.blt d s.N = true)
    (ho : o.op = .call { callee := .value fo, args := xs, argTypes := ats }) (hfo : Ev true s.e fo (.fn f (renL L caps))) (hcc : canonL L.length caps = true) (hx : ArgsRn s.e L xs.toList bs) (hsh : Shares s.h L hc) (hnd : L.Nodup)
    (hcon : AHC P f L.length (bs ++ caps) hc Post)
    (hr : ∀ r h' n', Post r h' → AOps P ops rest { e := (d, ren L r) :: s.e, h := backH L h' 1000 L ++ s.h, n := n', N := s.N } K) : AOps P ops (o :: rest) s K := by
  intro c0 a w ⟨hdef, hsz, y, hyw, hle, hok, hH, hn, he⟩ Q hQ
  subst hyw
  refine wpList_plain hg fun K' hK' => ?_
  refine wp_callH ho hfo hcc hx hsh hnd hcon hok hH he K' Q fun u z r h' hyz hzok hzH hzv hpost => ?_
  refine hK' _ _ ?_
  have hN' : d < a.tmps.size := by rw [hsz]; exact lt_of_blt hN
  rw [hd]
  exact hr r h' z.n hpost c0 (a.put (some d) u) z.w ⟨hdef, by simpa [Act.put] using hsz, z, rfl, hle.trans hyz, hzok, hzH, rfl, (he.mono hyz).put hN' hzv⟩ Q hQ
theorem AOps.stepH0 {f : FuncId} {fo : Operand} {xs : Array Operand} {ats : Array TypeId} {caps bs : List AV} (L : List Nat) {hc : Heap} {Post : AV → Heap → Prop} (hg : o.guard = none) (hd : o.dst = none)
    (ho : o.op = .call { callee := .value fo, args := xs, argTypes := ats }) (hfo : Ev true s.e fo (.fn f (renL L caps))) (hcc : canonL L.length caps = true) (hx : ArgsRn s.e L xs.toList bs) (hsh : Shares s.h L hc) (hnd : L.Nodup)
    (hcon : AHC P f L.length (bs ++ caps) hc Post)
    (hr : ∀ r h' n', Post r h' → AOps P ops rest { e := s.e, h := backH L h' 1000 L ++ s.h, n := n', N := s.N } K) : AOps P ops (o :: rest) s K := by
  intro c0 a w ⟨hdef, hsz, y, hyw, hle, hok, hH, hn, he⟩ Q hQ
  subst hyw
  refine wpList_plain hg fun K' hK' => ?_
  refine wp_callH ho hfo hcc hx hsh hnd hcon hok hH he K' Q fun u z r h' hyz hzok hzH hzv hpost => ?_
  refine hK' _ _ ?_
  rw [hd]
  exact hr r h' z.n hpost c0 _ _ ⟨hdef, hsz, z, rfl, hle.trans hyz, hzok, hzH, rfl, he.mono hyz⟩ Q hQ

/-! A contract with an effect from a body's walk. -/
/-- What a result variable holds (a variable that a closure captures lies in a box). -/
def ResV (P : Program) : ResultVar → St → AV → Prop
  | .tmp t, s, r => get s.e t = r
  | .cell a t, s, r => ScalTy P t ∧ ∃ id g e, get s.e a = .ptr id g 0 0 ∧ hget s.h id = some (.box g e [r])
def ResVs (P : Program) : List ResultVar → St → List AV → Prop
  | [], _, [] => True
  | x :: l, s, r :: rs => ResV P x s r ∧ ResVs P l s rs
  | _, _, _ => False
def ResAll (P : Program) (rs : List ResultVar) (s : St) (r : AV) : Prop := match rs with
  | [x] => ResV P x s r
  | _ => ∃ l, r = .tup l ∧ ResVs P rs s l
def RetH (P : Program) (rs : List ResultVar) (k : Nat) (Post : AV → Heap → Prop) : Exit → St → Prop
  | .normal, s | .ret, s => ∃ r h', ResAll P rs s r ∧ WkH h' s.h ∧ r.canon k = true ∧ canonH k h' = true ∧ Post r h'
  | _, _ => False

def resGet (tmps : Array Value) : ResultVar → Sem Value
  | .tmp t => pure (tmps.getD t undef)
  | .cell a t => do loadVar t (← asAddr (tmps.getD a undef))
theorem run_resultsH {fn : Func} {tmps : Array Value} {w : World} (us : List Value) (ht : ∀ (i : Nat) (x : ResultVar), fn.results[i]? = some x → ∃ u, us[i]? = some u ∧ (resGet tmps x).run P w = .ok u w) (hl : us.length = fn.results.size) :
    (results fn tmps).run P w = .ok (if h : us.toArray.size = 1 then us.toArray[0] else .tuple us.toArray) w := by
  have key : ∀ (rs : List ResultVar) (us : List Value), us.length = rs.length → (∀ (i : Nat) (x : ResultVar), rs[i]? = some x → ∃ u, us[i]? = some u ∧ (resGet tmps x).run P w = .ok u w) →
      (rs.mapM (m := Sem) (resGet tmps)).run P w = .ok us w := by
    intro rs
    induction rs with
    | nil => intro us hl _; simp at hl; subst hl; rfl
    | cons x rs ih =>
      intro us hl ht
      cases us with
      | nil => simp at hl
      | cons u us =>
        obtain ⟨u', h2, h4⟩ := ht 0 x rfl
        simp at h2
        subst h2
        have h3 := ih us (by simpa using hl) (fun i y hy => by simpa using ht (i + 1) y (by simpa using hy))
        simp only [List.mapM_cons, Sem.run_bind, Sem.run_pure, Result.andThen_ok, h3, h4]
  have h1 := key fn.results.toList us (by simpa using hl) (fun i x hx => ht i x (by simpa using hx))
  have h2 : (results fn tmps) = (do
      let vs ← fn.results.mapM (m := Sem) (resGet tmps)
      pure (if h : vs.size = 1 then vs[0] else .tuple vs)) := by
    unfold results
    congr 1
  rw [h2, ← Array.toArray_toList (xs := fn.results), List.mapM_toArray]
  simp only [Sem.run_bind, Sem.run_map, h1]
  rfl

theorem ResV.rep {y : Cx} (hok : y.ok) {s : St} (hH : y.H = hget s.h) {a : Act} (he : EnvOk y s.e a) {x : ResultVar} {r : AV} (hr : ResV P x s r) : ∃ u, AVRep y r u ∧ (resGet a.tmps x).run P y.w = .ok u y.w := by
  cases x with
  | tmp t => exact ⟨_, by have := he t; rwa [show get s.e t = r from hr] at this, rfl⟩
  | cell c t =>
    obtain ⟨ht, id, g, e, h1, h2⟩ := hr
    have hHid : y.H id = some (.box g e [r]) := by rw [hH]; exact h2
    have h0 := he c
    rw [h1] at h0
    obtain ⟨b, cur, k1, k2, k3, k4, k5⟩ := rep_box hok hHid h0
    obtain ⟨u, h6, _, h7⟩ := k5 0 r rfl
    refine ⟨u, h7, ?_⟩
    obtain ⟨d, i, e1, e2, _, _⟩ := ht
    have hcell := (cell_of_row _ b 0 cur e _ k3).trans h6
    simp only [resGet, k2]
    simp [asAddr, loadVar, run_isAgg e1, e2, hcell]
theorem ResVs.get {rs : List ResultVar} {s : St} {l : List AV} (h : ResVs P rs s l) : rs.length = l.length ∧ ∀ (i : Nat) (x : ResultVar), rs[i]? = some x → ∃ r, l[i]? = some r ∧ ResV P x s r := by
  induction rs generalizing l with
  | nil => cases l with | nil => exact ⟨rfl, by simp⟩ | cons _ _ => exact h.elim
  | cons x rs ih =>
    cases l with
    | nil => exact h.elim
    | cons r l =>
      obtain ⟨h1, h2⟩ := ih h.2
      refine ⟨by simp [h1], fun i y hi => ?_⟩
      cases i with
      | zero => simp at hi; subst hi; exact ⟨r, rfl, h.1⟩
      | succ i => simpa using h2 i y (by simpa using hi)

theorem res_body {fn : Func} {y : Cx} {s : St} {a : Act} {r : AV} (hok : y.ok) (hH : y.H = hget s.h) (he : EnvOk y s.e a) (hq : ResAll P fn.results.toList s r) : ∃ u, (results fn a.tmps).run P y.w = .ok u y.w ∧ AVRep y r u := by
  by_cases h1 : fn.results.toList.length = 1
  · obtain ⟨x0, hx0⟩ := List.length_eq_one_iff.1 h1
    rw [hx0] at hq
    obtain ⟨u, hr, hrun0⟩ := ResV.rep (P := P) hok hH he (show ResV P x0 s r from hq)
    have hrun := run_resultsH (P := P) (fn := fn) (tmps := a.tmps) (w := y.w) [u] (fun i x hi => by
      have hi' : fn.results.toList[i]? = some x := by simpa using hi
      rw [hx0] at hi'
      cases i with
      | zero => simp at hi'; subst hi'; exact ⟨u, rfl, hrun0⟩
      | succ i => simp at hi') (by rw [← Array.length_toList, h1]; rfl)
    exact ⟨_, hrun, hr⟩
  · have hq' : ∃ l, r = .tup l ∧ ResVs P fn.results.toList s l := by
      revert hq h1
      generalize fn.results.toList = rs
      intro hq h1
      match rs, h1, hq with
      | [], _, hq => exact hq
      | [_], h1, _ => exact absurd rfl h1
      | _ :: _ :: _, _, hq => exact hq
    obtain ⟨l, rfl, hall⟩ := hq'
    obtain ⟨hl, hg⟩ := hall.get
    have hread : ∀ i, i < l.length → ∃ u, ∀ x r, fn.results.toList[i]? = some x → l[i]? = some r → AVRep y r u ∧ (resGet a.tmps x).run P y.w = .ok u y.w := by
      intro i hi
      have hi2 : i < fn.results.toList.length := by omega
      obtain ⟨r, h2, h3⟩ := hg i _ (List.getElem?_eq_getElem hi2)
      obtain ⟨u, h4, h5⟩ := ResV.rep hok hH he h3
      refine ⟨u, fun x r' k1 k2 => ?_⟩
      rw [List.getElem?_eq_getElem hi2] at k1; cases k1
      rw [h2] at k2; cases k2
      exact ⟨h4, h5⟩
    obtain ⟨us, hul, hut⟩ := choose_list l.length hread
    have hsz : us.length = fn.results.size := by rw [hul, ← hl, Array.length_toList]
    have hrun := run_resultsH (P := P) (fn := fn) (tmps := a.tmps) (w := y.w) us (fun i x hi => by
      have hi' : fn.results.toList[i]? = some x := by simpa using hi
      obtain ⟨r, h2, _⟩ := hg i x hi'
      have hil : i < us.length := by rw [hul]; exact (List.getElem?_eq_some_iff.1 h2).1
      exact ⟨us[i], List.getElem?_eq_getElem hil, (hut i _ (List.getElem?_eq_getElem hil) x r hi' h2).2⟩) hsz
    have hne : ¬ us.toArray.size = 1 := by
      rw [List.size_toArray, hsz]
      exact fun e => h1 (by rw [Array.length_toList]; exact e)
    rw [dif_neg hne] at hrun
    refine ⟨_, hrun, .tup (by rw [List.size_toArray, hul]) fun i c u k1 k2 => ?_⟩
    have k3 : us[i]? = some u := by simpa using k2
    have hil : i < fn.results.toList.length := by rw [hl]; exact (List.getElem?_eq_some_iff.1 k1).1
    exact (hut i u k3 _ c (List.getElem?_eq_getElem hil) k1).1

/-- THE CONTRACT WITH AN EFFECT, FROM THE BODY's WALK. -/
theorem AHC.mk {f : FuncId} {fn : Func} {code : Code} {args : List AV} {k N : Nat} {hc : Heap} {Post : AV → Heap → Prop} (hf : P.funcs[f]? = some fn) (hb : fn.body = some code) (hname : (fn.name == "runtime.NumGoroutine") = false) (hN : fn.ntmps = N)
    (hlen : args.length ≤ N) (hw : ∀ n0, AW P code (RetH P fn.results.toList k Post) ⟨argEnv 0 args, hc, n0, N⟩) : AHC P f k args hc Post := by
  refine ⟨⟨fn, hf, by rw [hb]; rfl, hname⟩, fun x vs hok hH hargs => ?_⟩
  have hvl : vs.size = args.length := by simpa using hargs.1
  refine calls_of_wp hf hb ?_
  have hsim : Sim x ⟨argEnv 0 args, hc, x.n, N⟩ { tmps := vs ++ Array.replicate (fn.ntmps - vs.size) undef, defers := [] } x.w := by
    refine ⟨rfl, by simp; omega, x, rfl, .refl x, hok, hH, rfl, fun t => ?_⟩
    rcases argEnv_get args 0 t with h1 | ⟨j, a, h1, h2, h3⟩
    · rw [h1]; exact .any _
    · rw [h3]
      have hj : j < vs.size := by rw [hvl]; exact (List.getElem?_eq_some_iff.1 h2).1
      have ht : t = j := by omega
      subst ht
      have : (vs ++ Array.replicate (fn.ntmps - vs.size) undef).getD t undef = vs[t] := by
        simp [Array.getD, hj]
        omega
      rw [this]
      exact hargs.2 t a vs[t] h2 (by simp [hj])
  have fin : ∀ {e : Exit} {a : Act} {w : World} {s : St}, (∃ r h', ResAll P fn.results.toList s r ∧ WkH h' s.h ∧ r.canon k = true ∧ canonH k h' = true ∧ Post r h') → Sim x s a w →
      a.defers = [] ∧ ∃ u, (results fn a.tmps).run P w = .ok u w ∧ ∃ u' y r h', Ending.returned u = .returned u' ∧ y.w = w ∧ x.le y ∧ y.ok ∧ y.H = hget h' ∧ AVRep y r u' ∧ r.canon k = true ∧ canonH k h' = true ∧ Post r h' := by
    intro e a w s ⟨r, h', h1, h2, h3, h4, h5⟩ ⟨hdef, _, y, hyw, hle, hok', hH', _, he⟩
    subst hyw
    obtain ⟨u, hrun, hu⟩ := res_body (P := P) hok' hH' he h1
    have hsub : ∀ id o, hget h' id = some o → y.H id = some o := by
      intro id o ho
      rw [hH']
      rcases h2.get id with e1 | e1
      · rw [e1] at ho; cases ho
      · rw [← e1]; exact ho
    obtain ⟨k1, k2⟩ := Cx.forget hok' (hget h') hsub y.n (Nat.le_refl _)
    exact ⟨hdef, u, hrun, u, { y with H := hget h', n := y.n }, r, h', rfl, rfl, hle.trans k1, k2, rfl, hu.mono k1, h3, h4, h5⟩
  refine wp_mono (hw x.n x _ _ hsim) fun e a w ⟨s, hq, hs⟩ => ?_
  cases e with
  | normal => exact fin (e := .normal) hq hs
  | ret => exact fin (e := .ret) hq hs
  | exit id => exact hq.elim
  | goto l => exact hq.elim
  | panic ch => exact hq.elim
  | outgrown => exact hq.elim
end
end Go.Proofs.Ythhodpedkdapcaa.Al
