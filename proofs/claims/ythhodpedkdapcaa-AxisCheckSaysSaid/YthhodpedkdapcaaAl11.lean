/-
  A contract from a body's walk; struct literals; parts of structs.
-/
import Derived.Test.YthhodpedkdapcaaAl10
namespace Go.Proofs.Ythhodpedkdapcaa.Al
section
variable {P : Program} {c : Bool} {o : Oper} {R : Env} {h : Heap} {n : Nat}

theorem RetOne.rep {y : Cx} (hok : y.ok) {s : St} (hH : y.H = hget s.h) {a : Act} (he : EnvOk y s.e a) {x : ResultVar} {r : AV} (hr : RetOne x s r) : ∃ t, x = .tmp t ∧ AVRep y.frozen r (a.tmps.getD t undef) := by
  cases x with
  | tmp t => exact ⟨t, rfl, Fz.rep hok hH hr (he t)⟩
  | cell _ _ => exact hr.elim

theorem RetAll.get {rs : List ResultVar} {s : St} {l : List AV} (h : RetAll rs s l) : rs.length = l.length ∧ ∀ (i : Nat) (x : ResultVar), rs[i]? = some x → ∃ r, l[i]? = some r ∧ RetOne x s r := by
  induction rs generalizing l with
  | nil => cases l with | nil => exact ⟨rfl, by simp⟩ | cons _ _ => exact h.elim
  | cons x rs ih =>
    cases l with
    | nil => exact h.elim
    | cons r l =>
      obtain ⟨h1, h2⟩ := ih h.2
      refine ⟨by simp [h1], fun i y hi => ?_⟩
      cases i with
      | zero => simp at hi; subst hi; exact ⟨r, rfl, h.1⟩
      | succ i => simpa using h2 i y (by simpa using hi)

theorem ret_body {fn : Func} {x y : Cx} {s : St} {a : Act} {r : AV} (hle : x.le y) (hok : y.ok) (hH : y.H = hget s.h) (he : EnvOk y s.e a) (hq : RetQ fn.results.toList r .ret s) :
    ∃ u, (results fn a.tmps).run P y.w = .ok u y.w ∧ ∃ z, z.w = y.w ∧ x.le z ∧ z.ok ∧ AVRep z r u := by
  have hz : x.le y.frozen ∧ y.frozen.ok := ⟨hle.trans Cx.frozen_le, Cx.frozen_ok hok⟩
  by_cases h1 : fn.results.toList.length = 1
  · obtain ⟨x0, hx0⟩ := List.length_eq_one_iff.1 h1
    rw [hx0] at hq
    obtain ⟨t, rfl, hr⟩ := RetOne.rep hok hH he hq
    have hrun := run_results (P := P) (fn := fn) (tmps := a.tmps) (w := y.w) [a.tmps.getD t undef] (fun i x hi => by
      have hi' : fn.results.toList[i]? = some x := by simpa using hi
      rw [hx0] at hi'
      cases i with
      | zero => simp at hi'; subst hi'; exact ⟨t, rfl, rfl⟩
      | succ i => simp at hi') (by rw [← Array.length_toList, h1]; rfl)
    exact ⟨_, hrun, y.frozen, rfl, hz.1, hz.2, hr⟩
  · have hq' : ∃ l, r = .tup l ∧ RetAll fn.results.toList s l := by
      revert hq h1
      generalize fn.results.toList = rs
      intro hq h1
      match rs, h1, hq with
      | [], _, hq => exact hq
      | [_], h1, _ => exact absurd rfl h1
      | _ :: _ :: _, _, hq => exact hq
    obtain ⟨l, rfl, hall⟩ := hq'
    obtain ⟨hl, hg⟩ := hall.get
    have hus : ∃ us : List Value, us.length = fn.results.size ∧ (∀ (i : Nat) (x : ResultVar), fn.results[i]? = some x → ∃ t, x = .tmp t ∧ us[i]? = some (a.tmps.getD t undef)) := by
      refine ⟨fn.results.toList.map fun | .tmp t => a.tmps.getD t undef | .cell _ _ => undef, by simp, fun i x hi => ?_⟩
      have hi' : fn.results.toList[i]? = some x := by simpa using hi
      obtain ⟨r, _, h3⟩ := hg i x hi'
      cases x with
      | tmp t => exact ⟨t, rfl, by rw [List.getElem?_map, hi']; rfl⟩
      | cell _ _ => exact h3.elim
    obtain ⟨us, hul, hut⟩ := hus
    have hrun := run_results (P := P) (fn := fn) (tmps := a.tmps) (w := y.w) us hut hul
    have hne : ¬ us.toArray.size = 1 := by
      rw [List.size_toArray, hul]
      exact fun e => h1 (by rw [Array.length_toList]; exact e)
    rw [dif_neg hne] at hrun
    refine ⟨_, hrun, y.frozen, rfl, hz.1, hz.2, .tup (by rw [List.size_toArray, hul, ← hl, Array.length_toList]) fun i c u k1 k2 => ?_⟩
    have hil : i < fn.results.toList.length := by rw [hl]; exact (List.getElem?_eq_some_iff.1 k1).1
    obtain ⟨r, h2, h3⟩ := hg i _ (List.getElem?_eq_getElem hil)
    rw [k1] at h2; cases h2
    obtain ⟨t, h4, h5⟩ := RetOne.rep hok hH he h3
    obtain ⟨t', h6, h7⟩ := hut i _ (by rw [← Array.getElem?_toList]; exact List.getElem?_eq_getElem hil)
    rw [h4] at h6; cases h6
    have : u = a.tmps.getD t undef := by
      have k3 : us[i]? = some u := by simpa using k2
      rw [h7] at k3; exact (Option.some.inj k3).symm
    rw [this]; exact h5

/-- THE CONTRACT OF A FUNCTION FROM ITS BODY's WALK. -/
theorem ARO.mk {f : FuncId} {fn : Func} {code : Code} {args : List AV} {r : AV} {N : Nat} (hf : P.funcs[f]? = some fn) (hb : fn.body = some code) (hname : (fn.name == "runtime.NumGoroutine") = false) (hN : fn.ntmps = N) (hr : r.closed = true)
    (hlen : args.length ≤ N) (hw : ∀ n0, AW P code (RetQ fn.results.toList r) ⟨argEnv 0 args, [], n0, N⟩) : ARO P f args r := by
  refine ⟨⟨fn, hf, by rw [hb]; rfl, hname⟩, hr, fun x vs hok hH hargs => ?_⟩
  have hvl : vs.size = args.length := by simpa using hargs.1
  refine calls_of_wp hf hb ?_
  have hsim : Sim x ⟨argEnv 0 args, [], x.n, N⟩ { tmps := vs ++ Array.replicate (fn.ntmps - vs.size) undef, defers := [] } x.w := by
    refine ⟨rfl, by simp; omega, x, rfl, .refl x, hok, by rw [hH]; rfl, rfl, fun t => ?_⟩
    rcases argEnv_get args 0 t with h1 | ⟨j, a, h1, h2, h3⟩
    · rw [h1]; exact .any _
    · rw [h3]
      have hj : j < vs.size := by rw [hvl]; exact (List.getElem?_eq_some_iff.1 h2).1
      have ht : t = j := by omega
      subst ht
      have : (vs ++ Array.replicate (fn.ntmps - vs.size) undef).getD t undef = vs[t] := by
        simp [Array.getD, hj]
        omega
      rw [this]
      exact hargs.2 t a vs[t] h2 (by simp [hj])
  refine wp_mono (hw x.n x _ _ hsim) fun e a w ⟨s, hq, hs⟩ => ?_
  obtain ⟨hdef, _, y, hyw, hle, hok', hH', _, he⟩ := hs
  subst hyw
  cases e with
  | normal =>
    obtain ⟨u, hrun, z, h1, h2, h3, h4⟩ := ret_body (P := P) hle hok' hH' he hq
    exact ⟨hdef, u, hrun, u, z, rfl, h1, h2, h3, h4⟩
  | ret =>
    obtain ⟨u, hrun, z, h1, h2, h3, h4⟩ := ret_body (P := P) hle hok' hH' he hq
    exact ⟨hdef, u, hrun, u, z, rfl, h1, h2, h3, h4⟩
  | exit id => exact hq.elim
  | goto l => exact hq.elim
  | panic ch => exact hq.elim
  | outgrown => exact hq.elim
end
end Go.Proofs.Ythhodpedkdapcaa.Al
