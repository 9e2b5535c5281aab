/-
  Results that lie in boxes; read-only views of boxes; ends by weakening.
-/
import Derived.Test.YthhodpedkdapcaaAl26
namespace Go.Proofs.Ythhodpedkdapcaa.Al
section
variable {P : Program}
def GVs (G : ResultVar → AV → Prop) : List ResultVar → List AV → Prop
  | [], [] => True
  | x :: l, r :: rs => G x r ∧ GVs G l rs
  | _, _ => False
def GAll (G : ResultVar → AV → Prop) (rs : List ResultVar) (r : AV) : Prop := match rs with
  | [x] => G x r
  | _ => ∃ l, r = .tup l ∧ GVs G rs l
theorem GVs.get {G : ResultVar → AV → Prop} {rs : List ResultVar} {l : List AV} (h : GVs G rs l) : rs.length = l.length ∧ ∀ (i : Nat) (x : ResultVar), rs[i]? = some x → ∃ r, l[i]? = some r ∧ G x r := by
  induction rs generalizing l with
  | nil => cases l with | nil => exact ⟨rfl, by simp⟩ | cons _ _ => exact h.elim
  | cons x rs ih =>
    cases l with
    | nil => exact h.elim
    | cons r l =>
      obtain ⟨h1, h2⟩ := ih h.2
      refine ⟨by simp [h1], fun i y hi => ?_⟩
      cases i with
      | zero => simp at hi; subst hi; exact ⟨r, rfl, h.1⟩
      | succ i => simpa using h2 i y (by simpa using hi)
theorem res_bodyG {fn : Func} {y z : Cx} {a : Act} {r : AV} (G : ResultVar → AV → Prop) (hG : ∀ x r, G x r → ∃ u, AVRep z r u ∧ (resGet a.tmps x).run P y.w = .ok u y.w) (hq : GAll G fn.results.toList r) : ∃ u, (results fn a.tmps).run P y.w = .ok u y.w ∧ AVRep z r u := by
  by_cases h1 : fn.results.toList.length = 1
  · obtain ⟨x0, hx0⟩ := List.length_eq_one_iff.1 h1
    rw [hx0] at hq
    obtain ⟨u, hr, hrun0⟩ := hG x0 r hq
    have hrun := run_resultsH (P := P) (fn := fn) (tmps := a.tmps) (w := y.w) [u] (fun i x hi => by
      have hi' : fn.results.toList[i]? = some x := by simpa using hi
      rw [hx0] at hi'
      cases i with
      | zero => simp at hi'; subst hi'; exact ⟨u, rfl, hrun0⟩
      | succ i => simp at hi') (by rw [← Array.length_toList, h1]; rfl)
    exact ⟨_, hrun, hr⟩
  · have hq' : ∃ l, r = .tup l ∧ GVs G fn.results.toList l := by
      revert hq h1
      generalize fn.results.toList = rs
      intro hq h1
      match rs, h1, hq with
      | [], _, hq => exact hq
      | [_], h1, _ => exact absurd rfl h1
      | _ :: _ :: _, _, hq => exact hq
    obtain ⟨l, rfl, hall⟩ := hq'
    obtain ⟨hl, hg⟩ := hall.get
    have hread : ∀ i, i < l.length → ∃ u, ∀ x r, fn.results.toList[i]? = some x → l[i]? = some r → AVRep z r u ∧ (resGet a.tmps x).run P y.w = .ok u y.w := by
      intro i hi
      have hi2 : i < fn.results.toList.length := by omega
      obtain ⟨r, h2, h3⟩ := hg i _ (List.getElem?_eq_getElem hi2)
      obtain ⟨u, h4, h5⟩ := hG _ _ h3
      refine ⟨u, fun x r' k1 k2 => ?_⟩
      rw [List.getElem?_eq_getElem hi2] at k1; cases k1
      rw [h2] at k2; cases k2
      exact ⟨h4, h5⟩
    obtain ⟨us, hul, hut⟩ := choose_list l.length hread
    have hsz : us.length = fn.results.size := by rw [hul, ← hl, Array.length_toList]
    have hrun := run_resultsH (P := P) (fn := fn) (tmps := a.tmps) (w := y.w) us (fun i x hi => by
      have hi' : fn.results.toList[i]? = some x := by simpa using hi
      obtain ⟨r, h2, _⟩ := hg i x hi'
      have hil : i < us.length := by rw [hul]; exact (List.getElem?_eq_some_iff.1 h2).1
      exact ⟨us[i], List.getElem?_eq_getElem hil, (hut i _ (List.getElem?_eq_getElem hil) x r hi' h2).2⟩) hsz
    have hne : ¬ us.toArray.size = 1 := by
      rw [List.size_toArray, hsz]
      exact fun e => h1 (by rw [Array.length_toList]; exact e)
    rw [dif_neg hne] at hrun
    refine ⟨_, hrun, .tup (by rw [List.size_toArray, hul]) fun i c u k1 k2 => ?_⟩
    have k3 : us[i]? = some u := by simpa using k2
    have hil : i < fn.results.toList.length := by rw [hl]; exact (List.getElem?_eq_some_iff.1 k1).1
    exact (hut i u k3 _ c (List.getElem?_eq_getElem hil) k1).1

/-- What a result variable gives, once all is data. -/
def RetV (P : Program) (s : St) : ResultVar → AV → Prop
  | .tmp t, r => Fz s.h (get s.e t) r
  | .cell a t, r => (∃ id g e c, ScalTy P t ∧ get s.e a = .ptr id g 0 0 ∧ hget s.h id = some (.box g e [c]) ∧ Fz s.h c r) ∨ (∃ sz id g e cs, AggTy P t sz ∧ get s.e a = .ptr id g 0 0 ∧ hget s.h id = some (.box g e cs) ∧ cs.length = sz ∧ Fz s.h (.agg cs) r)
theorem RetV.rep {y : Cx} (hok : y.ok) {s : St} (hH : y.H = hget s.h) {a : Act} (he : EnvOk y s.e a) (x : ResultVar) (r : AV) (hr : RetV P s x r) : ∃ u, AVRep y.frozen r u ∧ (resGet a.tmps x).run P y.w = .ok u y.w := by
  cases x with
  | tmp t => exact ⟨_, Fz.rep hok hH hr (he t), rfl⟩
  | cell c t =>
    rcases hr with ⟨id, g, e, v, ht, h1, h2, h3⟩ | ⟨sz, id, g, e, cs, ht, h1, h2, hl, h3⟩
    · have hHid : y.H id = some (.box g e [v]) := by rw [hH]; exact h2
      have h0 := he c
      rw [h1] at h0
      obtain ⟨b, cur, k1, k2, k3, k4, k5⟩ := rep_box hok hHid h0
      obtain ⟨u, h6, _, h7⟩ := k5 0 v rfl
      refine ⟨u, Fz.rep hok hH h3 h7, ?_⟩
      obtain ⟨d, i, e1, e2, _, _⟩ := ht
      have hcell := (cell_of_row _ b 0 cur e _ k3).trans h6
      simp only [resGet, k2]
      simp [asAddr, loadVar, run_isAgg e1, e2, hcell]
    · have hHid : y.H id = some (.box g e cs) := by rw [hH]; exact h2
      have h0 := he c
      rw [h1] at h0
      obtain ⟨b, cur, k1, k2, k3, k4, k5⟩ := rep_box hok hHid h0
      have hcell : ∀ j, j < sz → y.w.cell? ⟨b, 0 + j, none⟩ = some ((fun j => cur.getD j undef) j) := by
        intro j hj
        have hj' : j < cur.size := by omega
        rw [Nat.zero_add, cell_of_row _ b j cur e _ k3]
        simp [hj']
      refine ⟨.agg ((List.range sz).map fun j => cur.getD j undef).toArray, Fz.rep hok hH h3 (agg_of_fun hl _ fun j a hj => ?_), ?_⟩
      · obtain ⟨u, h6, _, h7⟩ := k5 _ _ hj
        obtain ⟨h8, h9⟩ := Array.getElem?_eq_some_iff.1 h6
        simpa [h8, h9] using h7
      · have hrun := run_loadAt_agg (P := P) ht (w := y.w) (b := b) (k := 0) (fun j => cur.getD j undef) hcell
        simp only [resGet, k2]
        simpa [asAddr, Instr.loadAt, Instr.sureAddr] using hrun
def RetF (P : Program) (rs : List ResultVar) (r : AV) : Exit → St → Prop
  | .normal, s | .ret, s => GAll (RetV P s) rs r
  | _, _ => False
theorem ARO.mkF {f : FuncId} {fn : Func} {code : Code} {args : List AV} {r : AV} {N : Nat} (hf : P.funcs[f]? = some fn) (hb : fn.body = some code) (hname : (fn.name == "runtime.NumGoroutine") = false) (hN : fn.ntmps = N) (hr : r.closed = true)
    (hlen : args.length ≤ N) (hw : ∀ n0, AW P code (RetF P fn.results.toList r) ⟨argEnv 0 args, [], n0, N⟩) : ARO P f args r := by
  refine ⟨⟨fn, hf, by rw [hb]; rfl, hname⟩, hr, fun x vs hok hH hargs => ?_⟩
  have hvl : vs.size = args.length := by simpa using hargs.1
  refine calls_of_wp hf hb ?_
  have hsim : Sim x ⟨argEnv 0 args, [], x.n, N⟩ { tmps := vs ++ Array.replicate (fn.ntmps - vs.size) undef, defers := [] } x.w := by
    refine ⟨rfl, by simp; omega, x, rfl, .refl x, hok, by rw [hH]; rfl, rfl, fun t => ?_⟩
    rcases argEnv_get args 0 t with h1 | ⟨j, a, h1, h2, h3⟩
    · rw [h1]; exact .any _
    · rw [h3]
      have hj : j < vs.size := by rw [hvl]; exact (List.getElem?_eq_some_iff.1 h2).1
      have ht : t = j := by omega
      subst ht
      have : (vs ++ Array.replicate (fn.ntmps - vs.size) undef).getD t undef = vs[t] := by
        simp [Array.getD, hj]
        omega
      rw [this]
      exact hargs.2 t a vs[t] h2 (by simp [hj])
  have fin : ∀ {e : Exit} {a : Act} {w : World} {s : St}, GAll (RetV P s) fn.results.toList r → Sim x s a w → a.defers = [] ∧ ∃ u, (results fn a.tmps).run P w = .ok u w ∧ ∃ u' y, Ending.returned u = .returned u' ∧ y.w = w ∧ x.le y ∧ y.ok ∧ AVRep y r u' := by
    intro e a w s hq ⟨hdef, _, y, hyw, hle, hok', hH', _, he⟩
    subst hyw
    obtain ⟨u, h1, h2⟩ := res_bodyG (P := P) (fn := fn) (y := y) (z := y.frozen) (a := a) (RetV P s) (fun x r h => RetV.rep hok' hH' he x r h) hq
    exact ⟨hdef, u, h1, u, y.frozen, rfl, rfl, hle.trans Cx.frozen_le, Cx.frozen_ok hok', h2⟩
  refine wp_mono (hw x.n x _ _ hsim) fun e a w ⟨s, hq, hs⟩ => ?_
  cases e with
  | normal => exact fin (e := .normal) hq hs
  | ret => exact fin (e := .ret) hq hs
  | exit id => exact hq.elim
  | goto l => exact hq.elim
  | panic ch => exact hq.elim
  | outgrown => exact hq.elim
theorem RetV.t {s : St} {t : Nat} {r : AV} (h : Fz s.h (get s.e t) r) : RetV P s (.tmp t) r := h
theorem RetV.c {s : St} {a t id g e : Nat} {c r : AV} (ht : ScalTy P t) (h1 : get s.e a = .ptr id g 0 0) (h2 : hget s.h id = some (.box g e [c])) (h : Fz s.h c r) : RetV P s (.cell a t) r := .inl ⟨_, _, _, _, ht, h1, h2, h⟩
theorem RetV.a {s : St} {a t id g e sz : Nat} {cs : List AV} {r : AV} (ht : AggTy P t sz) (h1 : get s.e a = .ptr id g 0 0) (h2 : hget s.h id = some (.box g e cs)) (hl : cs.length = sz) (h : Fz s.h (.agg cs) r) : RetV P s (.cell a t) r := .inr ⟨_, _, _, _, _, ht, h1, h2, hl, h⟩
end
theorem retf0 {ρ : Type} {P : Program} {T r : ρ} {x : Exit} {s : St}  (e : some T = some r) (hx : x = .ret ∨ x = .normal)  : RetF P [] (.tup []) x s := by
  cases e
  rcases hx with rfl | rfl
  · exact ⟨_, rfl, trivial⟩
  · exact ⟨_, rfl, trivial⟩
theorem retf1 {ρ : Type} {P : Program} {T r : ρ} {x : Exit} {s : St} {x0 : ResultVar} (F0 : ρ → AV) (e : some T = some r) (hx : x = .ret ∨ x = .normal) (h0 : RetV P s x0 (F0 T)) : RetF P [x0] (F0 r) x s := by
  cases e
  rcases hx with rfl | rfl
  · exact h0
  · exact h0
theorem retf2 {ρ : Type} {P : Program} {T r : ρ} {x : Exit} {s : St} {x0 x1 : ResultVar} (F0 : ρ → AV) (F1 : ρ → AV) (e : some T = some r) (hx : x = .ret ∨ x = .normal) (h0 : RetV P s x0 (F0 T)) (h1 : RetV P s x1 (F1 T)) : RetF P [x0, x1] (.tup [F0 r, F1 r]) x s := by
  cases e
  rcases hx with rfl | rfl
  · exact ⟨_, rfl, ⟨h0, h1, trivial⟩⟩
  · exact ⟨_, rfl, ⟨h0, h1, trivial⟩⟩
theorem retf3 {ρ : Type} {P : Program} {T r : ρ} {x : Exit} {s : St} {x0 x1 x2 : ResultVar} (F0 : ρ → AV) (F1 : ρ → AV) (F2 : ρ → AV) (e : some T = some r) (hx : x = .ret ∨ x = .normal) (h0 : RetV P s x0 (F0 T)) (h1 : RetV P s x1 (F1 T)) (h2 : RetV P s x2 (F2 T)) : RetF P [x0, x1, x2] (.tup [F0 r, F1 r, F2 r]) x s := by
  cases e
  rcases hx with rfl | rfl
  · exact ⟨_, rfl, ⟨h0, h1, h2, trivial⟩⟩
  · exact ⟨_, rfl, ⟨h0, h1, h2, trivial⟩⟩
theorem retf4 {ρ : Type} {P : Program} {T r : ρ} {x : Exit} {s : St} {x0 x1 x2 x3 : ResultVar} (F0 : ρ → AV) (F1 : ρ → AV) (F2 : ρ → AV) (F3 : ρ → AV) (e : some T = some r) (hx : x = .ret ∨ x = .normal) (h0 : RetV P s x0 (F0 T)) (h1 : RetV P s x1 (F1 T)) (h2 : RetV P s x2 (F2 T)) (h3 : RetV P s x3 (F3 T)) : RetF P [x0, x1, x2, x3] (.tup [F0 r, F1 r, F2 r, F3 r]) x s := by
  cases e
  rcases hx with rfl | rfl
  · exact ⟨_, rfl, ⟨h0, h1, h2, h3, trivial⟩⟩
  · exact ⟨_, rfl, ⟨h0, h1, h2, h3, trivial⟩⟩
theorem retf5 {ρ : Type} {P : Program} {T r : ρ} {x : Exit} {s : St} {x0 x1 x2 x3 x4 : ResultVar} (F0 : ρ → AV) (F1 : ρ → AV) (F2 : ρ → AV) (F3 : ρ → AV) (F4 : ρ → AV) (e : some T = some r) (hx : x = .ret ∨ x = .normal) (h0 : RetV P s x0 (F0 T)) (h1 : RetV P s x1 (F1 T)) (h2 : RetV P s x2 (F2 T)) (h3 : RetV P s x3 (F3 T)) (h4 : RetV P s x4 (F4 T)) : RetF P [x0, x1, x2, x3, x4] (.tup [F0 r, F1 r, F2 r, F3 r, F4 r]) x s := by
  cases e
  rcases hx with rfl | rfl
  · exact ⟨_, rfl, ⟨h0, h1, h2, h3, h4, trivial⟩⟩
  · exact ⟨_, rfl, ⟨h0, h1, h2, h3, h4, trivial⟩⟩
theorem retf6 {ρ : Type} {P : Program} {T r : ρ} {x : Exit} {s : St} {x0 x1 x2 x3 x4 x5 : ResultVar} (F0 : ρ → AV) (F1 : ρ → AV) (F2 : ρ → AV) (F3 : ρ → AV) (F4 : ρ → AV) (F5 : ρ → AV) (e : some T = some r) (hx : x = .ret ∨ x = .normal) (h0 : RetV P s x0 (F0 T)) (h1 : RetV P s x1 (F1 T)) (h2 : RetV P s x2 (F2 T)) (h3 : RetV P s x3 (F3 T)) (h4 : RetV P s x4 (F4 T)) (h5 : RetV P s x5 (F5 T)) : RetF P [x0, x1, x2, x3, x4, x5] (.tup [F0 r, F1 r, F2 r, F3 r, F4 r, F5 r]) x s := by
  cases e
  rcases hx with rfl | rfl
  · exact ⟨_, rfl, ⟨h0, h1, h2, h3, h4, h5, trivial⟩⟩
  · exact ⟨_, rfl, ⟨h0, h1, h2, h3, h4, h5, trivial⟩⟩
theorem Fz.d {h : Heap} {a : AV} {d : RV} (e : a = .r d) : Fz h a (.r d) := by subst e; exact .one (.closed _ rfl)
theorem Fz.g {h : Heap} {a : AV} {cs : List RV} {ds : List AV} (e : a = .agg ds) (e2 : ds = cs.map .r) : Fz h a (.agg ds) := by subst e; subst e2; exact .one (.closed _ (closed_agg_r _))
theorem EqTy.of {P : Program} {t : TypeId} {fs : Array Field} {ds : List (Option TypeDesc)} (h1 : P.underlying t = some (.struct fs)) (h2 : P.stoodInHeld t = false) (h3 : P.eqGuardType P.depth t = false) (h4 : FieldsEq P 0 fs.toList ds) : EqTy P t ds := by
  have : P.fieldsOf t = fs := by unfold Program.fieldsOf; rw [h1]
  exact ⟨by rw [this]; exact h1, h2, h3, by rw [this]; exact h4⟩
end Go.Proofs.Ythhodpedkdapcaa.Al
