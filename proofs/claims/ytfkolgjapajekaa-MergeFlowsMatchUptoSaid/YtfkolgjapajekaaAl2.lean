/- The program logic, a part of it. -/
import Derived.Test.YtfkolgjapajekaaAl1
import Derived.Laws.BytesString
import Derived.Laws.RangeString
import Derived.Lib.ValidU
import Derived.OrdersHeld
import Derived.RowKit
import GoSem.Core.Utf8
namespace Go.Proofs.Ytfkolgjapajekaa.Al
section
variable {P : Program}
def GVs (G : ResultVar → AV → Prop) : List ResultVar → List AV → Prop
  | [], [] => True
  | x :: l, r :: rs => G x r ∧ GVs G l rs
  | _, _ => False
def GAll (G : ResultVar → AV → Prop) (rs : List ResultVar) (r : AV) : Prop := match rs with
  | [x] => G x r
  | _ => ∃ l, r = .tup l ∧ GVs G rs l
theorem GVs.get {G : ResultVar → AV → Prop} {rs : List ResultVar} {l : List AV} (h : GVs G rs l) : rs.length = l.length ∧ ∀ (i : Nat) (x : ResultVar), rs[i]? = some x → ∃ r, l[i]? = some r ∧ G x r := by
  induction rs generalizing l with
  | nil => cases l with | nil => exact ⟨rfl, by simp⟩ | cons _ _ => exact h.elim
  | cons x rs ih =>
    cases l with
    | nil => exact h.elim
    | cons r l =>
      obtain ⟨h1, h2⟩ := ih h.2
      refine ⟨by simp [h1], fun i y hi => ?_⟩
      cases i with
      | zero => simp at hi; subst hi; exact ⟨r, rfl, h.1⟩
      | succ i => simpa using h2 i y (by simpa using hi)
theorem res_bodyG {fn : Func} {y z : Cx} {a : Act} {r : AV} (G : ResultVar → AV → Prop) (hG : ∀ x r, G x r → ∃ u, AVRep z r u ∧ (resGet a.tmps x).run P y.w = .ok u y.w) (hq : GAll G fn.results.toList r) : ∃ u, (results fn a.tmps).run P y.w = .ok u y.w ∧ AVRep z r u := by
  by_cases h1 : fn.results.toList.length = 1
  · obtain ⟨x0, hx0⟩ := List.length_eq_one_iff.1 h1
    rw [hx0] at hq
    obtain ⟨u, hr, hrun0⟩ := hG x0 r hq
    have hrun := run_resultsH (P := P) (fn := fn) (tmps := a.tmps) (w := y.w) [u] (fun i x hi => by
      have hi' : fn.results.toList[i]? = some x := by simpa using hi
      rw [hx0] at hi'
      cases i with
      | zero => simp at hi'; subst hi'; exact ⟨u, rfl, hrun0⟩
      | succ i => simp at hi') (by rw [← Array.length_toList, h1]; rfl)
    exact ⟨_, hrun, hr⟩
  · have hq' : ∃ l, r = .tup l ∧ GVs G fn.results.toList l := by
      revert hq h1
      generalize fn.results.toList = rs
      intro hq h1
      match rs, h1, hq with
      | [], _, hq => exact hq
      | [_], h1, _ => exact absurd rfl h1
      | _ :: _ :: _, _, hq => exact hq
    obtain ⟨l, rfl, hall⟩ := hq'
    obtain ⟨hl, hg⟩ := hall.get
    have hread : ∀ i, i < l.length → ∃ u, ∀ x r, fn.results.toList[i]? = some x → l[i]? = some r → AVRep z r u ∧ (resGet a.tmps x).run P y.w = .ok u y.w := by
      intro i hi
      have hi2 : i < fn.results.toList.length := by omega
      obtain ⟨r, h2, h3⟩ := hg i _ (List.getElem?_eq_getElem hi2)
      obtain ⟨u, h4, h5⟩ := hG _ _ h3
      refine ⟨u, fun x r' k1 k2 => ?_⟩
      rw [List.getElem?_eq_getElem hi2] at k1; cases k1
      rw [h2] at k2; cases k2
      exact ⟨h4, h5⟩
    obtain ⟨us, hul, hut⟩ := choose_list l.length hread
    have hsz : us.length = fn.results.size := by rw [hul, ← hl, Array.length_toList]
    have hrun := run_resultsH (P := P) (fn := fn) (tmps := a.tmps) (w := y.w) us (fun i x hi => by
      have hi' : fn.results.toList[i]? = some x := by simpa using hi
      obtain ⟨r, h2, _⟩ := hg i x hi'
      have hil : i < us.length := by rw [hul]; exact (List.getElem?_eq_some_iff.1 h2).1
      exact ⟨us[i], List.getElem?_eq_getElem hil, (hut i _ (List.getElem?_eq_getElem hil) x r hi' h2).2⟩) hsz
    have hne : ¬ us.toArray.size = 1 := by
      rw [List.size_toArray, hsz]
      exact fun e => h1 (by rw [Array.length_toList]; exact e)
    rw [dif_neg hne] at hrun
    refine ⟨_, hrun, .tup (by rw [List.size_toArray, hul]) fun i c u k1 k2 => ?_⟩
    have k3 : us[i]? = some u := by simpa using k2
    have hil : i < fn.results.toList.length := by rw [hl]; exact (List.getElem?_eq_some_iff.1 k1).1
    exact (hut i u k3 _ c (List.getElem?_eq_getElem hil) k1).1
def RetV (P : Program) (s : St) : ResultVar → AV → Prop
  | .tmp t, r => Fz s.h (get s.e t) r
  | .cell a t, r => (∃ id g e c, ScalTy P t ∧ get s.e a = .ptr id g 0 0 ∧ hget s.h id = some (.box g e [c]) ∧ Fz s.h c r) ∨ (∃ sz id g e cs, AggTy P t sz ∧ get s.e a = .ptr id g 0 0 ∧ hget s.h id = some (.box g e cs) ∧ cs.length = sz ∧ Fz s.h (.agg cs) r)
theorem RetV.rep {y : Cx} (hok : y.ok) {s : St} (hH : y.H = hget s.h) {a : Act} (he : EnvOk y s.e a) (x : ResultVar) (r : AV) (hr : RetV P s x r) : ∃ u, AVRep y.frozen r u ∧ (resGet a.tmps x).run P y.w = .ok u y.w := by
  cases x with
  | tmp t => exact ⟨_, Fz.rep hok hH hr (he t), rfl⟩
  | cell c t =>
    rcases hr with ⟨id, g, e, v, ht, h1, h2, h3⟩ | ⟨sz, id, g, e, cs, ht, h1, h2, hl, h3⟩
    · have hHid : y.H id = some (.box g e [v]) := by rw [hH]; exact h2
      have h0 := he c
      rw [h1] at h0
      obtain ⟨b, cur, k1, k2, k3, k4, k5⟩ := rep_box hok hHid h0
      obtain ⟨u, h6, _, h7⟩ := k5 0 v rfl
      refine ⟨u, Fz.rep hok hH h3 h7, ?_⟩
      obtain ⟨d, i, e1, e2, _, _⟩ := ht
      have hcell := (cell_of_row _ b 0 cur e _ k3).trans h6
      simp only [resGet, k2]
      simp [asAddr, loadVar, run_isAgg e1, e2, hcell]
    · have hHid : y.H id = some (.box g e cs) := by rw [hH]; exact h2
      have h0 := he c
      rw [h1] at h0
      obtain ⟨b, cur, k1, k2, k3, k4, k5⟩ := rep_box hok hHid h0
      have hcell : ∀ j, j < sz → y.w.cell? ⟨b, 0 + j, none⟩ = some ((fun j => cur.getD j undef) j) := by
        intro j hj
        have hj' : j < cur.size := by omega
        rw [Nat.zero_add, cell_of_row _ b j cur e _ k3]
        simp [hj']
      refine ⟨.agg ((List.range sz).map fun j => cur.getD j undef).toArray, Fz.rep hok hH h3 (agg_of_fun hl _ fun j a hj => ?_), ?_⟩
      · obtain ⟨u, h6, _, h7⟩ := k5 _ _ hj
        obtain ⟨h8, h9⟩ := Array.getElem?_eq_some_iff.1 h6
        simpa [h8, h9] using h7
      · have hrun := run_loadAt_agg (P := P) ht (w := y.w) (b := b) (k := 0) (fun j => cur.getD j undef) hcell
        simp only [resGet, k2]
        simpa [asAddr, Instr.loadAt, Instr.sureAddr] using hrun
def RetF (P : Program) (rs : List ResultVar) (r : AV) : Exit → St → Prop
  | .normal, s | .ret, s => GAll (RetV P s) rs r
  | _, _ => False
theorem ARO.mkF {f : FuncId} {fn : Func} {code : Code} {args : List AV} {r : AV} {N : Nat} (hf : P.funcs[f]? = some fn) (hb : fn.body = some code) (hname : (fn.name == "runtime.NumGoroutine") = false) (hN : fn.ntmps = N) (hr : r.closed = true)
    (hlen : args.length ≤ N) (hw : ∀ n0, AW P code (RetF P fn.results.toList r) ⟨argEnv 0 args, [], n0, N⟩) : ARO P f args r := by
  refine ⟨⟨fn, hf, by rw [hb]; rfl, hname⟩, hr, fun x vs hok hH hargs => ?_⟩
  have hvl : vs.size = args.length := by simpa using hargs.1
  refine calls_of_wp hf hb ?_
  have hsim : Sim x ⟨argEnv 0 args, [], x.n, N⟩ { tmps := vs ++ Array.replicate (fn.ntmps - vs.size) undef, defers := [] } x.w := by
    refine ⟨rfl, by simp; omega, x, rfl, .refl x, hok, by rw [hH]; rfl, rfl, fun t => ?_⟩
    rcases argEnv_get args 0 t with h1 | ⟨j, a, h1, h2, h3⟩
    · rw [h1]; exact .any _
    · rw [h3]
      have hj : j < vs.size := by rw [hvl]; exact (List.getElem?_eq_some_iff.1 h2).1
      have ht : t = j := by omega
      subst ht
      have : (vs ++ Array.replicate (fn.ntmps - vs.size) undef).getD t undef = vs[t] := by
        simp [Array.getD, hj]
        omega
      rw [this]
      exact hargs.2 t a vs[t] h2 (by simp [hj])
  have fin : ∀ {e : Exit} {a : Act} {w : World} {s : St}, GAll (RetV P s) fn.results.toList r → Sim x s a w → a.defers = [] ∧ ∃ u, (results fn a.tmps).run P w = .ok u w ∧ ∃ u' y, Ending.returned u = .returned u' ∧ y.w = w ∧ x.le y ∧ y.ok ∧ AVRep y r u' := by
    intro e a w s hq ⟨hdef, _, y, hyw, hle, hok', hH', _, he⟩
    subst hyw
    obtain ⟨u, h1, h2⟩ := res_bodyG (P := P) (fn := fn) (y := y) (z := y.frozen) (a := a) (RetV P s) (fun x r h => RetV.rep hok' hH' he x r h) hq
    exact ⟨hdef, u, h1, u, y.frozen, rfl, rfl, hle.trans Cx.frozen_le, Cx.frozen_ok hok', h2⟩
  refine wp_mono (hw x.n x _ _ hsim) fun e a w ⟨s, hq, hs⟩ => ?_
  cases e with
  | normal => exact fin (e := .normal) hq hs
  | ret => exact fin (e := .ret) hq hs
  | exit id => exact hq.elim
  | goto l => exact hq.elim
  | panic ch => exact hq.elim
  | outgrown => exact hq.elim
theorem RetV.t {s : St} {t : Nat} {r : AV} (h : Fz s.h (get s.e t) r) : RetV P s (.tmp t) r := h
theorem RetV.c {s : St} {a t id g e : Nat} {c r : AV} (ht : ScalTy P t) (h1 : get s.e a = .ptr id g 0 0) (h2 : hget s.h id = some (.box g e [c])) (h : Fz s.h c r) : RetV P s (.cell a t) r := .inl ⟨_, _, _, _, ht, h1, h2, h⟩
theorem RetV.a {s : St} {a t id g e sz : Nat} {cs : List AV} {r : AV} (ht : AggTy P t sz) (h1 : get s.e a = .ptr id g 0 0) (h2 : hget s.h id = some (.box g e cs)) (hl : cs.length = sz) (h : Fz s.h (.agg cs) r) : RetV P s (.cell a t) r := .inr ⟨_, _, _, _, _, ht, h1, h2, hl, h⟩
end
theorem retf1 {ρ : Type} {P : Program} {T r : ρ} {x : Exit} {s : St} {x0 : ResultVar} (F0 : ρ → AV) (e : some T = some r) (hx : x = .ret ∨ x = .normal) (h0 : RetV P s x0 (F0 T)) : RetF P [x0] (F0 r) x s := by
  cases e
  rcases hx with rfl | rfl
  · exact h0
  · exact h0
theorem retf2 {ρ : Type} {P : Program} {T r : ρ} {x : Exit} {s : St} {x0 x1 : ResultVar} (F0 : ρ → AV) (F1 : ρ → AV) (e : some T = some r) (hx : x = .ret ∨ x = .normal) (h0 : RetV P s x0 (F0 T)) (h1 : RetV P s x1 (F1 T)) : RetF P [x0, x1] (.tup [F0 r, F1 r]) x s := by
  cases e
  rcases hx with rfl | rfl
  · exact ⟨_, rfl, ⟨h0, h1, trivial⟩⟩
  · exact ⟨_, rfl, ⟨h0, h1, trivial⟩⟩
theorem retf3 {ρ : Type} {P : Program} {T r : ρ} {x : Exit} {s : St} {x0 x1 x2 : ResultVar} (F0 : ρ → AV) (F1 : ρ → AV) (F2 : ρ → AV) (e : some T = some r) (hx : x = .ret ∨ x = .normal) (h0 : RetV P s x0 (F0 T)) (h1 : RetV P s x1 (F1 T)) (h2 : RetV P s x2 (F2 T)) : RetF P [x0, x1, x2] (.tup [F0 r, F1 r, F2 r]) x s := by
  cases e
  rcases hx with rfl | rfl
  · exact ⟨_, rfl, ⟨h0, h1, h2, trivial⟩⟩
  · exact ⟨_, rfl, ⟨h0, h1, h2, trivial⟩⟩
theorem Fz.d {h : Heap} {a : AV} {d : RV} (e : a = .r d) : Fz h a (.r d) := by subst e; exact .one (.closed _ rfl)
theorem Fz.g {h : Heap} {a : AV} {cs : List RV} {ds : List AV} (e : a = .agg ds) (e2 : ds = cs.map .r) : Fz h a (.agg ds) := by subst e; subst e2; exact .one (.closed _ (closed_agg_r _))
theorem EqTy.of {P : Program} {t : TypeId} {fs : Array Field} {ds : List (Option TypeDesc)} (h1 : P.underlying t = some (.struct fs)) (h2 : P.stoodInHeld t = false) (h3 : P.eqGuardType P.depth t = false) (h4 : FieldsEq P 0 fs.toList ds) : EqTy P t ds := by
  have : P.fieldsOf t = fs := by unfold Program.fieldsOf; rw [h1]
  exact ⟨by rw [this]; exact h1, h2, h3, by rw [this]; exact h4⟩
end Go.Proofs.Ytfkolgjapajekaa.Al


namespace Go.Proofs.Ytfkolgjapajekaa.Al
open Go.ChangeShapes Go.WideShapes Go.Deep Go.WideElems Go.RowKit
section
variable {H : Type} {enc : TypeId × Value → H} {P : Program} {W : World}
end
end Go.Proofs.Ytfkolgjapajekaa.Al


namespace Go.Proofs.Ytfkolgjapajekaa.Al
open Go.ChangeShapes Go.WideShapes Go.Deep Go.WideElems Go.RowKit
structure Blk (H : Type) where
  B : DataW H → Nat
  one : ∀ d, 1 ≤ B d
  str : ∀ s : List UInt8, s.length + 1 ≤ B (.lit (.string s))
  sl : ∀ l r, (l.map B).sum + 1 ≤ B (.slice l r)
  agg : ∀ l, (l.map B).sum + 1 ≤ B (.agg l)
section
variable {H : Type} {enc : TypeId × Value → H} {P : Program} {W : World} (K : Blk H)
def Rdm (enc : TypeId × Value → H) (P : Program) (W : World) (t : TypeId) {α : Type} (f : α → List RV) (ok : α → Prop) (μ : α → Nat) : Prop :=
  ∀ (fuel : Nat) (cs : List Value) (x : DataW H × List MemPlace), DataW.trod enc P W 0 (fun _ => true) true fuel t cs = some x → ∃ a, ok a ∧ RowRep W cs (f a) ∧ μ a ≤ K.B x.1
theorem Rdm.int {t : TypeId} {k : IntKind} (ht : P.underlying t = some (.int k)) : Rdm K enc P W t (fun n : Int => [.int k n]) (fun n => (Lit.int k n).wf = true) (fun _ => 1) := by
  intro fuel cs x h
  obtain ⟨n, rfl, _, hw⟩ := DataW.trod_int ht h
  exact ⟨n, hw, .one (.int k n), K.one _⟩
theorem Rdm.bool {t : TypeId} (ht : P.underlying t = some .bool) : Rdm K enc P W t (fun b : Bool => [.bool b]) (fun _ => True) (fun _ => 1) := by
  intro fuel cs x h
  obtain ⟨b, rfl, _⟩ := DataW.trod_bool ht h
  exact ⟨b, trivial, .one (.bool b), K.one _⟩
theorem Rdm.str {t : TypeId} (ht : P.underlying t = some .string) : Rdm K enc P W t (fun s : List UInt8 => [.str s]) (fun s => s.length ≤ maxLen) (fun s => s.length + 1) := by
  intro fuel cs x h
  obtain ⟨s, rfl, rfl, hs⟩ := DataW.trod_string ht h
  exact ⟨s.data.toList, by simpa using hs, .one (.str s), K.str _⟩
theorem Rdm.skip {t e : TypeId} (ht : P.underlying t = some (.slice e)) : Rdm K enc P W t (fun _ : Unit => [.any]) (fun _ => True) (fun _ => 1) := by
  intro fuel cs x h
  obtain ⟨a, h1, h2⟩ := Rd.skip (enc := enc) (W := W) ht fuel cs x h
  exact ⟨a, h1, h2, K.one _⟩
theorem sum_map_le {α β : Type} {l : List α} {m : List β} {f : α → Nat} {g : β → Nat} (hl : l.length = m.length) (h : ∀ (i : Nat) (a : α) (b : β), l[i]? = some a → m[i]? = some b → f a ≤ g b) : (l.map f).sum ≤ (m.map g).sum := by
  induction l generalizing m with
  | nil => simp
  | cons a l ih =>
    cases m with
    | nil => simp at hl
    | cons b m =>
      have h0 := h 0 a b rfl rfl
      have h1 := ih (m := m) (by simpa using hl) (fun i a b h1 h2 => h (i + 1) a b (by simpa using h1) (by simpa using h2))
      simp only [List.map_cons, List.sum_cons]
      omega
theorem Rdm.slice {t e : TypeId} {sz : Nat} {α : Type} {f : α → List RV} {ok : α → Prop} {μ : α → Nat} (ht : P.underlying t = some (.slice e)) (hc : P.cellsOf e = sz) (h0 : 0 < sz) (h : Rdm K enc P W e f ok μ) (hf : ∀ a, (f a).length = sz) :
    Rdm K enc P W t (fun l : List α => [.sl (l.map f)]) (fun l => l.length ≤ maxLen ∧ ∀ a ∈ l, ok a) (fun l => (l.map μ).sum + 1) := by
  intro fuel cs x hx
  subst hc
  rcases open_slice ht hx with ⟨rfl, _⟩ | ⟨a, len, cap, m, n, D, Pl, rfl, _, hl, hm, hmm, rfl, hi⟩
  · exact ⟨[], ⟨Nat.zero_le _, fun _ h => by cases h⟩, .one .snil, K.one _⟩
  simp only [if_true] at hmm
  have hread : ∀ i, i < len → ∃ b, ok b ∧ μ b ≤ K.B (D i) ∧ ∀ j d, (f b)[j]? = some d → ∃ u, W.cell? ((a.add (i * P.cellsOf e)).add j) = some u ∧ RRep W (· < W.heap.size) d u := by
    intro i hil
    obtain ⟨cs', h1, h2⟩ := hi i (by omega)
    obtain ⟨b, hb, hr, hμ⟩ := h n _ _ h2
    obtain ⟨_, h3, h4⟩ := World.cells?_some h1
    refine ⟨b, hb, hμ, fun j d hj => ?_⟩
    have hjl : j < (f b).length := (List.getElem?_eq_some_iff.1 hj).1
    have hjc : j < cs'.length := by rw [hr.1]; exact hjl
    refine ⟨cs'[j], ?_, hr.2 j d _ hj (List.getElem?_eq_getElem hjc)⟩
    rw [h4 j (by rw [← h3]; exact hjc)]
    exact List.getElem?_eq_getElem hjc
  obtain ⟨l, hll, hq⟩ := choose_list len hread
  have hok : ∀ b ∈ l, ok b := fun b hb => by
    obtain ⟨i, hi⟩ := List.mem_iff_getElem?.1 hb
    exact (hq i b hi).1
  have hμ : (l.map μ).sum + 1 ≤ K.B (.slice ((List.range len).map D) ((List.range (m - len)).map fun j => D (len + j))) := by
    refine Nat.le_trans ?_ (K.sl _ _)
    have := sum_map_le (l := l) (m := (List.range len).map D) (f := μ) (g := K.B) (by simpa using hll) (fun i a b h1 h2 => by
      have hil : i < len := by rw [← hll]; exact (List.getElem?_eq_some_iff.1 h1).1
      rw [List.getElem?_map, List.getElem?_range hil] at h2
      cases h2
      exact (hq i a h1).2.1)
    omega
  have hcells : ∀ i b, l[i]? = some b → ∀ j d, (f b)[j]? = some d → ∃ u, W.cell? ((a.add (i * P.cellsOf e)).add j) = some u ∧ RRep W (· < W.heap.size) d u := fun i b hb => (hq i b hb).2.2
  refine ⟨l, ⟨by rw [hll]; omega, hok⟩, .one ?_, hμ⟩
  subst hll
  by_cases hne : cap = 0
  · have : l = [] := List.eq_nil_of_length_eq_zero (by omega)
    subst this; subst hne
    exact .sl0 a
  · obtain ⟨cs', h1, _⟩ := hi 0 (by omega)
    obtain ⟨_, h3, h4⟩ := World.cells?_some h1
    have hc0 : ∃ u, W.cell? a = some u := by
      have := h4 0 h0
      rw [Nat.zero_mul, show (a.add 0).add 0 = a from rfl] at this
      exact ⟨cs'[0]'(by omega), this.trans (List.getElem?_eq_getElem (by omega))⟩
    obtain ⟨u0, hu0⟩ := hc0
    obtain ⟨b, off, spot⟩ := a
    have hsp : spot = none := World.cell?_spot hu0
    subst hsp
    have hblk : b < W.heap.size := by
      unfold World.cell? at hu0
      rcases Nat.lt_or_ge b W.heap.size with h | h
      · exact h
      · rw [Array.getElem?_eq_none h] at hu0; cases hu0
    have hadd : ∀ i j, ((⟨b, off, none⟩ : Addr).add (i * P.cellsOf e)).add j = ⟨b, off + i * P.cellsOf e + j, none⟩ := fun i j => by rw [Addr.add_lit, Addr.add_lit]
    have hu : ∀ (i : Nat) (row : List RV) (c : Nat) (d : RV), (l.map f)[i]? = some row → row[c]? = some d → ∃ u, W.cell? ⟨b, off + i * P.cellsOf e + c, none⟩ = some u ∧ RRep W (· < W.heap.size) d u := by
      intro i row c d h1 h2
      rw [List.getElem?_map, Option.map_eq_some_iff] at h1
      obtain ⟨z, h5, rfl⟩ := h1
      obtain ⟨u, h6, h7⟩ := hcells i z h5 c d h2
      rw [hadd] at h6
      exact ⟨u, h6, h7⟩
    have := RRep.sl (w := W) (S := (· < W.heap.size)) b off (l.map f) cap (P.cellsOf e) (fun i c => (W.cell? ⟨b, off + i * P.cellsOf e + c, none⟩).getD undef) (fun _ => hblk) (by simpa using hl) hm
      (fun row hr => by obtain ⟨z, _, rfl⟩ := List.mem_map.1 hr; exact hf z)
      (fun i row c d h1 h2 => by obtain ⟨u, h5, _⟩ := hu i row c d h1 h2; rw [h5]; rfl)
      (fun i row c d h1 h2 => by obtain ⟨u, h5, h6⟩ := hu i row c d h1 h2; rw [h5]; exact h6)
    rwa [List.length_map] at this
theorem struct_parts {t : TypeId} {fs : Array Field} {n : Nat} {fuel : Nat} {cs : List Value} {x : DataW H × List MemPlace} (ht : P.underlying t = some (.struct fs)) (hC : P.cellsOf t = n)
    (h : DataW.trod enc P W 0 (fun _ => true) true fuel t cs = some x) :
    cs.length = n ∧ ∃ xs : List (DataW H × List MemPlace), x.1 = .agg (xs.map (·.1)) ∧ xs.length = fs.size ∧
      ∀ (j : Nat) (f : Field), fs[j]? = some f → ∃ (y : DataW H × List MemPlace) (m : Nat), xs[j]? = some y ∧ DataW.trod enc P W 0 (fun _ => true) true m f.type ((cs.drop f.offset).take (P.cellsOf f.type)) = some y := by
  obtain ⟨ys, n', hn', rfl, hlen, hyl, hf⟩ := DataW.trod_struct ht h
  refine ⟨hlen.trans hC, ys, rfl, hyl, fun j f hj => ?_⟩
  have hjl : j < fs.size := (Array.getElem?_eq_some_iff.1 hj).1
  have h1 := hf j f hj
  have h2 : ys[j]? = some ys[j] := List.getElem?_eq_getElem (by omega)
  exact ⟨ys[j], n', h2, h1.trans h2⟩
theorem RowRep.part {cs : List Value} {off k jj : Nat} {row : List RV} {d : RV} {u : Value} (h : RowRep W ((cs.drop off).take k) row) (hjj : Nat.blt jj k = true) (h1 : row[jj]? = some d) (h2 : cs[off + jj]? = some u) : RRep W (· < W.heap.size) d u := by
  refine h.2 jj d u h1 ?_
  rw [List.getElem?_take, if_pos (lt_of_blt hjj), List.getElem?_drop]
  exact h2
theorem topm {t : TypeId} {α : Type} {d0 : α → RV} {ok : α → Prop} {μ : α → Nat} {v : Value} {d : DataW H} {p : List MemPlace} (hr : Rdm K enc P W t (fun a : α => [d0 a]) ok μ) (hv : v.cells = #[v])
    (h : DataW.Trod enc P W 0 (fun _ => true) true t v d p) : ∃ a, ok a ∧ RRep W (· < W.heap.size) (d0 a) v ∧ μ a ≤ K.B d := by
  obtain ⟨fuel, hf⟩ := h
  obtain ⟨l, h1, h2, h3⟩ := hr fuel _ _ hf
  rw [hv] at h2
  exact ⟨l, h1, h2.2 0 _ _ rfl rfl, h3⟩
theorem topm_slice {t e : TypeId} {α : Type} {f : α → List RV} {ok : List α → Prop} {μ : List α → Nat} {v : Value} {d : DataW H} {p : List MemPlace} {r : Reach} {b0 : Nat} (ht : P.underlying t = some (.slice e)) (hr : Rdm K enc P W t (fun l : List α => [.sl (l.map f)]) ok μ)
    (hval : Value.okWide P W r b0 t v) (h : DataW.Trod enc P W 0 (fun _ => true) true t v d p) : ∃ l, ok l ∧ RRep W (· < W.heap.size) (.sl (l.map f)) v ∧ μ l ≤ K.B d := by
  obtain ⟨a, len, cap, rfl⟩ := okWide_slice ht hval
  exact topm K hr rfl h
end
end Go.Proofs.Ytfkolgjapajekaa.Al


namespace Go.Proofs.Ytfkolgjapajekaa.Al
theorem list_of_gets {α : Type} {l ys : List α} (hl : l.length = ys.length) (h : ∀ (j : Nat) (y : α), ys[j]? = some y → l[j]? = some y) : l = ys := by
  apply List.ext_getElem? 
  intro i
  rcases Nat.lt_or_ge i ys.length with hi | hi
  · rw [h i _ (List.getElem?_eq_getElem hi), List.getElem?_eq_getElem hi]
  · rw [List.getElem?_eq_none hi, List.getElem?_eq_none (by omega)]
theorem len_le_sum {α : Type} {μ : α → Nat} (h : ∀ x, 1 ≤ μ x) (l : List α) : l.length ≤ (l.map μ).sum := by
  induction l with
  | nil => simp
  | cons a l ih => have := h a; simp only [List.length_cons, List.map_cons, List.sum_cons]; omega
theorem mem_le_sum {α : Type} {μ : α → Nat} {l : List α} {a : α} (h : a ∈ l) : μ a ≤ (l.map μ).sum := by
  induction l with
  | nil => cases h
  | cons b l ih =>
    simp only [List.map_cons, List.sum_cons]
    rcases List.mem_cons.1 h with rfl | h
    · omega
    · have := ih h; omega
end Go.Proofs.Ytfkolgjapajekaa.Al


namespace Go.Proofs.Ytfkolgjapajekaa.Al
end Go.Proofs.Ytfkolgjapajekaa.Al


namespace Go.Proofs.Ytfkolgjapajekaa.Al
end Go.Proofs.Ytfkolgjapajekaa.Al


namespace Go.Proofs.Ytfkolgjapajekaa.Al
end Go.Proofs.Ytfkolgjapajekaa.Al


namespace Go.Proofs.Ytfkolgjapajekaa.Al
section
variable {P : Program} {ops : Array Oper} {md : Region.Mode} {Q : Exit → Act → World → Prop} {S : World → Prop}
def wpAnyM (P : Program) (md : Region.Mode) (ops : Array Oper) (Q : Exit → Act → World → Prop) (S : World → Prop) (L : Array Bool → Act → World → Prop) : Nat → Array Bool → Act → World → Prop
  | 0, listed, a, w => L listed a w
  | f + 1, listed, a, w => Region.ready md ops listed ≠ [] ∧ ∀ i ∈ Region.ready md ops listed, wpOp P ops Q i (fun a' w' => S w' ∧ wpAnyM P md ops Q S L f (listed.setIfInBounds i true) a' w') a w
theorem wpAny_of_M {g : Nat} {L : Array Bool → Act → World → Prop} (hL : ∀ listed a w, L listed a w → wpAny P md ops Q g listed a w) :
    ∀ (f : Nat) (listed : Array Bool) (a : Act) (w : World), wpAnyM P md ops Q S L f listed a w → wpAny P md ops Q (f + g) listed a w
  | 0, listed, a, w, h => by rw [Nat.zero_add]; exact hL _ _ _ h
  | f + 1, listed, a, w, h => by
    rw [show f + 1 + g = (f + g) + 1 by omega]
    exact ⟨fun h0 => absurd h0 h.1, fun i hi => wpOp_mono (fun a' w' h' => wpAny_of_M hL f _ a' w' h'.2) (h.2 i hi)⟩
structure HI (md : Region.Mode) (ops : Array Oper) (n : Nat) (l0 listed : Array Bool) : Prop where
  size : listed.size = ops.size
  closed : ∀ j oj, ops[j]? = some oj → listed.getD j false = true → l0.getD j false = true ∨ ∀ e ∈ oj.after, Region.binds md e = true → listed.getD e.on false = true
  tail : ∀ t, n ≤ t → t < ops.size → listed.getD t true = false
  mono : ∀ j, l0.getD j false = true → listed.getD j false = true
theorem HI.set {n i : Nat} {l0 listed : Array Bool} (inv : HI md ops n l0 listed) (hi : i ∈ Region.ready md ops listed) (hin : i < n) : HI md ops n l0 (listed.setIfInBounds i true) := by
  obtain ⟨_, oi, hoi, hall⟩ := mem_ready.1 hi
  refine ⟨by simp [inv.size], fun j oj hj hl => ?_, fun t ht ht' => by rw [getD_set_ne true (by omega)]; exact inv.tail t ht ht', fun j hj => getD_set_true (inv.mono j hj)⟩
  by_cases hij : i = j
  · subst hij
    have : oj = oi := Option.some.inj (hj.symm.trans hoi)
    subst this
    exact .inr fun e he hb => getD_set_true (hall e he hb)
  · rw [getD_set_ne false hij] at hl
    rcases inv.closed j oj hj hl with h | h
    · exact .inl h
    · exact .inr fun e he hb => getD_set_true (h e he hb)
def sink0 (md : Region.Mode) (ops : Array Oper) (n : Nat) (l0 : Array Bool) : Bool :=
  (List.range n).all fun i => l0.getD i false || (List.range (n + 1)).any fun j => decide (i < j) && !l0.getD j false && Region.waitsFor md ops j i
theorem tail_waits0 {n : Nat} {l0 listed : Array Bool} (hs : sink0 md ops n l0 = true) (hc : Region.chainB md ops n = true) (hn : n < ops.size) (inv : HI md ops n l0 listed) :
    ∀ (d i : Nat), n - i = d → i < n → listed.getD i true = false → ∀ t, n ≤ t → t ∉ Region.ready md ops listed := by
  intro d
  induction d using Nat.strongRecOn with
  | _ d ih =>
    intro i hd hi hun t ht hr
    obtain ⟨_, ot, hot, hall⟩ := mem_ready.1 hr
    have htlt : t < ops.size := (Array.getElem?_eq_some_iff.1 hot).1
    by_cases htn : t = n
    · subst htn
      have h1 := List.all_eq_true.1 hs i (List.mem_range.2 hi)
      rw [Bool.or_eq_true] at h1
      rcases h1 with h1 | h1
      · have := inv.mono i h1
        rw [getD_both hun] at this; cases this
      obtain ⟨j, hj, hj2⟩ := List.any_eq_true.1 h1
      simp only [Bool.and_eq_true, decide_eq_true_eq, Bool.not_eq_true'] at hj2
      obtain ⟨oj, hoj, e, he, hb, hon⟩ := Region.waitsFor_spec hj2.2
      have hjle : j ≤ t := by have := List.mem_range.1 hj; omega
      by_cases hjt : j = t
      · subst hjt
        have : oj = ot := Option.some.inj (hoj.symm.trans hot)
        subst this
        have h2 := hall e he hb
        rw [hon, getD_both hun] at h2
        cases h2
      · cases hl : listed.getD j false with
        | true =>
          rcases inv.closed j oj hoj hl with h3 | h3
          · rw [h3] at hj2; cases hj2.1.2
          · have h2 := h3 e he hb
            rw [hon, getD_both hun] at h2
            cases h2
        | false =>
          have hjs : j < listed.size := by rw [inv.size]; omega
          exact ih (t - j) (by omega) j rfl (by omega) (getD_in hjs hl) t (Nat.le_refl _) hr
    · have h1 := List.all_eq_true.1 hc t (List.mem_range.2 htlt)
      simp only [Bool.or_eq_true, decide_eq_true_eq] at h1
      rcases h1 with h1 | h1
      · omega
      · obtain ⟨o', ho', e, he, hb, hon⟩ := Region.waitsFor_spec h1
        have : o' = ot := Option.some.inj (ho'.symm.trans hot)
        subst this
        have h2 := hall e he hb
        rw [hon, getD_both (inv.tail (t - 1) (by omega) (by omega))] at h2
        cases h2
theorem wpAnyM_first {n i : Nat} {oi : Oper} {v : Value} {l0 : Array Bool} {L : Array Bool → Act → World → Prop} (hi : ops[i]? = some oi) (hsel : ∀ (j : Nat) (o : Oper) cs b, ops[j]? = some o → o.op ≠ .select cs b)
    (hQ : ∀ c a w, Q (.panic c) (a.put oi.dst v) w → Q (.panic c) a w) (hs : sink0 md ops n l0 = true) (hc : Region.chainB md ops n = true) (hn : n < ops.size) (hin : i < n)
    (hdone : ∀ listed a w, L listed a w → ∀ j ∈ Region.ready md ops listed, n ≤ j) :
    ∀ (f : Nat) (listed : Array Bool) (a : Act) (w : World), HI md ops n l0 listed →
      (∀ j oj, ops[j]? = some oj → j ≠ i → listed.getD j true = false → (∀ e ∈ oj.after, Region.binds md e = true → e.on ≠ i) → oi.apart ops oj = true) →
      i ∈ Region.ready md ops listed → YieldsIf P ops S oi v a → S w →
      wpAnyM P md ops Q S L f (listed.setIfInBounds i true) (a.put oi.dst v) w → wpAnyM P md ops Q S L (f + 1) listed a w := by
  intro f
  induction f with
  | zero =>
    intro listed a w inv _ hr hy hS H
    have hun := (mem_ready.1 hr).1
    refine ⟨fun h => (by rw [h] at hr; cases hr), fun j hj => ?_⟩
    have hjn : j < n := by
      rcases Nat.lt_or_ge j n with h | h
      · exact h
      · exact absurd hj (tail_waits0 hs hc hn inv _ i rfl hin hun j h)
    by_cases hji : j = i
    · subst hji; exact hy.wpOp hi hS ⟨hS, H⟩
    · have := hdone _ _ _ H j (ready_mono hj hji)
      omega
  | succ f ih =>
    intro listed a w inv hfree hr hy hS H
    have hun := (mem_ready.1 hr).1
    refine ⟨fun h => (by rw [h] at hr; cases hr), fun j hj => ?_⟩
    have hjn : j < n := by
      rcases Nat.lt_or_ge j n with h | h
      · exact h
      · exact absurd hj (tail_waits0 hs hc hn inv _ i rfl hin hun j h)
    by_cases hji : j = i
    · subst hji; exact hy.wpOp hi hS ⟨hS, H⟩
    · have h1 := H.2 j (ready_mono hj hji)
      obtain ⟨hjun, oj, hoj, hall⟩ := mem_ready.1 hj
      have hnot : ∀ e ∈ oj.after, Region.binds md e = true → e.on ≠ i := fun e he hb heq => by
        have h1 := hall e he hb
        rw [heq, getD_both hun] at h1
        cases h1
      have h2 := wpOp_putIf hoj (hfree j oj hoj hji hjun hnot) (fun cs b => hsel i oi cs b hi) (fun cs b => hsel j oj cs b hoj) hQ hy h1
      have hfree' : ∀ k ok, ops[k]? = some ok → k ≠ i → (listed.setIfInBounds j true).getD k true = false →
          (∀ e ∈ ok.after, Region.binds md e = true → e.on ≠ i) → oi.apart ops ok = true := fun k ok hk hki hun hno => by
        refine hfree k ok hk hki ?_ hno
        by_cases hjk : j = k
        · subst hjk; exact hjun
        · rw [getD_set_ne true hjk] at hun; exact hun
      refine wpOp_mono (fun a' w' h3 => ⟨h3.2.1, ih (listed.setIfInBounds j true) a' w' (inv.set hj hjn) hfree' (ready_mono hr (Ne.symm hji)) h3.1 h3.2.1 ?_⟩) h2
      rw [Array.setIfInBounds_comm _ _ hji]
      exact h3.2.2
def takeB (md : Region.Mode) (ops : Array Oper) : List Nat → Array Bool → Bool
  | [], _ => true
  | i :: is, listed => (Region.ready md ops listed).contains i && Region.free md ops listed i && takeB md ops is (listed.setIfInBounds i true)
def soleB (md : Region.Mode) (ops : Array Oper) : List Nat → Array Bool → Bool
  | [], _ => true
  | i :: is, listed => decide (Region.ready md ops listed = [i]) && soleB md ops is (listed.setIfInBounds i true)
def setAll (listed : Array Bool) (is : List Nat) : Array Bool := is.foldl (fun l i => l.setIfInBounds i true) listed
def wpYld (P : Program) (ops : Array Oper) (S : World → Prop) (Qa : Act → Prop) : List Oper → Act → Prop
  | [], a => Qa a
  | o :: rest, a => ∃ v, YieldsIf P ops S o v a ∧ wpYld P ops S Qa rest (a.put o.dst v)
def wpAlone (P : Program) (ops : Array Oper) (Q : Exit → Act → World → Prop) (S : World → Prop) (Qa : Act → World → Prop) : List Oper → Act → World → Prop
  | [], a, w => Qa a w
  | o :: rest, a, w => o.guard = none ∧ o.wp P a w (fun a' w' => S w' ∧ wpAlone P ops Q S Qa rest a' w') Q
def NoPanic (Q : Exit → Act → World → Prop) : Prop := ∀ c a w, ¬ Q (.panic c) a w
theorem wpAny_floats (hsel : Region.noSelect ops = true) (hQ : NoPanic Q) {f : Nat} : ∀ (is : List Nat) (l : List Oper) (listed : Array Bool) (a : Act) (w : World), is.map (fun i => ops[i]?) = l.map some → takeB md ops is listed = true →
    wpYld P ops (fun _ => True) (fun a' => wpAny P md ops Q f (setAll listed is) a' w) l a → wpAny P md ops Q (f + is.length) listed a w
  | [], [], listed, a, w, _, _, h => h
  | [], _ :: _, _, _, _, h, _, _ => by cases h
  | _ :: _, [], _, _, _, h, _, _ => by cases h
  | i :: is, o :: l, listed, a, w, hl, hB, ⟨v, hy, h⟩ => by
    simp only [takeB, Bool.and_eq_true] at hB
    obtain ⟨⟨hr, hf⟩, hB'⟩ := hB
    simp only [List.map_cons, List.cons.injEq] at hl
    have := wpAny_floats hsel hQ is l (listed.setIfInBounds i true) (a.put o.dst v) w hl.2 hB' h
    rw [List.length_cons, ← Nat.add_assoc]
    refine wpAny_take hl.1 hsel hf hr (fun c a w h => absurd h (hQ _ _ _)) ?_ this
    exact hy.imp (fun ⟨hw, hv⟩ => ⟨hw, fun w => hv w trivial⟩) id
theorem wpAnyM_alone {n : Nat} {l0 : Array Bool} {L : Array Bool → Act → World → Prop} : ∀ (is : List Nat) (l : List Oper) (listed : Array Bool) (a : Act) (w : World), is.map (fun i => ops[i]?) = l.map some → soleB md ops is listed = true →
    wpAlone P ops Q S (fun a' w' => L (setAll listed is) a' w') l a w → wpAnyM P md ops Q S L is.length listed a w
  | [], [], listed, a, w, _, _, h => h
  | [], _ :: _, _, _, _, h, _, _ => by cases h
  | _ :: _, [], _, _, _, h, _, _ => by cases h
  | i :: is, o :: l, listed, a, w, hl, hB, ⟨hg, h⟩ => by
    simp only [soleB, Bool.and_eq_true, decide_eq_true_eq] at hB
    simp only [List.map_cons, List.cons.injEq] at hl
    refine ⟨by rw [hB.1]; simp, fun j hj => ?_⟩
    rw [hB.1] at hj
    have : j = i := by simpa using hj
    subst this
    unfold wpOp
    simp only [hl.1]
    rw [if_pos (by simp [Region.wanted, hg])]
    exact .inl (Oper.wp_mono (fun a' w' h' => ⟨h'.1, wpAnyM_alone (n := n) (l0 := l0) is l _ a' w' hl.2 hB.2 h'.2⟩) h)
theorem wpAnyM_quiet {n : Nat} {l0 : Array Bool} {L : Array Bool → Act → World → Prop} {f : Nat} (hsel : Region.noSelect ops = true) (hQ : NoPanic Q) (hs : sink0 md ops n l0 = true) (hc : Region.chainB md ops n = true) (hn : n < ops.size)
    (hdone : ∀ listed a w, L listed a w → ∀ j ∈ Region.ready md ops listed, n ≤ j) {w : World} (hS : S w) : ∀ (is : List Nat) (l : List Oper) (listed : Array Bool) (a : Act), is.map (fun i => ops[i]?) = l.map some → takeB md ops is listed = true →
    (∀ i ∈ is, i < n) → HI md ops n l0 listed →
    wpYld P ops S (fun a' => wpAnyM P md ops Q S L f (setAll listed is) a' w) l a → wpAnyM P md ops Q S L (f + is.length) listed a w
  | [], [], listed, a, _, _, _, _, h => h
  | [], _ :: _, _, _, h, _, _, _, _ => by cases h
  | _ :: _, [], _, _, h, _, _, _, _ => by cases h
  | i :: is, o :: l, listed, a, hl, hB, hin, inv, ⟨v, hy, h⟩ => by
    simp only [takeB, Bool.and_eq_true] at hB
    obtain ⟨⟨hr, hf⟩, hB'⟩ := hB
    simp only [List.map_cons, List.cons.injEq] at hl
    have hr' : i ∈ Region.ready md ops listed := by simpa using hr
    have hi' := hin i (List.mem_cons_self ..)
    have := wpAnyM_quiet hsel hQ hs hc hn hdone hS is l (listed.setIfInBounds i true) (a.put o.dst v) hl.2 hB' (fun j hj => hin j (List.mem_cons_of_mem _ hj)) (inv.set hr' hi') h
    rw [List.length_cons, ← Nat.add_assoc]
    exact wpAnyM_first hl.1 (Region.noSelect_spec hsel) (fun c a w h => absurd h (hQ _ _ _)) hs hc hn hi' hdone _ listed a w inv (Region.free_spec hl.1 hf) hr' hy hS this
end
end Go.Proofs.Ytfkolgjapajekaa.Al


namespace Go.Proofs.Ytfkolgjapajekaa.Al
section
variable {P : Program} {ops : Array Oper} {rest : List Oper} {s : St} {K : St → Prop} {o : Oper}
def AFl (P : Program) (ops : Array Oper) (rest : List Oper) (s : St) (K : St → Prop) : Prop :=
  ∀ (y : Cx) (a : Act), y.ok → y.H = hget s.h → y.n = s.n → a.tmps.size = s.N → EnvOk y s.e a → ∀ Qa : Act → Prop,
    (∀ s' a', K s' → s'.h = s.h → s'.n = s.n → s'.N = s.N → a'.tmps.size = s.N → a'.defers = a.defers → EnvOk y s'.e a' → Qa a') → wpYld P ops (fun _ => True) Qa rest a
theorem AFl.nil (h : K s) : AFl P ops [] s K := fun _ a _ _ _ hN he _ hQ => hQ s a h rfl rfl rfl hN rfl he
theorem AFl.move {d : Nat} {x : Operand} (hg : o.guard = none) (ho : o.op = .move x) (hd : o.dst = some d) (hN : Nat.blt d s.N = true)
    (hr : AFl P ops rest { e := (d, evalOp s.e x) :: s.e, h := s.h, n := s.n, N := s.N } K) : AFl P ops (o :: rest) s K := by
  intro y a hok hH hn hsz he Qa hQ
  have hN' : d < a.tmps.size := by rw [hsz]; exact lt_of_blt hN
  refine ⟨a.eval x, .inl ⟨by simp [Region.wanted, hg], fun w _ => by unfold execOp; simp only [ho]; rfl⟩, ?_⟩
  rw [hd]
  exact hr y (a.put (some d) (a.eval x)) hok hH hn (by simpa [Act.put] using hsz) (he.put hN' (he.eval x)) Qa fun s' a' k1 k2 k3 k4 k5 k6 k7 => hQ s' a' k1 k2 k3 k4 k5 k6 k7
def AF (P : Program) (ops : Array Oper) (rest : List Oper) (s : St) (K : St → Prop) : Prop :=
  ∀ (y : Cx) (a : Act), y.ok → y.H = hget s.h → y.n = s.n → a.tmps.size = s.N → EnvOk y s.e a → ∀ Qa : Act → Prop,
    (∀ s' a', K s' → s'.h = s.h → s'.n = s.n → s'.N = s.N → a'.tmps.size = s.N → a'.defers = a.defers → EnvOk y s'.e a' → Qa a') → wpYld P ops (Agree y) Qa rest a
theorem AF.nil (h : K s) : AF P ops [] s K := fun _ a _ _ _ hN he _ hQ => hQ s a h rfl rfl rfl hN rfl he
theorem AF.step {d : Nat} {v : AV} (hg : o.guard = none) (hd : o.dst = some d) (hN : Nat.blt d s.N = true) (hs : OpQ P true o s.e s.h v)
    (hr : AF P ops rest { e := (d, v) :: s.e, h := s.h, n := s.n, N := s.N } K) : AF P ops (o :: rest) s K := by
  intro y a hok hH hn hsz he Qa hQ
  obtain ⟨u, hrun, hv⟩ := hs rfl y a hok hH he
  have hN' : d < a.tmps.size := by rw [hsz]; exact lt_of_blt hN
  refine ⟨u, .inl ⟨by simp [Region.wanted, hg], hrun⟩, ?_⟩
  rw [hd]
  exact hr y (a.put (some d) u) hok hH hn (by simpa [Act.put] using hsz) (he.put hN' hv) Qa fun s' a' k1 k2 k3 k4 k5 k6 k7 => hQ s' a' k1 k2 k3 k4 k5 k6 k7
theorem AF.stepW {d : Nat} {c : Bool} {v : AV} (hG : GuardC s.e ops o c) (hd : o.dst = some d) (hN : Nat.blt d s.N = true) (hs : OpQ P c o s.e s.h v)
    (hr : AF P ops rest { e := (d, .whn c v) :: s.e, h := s.h, n := s.n, N := s.N } K) : AF P ops (o :: rest) s K := by
  intro y a hok hH hn hsz he Qa hQ
  have hN' : d < a.tmps.size := by rw [hsz]; exact lt_of_blt hN
  cases hc : c with
  | true =>
    subst hc
    obtain ⟨u, hrun, hv⟩ := hs rfl y a hok hH he
    refine ⟨u, .inl ⟨hG.wanted he, hrun⟩, ?_⟩
    rw [hd]
    exact hr y (a.put (some d) u) hok hH hn (by simpa [Act.put] using hsz) (he.put hN' (.whn (fun _ => hv) (fun h => by cases h))) Qa fun s' a' k1 k2 k3 k4 k5 k6 k7 => hQ s' a' k1 k2 k3 k4 k5 k6 k7
  | false =>
    subst hc
    refine ⟨undef, .inr ⟨hG.wanted he, rfl⟩, ?_⟩
    rw [hd]
    exact hr y (a.put (some d) undef) hok hH hn (by simpa [Act.put] using hsz) (he.put hN' (.whn (fun h => by cases h) (fun _ => rfl))) Qa fun s' a' k1 k2 k3 k4 k5 k6 k7 => hQ s' a' k1 k2 k3 k4 k5 k6 k7
def OpSpecA (P : Program) (o : Oper) (R : Env) (h : Heap) (n : Nat) (v : AV) (h' : Heap) (n' : Nat) : Prop :=
  ∀ (x : Cx) (a : Act), x.ok → x.H = hget h → x.n = n → EnvOk x R a → ∀ (K : Act → World → Prop) (Q : Exit → Act → World → Prop),
    (∀ (u : Value) (y : Cx), x.le y → y.ok → y.H = hget h' → y.n = n' → AVRep y v u → (∀ b, b < x.w.heap.size → y.w.heap[b]? = x.w.heap[b]?) → K (a.put o.dst u) y.w) → o.wp P a x.w K Q
def AA (P : Program) (ops : Array Oper) (rest : List Oper) (s : St) (K : St → Prop) : Prop :=
  ∀ (y0 y : Cx) (a : Act), y0.ok → y0.le y → Agree y0 y.w → y.ok → y.H = hget s.h → y.n = s.n → a.tmps.size = s.N → EnvOk y s.e a → ∀ (Q : Exit → Act → World → Prop) (Qa : Act → World → Prop),
    (∀ s' a' y', K s' → y0.le y' → y'.ok → y'.H = hget s'.h → y'.n = s'.n → s'.N = s.N → a'.tmps.size = s.N → a'.defers = a.defers → EnvOk y' s'.e a' → Qa a' y'.w) → wpAlone P ops Q (Agree y0) Qa rest a y.w
theorem AA.nil (h : K s) : AA P ops [] s K := fun _ y a _ hle _ hok hH hn hN he _ _ hQ => hQ s a y h hle hok hH hn rfl hN rfl he
theorem AA.step {d : Nat} {v : AV} {h' : Heap} {n' : Nat} (hg : o.guard = none) (hd : o.dst = some d) (hN : Nat.blt d s.N = true) (hs : OpSpecA P o s.e s.h s.n v h' n')
    (hr : AA P ops rest { e := (d, v) :: s.e, h := h', n := n', N := s.N } K) : AA P ops (o :: rest) s K := by
  intro y0 y a hok0 hle hag hok hH hn hsz he Q Qa hQ
  have hN' : d < a.tmps.size := by rw [hsz]; exact lt_of_blt hN
  refine ⟨hg, hs y a hok hH hn he _ _ fun u y' k1 k2 k3 k4 k5 k6 => ?_⟩
  have hag' : Agree y0 y'.w := by
    intro b hb
    have hlt : b < y0.w.heap.size := by
      rcases hb with hb | ⟨id, o, k, h1, h2⟩
      · exact hok0.S_lt b hb
      · exact (hok0.own id o b k h1 h2).1
    rw [k6 b (Nat.lt_of_lt_of_le hlt hle.size)]
    exact hag b hb
  refine ⟨hag', ?_⟩
  rw [hd]
  exact hr y0 y' (a.put (some d) u) hok0 (hle.trans k1) hag' k2 k3 k4 (by simpa [Act.put] using hsz) ((he.mono k1).put hN' k5) Q Qa fun s' a' y' j1 j2 j3 j4 j5 j6 j7 j8 => hQ s' a' y' j1 j2 j3 j4 j5 j6 j7 j8
def regB (ops : Array Oper) (fl hq al : List Nat) (n : Nat) : Bool :=
  let r0 := Array.replicate ops.size false
  let l0 := setAll r0 fl
  let l1 := setAll l0 hq
  let l2 := setAll l1 al
  Region.noSelect ops && decide (n < ops.size) && sink0 .any ops n l0 && Region.chainB .any ops n && takeB .any ops fl r0 && takeB .any ops hq l0 && soleB .any ops al l1
    && Region.seqB .any ops (ops.size - n) n l2 && decide (fl.length + hq.length + al.length = n) && (hq.all fun i => decide (i < n)) && ((List.range ops.size).all fun t => decide (t < n) || !l0.getD t true)
theorem setAll_size (is : List Nat) (l : Array Bool) : (setAll l is).size = l.size := by
  induction is generalizing l with
  | nil => rfl
  | cons i is ih => show (setAll (l.setIfInBounds i true) is).size = _; rw [ih]; simp
theorem agree_refl (y : Cx) : Agree y y.w := fun _ _ => rfl
theorem AW.regionF {id : Nat} {l : List Oper} {Q : Exit → St → Prop} (fl hq al : List Nat) (n : Nat) {lf lh la lt : List Oper} (hm : P.follows .mixedOrders = true) (hB : regB l.toArray fl hq al n = true)
    (e1 : fl.map (fun i => l.toArray[i]?) = lf.map some) (e2 : hq.map (fun i => l.toArray[i]?) = lh.map some) (e3 : al.map (fun i => l.toArray[i]?) = la.map some) (e4 : l.drop n = lt)
    (h : AFl P l.toArray lf s fun s1 => AF P l.toArray lh s1 fun s2 => AA P l.toArray la s2 fun s3 => AOps P l.toArray lt s3 (Q .normal)) : AW P (.region id l.toArray true) Q s := by
  intro c0 a w ⟨hdef, hsz, y, hyw, hle, hok, hH, hn, he⟩
  subst hyw
  obtain ⟨r1, r2⟩ := Cx.redraw hok
  simp only [regB, Bool.and_eq_true, decide_eq_true_eq] at hB
  obtain ⟨⟨⟨⟨⟨⟨⟨⟨⟨⟨b1, b2⟩, b3⟩, b4⟩, b5⟩, b6⟩, b7⟩, b8⟩, b9⟩, b10⟩, b11⟩ := hB
  refine wp_mono (Q := fun e a' w' => e = .normal ∧ ∃ s', Q .normal s' ∧ Sim c0 s' a' w') ?_ fun e a' w' ⟨k1, k2⟩ => by subst k1; exact k2
  refine wp_region_any hm ?_
  have hQ : NoPanic (fun (e : Exit) (a' : Act) (w' : World) => e = .normal ∧ ∃ s', Q .normal s' ∧ Sim c0 s' a' w') := fun c a w h => by cases h.1
  generalize hz : ({ y with w := { y.w with drawn := y.w.drawn + 1 } } : Cx) = z at r1 r2
  have hzw : z.w = { y.w with drawn := y.w.drawn + 1 } := by rw [← hz]
  have hzH : z.H = hget s.h := by rw [← hz]; exact hH
  have hzn : z.n = s.n := by rw [← hz]; exact hn
  rw [← hzw]
  have hsize : l.toArray.size = (l.toArray.size - n) + al.length + hq.length + fl.length := by omega
  have goal := wpAny_floats (P := P) (md := .any) (f := (l.toArray.size - n) + al.length + hq.length) b1 hQ fl lf (Array.replicate l.toArray.size false) a z.w e1 b5
    (h z a r2 hzH hzn hsz (he.mono r1) _ fun s1 a1 k1 k2 k3 k4 k5 k6 k7 => by
      rw [show l.toArray.size - n + al.length + hq.length = (al.length + hq.length) + (l.toArray.size - n) by omega]
      refine wpAny_of_M (S := Agree z) (L := fun listed a' w' => listed = setAll (setAll (setAll (Array.replicate l.toArray.size false) fl) hq) al ∧ wpList P l.toArray (fun e a' w' => e = .normal ∧ ∃ s', Q .normal s' ∧ Sim c0 s' a' w') lt a' w') (fun listed a' w' ⟨q1, q2⟩ => ?_) _ _ _ _ ?_
      · subst q1; subst e4
        have hdl : (l.drop n).length = l.toArray.size - n := by simp
        have := wpAny_of_seq (md := .any) (l.drop n) n _ a' w' (fun j => by simp [List.getElem?_drop]) (by rw [hdl]; exact b8) q2
        rwa [hdl] at this
      · refine wpAnyM_quiet (n := n) (l0 := setAll (Array.replicate l.toArray.size false) fl) b1 hQ b3 b4 b2 (fun listed a' w' ⟨q1, _⟩ j hj => by subst q1; exact seqB_ready b8 j hj) (agree_refl z) hq lh _ a1 e2 b6
          (fun i hi => by simpa using (List.all_eq_true.1 b10 i hi)) ⟨by rw [setAll_size]; simp, fun j oj _ hl => .inl hl, fun t ht htl => ?_, fun _ h => h⟩ ?_
        · have := List.all_eq_true.1 b11 t (List.mem_range.2 htl)
          simp only [Bool.or_eq_true, decide_eq_true_eq, Bool.not_eq_true'] at this
          rcases this with h | h
          · omega
          · exact h
        · refine k1 z a1 r2 (by rw [k2]; exact hzH) (by rw [k3]; exact hzn) (by rw [k4, k5]) k7 _ fun s2 a2 m1 m2 m3 m4 m5 m6 m7 => ?_
          refine wpAnyM_alone (n := n) (l0 := setAll (Array.replicate l.toArray.size false) fl) al la _ a2 z.w e3 b7 ?_
          refine m1 z z a2 r2 (.refl z) (agree_refl z) r2 (by rw [m2, k2]; exact hzH) (by rw [m3, k3]; exact hzn) (by rw [m4, m5]) m7 _ _ fun s3 a3 y3 t1 t2 t3 t4 t5 t6 t7 t8 t9 => ⟨rfl, ?_⟩
          exact t1 c0 a3 y3.w ⟨t8.trans (m6.trans (k6.trans hdef)), by rw [t7, t6], y3, rfl, (hle.trans r1).trans t2, t3, t4, t5, t9⟩ _ fun s'' a'' w'' j1 j2 => ⟨rfl, s'', j1, j2⟩)
  have e : l.toArray.size - n + al.length + hq.length + fl.length = l.toArray.size := by omega
  rw [e] at goal
  exact goal
end
end Go.Proofs.Ytfkolgjapajekaa.Al


namespace Go.Proofs.Ytfkolgjapajekaa.Al
section
variable {P : Program} {o : Oper} {R : Env} {h : Heap} {n : Nat}
theorem spA_buildSlice {t e : TypeId} {sz by_ len : Nat} {parts : Array (Nat × Operand)} (id : Nat) {rows : List (List RV)} (ho : o.op = .buildSlice t len parts) (ht : GrowTy P t e sz by_)
    (hp : RowsEv true R 0 parts.toList rows) (hlen : rows.length = len) (hrow : ∀ row ∈ rows, row.length = sz) (hsmall : Nat.ble (len * sz) 16777216 = true) :
    OpSpecA P o R h n (.own id n) ((id, some (.arr n e sz rows)) :: h) (n + 1) := by
  intro z w hok hH hn he K Q hK
  have hc : true = true := rfl
  obtain ⟨ht1, ii, zv, hi, hisz, _, hz, hzs, _, h0⟩ := ht
  have hsm : len * sz ≤ 16777216 := Nat.le_of_ble_eq_true hsmall
  have hlm : len ≤ len * sz := Nat.le_mul_of_pos_right _ h0
  obtain ⟨hpl, hpg⟩ := hp.get
  have hinit : ∃ init : Array Value, init.size = len * sz ∧ ∀ W, (Instr.buildSlice t len (parts.map fun (i, x) => (i, w.eval x))).run P W =
      match Instr.fill (fun i => some (i * sz, sz)) init (parts.toList.map fun (i, x) => (i, w.eval x)) with
      | some cells => .ok (.slice (some ⟨W.heap.size, 0, none⟩) len len) (W.alloc (.cells cells e))
      | none => .halt (.stuck "buildSlice: a part of the wrong size") W := by
    refine ⟨(Array.range (len * sz)).map (fun i => (if len * sz = 0 then #[] else zv.cells)[i % (if len * sz = 0 then #[] else zv.cells).size]!), by simp, fun W => ?_⟩
    have hnot : ¬ 2 ^ 24 < len * sz := by omega
    by_cases hl0 : len * sz = 0
    · simp only [Instr.buildSlice, Sem.run_bind, run_underlying ht1, Result.andThen_ok, run_sizeOf hi, hisz, hl0]
      simp
      split <;> simp_all [newRow, Instr.fill]
    · simp only [Instr.buildSlice, Sem.run_bind, run_underlying ht1, Result.andThen_ok, run_sizeOf hi, hisz]
      simp only [hnot, hl0, zeroValue, typeInfo, if_false, Sem.run_bind, run_program, Result.andThen_ok, hi, hz, Sem.run_pure, Array.toList_map]
      generalize Instr.fill _ _ _ = r
      cases r <;> simp [newRow]
  obtain ⟨init, hisize, hrun⟩ := hinit
  obtain ⟨us', f1, f2, _, f4⟩ := fill_rows sz (parts.toList.map fun (i, x) => (i, w.eval x)) 0 init (fun j p hj => by
    simp only [List.getElem?_map, Option.map_eq_some_iff] at hj
    obtain ⟨q, hq, rfl⟩ := hj
    obtain ⟨h1, row, a, h2, h3, h4⟩ := hpg j q hq
    refine ⟨by simpa using h1, ?_⟩
    rw [(rowRV_rep h4 (h3.rep he hc)).1]
    exact hrow row (List.mem_of_getElem? h2)) (by rw [hisize]; simp only [List.length_map, hpl, hlen, Nat.zero_add]; exact Nat.le_refl _)
  obtain ⟨y, k1, k2, k3, k4, k5, k6⟩ := newRow_spec hok id e sz rows us' h0 hrow (by rw [f2, hisize, hlen]) (by unfold maxLen; omega) (fun i row k d h1 h2 => by
    have hi' : i < parts.toList.length := by rw [hpl]; exact (List.getElem?_eq_some_iff.1 h1).1
    obtain ⟨_, row', a, h3, h4, h5⟩ := hpg i _ (List.getElem?_eq_getElem hi')
    rw [h1] at h3; cases h3
    obtain ⟨u, h6, h7⟩ := (rowRV_rep h5 (h4.rep he hc)).2 k d h2
    refine ⟨u, ?_, h7⟩
    have hk : k < sz := by rw [← hrow row (List.mem_of_getElem? h1)]; exact (List.getElem?_eq_some_iff.1 h2).1
    have := f4 i (parts.toList[i].1, w.eval parts.toList[i].2) k (by simp [List.getElem?_map, List.getElem?_eq_getElem hi']) hk
    rw [Nat.zero_add] at this
    rw [this]; exact h6)
  unfold Oper.wp execOp
  simp only [ho, Sem.run_bind, hrun, f1, Result.andThen_ok, Sem.run_pure]
  have := hK _ y k1 k2 (by rw [k4, hH, hn, hget_upd]) (by rw [k5, hn]) (by rw [← hn]; exact k6) (fun b hb => by rw [k3]; exact heap_alloc_old _ _ hb)
  rw [k3, hlen] at this
  exact this
theorem msA_lit {α : Type} {f : α → List RV} {t e : TypeId} {sz by_ len : Nat} {parts : Array (Nat × Operand)} (id : Nat) {l : List α} (ho : o.op = .buildSlice t len parts) (ht : GrowTy P t e sz by_)
    (hp : RowsEv true R 0 parts.toList (l.map f)) (hlen : l.length = len) (hrow : ∀ a, (f a).length = sz) (hsmall : Nat.ble (len * sz) 16777216 = true) :
    OpSpecA P o R h n (.own id n) ((id, some (.arr n e sz (l.map f))) :: h) (n + 1) :=
  spA_buildSlice id ho ht hp (by rw [List.length_map]; exact hlen) (fun row hr => by obtain ⟨a, _, rfl⟩ := List.mem_map.1 hr; exact hrow a) hsmall
end
end Go.Proofs.Ytfkolgjapajekaa.Al
namespace Go.Proofs.Ytfkolgjapajekaa.Al
def pick (l : List Oper) : List Nat → List Oper
  | [] => []
  | i :: is => match l[i]? with
    | some o => o :: pick l is
    | none => pick l is
theorem pick_map {l : List Oper} {is : List Nat} (h : (is.all fun i => Nat.blt i l.length) = true) : is.map (fun i => l.toArray[i]?) = (pick l is).map some := by
  induction is with
  | nil => rfl
  | cons i is ih =>
    simp only [List.all_cons, Bool.and_eq_true] at h
    have hi := lt_of_blt h.1
    rw [List.map_cons, ih h.2, pick, List.getElem?_eq_getElem hi]
    simp [hi]
theorem AW.regionF' {P : Program} {s : St} {id : Nat} {l : List Oper} {Q : Exit → St → Prop} (fl hq al : List Nat) (n : Nat) {lf lh la lt : List Oper} (hm : P.follows .mixedOrders = true) (hB : regB l.toArray fl hq al n = true)
    (hi : ((fl ++ hq ++ al).all fun i => Nat.blt i l.length) = true) (e1 : pick l fl = lf) (e2 : pick l hq = lh) (e3 : pick l al = la) (e4 : l.drop n = lt)
    (h : AFl P l.toArray lf s fun s1 => AF P l.toArray lh s1 fun s2 => AA P l.toArray la s2 fun s3 => AOps P l.toArray lt s3 (Q .normal)) : AW P (.region id l.toArray true) Q s := by
  subst e1; subst e2; subst e3
  simp only [List.all_append, Bool.and_eq_true] at hi
  exact AW.regionF fl hq al n hm hB (pick_map hi.1.1) (pick_map hi.1.2) (pick_map hi.2) e4 h
end Go.Proofs.Ytfkolgjapajekaa.Al


namespace Go.Proofs.Ytfkolgjapajekaa.Al
end Go.Proofs.Ytfkolgjapajekaa.Al


namespace Go.Proofs.Ytfkolgjapajekaa.Al
end Go.Proofs.Ytfkolgjapajekaa.Al
namespace Go.Proofs.Ytfkolgjapajekaa.Al
section
variable {P : Program} {o : Oper} {R : Env} {h : Heap} {n : Nat}
end
end Go.Proofs.Ytfkolgjapajekaa.Al


namespace Go.Proofs.Ytfkolgjapajekaa.Al
structure PO where
  d : Option Nat
  v : (Nat → Nat) → AV
  hp : Option (Nat × ((Nat → Nat) → Option AObj))
  dep : List Nat
def PO.wE (p : PO) : Option (Nat × ((Nat → Nat) → AV)) := match p.d with | some d => some (d, p.v) | none => none
def PO.wH (p : PO) : Option (Nat × ((Nat → Nat) → Option AObj)) := p.hp
section
variable {α : Type} (wr : PO → Option (Nat × ((Nat → Nat) → α))) (D : Nat → Bool) (G : Nat → Nat)
def runL : List (Nat × α) → List PO → Nat → List (Nat × α)
  | e, [], _ => e
  | e, p :: L, k => match D k with
    | true => match wr p with
      | some (d, v) => runL ((d, v G) :: e) L (k + 1)
      | none => runL e L (k + 1)
    | false => runL e L (k + 1)
def NoW (t : Nat) (L : List PO) (k : Nat) : Prop := ∀ (j : Nat) (p : PO) v, L[j]? = some p → D (k + j) = true → wr p ≠ some (t, v)
end
theorem NoW.tail {α : Type} {wr : PO → Option (Nat × ((Nat → Nat) → α))} {D : Nat → Bool} {t : Nat} {p : PO} {L : List PO} {k : Nat} (h : NoW wr D t (p :: L) k) : NoW wr D t L (k + 1) :=
  fun j q v h1 h2 => h (j + 1) q v (by simpa using h1) (by rwa [show k + (j + 1) = k + 1 + j by omega])
section
variable {α : Type} {wr : PO → Option (Nat × ((Nat → Nat) → α))} {D : Nat → Bool} {G : Nat → Nat} {lk : List (Nat × α) → Nat → α} (hlk : ∀ d v R t, lk ((d, v) :: R) t = if d = t then v else lk R t)
include hlk
theorem runL_none {t : Nat} : ∀ (L : List PO) (e : List (Nat × α)) (k : Nat), NoW wr D t L k → lk (runL wr D G e L k) t = lk e t
  | [], _, _, _ => rfl
  | p :: L, e, k, h => by
    unfold runL
    cases hD : D k with
    | false => exact runL_none L e (k + 1) h.tail
    | true =>
      cases hw : wr p with
      | none => exact runL_none L e (k + 1) h.tail
      | some q =>
        obtain ⟨d, v⟩ := q
        have hdt : d ≠ t := fun e => h 0 p v rfl hD (by rw [hw, e])
        exact (runL_none L _ (k + 1) h.tail).trans (by rw [hlk, if_neg hdt])
theorem runL_some {t : Nat} {p : PO} {v : (Nat → Nat) → α} (hw : wr p = some (t, v)) : ∀ (L : List PO) (e : List (Nat × α)) (k j : Nat), L[j]? = some p → D (k + j) = true → NoW wr D t (L.drop (j + 1)) (k + j + 1) → lk (runL wr D G e L k) t = v G
  | [], _, _, _, h, _, _ => by simp at h
  | q :: L, e, k, 0, h1, h2, h3 => by
    cases h1
    unfold runL
    rw [show D k = true from h2, hw]
    exact (runL_none hlk L _ (k + 1) (by simpa using h3)).trans (by rw [hlk, if_pos rfl])
  | q :: L, e, k, j + 1, h1, h2, h3 => by
    have h1' : L[j]? = some p := by simpa using h1
    have h2' : D (k + 1 + j) = true := by rwa [show k + 1 + j = k + (j + 1) by omega]
    have h3' : NoW wr D t (L.drop (j + 1)) (k + 1 + j + 1) := by rw [show k + 1 + j + 1 = k + (j + 1) + 1 by omega]; simpa using h3
    unfold runL
    cases D k with
    | false => exact runL_some hw L e (k + 1) j h1' h2' h3'
    | true =>
      cases wr q with
      | none => exact runL_some hw L e (k + 1) j h1' h2' h3'
      | some r => exact runL_some hw L _ (k + 1) j h1' h2' h3'
theorem runL_congr {t : Nat} {D' : Nat → Bool} {G' : Nat → Nat} : ∀ (L : List PO) (e e' : List (Nat × α)) (k : Nat), lk e' t = lk e t →
    (∀ (j : Nat) (p : PO) v, L[j]? = some p → wr p = some (t, v) → D' (k + j) = D (k + j) ∧ (D (k + j) = true → v G' = v G)) → lk (runL wr D' G' e' L k) t = lk (runL wr D G e L k) t
  | [], _, _, _, h, _ => h
  | p :: L, e, e', k, h, hw => by
    have ht : ∀ (j : Nat) (q : PO) v, L[j]? = some q → wr q = some (t, v) → D' (k + 1 + j) = D (k + 1 + j) ∧ (D (k + 1 + j) = true → v G' = v G) := fun j q v h1 h2 => by
      have := hw (j + 1) q v (by simpa using h1) h2
      rwa [show k + (j + 1) = k + 1 + j by omega] at this
    unfold runL
    cases hp : wr p with
    | none =>
      have ih := runL_congr L e e' (k + 1) h ht
      cases D' k <;> cases D k <;> exact ih
    | some q =>
      obtain ⟨d, v⟩ := q
      by_cases hdt : d = t
      · subst hdt
        obtain ⟨h1, h2⟩ := hw 0 p v rfl hp
        rw [Nat.add_zero] at h1 h2
        rw [h1]
        cases hD : D k with
        | false => exact runL_congr L e e' (k + 1) h ht
        | true => exact runL_congr L _ _ (k + 1) (by rw [hlk, hlk, if_pos rfl, if_pos rfl, h2 hD]) ht
      · have e1 : lk ((d, v G') :: e') t = lk e' t := by rw [hlk, if_neg hdt]
        have e2 : lk ((d, v G) :: e) t = lk e t := by rw [hlk, if_neg hdt]
        cases D' k <;> cases D k
        · exact runL_congr L _ _ (k + 1) h ht
        · exact runL_congr L _ _ (k + 1) (by rw [e2]; exact h) ht
        · exact runL_congr L _ _ (k + 1) (by rw [e1]; exact h) ht
        · exact runL_congr L _ _ (k + 1) (by rw [e1, e2]; exact h) ht
end
abbrev runE (D : Nat → Bool) (G : Nat → Nat) (e : Env) (L : List PO) : Env := runL PO.wE D G e L 0
abbrev runH (D : Nat → Bool) (G : Nat → Nat) (h : Heap) (L : List PO) : Heap := runL PO.wH D G h L 0
def updG (G : Nat → Nat) (i n : Nat) : Nat → Nat := fun k => if k = i then n else G k
section
variable {P : Program} {ops : Array Oper}
def wt (ops : Array Oper) : Nat → Nat → Nat → Bool
  | 0, _, _ => false
  | f + 1, j, i => Region.waitsFor .any ops j i || (List.range j).any fun m => Region.waitsFor .any ops j m && wt ops f m i
def Cl (ops : Array Oper) (D : Nat → Bool) : Prop := ∀ j k, D j = true → Region.waitsFor .any ops j k = true → D k = true
theorem Cl.wt {D : Nat → Bool} (h : Cl ops D) : ∀ (f j i : Nat), Al.wt ops f j i = true → D j = true → D i = true
  | 0, _, _, h1, _ => by cases h1
  | f + 1, j, i, h1, h2 => by
    unfold Al.wt at h1
    rw [Bool.or_eq_true] at h1
    rcases h1 with h1 | h1
    · exact h j i h2 h1
    · obtain ⟨m, _, h3⟩ := List.any_eq_true.1 h1
      rw [Bool.and_eq_true] at h3
      exact h.wt f m i h3.2 (h j m h2 h3.1)
structure RdyP (ops : Array Oper) (D : Nat → Bool) (i : Nat) : Prop where
  cl : Cl ops D
  hw : ∀ k, Region.waitsFor .any ops i k = true → D k = true
  un : D i = false
theorem RdyP.yes {D : Nat → Bool} {i : Nat} (h : RdyP ops D i) {k : Nat} (hk : Al.wt ops 40 i k = true) : D k = true := by
  unfold Al.wt at hk
  rw [Bool.or_eq_true] at hk
  rcases hk with hk | hk
  · exact h.hw k hk
  · obtain ⟨m, _, h3⟩ := List.any_eq_true.1 hk
    rw [Bool.and_eq_true] at h3
    exact h.cl.wt 39 m k h3.2 (h.hw m h3.1)
theorem RdyP.no {D : Nat → Bool} {i : Nat} (h : RdyP ops D i) {k : Nat} (hk : Al.wt ops 40 k i = true) : D k = false := by
  cases hD : D k with
  | false => rfl
  | true => have := h.cl.wt 40 k i hk hD; rw [h.un] at this; cases this
def InvP (c0 : Cx) (s : St) (L : List PO) (listed : Array Bool) (a : Act) (w : World) : Prop :=
  a.defers = [] ∧ a.tmps.size = s.N ∧ ∃ (y : Cx) (G : Nat → Nat), y.w = w ∧ c0.le y ∧ y.ok ∧ (∀ id, y.H id = hget (runH (fun k => listed.getD k false) G s.h L) id) ∧
    (∀ t, AVRep y (get (runE (fun k => listed.getD k false) G s.e L) t) (a.tmps.getD t undef))
def OpSpecN (P : Program) (o : Oper) (R : Env) (h : Heap) (n : Nat) (v : AV) (h' : Heap) : Prop :=
  ∀ (x : Cx) (a : Act), x.ok → x.H = hget h → x.n = n → EnvOk x R a → ∀ (K : Act → World → Prop) (Q : Exit → Act → World → Prop),
    (∀ (u : Value) (y : Cx), x.le y → y.ok → y.H = hget h' → AVRep y v u → K (a.put o.dst u) y.w) → o.wp P a x.w K Q
theorem OpSpec.toN {o : Oper} {R : Env} {h : Heap} {n : Nat} {v : AV} {h' : Heap} {n' : Nat} (hs : OpSpec P true o R h n v h' n') : OpSpecN P o R h n v h' :=
  fun x a h1 h2 h3 h4 K Q hK => hs rfl x a h1 h2 h3 h4 K Q fun u y k1 k2 k3 _ k5 => hK u y k1 k2 k3 k5
theorem GuardC.same {R R' : Env} {o : Oper} {c : Bool} (h : GuardC R ops o c) (hR : ∀ t, get R' t = get R t) : GuardC R' ops o c := by
  cases h with
  | one hg hj hb => exact .one hg hj ((hR _).trans hb)
  | two hg hj hb => exact .two hg hj ((hR _).trans hb)
def Ob (P : Program) (ops : Array Oper) (s : St) (L : List PO) (i : Nat) (p : PO) (o : Oper) : Prop :=
  o.dst = p.d ∧ (∀ d, p.d = some d → Nat.blt d s.N = true) ∧ ∀ (D : Nat → Bool) (G : Nat → Nat) (e : Env) (h : Heap) (n : Nat), RdyP ops D i →
    (∀ t, get e t = get (runE D G s.e L) t) → (∀ id, hget h id = hget (runH D G s.h L) id) →
    (o.guard = none ∧ ∃ h', OpSpecN P o e h n (p.v (updG G i n)) h' ∧ (∀ id, hget h' id = match p.hp with | some (j, ob) => if j = id then ob (updG G i n) else hget h id | none => hget h id)) ∨
    (p.hp = none ∧ ∃ c v0, p.v (updG G i n) = .whn c v0 ∧ GuardC e ops o c ∧ (c = true → ∃ h2, OpSpecN P o e h n v0 h2 ∧ ∀ id, hget h2 id = hget h id))
def noWE (L : List PO) (t : Nat) : Bool := L.all fun p => match p.d with | some d => !Nat.beq d t | none => true
def noWH (L : List PO) (t : Nat) : Bool := L.all fun p => match p.hp with | some (d, _) => !Nat.beq d t | none => true
def oneEB : List PO → Bool
  | [] => true
  | p :: L => (match p.d with | some d => noWE L d | none => true) && oneEB L
def ordHB (ops : Array Oper) (L : List PO) : Bool := (List.range L.length).all fun j => (List.range j).all fun i => match L[i]?.bind (·.hp), L[j]?.bind (·.hp) with
  | some (a, _), some (b, _) => !Nat.beq a b || wt ops 40 j i
  | _, _ => true
theorem noWE_spec {L : List PO} {t : Nat} (h : noWE L t = true) {j : Nat} {p : PO} (hj : L[j]? = some p) : p.d ≠ some t := fun hd => by
  have := List.all_eq_true.1 h p (List.mem_of_getElem? hj)
  rw [hd] at this
  simp at this
theorem noWH_spec {L : List PO} {t : Nat} (h : noWH L t = true) {j : Nat} {p : PO} (hj : L[j]? = some p) : ∀ ob, p.hp ≠ some (t, ob) := fun ob hd => by
  have := List.all_eq_true.1 h p (List.mem_of_getElem? hj)
  rw [hd] at this
  simp at this
theorem wE_some {p : PO} {t : Nat} {v} (h : p.wE = some (t, v)) : p.d = some t ∧ v = p.v := by
  unfold PO.wE at h
  split at h
  · rename_i d hd; simp only [Option.some.injEq, Prod.mk.injEq] at h; rw [hd, h.1]; exact ⟨rfl, h.2.symm⟩
  · cases h
theorem wE_mk {p : PO} {t : Nat} (h : p.d = some t) : p.wE = some (t, p.v) := by unfold PO.wE; rw [h]
theorem wH_some {p : PO} {t : Nat} {v} (h : p.wH = some (t, v)) : ∃ ob, p.hp = some (t, ob) ∧ v = ob := ⟨v, h, rfl⟩
theorem wH_mk {p : PO} {t : Nat} {ob} (h : p.hp = some (t, ob)) : p.wH = some (t, ob) := h
theorem oneE_later : ∀ {L : List PO}, oneEB L = true → ∀ {j : Nat} {p : PO} {t : Nat}, L[j]? = some p → p.d = some t → noWE (L.drop (j + 1)) t = true
  | [], _, _, _, _, h, _ => by simp at h
  | q :: L, h, 0, p, t, h1, h2 => by
    cases h1
    simp only [oneEB, Bool.and_eq_true, h2] at h
    simpa using h.1
  | q :: L, h, j + 1, p, t, h1, h2 => by
    simp only [oneEB, Bool.and_eq_true] at h
    simpa using oneE_later h.2 (j := j) (by simpa using h1) h2
theorem noWE_NoW {L : List PO} {t : Nat} (h : noWE L t = true) {D : Nat → Bool} {k : Nat} : NoW PO.wE D t L k := fun _ _ _ h1 _ h3 => noWE_spec h h1 (wE_some h3).1
theorem noWH_NoW {L : List PO} {t : Nat} (h : noWH L t = true) {D : Nat → Bool} {k : Nat} : NoW PO.wH D t L k := fun _ _ _ h1 _ h3 => by obtain ⟨ob, h4, _⟩ := wH_some h3; exact noWH_spec h h1 ob h4
theorem ordH_later {L : List PO} (hB : ordHB ops L = true) {D : Nat → Bool} (hcl : Cl ops D) {i : Nat} {p : PO} {t : Nat} {ob} (hp : L[i]? = some p) (ht : p.hp = some (t, ob)) (hun : D i = false) : NoW PO.wH D t (L.drop (i + 1)) (i + 1) := by
  intro j q v h1 h2 h3
  obtain ⟨ob2, h4, _⟩ := wH_some h3
  rw [List.getElem?_drop] at h1
  have hlt : i + 1 + j < L.length := (List.getElem?_eq_some_iff.1 h1).1
  have := List.all_eq_true.1 (List.all_eq_true.1 hB (i + 1 + j) (List.mem_range.2 hlt)) i (List.mem_range.2 (by omega))
  simp only [hp, h1, Option.bind_some, ht, h4, Bool.or_eq_true, Bool.not_eq_true'] at this
  rcases this with h5 | h5
  · simp at h5
  · have := hcl.wt 40 _ _ h5 h2
    rw [hun] at this; cases this
def depB (ops : Array Oper) (L : List PO) : Bool := (List.range L.length).all fun j => match L[j]? with
  | some p => p.dep.all fun k => Nat.beq k j || wt ops 40 j k
  | none => true
def Locs : List PO → Prop
  | [] => True
  | p :: L => (∀ G G' : Nat → Nat, (∀ k, p.dep.contains k = true → G k = G' k) → p.v G' = p.v G ∧ ∀ id ob, p.hp = some (id, ob) → ob G' = ob G) ∧ Locs L
theorem Locs.at : ∀ {L : List PO}, Locs L → ∀ {j : Nat} {p : PO}, L[j]? = some p → ∀ G G' : Nat → Nat, (∀ k, p.dep.contains k = true → G k = G' k) → p.v G' = p.v G ∧ ∀ id ob, p.hp = some (id, ob) → ob G' = ob G
  | _ :: _, h, 0, _, hj => by cases hj; exact h.1
  | _ :: _, h, j + 1, _, hj => Locs.at h.2 (j := j) (by simpa using hj)
theorem depB_at {L : List PO} (hB : depB ops L = true) {D : Nat → Bool} (hcl : Cl ops D) {j : Nat} {p : PO} (hp : L[j]? = some p) (hl : D j = true) {k : Nat} (hk : p.dep.contains k = true) : D k = true := by
  have hlt : j < L.length := (List.getElem?_eq_some_iff.1 hp).1
  have h1 := List.all_eq_true.1 hB j (List.mem_range.2 hlt)
  simp only [hp] at h1
  have h2 := List.all_eq_true.1 h1 k (by simpa using hk)
  simp only [Bool.or_eq_true] at h2
  rcases h2 with h2 | h2
  · rw [Nat.eq_of_beq_eq_true h2]; exact hl
  · exact hcl.wt 40 _ _ h2 hl
theorem InvP.put {c0 : Cx} {s : St} {L : List PO} {listed : Array Bool} {a : Act} {i : Nat} {p : PO} {y z : Cx} {G : Nat → Nat} {u : Value} (hp : L[i]? = some p) (hN : ∀ d, p.d = some d → Nat.blt d s.N = true) (hE : oneEB L = true) (hH : ordHB ops L = true)
    (hD : depB ops L = true) (hLoc : Locs L) (hi : i < listed.size) (hr : RdyP ops (fun k => listed.getD k false) i) (hdef : a.defers = []) (hsz : a.tmps.size = s.N) (hle : c0.le y)
    (he : ∀ t, AVRep y (get (runE (fun k => listed.getD k false) G s.e L) t) (a.tmps.getD t undef)) (hyz : y.le z) (hzok : z.ok)
    (hzH : ∀ id, z.H id = match p.hp with | some (j, ob) => if j = id then ob (updG G i y.n) else hget (runH (fun k => listed.getD k false) G s.h L) id | none => hget (runH (fun k => listed.getD k false) G s.h L) id)
    (hv : AVRep z (p.v (updG G i y.n)) u) : InvP c0 s L (listed.setIfInBounds i true) (a.put p.d u) z.w := by
  have hD' : ∀ k, (listed.setIfInBounds i true).getD k false = (listed.getD k false || decide (k = i)) := fun k => by
    by_cases hk : i = k
    · subst hk; simp [hi]
    · rw [getD_set_ne false hk]; simp [Ne.symm hk]
  have hsame : ∀ k, k ≠ i → (listed.setIfInBounds i true).getD k false = listed.getD k false := fun k hk => by rw [hD']; simp [hk]
  have hval : ∀ (j : Nat) (q : PO), L[j]? = some q → listed.getD j false = true → q.v (updG G i y.n) = q.v G ∧ ∀ id ob, q.hp = some (id, ob) → ob (updG G i y.n) = ob G := fun j q hj hl => by
    refine hLoc.at hj G _ fun k hk => ?_
    have hlk := depB_at hD hr.cl hj hl hk
    have : k ≠ i := fun e => by subst e; rw [hr.un] at hlk; cases hlk
    simp [updG, this]
  have hdi : (fun k => (listed.setIfInBounds i true).getD k false) (0 + i) = true := by show (listed.setIfInBounds i true).getD (0 + i) false = true; rw [Nat.zero_add, hD']; simp
  refine ⟨by cases hdd : p.d <;> simpa [Act.put, hdd] using hdef, ?_, z, updG G i y.n, rfl, hle.trans hyz, hzok, fun id => ?_, fun t => ?_⟩
  · cases hdd : p.d <;> simpa [Act.put, hdd] using hsz
  · rw [hzH]
    have rest : (∀ ob, p.hp ≠ some (id, ob)) → hget (runH (fun k => listed.getD k false) G s.h L) id = hget (runH (fun k => (listed.setIfInBounds i true).getD k false) (updG G i y.n) s.h L) id := fun hne => by
      refine (runL_congr hget_cons L _ _ 0 rfl fun j q v h1 h2 => ?_).symm
      obtain ⟨ob, h4, h5⟩ := wH_some h2
      have hji : j ≠ i := fun e => by subst e; rw [hp] at h1; cases h1; exact hne ob h4
      rw [Nat.zero_add]
      exact ⟨hsame j hji, fun hl => by rw [h5]; exact (hval j q h1 hl).2 id ob h4⟩
    cases hhp : p.hp with
    | none => exact rest fun ob => by rw [hhp]; simp
    | some r =>
      obtain ⟨j, ob⟩ := r
      by_cases hj : j = id
      · subst hj
        simp only [if_true]
        have hlater := ordH_later hH hr.cl hp hhp hr.un
        refine (runL_some hget_cons (wH_mk hhp) L _ 0 i hp hdi ?_).symm
        rw [Nat.zero_add]
        intro m q v h1 h2 h3
        exact hlater m q v h1 ((hsame _ (by omega)).symm.trans h2) h3
      · simp only [if_neg hj]
        exact rest fun ob' => by rw [hhp]; intro e; cases e; exact hj rfl
  · by_cases hpt : p.d = some t
    · have e1 : get (runE (fun k => (listed.setIfInBounds i true).getD k false) (updG G i y.n) s.e L) t = p.v (updG G i y.n) :=
        runL_some get_cons (wE_mk hpt) L _ 0 i hp hdi (noWE_NoW (oneE_later hE hp hpt))
      have hN' : t < a.tmps.size := by rw [hsz]; exact lt_of_blt (hN t hpt)
      rw [e1, hpt]
      simp only [Act.put, getD_set hN', if_true]
      exact hv
    · have e1 : get (runE (fun k => (listed.setIfInBounds i true).getD k false) (updG G i y.n) s.e L) t = get (runE (fun k => listed.getD k false) G s.e L) t := by
        refine runL_congr get_cons L _ _ 0 rfl fun j q v h1 h2 => ?_
        obtain ⟨h4, h5⟩ := wE_some h2
        have hji : j ≠ i := fun e => by subst e; rw [hp] at h1; cases h1; exact hpt h4
        rw [Nat.zero_add]
        exact ⟨hsame j hji, fun hl => by rw [h5]; exact (hval j q h1 hl).1⟩
      rw [e1]
      have h0 := (he t).mono hyz
      cases hdd : p.d with
      | none => exact h0
      | some d =>
        have hdt : d ≠ t := fun e => hpt (by rw [hdd, e])
        have hN' : d < a.tmps.size := by rw [hsz]; exact lt_of_blt (hN d hdd)
        simp only [Act.put, getD_set hN', if_neg hdt]
        exact h0
theorem InvP.step {c0 : Cx} {s : St} {L : List PO} {listed : Array Bool} {a : Act} {w : World} {i : Nat} {p : PO} {o : Oper} {Q : Exit → Act → World → Prop} (hp : L[i]? = some p) (ho : ops[i]? = some o) (hOb : Ob P ops s L i p o) (hE : oneEB L = true) (hH : ordHB ops L = true)
    (hD : depB ops L = true) (hLoc : Locs L) (hi : i < listed.size) (hr : RdyP ops (fun k => listed.getD k false) i) (hinv : InvP c0 s L listed a w) :
    wpOp P ops Q i (InvP c0 s L (listed.setIfInBounds i true)) a w := by
  obtain ⟨hdef, hsz, y, G, hyw, hle, hok, hyH, he⟩ := hinv
  subst hyw
  obtain ⟨hd, hN, hob⟩ := hOb
  unfold wpOp
  simp only [ho]
  rcases hob (fun k => listed.getD k false) G _ _ y.n hr (fun t => rfl) (fun id => rfl) with ⟨hg, h', hspec, hh'⟩ | ⟨hhp, c, v0, hv0, hG, hspec⟩
  · rw [if_pos (by simp [Region.wanted, hg])]
    refine .inl (hspec y a hok (funext fun id => hyH id) rfl (fun t => he t) _ Q fun u z hyz hzok hzH hv => ?_)
    rw [hd]
    exact InvP.put hp hN hE hH hD hLoc hi hr hdef hsz hle he hyz hzok (fun id => by rw [hzH]; exact hh' id) hv
  · have hw : Region.wanted o (yielded ops a.tmps) = c := GuardC.wanted (s := ⟨_, [], 0, 0⟩) hG (fun t => he t)
    rw [hw]
    cases c with
    | true =>
      obtain ⟨h2, hs2, hh2⟩ := hspec rfl
      rw [if_pos rfl]
      refine .inl (hs2 y a hok (funext fun id => hyH id) rfl (fun t => he t) _ Q fun u z hyz hzok hzH hv => ?_)
      rw [hd]
      refine InvP.put hp hN hE hH hD hLoc hi hr hdef hsz hle he hyz hzok (fun id => by rw [hzH, hhp]; exact hh2 id) ?_
      rw [hv0]; exact .whn (fun _ => hv) (fun h => by cases h)
    | false =>
      rw [if_neg (by decide), hd]
      refine InvP.put hp hN hE hH hD hLoc hi hr hdef hsz hle he (.refl y) hok (fun id => by rw [hhp]; exact hyH id) ?_
      rw [hv0]; exact .whn (fun h => by cases h) (fun _ => rfl)
def InsE (e : Env) : Env → Prop
  | [] => True
  | (t, a) :: r => get e t = a ∧ InsE e r
def InsH (e : Heap) : Heap → Prop
  | [] => True
  | (t, a) :: r => hget e t = a ∧ InsH e r
theorem get_pre {e0 e : Env} (he : ∀ t, get e t = get e0 t) : ∀ (r : Env), InsE e0 r → ∀ t, get (r ++ e) t = get e0 t
  | [], _, t => he t
  | (t0, a) :: r, ⟨h1, h2⟩, t => by
    rw [List.cons_append, get_cons]
    split
    · rename_i ht; subst ht; exact h1.symm
    · exact get_pre he r h2 t
theorem hget_pre {e0 e : Heap} (he : ∀ t, hget e t = hget e0 t) : ∀ (r : Heap), InsH e0 r → ∀ t, hget (r ++ e) t = hget e0 t
  | [], _, t => he t
  | (t0, a) :: r, ⟨h1, h2⟩, t => by
    rw [List.cons_append, hget_cons]
    split
    · rename_i ht; subst ht; exact h1.symm
    · exact hget_pre he r h2 t
theorem OpSpecN.same {o : Oper} {R R' : Env} {h h' : Heap} {n : Nat} {v : AV} {h2 : Heap} (hs : OpSpecN P o R h n v h2) (hR : ∀ t, get R' t = get R t) (hh : ∀ id, hget h' id = hget h id) : OpSpecN P o R' h' n v h2 := by
  intro x a hok hH hn he K Q hK
  exact hs x a hok (by rw [hH]; exact funext hh) hn (fun t => by rw [← hR]; exact he t) K Q hK
theorem Ob.quietN {s : St} {L : List PO} {i : Nat} {p : PO} {o : Oper} (hg : o.guard = none) (hd : o.dst = p.d) (hN : ∀ d, p.d = some d → Nat.blt d s.N = true) (hp : p.hp = none) (ie : (Nat → Nat) → Env) (ih : (Nat → Nat) → Heap)
    (hE : ∀ D G, RdyP ops D i → InsE (runE D G s.e L) (ie G)) (hH : ∀ D G, RdyP ops D i → InsH (runH D G s.h L) (ih G))
    (hv : ∀ G n, p.v (updG G i n) = p.v G) (h : ∀ G e h' n, ∃ h2, OpSpecN P o (ie G ++ e) (ih G ++ h') n (p.v G) h2 ∧ ∀ id, hget h2 id = hget (ih G ++ h') id) : Ob P ops s L i p o := by
  refine ⟨hd, hN, fun D G e h' n hr he hh => .inl ⟨hg, ?_⟩⟩
  have g1 := get_pre he _ (hE D G hr)
  have g2 := hget_pre hh _ (hH D G hr)
  obtain ⟨h2, k1, k2⟩ := h G e h' n
  refine ⟨h2, ?_, fun id => by rw [hp, k2, g2, hh]⟩
  rw [hv]
  exact k1.same (fun t => by rw [g1, he]) (fun id => by rw [g2, hh])
theorem Ob.quiet {s : St} {L : List PO} {i : Nat} {p : PO} {o : Oper} {n1 : Nat → Nat} (hg : o.guard = none) (hd : o.dst = p.d) (hN : ∀ d, p.d = some d → Nat.blt d s.N = true) (hp : p.hp = none) (ie : (Nat → Nat) → Env) (ih : (Nat → Nat) → Heap)
    (hE : ∀ D G, RdyP ops D i → InsE (runE D G s.e L) (ie G)) (hH : ∀ D G, RdyP ops D i → InsH (runH D G s.h L) (ih G))
    (hv : ∀ G n, p.v (updG G i n) = p.v G) (h : ∀ G e h' n, OpSpec P true o (ie G ++ e) (ih G ++ h') n (p.v G) (ih G ++ h') (n1 n)) : Ob P ops s L i p o :=
  Ob.quietN hg hd hN hp ie ih hE hH hv fun G e h' n => ⟨_, (h G e h' n).toN, fun _ => rfl⟩
theorem Ob.makeN {s : St} {L : List PO} {i : Nat} {p : PO} {o : Oper} {id : Nat} {ob : (Nat → Nat) → Option AObj} (hg : o.guard = none) (hd : o.dst = p.d) (hN : ∀ d, p.d = some d → Nat.blt d s.N = true) (hp : p.hp = some (id, ob)) (ie : (Nat → Nat) → Env) (ih : (Nat → Nat) → Heap)
    (hE : ∀ D G, RdyP ops D i → InsE (runE D G s.e L) (ie G)) (hH : ∀ D G, RdyP ops D i → InsH (runH D G s.h L) (ih G))
    (h : ∀ (G : Nat → Nat) e h' n, OpSpecN P o (ie G ++ e) (ih G ++ h') n (p.v (updG G i n)) ((id, ob (updG G i n)) :: (ih G ++ h'))) : Ob P ops s L i p o := by
  refine ⟨hd, hN, fun D G e h' n hr he hh => .inl ⟨hg, ?_⟩⟩
  have g1 := get_pre he _ (hE D G hr)
  have g2 := hget_pre hh _ (hH D G hr)
  refine ⟨_, (h G e h' n).same (fun t => by rw [g1, he]) (fun j => by rw [g2, hh]), fun j => ?_⟩
  rw [hp, hget_cons]
  simp only
  split
  · rfl
  · rw [g2, hh]
theorem Ob.make {s : St} {L : List PO} {i : Nat} {p : PO} {o : Oper} {id : Nat} {ob : (Nat → Nat) → Option AObj} {n1 : Nat → Nat} (hg : o.guard = none) (hd : o.dst = p.d) (hN : ∀ d, p.d = some d → Nat.blt d s.N = true) (hp : p.hp = some (id, ob)) (ie : (Nat → Nat) → Env) (ih : (Nat → Nat) → Heap)
    (hE : ∀ D G, RdyP ops D i → InsE (runE D G s.e L) (ie G)) (hH : ∀ D G, RdyP ops D i → InsH (runH D G s.h L) (ih G))
    (h : ∀ (G : Nat → Nat) e h' n, OpSpec P true o (ie G ++ e) (ih G ++ h') n (p.v (updG G i n)) ((id, ob (updG G i n)) :: (ih G ++ h')) (n1 n)) : Ob P ops s L i p o :=
  Ob.makeN hg hd hN hp ie ih hE hH fun G e h' n => (h G e h' n).toN
theorem OpSpecN.frz {o : Oper} {R : Env} {h : Heap} {n id g : Nat} {e : TypeId} {sz : Nat} {xs : List (List RV)} (hs : OpSpecN P o R h n (.own id g) ((id, some (.arr g e sz xs)) :: h)) : OpSpecN P o R h n (.r (.sl xs)) ((id, none) :: h) := by
  intro x a hok hH hn he K Q hK
  refine hs x a hok hH hn he K Q fun u y k1 k2 k3 k4 => ?_
  have hHid : y.H id = some (.arr g e sz xs) := by rw [k3, hget_cons, if_pos rfl]
  let y' : Cx := { y with S := fun b => y.S b ∨ ∃ k, y.β id = some (b, k), H := hget ((id, none) :: h) }
  have hsub : ∀ i o, y'.H i = some o → i ≠ id ∧ y.H i = some o := by
    intro i o ho
    simp only [y', hget_cons] at ho
    split at ho
    · cases ho
    · rename_i hne
      refine ⟨fun e => hne e.symm, ?_⟩
      rw [k3, hget_cons, if_neg hne]; exact ho
  have hle' : y.le y' := ⟨Nat.le_refl _, rfl, rfl, rfl, fun _ _ => rfl, fun _ h => .inl h, rfl, Nat.le_refl _, fun i o ho _ => ⟨o, (hsub i o ho).2, rfl, rfl, rfl⟩⟩
  have hok' : y'.ok := by
    refine ⟨fun b hb => ?_, k2.F_lt, fun b hb => ?_, fun i o ho => ?_, fun i o b k ho hb => ?_, fun i i' o o' b k k' ho ho' => k2.inj i i' o o' b k k' (hsub _ _ ho).2 (hsub _ _ ho').2, k2.tabs.le hle'⟩
    · rcases hb with hb | ⟨k, hb⟩
      · exact k2.S_lt b hb
      · exact (k2.own id _ b k hHid hb).1
    · rcases hb with hb | ⟨k, hb⟩
      · exact k2.SF b hb
      · exact (k2.own id _ b k hHid hb).2.2
    · obtain ⟨j1, j2⟩ := k2.obj i o (hsub _ _ ho).2
      exact ⟨j1, j2.mono hle' fun _ _ _ => rfl⟩
    · obtain ⟨j1, j2, j3⟩ := k2.own i o b k (hsub _ _ ho).2 hb
      refine ⟨j1, ?_, j3⟩
      rintro (h1 | ⟨k', h1⟩)
      · exact j2 h1
      · exact (hsub _ _ ho).1 (k2.inj i id o _ b k k' (hsub _ _ ho).2 hHid hb h1)
  exact hK u y' (k1.trans hle') hok' rfl (.r (own_frozen k2 hHid k4 (fun _ h => .inl h) (fun b k hb => .inr ⟨k, hb⟩)))
end
section
variable {ops : Array Oper} {D : Nat → Bool} {G : Nat → Nat} {e : Env} {h : Heap} {L : List PO} {t : Nat}
theorem inE_base (hB : noWE L t = true) {a : AV} (ha : get e t = a) : get (runE D G e L) t = a := (runL_none get_cons L e 0 (noWE_NoW hB)).trans ha
theorem inE_op {i : Nat} (hr : RdyP ops D i) (j : Nat) {p : PO} {a : AV} (hj : L[j]? = some p) (hd : p.d = some t) (hw : wt ops 40 i j = true) (hB : noWE (L.drop (j + 1)) t = true) (ha : p.v G = a) : get (runE D G e L) t = a :=
  (runL_some get_cons (wE_mk hd) L e 0 j hj (by rw [Nat.zero_add]; exact hr.yes hw) (noWE_NoW hB)).trans ha
theorem inH_base (hB : noWH L t = true) {a : Option AObj} (ha : hget h t = a) : hget (runH D G h L) t = a := (runL_none hget_cons L h 0 (noWH_NoW hB)).trans ha
def laterB (ops : Array Oper) (i t : Nat) : List PO → Nat → Bool
  | [], _ => true
  | p :: L, k => (match p.hp with | some (d, _) => !Nat.beq d t || Nat.beq k i || wt ops 40 k i | none => true) && laterB ops i t L (k + 1)
theorem laterB_NoW {i : Nat} (hr : RdyP ops D i) : ∀ {L : List PO} {k : Nat}, laterB ops i t L k = true → NoW PO.wH D t L k
  | [], _, _ => fun j _ _ h => by simp at h
  | q :: L, k, hB => by
    simp only [laterB, Bool.and_eq_true] at hB
    intro j p v h1 h2 h3
    match j with
    | 0 =>
      cases h1
      obtain ⟨ob, h4, _⟩ := wH_some h3
      rw [h4] at hB
      simp only [Bool.or_eq_true, Bool.not_eq_true'] at hB
      rcases hB.1 with (h5 | h5) | h5
      · simp at h5
      · rw [Nat.add_zero, Nat.eq_of_beq_eq_true h5, hr.un] at h2; cases h2
      · rw [Nat.add_zero, hr.no h5] at h2; cases h2
    | j + 1 => exact laterB_NoW hr hB.2 j p v (by simpa using h1) (by rwa [show k + 1 + j = k + (j + 1) by omega]) h3
theorem inH_baseL {i : Nat} (hr : RdyP ops D i) (hB : laterB ops i t L 0 = true) {a : Option AObj} (ha : hget h t = a) : hget (runH D G h L) t = a := (runL_none hget_cons L h 0 (laterB_NoW hr hB)).trans ha
theorem inH_op {i : Nat} (hr : RdyP ops D i) (j : Nat) {p : PO} {ob} {a : Option AObj} (hj : L[j]? = some p) (hd : p.hp = some (t, ob)) (hw : wt ops 40 i j = true) (hB : laterB ops i t (L.drop (j + 1)) (j + 1) = true) (ha : ob G = a) : hget (runH D G h L) t = a :=
  (runL_some hget_cons (wH_mk hd) L h 0 j hj (by rw [Nat.zero_add]; exact hr.yes hw) (by rw [Nat.zero_add]; exact laterB_NoW hr hB)).trans ha
end
end Go.Proofs.Ytfkolgjapajekaa.Al


namespace Go.Proofs.Ytfkolgjapajekaa.Al
section
variable {P : Program} {ops : Array Oper}
def backB (ops : Array Oper) (n : Nat) : Bool := (List.range n).all fun i => match ops[i]? with | some o => o.after.all fun e => !Region.binds .any e || decide (e.on < i) | none => false
def Obs (P : Program) (ops : Array Oper) (s : St) (L0 : List PO) : Nat → List PO → List Oper → Prop
  | _, [], _ => True
  | _, _ :: _, [] => False
  | i, p :: L, o :: l => Ob P ops s L0 i p o ∧ Obs P ops s L0 (i + 1) L l
theorem Obs.at {s : St} {L0 : List PO} : ∀ {L : List PO} {l : List Oper} {i0 : Nat}, Obs P ops s L0 i0 L l → ∀ {j : Nat} {p : PO} {o : Oper}, L[j]? = some p → l[j]? = some o → Ob P ops s L0 (i0 + j) p o
  | _ :: _, _ :: _, i0, h, 0, _, _, h1, h2 => by cases h1; cases h2; exact h.1
  | _ :: L, _ :: l, i0, h, j + 1, p, o, h1, h2 => by
    have := Obs.at (j := j) h.2 (p := p) (o := o) (by simpa using h1) (by simpa using h2)
    rwa [show i0 + (j + 1) = i0 + 1 + j by omega]
  | _ :: _, [], _, h, _, _, _, _, _ => h.elim
  | [], _, _, _, _, _, _, h1, _ => by simp at h1
def countF (listed : Array Bool) : Nat → Nat
  | 0 => 0
  | n + 1 => countF listed n + (if listed.getD n false then 0 else 1)
theorem countF_set {listed : Array Bool} {i : Nat} (hi : i < listed.size) (hun : listed.getD i false = false) : ∀ n, countF (listed.setIfInBounds i true) n + (if i < n then 1 else 0) = countF listed n
  | 0 => by simp [countF]
  | n + 1 => by
    have ih := countF_set hi hun n
    unfold countF
    by_cases hin : i = n
    · subst hin
      rw [hun]
      have : (listed.setIfInBounds i true).getD i false = true := by simp [hi]
      rw [this]
      simp at ih ⊢
      exact ih
    · rw [getD_set_ne false hin]
      have : (i < n + 1) ↔ (i < n) := by omega
      simp only [this]
      omega
theorem countF_pos {listed : Array Bool} : ∀ {n : Nat}, 0 < countF listed n → ∃ i, i < n ∧ listed.getD i false = false ∧ ∀ j, j < i → listed.getD j false = true
  | 0, h => by simp [countF] at h
  | n + 1, h => by
    by_cases h0 : 0 < countF listed n
    · obtain ⟨i, h1, h2, h3⟩ := countF_pos h0
      exact ⟨i, by omega, h2, h3⟩
    · have hall : ∀ m, m ≤ n → countF listed m = 0 := by
        intro m hm
        have : countF listed m ≤ countF listed n := by
          clear h h0
          induction n with
          | zero => have : m = 0 := by omega
                    subst this; exact Nat.le_refl _
          | succ n ih =>
            by_cases hmn : m = n + 1
            · subst hmn; exact Nat.le_refl _
            · exact Nat.le_trans (ih (by omega)) (Nat.le_add_right ..)
        omega
      unfold countF at h
      refine ⟨n, by omega, ?_, fun j hj => ?_⟩
      · cases hl : listed.getD n false with
        | false => rfl
        | true => rw [hl] at h; simp at h; omega
      · have := hall (j + 1) (by omega)
        unfold countF at this
        cases hl : listed.getD j false with
        | true => rfl
        | false => rw [hl] at this; simp at this
theorem countF_zero {listed : Array Bool} : ∀ {n : Nat}, countF listed n = 0 → ∀ j, j < n → listed.getD j false = true
  | 0, _, j, hj => by omega
  | n + 1, h, j, hj => by
    unfold countF at h
    by_cases hjn : j = n
    · subst hjn
      cases hl : listed.getD j false with
      | true => rfl
      | false => rw [hl] at h; simp at h
    · exact countF_zero (n := n) (by omega) j (by omega)
theorem countF_all {listed : Array Bool} (h : ∀ j, listed.getD j false = false) : ∀ n, countF listed n = n
  | 0 => rfl
  | n + 1 => by unfold countF; rw [countF_all h n, h n]; simp
theorem wpAny_par {c0 : Cx} {s : St} {L : List PO} {n g : Nat} {l : List Oper} {Q : Exit → Act → World → Prop} (hl : l.toArray = ops) (hn : n < ops.size) (hLn : L.length = n) (hback : backB ops n = true) (hs : Region.sinkB .any ops n = true) (hc : Region.chainB .any ops n = true)
    (hD : depB ops L = true) (hE : oneEB L = true) (hH : ordHB ops L = true) (hLoc : Locs L) (hOb : Obs P ops s L 0 L l)
    (hend : ∀ listed a w, HeadInv .any ops n listed → (∀ j, j < n → listed.getD j false = true) → InvP c0 s L listed a w → wpAny P .any ops Q g listed a w) :
    ∀ (f : Nat) (listed : Array Bool) (a : Act) (w : World), countF listed n = f → HeadInv .any ops n listed → InvP c0 s L listed a w → wpAny P .any ops Q (f + g) listed a w := by
  intro f
  induction f with
  | zero =>
    intro listed a w hcnt inv hinv
    rw [Nat.zero_add]
    exact hend listed a w inv (countF_zero hcnt) hinv
  | succ f ih =>
    intro listed a w hcnt inv hinv
    rw [show f + 1 + g = (f + g) + 1 by omega]
    obtain ⟨i0, hi0, hun0, hbefore⟩ := countF_pos (listed := listed) (n := n) (by omega)
    have hs0 : i0 < listed.size := by rw [inv.size]; omega
    have hready0 : i0 ∈ Region.ready .any ops listed := by
      refine mem_ready.2 ⟨getD_in hs0 hun0, ?_⟩
      have hio : ∃ o, ops[i0]? = some o := ⟨ops[i0]'(by omega), by simp [Array.getElem?_eq_getElem (show i0 < ops.size by omega)]⟩
      obtain ⟨o, ho⟩ := hio
      refine ⟨o, ho, fun e he hb => ?_⟩
      have h1 := List.all_eq_true.1 hback i0 (List.mem_range.2 hi0)
      simp only [ho] at h1
      have h2 := (Array.all_eq_true_iff_forall_mem.1 h1) e he
      simp only [hb, Bool.not_true, Bool.false_or, decide_eq_true_eq] at h2
      exact hbefore _ h2
    refine ⟨fun h => (by rw [h] at hready0; cases hready0), fun i hi => ?_⟩
    have hin : i < n := by
      rcases Nat.lt_or_ge i n with h | h
      · exact h
      · exact absurd hi (tail_waits hs hc hn inv _ i0 rfl hi0 (getD_in hs0 hun0) i h)
    obtain ⟨hun, o, ho, hall⟩ := mem_ready.1 hi
    have hunf := getD_both hun
    have his : i < listed.size := by rw [inv.size]; omega
    obtain ⟨p, hp⟩ : ∃ p, L[i]? = some p := ⟨L[i]'(by omega), by simp [List.getElem?_eq_getElem (show i < L.length by omega)]⟩
    have hol : l[i]? = some o := by rw [← ho, ← hl]; simp
    have hob := hOb.at hp hol
    rw [Nat.zero_add] at hob
    have hrd : RdyP ops (fun k => listed.getD k false) i := by
      refine ⟨fun j k hj hk => ?_, fun k hk => ?_, hunf⟩
      · obtain ⟨oj, hoj, e, he, hb, hon⟩ := Region.waitsFor_spec hk
        rw [← hon]; exact inv.closed j oj hoj hj e he hb
      · obtain ⟨oi, hoi, e, he, hb, hon⟩ := Region.waitsFor_spec hk
        have : oi = o := Option.some.inj (hoi.symm.trans ho)
        subst this
        rw [← hon]; exact hall e he hb
    have step := InvP.step (Q := Q) hp ho hob hE hH hD hLoc his hrd hinv
    refine wpOp_mono (fun a' w' h' => ih _ a' w' ?_ (inv.set hi hin) h') step
    have := countF_set his hunf n
    rw [if_pos hin] at this
    omega
def regPB (ops : Array Oper) (n : Nat) (L : List PO) : Bool :=
  decide (n < ops.size) && decide (L.length = n) && backB ops n && Region.sinkB .any ops n && Region.chainB .any ops n && depB ops L && oneEB L && ordHB ops L
    && Region.seqB .any ops (ops.size - n) n (setAll (Array.replicate ops.size false) (List.range n))
theorem setAll_getD : ∀ (is : List Nat) (l : Array Bool) (j : Nat), (∀ i ∈ is, i < l.size) → (setAll l is).getD j false = (l.getD j false || is.contains j)
  | [], l, j, _ => by simp [setAll]
  | i :: is, l, j, h => by
    show (setAll (l.setIfInBounds i true) is).getD j false = _
    rw [setAll_getD is _ j (fun k hk => by simp; exact h k (List.mem_cons_of_mem _ hk))]
    by_cases hij : i = j
    · subst hij
      have := h i (List.mem_cons_self ..)
      simp [this]
    · rw [getD_set_ne false hij]
      simp [Ne.symm hij]
theorem runL_all {α : Type} {wr : PO → Option (Nat × ((Nat → Nat) → α))} {D D' : Nat → Bool} {G : Nat → Nat} : ∀ (L : List PO) (e : List (Nat × α)) (k : Nat), (∀ j, k ≤ j → j < k + L.length → D j = D' j) → runL wr D G e L k = runL wr D' G e L k
  | [], _, _, _ => rfl
  | p :: L, e, k, h => by
    have h0 := h k (Nat.le_refl _) (by simp)
    have ih := fun e => runL_all (wr := wr) (G := G) L e (k + 1) (fun j h1 h2 => h j (by omega) (by simp; omega))
    unfold runL
    rw [h0]
    simp only [ih]
theorem AW.regionP {id : Nat} {l : List Oper} {s : St} {Q : Exit → St → Prop} (n : Nat) (L : List PO) {lt : List Oper} (hm : P.follows .mixedOrders = true) (hB : regPB l.toArray n L = true) (hLoc : Locs L) (e4 : l.drop n = lt)
    (hOb : Obs P l.toArray s L 0 L l)
    (h : ∀ (G : Nat → Nat) (n' : Nat), AOps P l.toArray lt ⟨runE (fun _ => true) G s.e L, runH (fun _ => true) G s.h L, n', s.N⟩ (Q .normal)) : AW P (.region id l.toArray true) Q s := by
  intro c0 a w ⟨hdef, hsz, y, hyw, hle, hok, hH, hn, he⟩
  subst hyw
  obtain ⟨r1, r2⟩ := Cx.redraw hok
  simp only [regPB, Bool.and_eq_true, decide_eq_true_eq] at hB
  obtain ⟨⟨⟨⟨⟨⟨⟨⟨b1, b2⟩, b3⟩, b4⟩, b5⟩, b6⟩, b7⟩, b8⟩, b9⟩ := hB
  refine wp_region_any hm ?_
  generalize hz : ({ y with w := { y.w with drawn := y.w.drawn + 1 } } : Cx) = z at r1 r2
  have hzw : z.w = { y.w with drawn := y.w.drawn + 1 } := by rw [← hz]
  have hzH : z.H = hget s.h := by rw [← hz]; exact hH
  rw [← hzw]
  have hrep : ∀ j, (Array.replicate l.toArray.size false).getD j false = false := getD_replicate_false _
  have key := wpAny_par (P := P) (c0 := c0) (s := s) (L := L) (n := n) (g := l.toArray.size - n) (l := l) (Q := fun e a' w' => ∃ s', Q e s' ∧ Sim c0 s' a' w') rfl b1 b2 b3 b4 b5 b6 b7 b8 hLoc hOb
    (fun listed a' w' inv hall hinv => by
      have hlisted : listed = setAll (Array.replicate l.toArray.size false) (List.range n) := by
        have hsz1 : listed.size = (setAll (Array.replicate l.toArray.size false) (List.range n)).size := by rw [inv.size, setAll_size]; simp
        refine Array.ext hsz1 fun j h1 h2 => ?_
        have h3 := setAll_getD (List.range n) (Array.replicate l.toArray.size false) j (fun i hi => by have := List.mem_range.1 hi; rw [Array.size_replicate]; omega)
        rw [hrep] at h3
        have e1 : listed[j] = listed.getD j false := by unfold Array.getD; rw [dif_pos h1]; rfl
        have e2 : (setAll (Array.replicate l.toArray.size false) (List.range n))[j] = (setAll (Array.replicate l.toArray.size false) (List.range n)).getD j false := by unfold Array.getD; rw [dif_pos h2]; rfl
        rw [e1, e2, h3]
        by_cases hj : j < n
        · rw [hall j hj]; simp [hj]
        · have hjl : j < l.toArray.size := by rw [inv.size] at h1; exact h1
          rw [getD_both (inv.tail j (by omega) hjl)]; simp [hj]
      obtain ⟨i1, i2, z', G, i3, i4, i5, i6, i7⟩ := hinv
      subst i3
      have hdl : (l.drop n).length = l.toArray.size - n := by simp
      have hD : ∀ j, 0 ≤ j → j < 0 + L.length → (fun _ => true) j = (fun k => listed.getD k false) j := fun j _ hj => (hall j (by omega)).symm
      have := wpAny_of_seq (P := P) (md := .any) (ops := l.toArray) (Q' := fun e a' w' => ∃ s', Q e s' ∧ Sim c0 s' a' w') (l.drop n) n listed a' z'.w (fun j => by simp [List.getElem?_drop]) (by rw [hdl, hlisted]; exact b9) ?_
      · rwa [hdl] at this
      · rw [e4]
        refine h G z'.n c0 a' z'.w ⟨i1, i2, z', rfl, i4, i5, funext fun id => ?_, rfl, fun t => ?_⟩ _ fun s'' a'' w'' j1 j2 => ⟨s'', j1, j2⟩
        · rw [i6]; show _ = hget (runL _ _ _ _ _ _) _; rw [runL_all L _ 0 hD]
        · show AVRep z' (get (runL _ _ _ _ _ _) t) _
          rw [runL_all L _ 0 hD]; exact i7 t)
    n (Array.replicate l.toArray.size false) a z.w (countF_all hrep n)
    ⟨by simp, fun j oj _ hl => (by rw [hrep] at hl; cases hl), fun t _ ht => getD_in (by simpa using ht) (hrep _)⟩
    ⟨hdef, hsz, z, fun _ => 0, rfl, hle.trans r1, r2, fun id => by rw [hzH]; exact (runL_none hget_cons L _ 0 fun j p _ _ h1 => by rw [hrep] at h1; cases h1).symm, fun t => by
      have e1 : get (runE (fun k => (Array.replicate l.toArray.size false).getD k false) (fun _ => 0) s.e L) t = get s.e t := runL_none get_cons L _ 0 fun j p _ _ h1 => by rw [hrep] at h1; cases h1
      rw [e1]
      exact (he t).mono r1⟩
  have e : n + (l.toArray.size - n) = l.toArray.size := by omega
  rw [e] at key
  exact key
end
end Go.Proofs.Ytfkolgjapajekaa.Al


namespace Go.Proofs.Ytfkolgjapajekaa.Al
section
variable {P : Program} {c : Bool} {o : Oper} {R : Env} {h : Heap}
def ArrTy (P : Program) (t : TypeId) (n : Nat) (e : TypeId) : Prop := P.underlying t = some (.array n e) ∧ ScalTy P e
theorem fill_congr {f g : Nat → Option (Nat × Nat)} (hfg : ∀ i p, f i = some p → g i = some p) : ∀ (ps : List (Nat × Value)) (us us' : Array Value), Instr.fill f us ps = some us' → Instr.fill g us ps = some us'
  | [], _, _, h => h
  | (i, v) :: ps, us, us', h => by
    unfold Instr.fill at h ⊢
    cases hf : f i with
    | none => rw [hf] at h; cases h
    | some p =>
      obtain ⟨off, sz⟩ := p
      rw [hf] at h
      rw [hfg i _ hf]
      simp only at h ⊢
      split at h
      · cases h
      · rename_i hc
        rw [if_neg hc]
        exact fill_congr hfg ps _ _ h
def BuildArr (P : Program) (t : TypeId) (places : List (Nat × Nat)) (z : List Value) : Prop :=
  ∃ n e sz, P.underlying t = some (.array n e) ∧ (∃ i, P.info? e = some i ∧ i.size = sz) ∧ (∀ i p, places[i]? = some p → p = (i * sz, sz)) ∧ ∃ i, P.info? t = some i ∧ i.zero = some (.agg z.toArray)
theorem sp_buildArr {t : TypeId} {parts : Array (Nat × Operand)} {places : List (Nat × Nat)} {z : List Value} {q : List (Nat × AV)} {cs : List AV} (ho : o.op = .build t parts) (ht : BuildArr P t places z)
    (hp : PartsEv c R places z.length parts.toList q) (hcs : fillAV (z.map ofConst) q = cs) : OpQ P c o R h (.agg cs) := by
  intro hc y a _ _ he
  subst hcs
  obtain ⟨n, e, sz, h1, ⟨ie, h5, h6⟩, h2, i, h3, h4⟩ := ht
  obtain ⟨us', f1, f2, f3⟩ := fill_av hc he parts.toList q z.toArray (z.map ofConst) (by simp) (fun j b u k1 k2 => by
    have k2' : z[j]? = some u := by simpa using k2
    rw [List.getElem?_map, k2'] at k1
    simp only [Option.map_some, Option.some.injEq] at k1
    subst k1; exact ofConst_rep y u) (by rw [List.length_map]; exact hp)
  refine ⟨.agg us', fun w2 _ => ?_, .agg f2.symm fun j b u k1 k2 => f3 j b u k1 k2⟩
  have f1' := fill_congr (g := fun i => some (i * sz, sz)) (fun i p hp => by rw [h2 i p hp]) _ _ _ f1
  unfold execOp
  rw [ho]
  simp only [Instr.build, zeroValue, typeInfo, Sem.run_bind, run_program, Result.andThen_ok, h3, Sem.run_pure, h4, run_underlying h1, run_sizeOf h5, h6, Value.cells, Array.toList_map]
  rw [f1']
  rfl
theorem sp_idx_arr {t : TypeId} {n : Nat} {e : TypeId} {x y : Operand} {cs : List AV} {k : IntKind} {z : Int} {a : AV} (ho : o.op = .index t x y) (ht : ArrTy P t n e) (hx : Ev c R x (.agg cs)) (hy : Ev c R y (.r (.int k z)))
    (hn : cs.length = n) (h0 : c = true → 0 ≤ z) (ha : c = true → cs[z.toNat]? = some a) : OpQ P c o R h a := by
  intro hc w0 w _ _ he
  obtain ⟨h1, d, i, h2, h3, h4, h5⟩ := ht
  have hv := hx.rep he hc
  generalize hw : w.eval x = v at hv
  cases hv with
  | @agg _ us hl hall =>
    have hz := ha hc
    have hi : z.toNat < us.size := by have := (List.getElem?_eq_some_iff.1 hz).1; omega
    refine ⟨us[z.toNat], fun w2 _ => ?_, hall z.toNat a us[z.toNat] hz (Array.getElem?_eq_getElem hi)⟩
    have hin : 0 ≤ z ∧ z < n := ⟨h0 hc, by omega⟩
    unfold execOp
    rw [ho]
    simp [hw, rep_int (hy.rep he hc), Instr.index, asIntOf, run_underlying h1, hin, run_sizeOf h4, h5, part, run_isAgg h2, h3, Array.getElem?_eq_getElem hi]
theorem ms_idx_arr {α : Type} {t : TypeId} {n : Nat} {e : TypeId} {x y : Operand} {f : α → AV} {l : List α} {k : IntKind} {z : Int} {a : α} (ho : o.op = .index t x y) (ht : ArrTy P t n e) (hx : Ev c R x (.agg (l.map f))) (hy : Ev c R y (.r (.int k z)))
    (hn : l.length = n) (ha : c = true → idx l z = some a) : OpQ P c o R h (f a) :=
  sp_idx_arr ho ht hx hy (by rw [List.length_map]; exact hn) (fun hc => (idx_some (ha hc)).1) (fun hc => by rw [List.getElem?_map, (idx_some (ha hc)).2.1]; rfl)
theorem ArrTy.of {t : TypeId} {n : Nat} {e : TypeId} (h1 : P.underlying t = some (.array n e)) (h2 : ScalTy P e) : ArrTy P t n e := ⟨h1, h2⟩
theorem BuildArr.of {t : TypeId} {n : Nat} {e : TypeId} {sz b sz' : Nat} {ze : Value} {be : Nat} {places : List (Nat × Nat)} {zs : List Value} (h1 : P.underlying t = some (.array n e))
    (h2 : (P.info? e).map (fun i => (i.zero, i.size, i.bytes)) = some (some ze, sz, be)) (h4 : ∀ i p, places[i]? = some p → p = (i * sz, sz)) (h3 : (P.info? t).map (fun i => (i.zero, i.size, i.bytes)) = some (some (.agg zs.toArray), sz', b)) : BuildArr P t places zs := by
  cases hi : P.info? t with
  | none => rw [hi] at h3; cases h3
  | some i =>
    rw [hi] at h3
    simp only [Option.map_some, Option.some.injEq, Prod.mk.injEq] at h3
    exact ⟨n, e, sz, h1, size_of h2, h4, i, hi, h3.1⟩
theorem placesB {places : List (Nat × Nat)} {sz : Nat} (h : (List.range places.length).all (fun i => match places[i]? with | some p => p.1 == i * sz && p.2 == sz | none => false) = true) : ∀ i p, places[i]? = some p → p = (i * sz, sz) := by
  intro i p hp
  have := List.all_eq_true.1 h i (List.mem_range.2 (List.getElem?_eq_some_iff.1 hp).1)
  simp only [hp, Bool.and_eq_true, beq_iff_eq] at this
  obtain ⟨p1, p2⟩ := p
  simp only at this
  rw [this.1, this.2]
end
end Go.Proofs.Ytfkolgjapajekaa.Al


namespace Go.Proofs.Ytfkolgjapajekaa.Al
section
variable {P : Program} {c : Bool} {o : Oper} {R : Env} {h : Heap} {n : Nat}
def spliceR (cs : List RV) (k : Nat) (vs : List RV) : List RV := cs.take k ++ vs ++ cs.drop (k + vs.length)
theorem sp_store_arrs {t : TypeId} {x y : Operand} {id g i k m : Nat} {e : TypeId} {sz : Nat} {xs : List (List RV)} {row ds : List RV} {a : AV} (ho : o.op = .store t x y) (ht : ∃ i, P.info? t = some i ∧ i.size = m)
    (hx : Ev c R x (.ptr id g i k)) (hh : hget h id = some (.arr g e sz xs)) (hrow : xs[i]? = some row) (hy : Ev c R y a) (hd : rowRV a = some ds) (hm : ds.length = m) (hk : k + ds.length ≤ row.length) :
    OpSpec P c o R h n .any ((id, some (.arr g e sz (xs.set i (spliceR row k ds)))) :: h) n := by
  intro hc z w hok hH hn he K Q hK
  obtain ⟨ii, hi, hisz⟩ := ht
  have hHid : z.H id = some (.arr g e sz xs) := by rw [hH]; exact hh
  have hil : i < xs.length := (List.getElem?_eq_some_iff.1 hrow).1
  obtain ⟨b, cap, us, hβ, hx2, hown, hrows, hcells⟩ := rep_elem hok hHid hil (hx.rep he hc)
  have hgn := (hok.obj _ _ hHid).1
  obtain ⟨hus, hown2⟩ := hown
  rcases hown2 with ⟨hv, _⟩ | ⟨b', cap', cur, hv, _, hcur, hnc, hcm, hcs, htake⟩
  · cases hv
  simp only [Value.slice.injEq, Option.some.injEq, Addr.mk.injEq, true_and, and_true] at hv
  obtain ⟨rfl, rfl⟩ := hv
  have hsz : 0 < sz := (hok.obj _ _ hHid).2.1
  have hrl := hrows row (List.mem_of_getElem? hrow)
  obtain ⟨hdl, hdg⟩ := cellsRV_get hd
  have hones : ∀ b ∈ cellsAV a, b.one = true := fun b hb => by
    obtain ⟨j, hj, rfl⟩ := List.mem_iff_getElem.1 hb
    obtain ⟨a', h1, h2⟩ := hdg j (ds[j]'(by omega)) (by simp [List.getElem?_eq_getElem (show j < ds.length by omega)])
    rw [List.getElem?_eq_getElem hj] at h1
    cases h1
    exact cellRV_one h2
  have hvr := hy.rep he hc
  obtain ⟨hvs, hvg, hv1⟩ := cellsAV_rep hvr hones
  replace hdl : ds.length = (cellsAV a).length := hdl
  have hvl : (w.eval y).cells.toList.length = ds.length := by rw [Array.length_toList (xs := (w.eval y).cells), hvs, hdl]
  have hbase : i * sz + sz ≤ xs.length * sz := by
    have : (i + 1) * sz ≤ xs.length * sz := Nat.mul_le_mul_right _ hil
    rwa [Nat.add_mul, Nat.one_mul] at this
  have hcap : xs.length * sz ≤ cur.size := by rw [hcs]; exact Nat.mul_le_mul_right _ hnc
  have hrun := run_storeAt (P := P) (k := i * sz + k) hi hcur (v := w.eval y) (by rw [hvs, hisz, ← hdl, hm]) hv1 (by rw [hvs, ← hdl]; omega)
  rw [show (w.eval y).cells.size = ds.length by rw [hvs, hdl]] at hrun
  have hsp2 := fun j => splice_get cur.toList (w.eval y).cells.toList (i * sz + k) j (by have := Array.length_toList (xs := cur); rw [hvl]; omega)
  rw [hvl] at hsp2
  let cur' : Array Value := (cur.toList.take (i * sz + k) ++ (w.eval y).cells.toList ++ cur.toList.drop (i * sz + k + ds.length)).toArray
  have hcur's : cur'.size = cur.size := by
    have hvs' : (w.eval y).cells.size = ds.length := by rw [hvs, hdl]
    simp [cur', hvs']; omega
  have hspl : (spliceR row k ds).length = row.length := by simp [spliceR]; omega
  have hspg : ∀ j, (spliceR row k ds)[j]? = if k ≤ j ∧ j < k + ds.length then ds[j - k]? else row[j]? := fun j => splice_get row ds k j hk
  have hup := Cx.upd hok id (.arr g e sz (xs.set i (spliceR row k ds))) (z.w.setRow b cur') (some (b, cap)) z.n (by simp [World.setRow]) rfl rfl rfl
    (fun b' _ hne => setRow_other _ _ _ _ (fun e => hne _ cap hHid (by rw [e]; exact hβ))) (fun b' k' hb => by
      cases hb
      exact ⟨by simpa [World.setRow] using (hok.own id _ b cap hHid hβ).1, .inr ⟨_, _, hHid, hβ⟩⟩) (Nat.le_refl _) hgn
    (fun _ => ⟨_, hHid, rfl, by simp [AObj.shape], hβ.symm⟩)
    (fun hle => by
      have hbs : ∀ b', z.S b' → (z.w.setRow b cur').heap[b']? = z.w.heap[b']? := fun b' hb => hle.blk b' (.inl hb)
      refine ⟨hsz, fun r hr => ?_, .slice (some ⟨b, 0, none⟩) xs.length cap, cur'.toList.take (xs.length * sz), by simp [hdrOk], ⟨by simp [hcur's]; omega, .inr ⟨b, cap, cur', by simp, Nat.zero_le _, setRow_heap _ _ _ _ _ _ hcur, by simpa using hnc, hcm, by rw [hcur's, hcs], by simp⟩⟩, fun i' row' c' d' k1 k2 => ?_⟩
      · rcases List.mem_or_eq_of_mem_set hr with hr | rfl
        · exact hrows r hr
        · rw [hspl]; exact hrl
      · have hi'l : i' < xs.length := by simpa using (List.getElem?_eq_some_iff.1 k1).1
        have hc'l : c' < sz := by
          have := (List.getElem?_eq_some_iff.1 k2).1
          rw [List.getElem?_set] at k1
          split at k1
          · cases k1; rw [hspl, hrl] at this; exact this
          · rw [← hrows row' (List.mem_of_getElem? k1)]; exact this
        have hlt : i' * sz + c' < xs.length * sz := by
          calc i' * sz + c' < i' * sz + sz := by omega
            _ = (i' + 1) * sz := by rw [Nat.add_mul, Nat.one_mul]
            _ ≤ xs.length * sz := Nat.mul_le_mul_right _ hi'l
        have hget : (cur'.toList.take (xs.length * sz))[i' * sz + c']? = if i * sz + k ≤ i' * sz + c' ∧ i' * sz + c' < i * sz + k + ds.length then (w.eval y).cells.toList[i' * sz + c' - (i * sz + k)]? else cur.toList[i' * sz + c']? := by
          rw [List.getElem?_take, if_pos hlt]
          simp only [cur']
          exact hsp2 _
        have huniq : i * sz + k ≤ i' * sz + c' → i' * sz + c' < i * sz + k + ds.length → i = i' := by
          intro h1 h2
          have e2 : (i' * sz + c') / sz = i' := by rw [Nat.mul_comm, Nat.mul_add_div hsz, Nat.div_eq_of_lt (by omega), Nat.add_zero]
          obtain ⟨q, hq⟩ : ∃ q, i' * sz + c' = i * sz + q := ⟨i' * sz + c' - i * sz, by omega⟩
          have hqs : q < sz := by omega
          have e1 : (i * sz + q) / sz = i := by rw [Nat.mul_comm, Nat.mul_add_div hsz, Nat.div_eq_of_lt hqs, Nat.add_zero]
          rw [← e1, ← hq, e2]
        by_cases hin : i * sz + k ≤ i' * sz + c' ∧ i' * sz + c' < i * sz + k + ds.length
        · have hii := huniq hin.1 hin.2
          subst hii
          rw [List.getElem?_set, if_pos rfl, if_pos hil] at k1
          cases k1
          rw [hspg, if_pos (by omega)] at k2
          obtain ⟨a', h1, h2⟩ := hdg _ _ k2
          obtain ⟨u, h3, _, h5⟩ := hvg _ _ h1
          refine ⟨u, ?_, (cellRV_rep h2 h5).mono hbs (fun _ h => h)⟩
          rw [hget, if_pos hin, show i * sz + c' - (i * sz + k) = c' - k by omega, Array.getElem?_toList]
          exact h3
        · have hold : ∃ row0, xs[i']? = some row0 ∧ row0[c']? = some d' := by
            rw [List.getElem?_set] at k1
            split at k1
            · rename_i hii; subst hii
              cases k1
              rw [hspg] at k2
              split at k2
              · exact absurd (by omega) hin
              · exact ⟨row, hrow, k2⟩
            · exact ⟨row', k1, k2⟩
          obtain ⟨row0, k3, k4⟩ := hold
          obtain ⟨u, k5, k6⟩ := hcells _ _ _ _ k3 k4
          refine ⟨u, ?_, k6.mono hbs (fun _ h => h)⟩
          rw [hget, if_neg hin]
          rw [← k5, ← htake, List.getElem?_take, if_pos hlt])
  unfold Oper.wp execOp
  rw [ho]
  simp only [hx2, Sem.run_bind, hrun, Result.andThen_ok, Sem.run_pure]
  exact hK undef _ hup.1 hup.2 (by simp only [hH]; exact hget_upd _ _ _) hn (.any _)
theorem ms_storeA {α : Type} {f : α → List RV} {t : TypeId} {x y : Operand} {id g k m : Nat} {e : TypeId} {sz : Nat} {l : List α} {z : Int} {a v : α} {b : AV} {ds : List RV} (ho : o.op = .store t x y) (ht : ∃ i, P.info? t = some i ∧ i.size = m)
    (hx : Ev true R x (.ptr id g z.toNat k)) (hh : hget h id = some (.arr g e sz (l.map f))) (hi : idx l z = some a) (hy : Ev true R y b) (hd : rowRV b = some ds) (hm : ds.length = m) (hk : Nat.ble (k + ds.length) (f a).length = true) (hv : spliceR (f a) k ds = f v) :
    OpSpec P true o R h n .any ((id, some (.arr g e sz ((l.set z.toNat v).map f))) :: h) n := by
  have := sp_store_arrs (n := n) ho ht hx hh (row := f a) (by rw [List.getElem?_map, (idx_some hi).2.1]; rfl) hy hd hm (Nat.le_of_ble_eq_true hk)
  rwa [hv, ← List.map_set] at this
end
end Go.Proofs.Ytfkolgjapajekaa.Al


namespace Go.Proofs.Ytfkolgjapajekaa.Al
def UwE2 (c : Bool) : Env → Env → Prop
  | [], _ => True
  | (t, v) :: r, e => (get e t = v ∨ get e t = .whn c v ∨ (∃ b v0, get e t = .whn (c && b) v0 ∧ v = .whn b v0) ∨ ∃ b1 b2 v0, get e t = .whn ((c && b1) && b2) v0 ∧ v = .whn (b1 && b2) v0) ∧ UwE2 c r e
theorem UwE2.get {c : Bool} {e' e : Env} (h : UwE2 c e' e) (t : Nat) : Al.get e' t = .any ∨ Al.get e t = Al.get e' t ∨ Al.get e t = .whn c (Al.get e' t) ∨
    (∃ b v0, Al.get e t = .whn (c && b) v0 ∧ Al.get e' t = .whn b v0) ∨ ∃ b1 b2 v0, Al.get e t = .whn ((c && b1) && b2) v0 ∧ Al.get e' t = .whn (b1 && b2) v0 := by
  induction e' with
  | nil => exact .inl rfl
  | cons p r ih =>
    obtain ⟨d, v⟩ := p
    rw [get_cons]
    split
    · rename_i hd; subst hd; exact .inr h.1
    · exact ih h.2
theorem Weak.unw2 {c : Bool} {e' e : Env} {h : Heap} {n N : Nat} (hc : c = true) (he : UwE2 c e' e) : Weak ⟨e, h, n, N⟩ ⟨e', h, n, N⟩ := by
  intro c0 a w ⟨hdef, hsz, y, hyw, hle, hok, hH, hyn, henv⟩
  refine ⟨hdef, hsz, y, hyw, hle, hok, hH, hyn, fun t => ?_⟩
  subst hc
  have h2 := henv t
  rcases he.get t with h1 | h1 | h1 | ⟨b, v0, h1, h3⟩ | ⟨b1, b2, v0, h1, h3⟩
  · rw [h1]; exact .any _
  · rwa [show Al.get (St.mk e h n N).e t = Al.get e' t from h1] at h2
  · rw [show Al.get (St.mk e h n N).e t = .whn true (Al.get e' t) from h1] at h2
    cases h2 with
    | whn hw _ => exact hw rfl
  · rw [show Al.get (St.mk e h n N).e t = .whn (true && b) v0 from h1] at h2
    rw [Bool.true_and] at h2
    rw [h3]; exact h2
  · rw [show Al.get (St.mk e h n N).e t = .whn ((true && b1) && b2) v0 from h1] at h2
    rw [Bool.true_and] at h2
    rw [h3]; exact h2
end Go.Proofs.Ytfkolgjapajekaa.Al


namespace Go.Proofs.Ytfkolgjapajekaa.Al
section
variable {P : Program} {c : Bool} {o : Oper} {R : Env} {h : Heap} {n : Nat}
theorem rep_hot {x : Cx} (hok : x.ok) {id g : Nat} {e : TypeId} {xs : List (List RV)} {k rid g' : Nat} {v : Value} (hH : x.H id = some (.hot g e xs k rid g')) (hv : AVRep x (.own id g) v) :
    ∃ b cap us, x.β id = some (b, cap) ∧ v = .slice (some ⟨b, 0, none⟩) xs.length cap ∧ k < xs.length ∧ (∀ row ∈ xs, row.length = 1) ∧ x.w.ownsRow 0 e 1 v xs.length us ∧
      (∀ i row d, i ≠ k → xs[i]? = some row → row[0]? = some d → ∃ u, us[i]? = some u ∧ RRep x.w x.S d u) ∧ ∃ u, us[k]? = some u ∧ AVRep x (.own rid g') u := by
  obtain ⟨_, h0, h1, hdr, us, h2, h3, h4, h6⟩ := hok.obj _ _ hH
  cases hv with
  | own _ _ hv =>
    have h5 := hv _ hH rfl
    simp only [AObj.shape] at h5
    have : v = hdr := by
      unfold hdrOk at h2 h5
      split at h2 <;> simp_all
    subst this
    unfold hdrOk at h2
    split at h2
    · rename_i heq; rw [h2.1] at h0; omega
    · rename_i b cap heq
      exact ⟨b, cap, us, heq, h2, h0, h1, h3, h4, h6⟩
theorem sp_indexAddr_hot {t e : TypeId} {x i : Operand} {id g : Nat} {e' : TypeId} {xs : List (List RV)} {k rid g' : Nat} {kd : IntKind} {z : Int} (ho : o.op = .indexAddr t x i) (ht : SliceTy P t e 1) (hx : Ev c R x (.own id g))
    (hh : hget h id = some (.hot g e' xs k rid g')) (hi : Ev c R i (.r (.int kd z))) (h0 : c = true → 0 ≤ z) (h1 : c = true → z < xs.length) : OpQ P c o R h (.ptr id g z.toNat 0) := by
  intro hc y w hok hH he
  obtain ⟨ht1, ii, ht2, ht3⟩ := ht
  have h0' := h0 hc
  have hlt' := h1 hc
  have hHid : y.H id = some (.hot g e' xs k rid g') := by rw [hH]; exact hh
  have hv := hx.rep he hc
  obtain ⟨b, cap, us, hβ, hd, _⟩ := rep_hot hok hHid hv
  have hg : g < y.n := by cases hv with | own hg _ _ => exact hg
  refine ⟨.pointer (some ⟨b, z.toNat * 1 + 0, none⟩), fun w2 hag => ?_, .ptr hg rfl fun o' ho' hgen => ?_⟩
  · unfold execOp
    rw [ho]
    simp [hd, rep_int (hi.rep he hc), Instr.indexAt, asIntOf, run_underlying ht1, h0', hlt', run_sizeOf ht2, ht3, Addr.add_lit]
  · rw [hHid] at ho'; cases ho'
    exact ⟨b, cap, hβ, rfl⟩
theorem rep_hot_elem {x : Cx} (hok : x.ok) {id g i j : Nat} {e : TypeId} {xs : List (List RV)} {k rid g' : Nat} {v : Value} (hH : x.H id = some (.hot g e xs k rid g')) (hv : AVRep x (.ptr id g i j) v) :
    ∃ b cap us, x.β id = some (b, cap) ∧ v = .pointer (some ⟨b, i * 1 + j, none⟩) ∧ k < xs.length ∧ (∀ row ∈ xs, row.length = 1) ∧ x.w.ownsRow 0 e 1 (.slice (some ⟨b, 0, none⟩) xs.length cap) xs.length us ∧
      (∀ i row d, i ≠ k → xs[i]? = some row → row[0]? = some d → ∃ u, us[i]? = some u ∧ RRep x.w x.S d u) ∧ ∃ u, us[k]? = some u ∧ AVRep x (.own rid g') u := by
  obtain ⟨_, h0, h1, hdr, us, h2, h3, h4, h6⟩ := hok.obj _ _ hH
  cases hv with
  | ptr _ _ hv =>
    obtain ⟨b, cap, h7, h8⟩ := hv _ hH rfl
    rw [h7] at h2
    simp only [hdrOk] at h2
    subst h2
    exact ⟨b, cap, us, h7, h8, h0, h1, h3, h4, h6⟩
theorem sp_load_hot {t : TypeId} {x : Operand} {id g : Nat} {e : TypeId} {xs : List (List RV)} {k rid g' : Nat} (ho : o.op = .load t x) (ht : ScalTy P t) (hx : Ev c R x (.ptr id g k 0)) (hh : c = true → hget h id = some (.hot g e xs k rid g')) :
    OpQ P c o R h (.own rid g') := by
  intro hc z w hok hH he
  have hHid : z.H id = some (.hot g e xs k rid g') := by rw [hH]; exact hh hc
  obtain ⟨b, cap, us, h1, h2, h3, h4, h5, h6, u, h7, h8⟩ := rep_hot_elem hok hHid (hx.rep he hc)
  refine ⟨u, fun w2 hag => ?_, h8⟩
  unfold execOp
  rw [ho]
  have := ownsRow_cell h5 h7
  simp [h2, run_loadAt_scal ht ((hag.cellO hHid h1).trans this)]
theorem sp_load_hot_ne {t : TypeId} {x : Operand} {id g i : Nat} {e : TypeId} {xs : List (List RV)} {k rid g' : Nat} {row : List RV} {d : RV} (ho : o.op = .load t x) (ht : ScalTy P t) (hx : Ev c R x (.ptr id g i 0)) (hh : c = true → hget h id = some (.hot g e xs k rid g'))
    (hrow : c = true → xs[i]? = some row) (hne : i ≠ k) (ha : c = true → row[0]? = some d) : OpQ P c o R h (.r d) := by
  intro hc z w hok hH he
  have hHid : z.H id = some (.hot g e xs k rid g') := by rw [hH]; exact hh hc
  obtain ⟨b, cap, us, h1, h2, h3, h4, h5, h6, _⟩ := rep_hot_elem hok hHid (hx.rep he hc)
  obtain ⟨u, h7, h8⟩ := h6 i row d hne (hrow hc) (ha hc)
  refine ⟨u, fun w2 hag => ?_, .r h8⟩
  unfold execOp
  rw [ho]
  have := ownsRow_cell h5 h7
  simp [h2, run_loadAt_scal ht ((hag.cellO hHid h1).trans this)]
theorem store_hot {t : TypeId} {x y : Operand} {id g i rid g' : Nat} {e : TypeId} {xs : List (List RV)} (ob : AObj) (hob : ob = .arr g e 1 xs ∨ ∃ r2 g2, ob = .hot g e xs i r2 g2) (ho : o.op = .store t x y) (ht : ∃ i, P.info? t = some i ∧ i.size = 1)
    (hx : Ev c R x (.ptr id g i 0)) (hh : hget h id = some ob) (hrow : i < xs.length) (hy : Ev c R y (.own rid g')) :
    OpSpec P c o R h n .any ((id, some (.hot g e xs i rid g')) :: h) n := by
  intro hc z w hok hH hn he K Q hK
  obtain ⟨ii, hi, hisz⟩ := ht
  have hHid : z.H id = some ob := by rw [hH]; exact hh
  have hgn := (hok.obj _ _ hHid).1
  have hg0 : ob.gen = g := by rcases hob with rfl | ⟨_, _, rfl⟩ <;> rfl
  have hsh : ob.shape = (true, 1, xs.length) := by rcases hob with rfl | ⟨_, _, rfl⟩ <;> rfl
  rw [hg0] at hgn
  have hcells : ∃ b cap us, z.β id = some (b, cap) ∧ w.eval x = .pointer (some ⟨b, i, none⟩) ∧ (∀ row ∈ xs, row.length = 1) ∧ z.w.ownsRow 0 e 1 (.slice (some ⟨b, 0, none⟩) xs.length cap) xs.length us ∧
      (∀ j row d, j ≠ i → xs[j]? = some row → row[0]? = some d → ∃ u, us[j]? = some u ∧ RRep z.w z.S d u) := by
    rcases hob with rfl | ⟨r2, g2, rfl⟩
    · obtain ⟨b, cap, us, h1, h2, h3, h4, h5⟩ := rep_elem hok hHid hrow (hx.rep he hc)
      refine ⟨b, cap, us, h1, by rw [h2]; simp, h4, h3, fun j row d _ k1 k2 => ?_⟩
      obtain ⟨u, k3, k4⟩ := h5 j row 0 d k1 k2
      exact ⟨u, by simpa using k3, k4⟩
    · obtain ⟨b, cap, us, h1, h2, _, h4, h5, h6, _⟩ := rep_hot_elem hok hHid (hx.rep he hc)
      exact ⟨b, cap, us, h1, by rw [h2]; simp, h4, h5, h6⟩
  obtain ⟨b, cap, us, hβ, hx2, hrows, hown, hce⟩ := hcells
  obtain ⟨hus, hown2⟩ := hown
  rcases hown2 with ⟨hv, _⟩ | ⟨b', cap', cur, hv, _, hcur, hnc, hcm, hcs, htake⟩
  · cases hv
  simp only [Value.slice.injEq, Option.some.injEq, Addr.mk.injEq, true_and, and_true] at hv
  obtain ⟨rfl, rfl⟩ := hv
  have hvr := hy.rep he hc
  have hone : (w.eval y).oneCell' = true := by cases hvr with | own _ h1 _ => exact h1
  have hvc : (w.eval y).cells = #[w.eval y] := by
    generalize w.eval y = v at hone ⊢
    cases v <;> first | rfl | (simp [Value.oneCell'] at hone)
  have hcap : xs.length ≤ cur.size := by rw [hcs]; omega
  have hrun := run_storeAt (P := P) (k := i) hi hcur (v := w.eval y) (by rw [hvc, hisz]; rfl) (by rw [hvc]; simpa using hone) (by rw [hvc]; simp; omega)
  rw [hvc] at hrun
  simp only [List.size_toArray, List.length_singleton] at hrun
  have hsp2 := fun j => splice_get cur.toList [w.eval y] i j (by simp; omega)
  simp only [List.length_singleton] at hsp2
  let cur' : Array Value := (cur.toList.take i ++ [w.eval y] ++ cur.toList.drop (i + 1)).toArray
  have hcur's : cur'.size = cur.size := by simp [cur']; omega
  have hup := Cx.upd hok id (.hot g e xs i rid g') (z.w.setRow b cur') (some (b, cap)) z.n (by simp [World.setRow]) rfl rfl rfl
    (fun b' _ hne => setRow_other _ _ _ _ (fun e => hne _ cap hHid (by rw [e]; exact hβ))) (fun b' k' hb => by
      cases hb
      exact ⟨by simpa [World.setRow] using (hok.own id _ b cap hHid hβ).1, .inr ⟨_, _, hHid, hβ⟩⟩) (Nat.le_refl _) hgn
    (fun _ => ⟨_, hHid, hg0, hsh, hβ.symm⟩)
    (fun hle => by
      have hbs : ∀ b', z.S b' → (z.w.setRow b cur').heap[b']? = z.w.heap[b']? := fun b' hb => hle.blk b' (.inl hb)
      have hget : ∀ j, j < xs.length → (cur'.toList.take (xs.length * 1))[j]? = if i ≤ j ∧ j < i + 1 then [w.eval y][j - i]? else cur.toList[j]? := by
        intro j hj
        rw [List.getElem?_take, if_pos (by omega)]
        simp only [cur']
        exact hsp2 _
      refine ⟨hrow, hrows, .slice (some ⟨b, 0, none⟩) xs.length cap, cur'.toList.take (xs.length * 1), by simp [hdrOk], ⟨by simp [hcur's]; omega, .inr ⟨b, cap, cur', by simp, Nat.zero_le _, setRow_heap _ _ _ _ _ _ hcur, by simpa using hnc, hcm, by rw [hcur's, hcs], by simp⟩⟩, fun j row d hne k1 k2 => ?_, w.eval y, ?_, hvr.mono hle⟩
      · obtain ⟨u, k5, k6⟩ := hce j row d hne k1 k2
        have hjl := (List.getElem?_eq_some_iff.1 k1).1
        refine ⟨u, ?_, k6.mono hbs (fun _ h => h)⟩
        rw [hget j hjl, if_neg (by omega)]
        rw [← k5, ← htake, List.getElem?_take, if_pos (by omega)]
      · rw [hget i hrow, if_pos (by omega)]; simp)
  unfold Oper.wp execOp
  rw [ho]
  simp only [hx2, Sem.run_bind, hrun, Result.andThen_ok, Sem.run_pure]
  exact hK undef _ hup.1 hup.2 (by simp only [hH]; exact hget_upd _ _ _) hn (.any _)
variable {α : Type} {f : α → List RV}
theorem ms_store_own {t : TypeId} {x y : Operand} {id g rid g' : Nat} {e : TypeId} {l : List α} {z : Int} {a : α} (ho : o.op = .store t x y) (ht : ∃ i, P.info? t = some i ∧ i.size = 1)
    (hx : Ev true R x (.ptr id g z.toNat 0)) (hh : hget h id = some (.arr g e 1 (l.map f))) (hi : idx l z = some a) (hy : Ev true R y (.own rid g')) :
    OpSpec P true o R h n .any ((id, some (.hot g e (l.map f) z.toNat rid g')) :: h) n :=
  store_hot (.arr g e 1 (l.map f)) (.inl rfl) ho ht hx hh (by rw [List.length_map]; have := idx_some hi; omega) hy
theorem ms_idx_hot {t e e' : TypeId} {x y : Operand} {id g rid g' kk : Nat} {l : List α} {k : IntKind} {z : Int} {a : α} (ho : o.op = .indexAddr t x y) (ht : SliceTy P t e 1) (hx : Ev c R x (.own id g))
    (hh : hget h id = some (.hot g e' (l.map f) kk rid g')) (hy : Ev c R y (.r (.int k z))) (hi : c = true → idx l z = some a) : OpQ P c o R h (.ptr id g z.toNat 0) :=
  sp_indexAddr_hot ho ht hx hh hy (fun hc => (idx_some (hi hc)).1) (fun hc => by rw [List.length_map]; exact (idx_some (hi hc)).2.2)
theorem ms_load_hot {t : TypeId} {x : Operand} {id g rid g' : Nat} {e : TypeId} {l : List α} {z : Int} (ho : o.op = .load t x) (ht : ScalTy P t) (hx : Ev c R x (.ptr id g z.toNat 0))
    (hh : c = true → hget h id = some (.hot g e (l.map f) z.toNat rid g')) : OpQ P c o R h (.own rid g') := sp_load_hot ho ht hx hh
theorem ms_load_hot_ne {t : TypeId} {x : Operand} {id g rid g' : Nat} {e : TypeId} {l l0 : List α} {z z0 : Int} {a a0 : α} {d : RV} (ho : o.op = .load t x) (ht : ScalTy P t) (hx : Ev c R x (.ptr id g z.toNat 0))
    (hh : c = true → hget h id = some (.hot g e (l.map f) z0.toNat rid g')) (hi : c = true → idx l z = some a) (h0 : c = true → idx l0 z0 = some a0) (hne : c = true → z ≠ z0) (hd : (f a)[0]? = some d) : OpQ P c o R h (.r d) := by
  intro hc
  refine sp_load_hot_ne ho ht hx hh (row := f a) (fun hc => by rw [List.getElem?_map, (idx_some (hi hc)).2.1]; rfl) ?_ (fun _ => hd) hc
  have h1 := (idx_some (hi hc)).1
  have h2 := (idx_some (h0 hc)).1
  have h3 := hne hc
  omega
end
end Go.Proofs.Ytfkolgjapajekaa.Al


namespace Go.Proofs.Ytfkolgjapajekaa.Al
section
variable {P : Program} {c : Bool} {o : Oper} {R : Env} {h : Heap} {n : Nat}
end
end Go.Proofs.Ytfkolgjapajekaa.Al


namespace Go.Proofs.Ytfkolgjapajekaa.Al
section
variable {P : Program} {c : Bool} {o : Oper} {R : Env} {h : Heap} {n : Nat}
end
end Go.Proofs.Ytfkolgjapajekaa.Al


namespace Go.Proofs.Ytfkolgjapajekaa.Al
section
variable {P : Program} {c : Bool} {o : Oper} {R : Env} {h : Heap}
end
theorem Weak.ren {s : St} (t i j : Nat) {g : Nat} {e : TypeId} {sz : Nat} {xs : List (List RV)} (hij : (i == j) = false) (ht : get s.e t = .own i g) (hh : hget s.h i = some (.arr g e sz xs)) :
    Weak s ⟨(t, .own j s.n) :: s.e, (j, some (.arr s.n e sz xs)) :: (i, none) :: s.h, s.n + 1, s.N⟩ := by
  have hne : i ≠ j := by simpa using hij
  intro c0 a w ⟨hdef, hsz, y, hyw, hle, hok, hH, hyn, henv⟩
  have hHi : y.H i = some (.arr g e sz xs) := by rw [hH]; exact hh
  let z : Cx := { y with H := fun d => if j = d then some (.arr s.n e sz xs) else if i = d then none else y.H d, β := fun d => if j = d then y.β i else y.β d, n := y.n + 1 }
  have hzl : y.le z := by
    refine ⟨Nat.le_refl _, rfl, rfl, rfl, fun _ _ => rfl, fun _ h => h, rfl, Nat.le_succ _, fun d o' ho' hg => ?_⟩
    dsimp only [z] at ho' ⊢
    split at ho'
    · cases ho'
      exact absurd hg (by simp [AObj.gen, hyn])
    · rename_i hj
      split at ho'
      · cases ho'
      · exact ⟨o', ho', rfl, rfl, by rw [if_neg hj]⟩
  have hzok : z.ok := by
    refine ⟨hok.S_lt, hok.F_lt, hok.SF, fun d o ho => ?_, fun d o b k ho hb => ?_, fun d d' o o' b k k' ho ho' hb hb' => ?_, hok.tabs.le hzl⟩
    · dsimp only [z] at ho ⊢
      split at ho
      · rename_i hj
        cases ho
        rw [if_pos hj]
        refine ⟨by simp [AObj.gen, hyn], ?_⟩
        have h2 := (hok.obj i _ hHi).2
        exact (show ORep y (y.β i) (.arr s.n e sz xs) from h2).mono hzl fun b k _ => rfl
      · rename_i hj
        split at ho
        · cases ho
        · rw [if_neg hj]
          obtain ⟨h1, h2⟩ := hok.obj d o ho
          exact ⟨Nat.lt_succ_of_lt h1, h2.mono hzl fun b k _ => rfl⟩
    · dsimp only [z] at ho hb ⊢
      split at hb
      · exact hok.own i _ b k hHi hb
      · rename_i hj
        rw [if_neg hj] at ho
        split at ho
        · cases ho
        · exact hok.own d o b k ho hb
    · dsimp only [z] at ho ho' hb hb'
      by_cases h1 : j = d <;> by_cases h2 : j = d'
      · rw [← h1, ← h2]
      · rw [if_pos h1] at hb
        rw [if_neg h2] at ho' hb'
        split at ho'
        · cases ho'
        · rename_i h3
          exact absurd (hok.inj i d' _ _ b k k' hHi ho' hb hb') h3
      · rw [if_neg h1] at ho hb
        rw [if_pos h2] at hb'
        split at ho
        · cases ho
        · rename_i h3
          exact absurd (hok.inj d i _ _ b k k' ho hHi hb hb').symm h3
      · rw [if_neg h1] at ho hb
        rw [if_neg h2] at ho' hb'
        split at ho
        · cases ho
        · split at ho'
          · cases ho'
          · exact hok.inj d d' _ _ b k k' ho ho' hb hb'
  refine ⟨hdef, hsz, z, hyw, hle.trans hzl, hzok, ?_, by simp [z, hyn], fun t' => ?_⟩
  · funext d
    show (if j = d then _ else if i = d then _ else y.H d) = _
    rw [hget_cons, hget_cons, hH]
  · rw [get_cons]
    split
    · rename_i htt
      have h1 := henv t
      rw [ht, htt] at h1
      generalize a.tmps.getD t' undef = u at h1 ⊢
      cases h1 with
      | own h1 h2 h3 =>
        refine .own (by simp [z, hyn]) h2 fun o ho _ => ?_
        dsimp only [z] at ho ⊢
        rw [if_pos rfl] at ho ⊢
        cases ho
        have h5 := h3 _ hHi rfl
        exact h5
    · exact (henv t').mono hzl
end Go.Proofs.Ytfkolgjapajekaa.Al


namespace Go.Proofs.Ytfkolgjapajekaa.Al
section
variable {P : Program} {c : Bool} {o : Oper} {R : Env} {h : Heap} {n : Nat}
theorem AW.split {Q : Exit → St → Prop} {s : St} {x : Code} (b : Bool) (h1 : b = true → AW P x Q s) (h2 : b = false → AW P x Q s) : AW P x Q s := by
  cases b
  · exact h2 rfl
  · exact h1 rfl
end
end Go.Proofs.Ytfkolgjapajekaa.Al


namespace Go.Proofs.Ytfkolgjapajekaa.Al
theorem iL {α : Sort _} {x : α} {p : Prop} : x = x ∨ p := .inl rfl
section
variable {P : Program} {ops : Array Oper} {rest : List Oper} {s : St} {K : St → Prop} {o : Oper}
theorem sQ {d : Nat} {v : AV} (hg : (o.guard, o.dst, Nat.blt d s.N) = (none, some d, true)) (hs : OpQ P true o s.e s.h v)
    (hr : AOps P ops rest { e := (d, v) :: s.e, h := s.h, n := s.n, N := s.N } K) : AOps P ops (o :: rest) s K :=
  AOps.step (Prod.mk.inj hg).1 (Prod.mk.inj (Prod.mk.inj hg).2).1 (Prod.mk.inj (Prod.mk.inj hg).2).2 (OpQ.spec hs _) hr
theorem sW {d : Nat} {c : Bool} {v : AV} (hG : GuardC s.e ops o c) (hg : (o.dst, Nat.blt d s.N) = (some d, true)) (hs : OpQ P c o s.e s.h v)
    (hr : AOps P ops rest { e := (d, .whn c v) :: s.e, h := s.h, n := s.n, N := s.N } K) : AOps P ops (o :: rest) s K :=
  AOps.stepW hG (Prod.mk.inj hg).1 (Prod.mk.inj hg).2 (OpQ.spec hs _) hr
theorem sM {d : Nat} {x : Operand} (hg : (o.guard, o.dst, Nat.blt d s.N) = (none, some d, true)) (ho : o.op = .move x)
    (hr : AOps P ops rest { e := (d, evalOp s.e x) :: s.e, h := s.h, n := s.n, N := s.N } K) : AOps P ops (o :: rest) s K := sQ hg (sp_move ho (.inl rfl)) hr
theorem sV {d j dj : Nat} {want b : Bool} {v : AV} (hg : (o.guard, o.dst, Nat.blt d s.N) = (some (j, want), some d, true)) (hj : (ops[j]?).bind (·.dst) = some dj) (hb : evalOp s.e (.tmp dj) = .r (.bool b)) (hs : OpQ P (b == want) o s.e s.h v)
    (hr : AOps P ops rest { e := (d, .whn (b == want) v) :: s.e, h := s.h, n := s.n, N := s.N } K) : AOps P ops (o :: rest) s K :=
  sW (.one (Prod.mk.inj hg).1 hj hb) (Prod.mk.inj hg).2 hs hr
end
theorem jL {α : Sort _} {x : α} {p q : Prop} : (x = x ∨ p) ∨ q := .inl (.inl rfl)
theorem iR {c : Bool} {R : Env} {x : Operand} {v : AV} (h : evalOp R x = .whn c v) : Ev c R x v := .inr ⟨c, id, h⟩
theorem nL {n : Nat} : n ≤ n := Nat.le_refl n
theorem fR {α β : Sort _} {x : β} (_ : α) : x = x := rfl
end Go.Proofs.Ytfkolgjapajekaa.Al

