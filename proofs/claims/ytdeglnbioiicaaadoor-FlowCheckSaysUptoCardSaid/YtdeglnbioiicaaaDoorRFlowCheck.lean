/-
  PROVED: 'FlowCheckSays' returns true whatever its arguments of bulk at most 1048576 are, and leaves them as they were (statement 'FlowCheckSaysUptoCardSaid'). Conditions: none but the bulk.
-/
import Derived.Test.YtdeglnbioiicaaaDoorWlk50
import Derived.Deep.DeepHandedRow
import Derived.JoinedCond
import Derived.Lib.LaidTab
import Derived.OpenShut
import Derived.ProofKit
import Derived.Test.YtdeglnbioiicaaaDoorCards
import Derived.Test.YtdeglnbioiicaaaDoorChecked
import Derived.Test.YtdeglnbioiicaaaDoorRows
import Derived.Test.YtdeglnbioiicaaaDoorTie
import Derived.WalkKit
namespace Go.Proofs.YtdeglnbioiicaaaDoor.Al.RFlowCheck
open Go.Proofs Go.Proofs.YtdeglnbioiicaaaDoor.Al Go.Proofs.YtdeglnbioiicaaaDoor
open Go.ChangeShapes Go.WideShapes Go.ChangeAt Go.RowKit
set_option linter.unusedVariables false

theorem own : ownKnob Tryd.prog.godebug = none := by kernel_rfl

theorem blk_all {H : Type} (l : List (DataW H)) : (l.map Rows.uptoBulk).sum = Rows.uptoBulkAll l := by
  induction l with
  | nil => simp [Rows.uptoBulkAll]
  | cons d l ih => rw [List.map_cons, List.sum_cons, ih, Rows.uptoBulkAll]
def blk (H : Type) : Blk H where
  B := Rows.uptoBulk
  one := fun d => by
    cases d with
    | lit l => cases l <;> simp [Rows.uptoBulk]
    | nil => simp [Rows.uptoBulk]
    | ptr d => simp [Rows.uptoBulk]
    | slice elems spare => simp [Rows.uptoBulk]
    | agg parts => simp [Rows.uptoBulk]
    | iface t d => simp [Rows.uptoBulk]
    | map entries => simp [Rows.uptoBulk]
    | held h => simp [Rows.uptoBulk]
  str := fun s => by simp [Rows.uptoBulk]
  sl := fun l r => by rw [blk_all, Rows.uptoBulk]; omega
  agg := fun l => by rw [blk_all, Rows.uptoBulk]; omega
def ok_63 (x : GAttr) : Prop := x.Name.length ≤ maxLen ∧ x.Value.length ≤ maxLen
def mu_63 (x : GAttr) : Nat := (x.Name.length + 1) + (x.Value.length + 1) + 1
theorem rd_63 {H : Type} {enc : TypeId × Value → H} {W : World} (K : Blk H) : Rdm K enc Tryd.prog W 63 GAttr.row ok_63 mu_63 := by
  intro fuel cs x h
  obtain ⟨hlen, xs, hx, hxl, hf⟩ := struct_parts (n := 2) Tryd.underlying63 (by kernel_rfl) h
  obtain ⟨y0, n0, g0, t0⟩ := hf 0 _ rfl
  obtain ⟨y1, n1, g1, t1⟩ := hf 1 _ rfl
  obtain rfl : xs = [y0, y1] := list_of_gets hxl (fun j y hj => by
    rcases j with _ | _ | j
    · cases hj; exact g0
    · cases hj; exact g1
    · cases hj)
  obtain ⟨a0, k0, r0, m0⟩ := ((Rdm.str K Tryd.underlying9)) _ _ _ t0
  obtain ⟨a1, k1, r1, m1⟩ := ((Rdm.str K Tryd.underlying9)) _ _ _ t1
  have m0 : a0.length + 1 ≤ K.B y0.1 := m0
  have m1 : a1.length + 1 ≤ K.B y1.1 := m1
  have hm := K.agg (List.map (fun z : DataW H × List MemPlace => z.1) [y0, y1])
  simp only [List.map_cons, List.map_nil, List.sum_cons, List.sum_nil] at hm
  refine ⟨⟨a0, a1⟩, ⟨k0, k1⟩, ⟨hlen, fun j d u h1 h2 => ?_⟩, ?_⟩
  · rcases j with _ | _ | j
    · exact r0.part (jj := 0) (by kernel_rfl) h1 h2
    · exact r1.part (jj := 0) (by kernel_rfl) h1 h2
    · cases h1
  · rw [hx]
    refine Nat.le_trans ?_ hm
    show (a0.length + 1) + (a1.length + 1) + 1 ≤ _
    omega

def ok_32 (x : GElem) : Prop := (Lit.int .i64 x.Char).wf = true ∧ (Lit.int .i64 x.Ref).wf = true ∧ (x.Attrs.length ≤ maxLen ∧ ∀ a ∈ x.Attrs, ok_63 a)
def mu_32 (x : GElem) : Nat := (1) + (1) + ((x.Attrs.map mu_63).sum + 1) + 1
theorem rd_32 {H : Type} {enc : TypeId × Value → H} {W : World} (K : Blk H) : Rdm K enc Tryd.prog W 32 GElem.row ok_32 mu_32 := by
  intro fuel cs x h
  obtain ⟨hlen, xs, hx, hxl, hf⟩ := struct_parts (n := 3) Tryd.underlying32 (by kernel_rfl) h
  obtain ⟨y0, n0, g0, t0⟩ := hf 0 _ rfl
  obtain ⟨y1, n1, g1, t1⟩ := hf 1 _ rfl
  obtain ⟨y2, n2, g2, t2⟩ := hf 2 _ rfl
  obtain rfl : xs = [y0, y1, y2] := list_of_gets hxl (fun j y hj => by
    rcases j with _ | _ | _ | j
    · cases hj; exact g0
    · cases hj; exact g1
    · cases hj; exact g2
    · cases hj)
  obtain ⟨a0, k0, r0, m0⟩ := ((Rdm.int K Tryd.underlying3)) _ _ _ t0
  obtain ⟨a1, k1, r1, m1⟩ := ((Rdm.int K Tryd.underlying3)) _ _ _ t1
  obtain ⟨a2, k2, r2, m2⟩ := ((Rdm.slice K (sz := 2) Tryd.underlying30 (by kernel_rfl) (by decide) (rd_63 K) (fun _ => rfl))) _ _ _ t2
  have m0 : 1 ≤ K.B y0.1 := m0
  have m1 : 1 ≤ K.B y1.1 := m1
  have m2 : (a2.map mu_63).sum + 1 ≤ K.B y2.1 := m2
  have hm := K.agg (List.map (fun z : DataW H × List MemPlace => z.1) [y0, y1, y2])
  simp only [List.map_cons, List.map_nil, List.sum_cons, List.sum_nil] at hm
  refine ⟨⟨a0, a1, a2⟩, ⟨k0, k1, k2⟩, ⟨hlen, fun j d u h1 h2 => ?_⟩, ?_⟩
  · rcases j with _ | _ | _ | j
    · exact r0.part (jj := 0) (by kernel_rfl) h1 h2
    · exact r1.part (jj := 0) (by kernel_rfl) h1 h2
    · exact r2.part (jj := 0) (by kernel_rfl) h1 h2
    · cases h1
  · rw [hx]
    refine Nat.le_trans ?_ hm
    show (1) + (1) + ((a2.map mu_63).sum + 1) + 1 ≤ _
    omega

theorem tabs {W : World} (h : laidMetH Tryd.prog Rows.flowCheckSaysUptoRow.laid W) : TabsOk (Cx.start W) := by
  have h' : laidMet Tryd.prog Rows.flowCheckSaysUptoRow.laid W := h
  refine tabs_start (d1 := Go.Pinned.utf8First) (d2 := Rows.laid_unicode_utf8_acceptRanges) (t1 := 66) (t2 := 84) (e1 := 5) (e2 := 83) (Go.Lib.laidMet.reads h' ?_) (by kernel_rfl) (by kernel_rfl) (by kernel_rfl) Tryd.underlying66 Tryd.underlying5 (by kernel_rfl) (by kernel_rfl)
    (Go.Lib.laidMet.reads h' ?_) (by kernel_rfl) (by kernel_rfl) (by kernel_rfl) Tryd.underlying84 Tryd.underlying83 (fun i f hf => ?_) rfl (by kernel_rfl)
  · exact .tail _ (.head _)
  · exact .head _
  · rcases i with _ | _ | i
    · cases hf; exact ⟨Tryd.underlying5, rfl, by kernel_rfl⟩
    · cases hf; exact ⟨Tryd.underlying5, rfl, by kernel_rfl⟩
    · cases hf

set_option maxRecDepth 100000 in
theorem contract (H : Type) (enc : TypeId × Value → H) (W : World) (base : Nat) (args : Array Value) (ds gs : List (DataW H)) (before : List MemPlace)
    (hval : ∀ (j : Nat) t v, Tryd.f3.params[j]? = some t → args[j]? = some v → Value.okWide Tryd.prog W .any base t v)
    (hW : DataW.Whole enc Tryd.prog Tryd.f3.params.toList Rows.flowCheckSaysSpec.vars false W args.toList ds gs before) (hk0 : Rows.uptoSmall H (ds ++ gs) = true) (hL : laidMetH Tryd.prog Rows.flowCheckSaysUptoRow.laid W) :
    Calls Tryd.prog 3 args W fun e W' => ∃ v, e = .returned v ∧ Rows.flowCheckSaysSpec.post enc Tryd.prog Tryd.f3 false true false false W args v W' := by
  have hW' := hW
  obtain ⟨p, q, hA0, hV, rfl, hfz, hnd⟩ := hW
  have hA : DataW.TrodAll enc Tryd.prog W 0 (fun _ => true) true Tryd.f3.params.toList args.toList ds p := hA0
  rw [Tryd.params3] at hA hval
  obtain ⟨v0, vs0, d0, ds0, p0, q0, hargs, rfl, rfl, h0, e0⟩ := trodAll_cons hA
  obtain ⟨v1, vs1, d1, ds1, p1, q1, rfl, rfl, rfl, h1, e1⟩ := trodAll_cons e0
  obtain ⟨v2, vs2, d2, ds2, p2, q2, rfl, rfl, rfl, h2, e2⟩ := trodAll_cons e1
  obtain ⟨v3, vs3, d3, ds3, p3, q3, rfl, rfl, rfl, h3, e3⟩ := trodAll_cons e2
  obtain ⟨rfl, rfl, rfl⟩ := trodAll_nil e3
  obtain rfl : args = #[v0, v1, v2, v3] := by cases args; simp_all
  obtain ⟨rfl, rfl⟩ := trodVars_none hV
  have hk : (blk H).B d0 + (blk H).B d1 + (blk H).B d2 + (blk H).B d3 ≤ 1048576 := by
    have := of_decide_eq_true hk0
    simp only [List.append_nil, Rows.uptoBulkAll] at this
    show Rows.uptoBulk d0 + Rows.uptoBulk d1 + Rows.uptoBulk d2 + Rows.uptoBulk d3 ≤ 1048576
    omega
  obtain ⟨x0, k0, r0, m0⟩ := topm_int (blk H) Tryd.underlying3 (hval 0 3 v0 rfl rfl) h0
  obtain ⟨x1, k1, r1, m1⟩ := topm_slice (blk H) Tryd.underlying22 (Rdm.slice (blk H) (sz := 3) Tryd.underlying22 (by kernel_rfl) (by decide) (rd_32 (blk H)) (fun _ => rfl)) (hval 1 22 v1 rfl rfl) h1
  obtain ⟨x2, k2, r2, m2⟩ := topm_slice (blk H) Tryd.underlying22 (Rdm.slice (blk H) (sz := 3) Tryd.underlying22 (by kernel_rfl) (by decide) (rd_32 (blk H)) (fun _ => rfl)) (hval 2 22 v2 rfl rfl) h2
  obtain ⟨x3, k3, r3, m3⟩ := topm_bool (blk H) Tryd.underlying4 (hval 3 4 v3 rfl rfl) h3
  clear hA0
  have h0 := okF_bulk (ν := mu_32) (κ := mu_63) (fun e => by unfold mu_32; omega) (fun a => by unfold mu_63; omega) (f := x1) (by omega)
  have hp := law_FlowCheck_true x0 x1 x2 x3 (by omega) h0.2
  obtain ⟨_, _, hc⟩ := w_law_FlowCheckSays hp
  refine (hc (Cx.start W) #[v0, v1, v2, v3] (Cx.start_ok W (tabs hL)) rfl ⟨rfl, fun i a u k1 k2 => ?_⟩).mono fun e W' ⟨u, y, he, hy, hle, hok, hr⟩ => ?_
  · rcases i with _ | _ | _ | _ | i
    · cases k1; cases k2; exact .r r0
    · cases k1; cases k2; exact .r r1
    · cases k1; cases k2; exact .r r2
    · cases k1; cases k2; exact .r r3
    · cases k1
  · subst he; subst hy
    obtain rfl := rep_bool hr
    exact ⟨_, rfl, close_row (by kernel_rfl) (by rw [Tryd.params3]; intro t ht; simp at ht; rcases ht with rfl | rfl | rfl <;> exact ⟨by kernel_rfl, of_decide_eq_true (by kernel_rfl)⟩) rfl hW' hle rfl rfl
      (fun _ _ _ => trodAll_cons_mk (shut_bool Tryd.underlying4 _) trodAll_mk0)⟩

/-- A world for the witness: the settled one, the two tables laid. -/
def lay (cs : List Value) : Obj → Obj
  | .cells _ t frozen => .cells cs.toArray t frozen
  | o => o
noncomputable def laidWorld (os : Os) : World :=
  { World.holding Tryd.prog os ⟨#[], #[], []⟩ with heap := ((World.holding Tryd.prog os ⟨#[], #[], []⟩).heap.modify gFirst (lay (tabFirst.map fun z => Value.int .u8 z))).modify gAccept (lay (tabAccept0.flatMap fun p => [Value.int .u8 p.1, Value.int .u8 p.2])) }
theorem laid_met (os : Os) : laidMet Tryd.prog Rows.flowCheckSaysUptoRow.laid ((laidWorld os).forCall (fun _ _ => 0) ⟨#[], #[.int .i64 0, .slice none 0 0, .slice none 0 0, .bool false], []⟩).memory :=
  laidMet_of_run' 8 (by kernel_rfl) (by kernel_rfl)
theorem reads (os : Os) {H : Type} (enc : TypeId × Value → H) : ∃ places, DataW.whole enc Tryd.prog ((laidWorld os).forCall (fun _ _ => 0) ⟨#[], #[.int .i64 0, .slice none 0 0, .slice none 0 0, .bool false], []⟩).memory Tryd.f3.params.toList Rows.flowCheckSaysSpec.vars false (#[.int .i64 0, .slice none 0 0, .slice none 0 0, .bool false] : Array Value).toList 8 = some ([.lit (.int .i64 0), .nil, .nil, .lit (.bool false)], [], places) :=
  ⟨[], by kernel_rfl⟩

set_option maxRecDepth 100000 in
theorem lifted (os : Os) (started : os.Started) (H : Type) (enc : TypeId × Value → H) (F : Stop.Interp) :
    ReturnsInHanded {} Tryd.checked os 3 .any ((Rows.OpenSpec.upto Rows.flowCheckSaysSpec).preRow enc Tryd.prog Tryd.f3 Rows.flowCheckSaysUptoRow.domain false Rows.flowCheckSaysUptoRow.laid) (((Rows.OpenSpec.upto Rows.flowCheckSaysSpec).at F).post enc Tryd.prog Tryd.f3 false true false false) := by
  obtain ⟨places, hx⟩ := reads os enc
  refine returnsInHanded_of_row (C := Tryd.checked) (s := Rows.OpenSpec.upto Rows.flowCheckSaysSpec) own started (by kernel_rfl) Tryd.func3
    (witness_row_at (enc := enc) (C := Tryd.checked) false (laidWorld os) #[.int .i64 0, .slice none 0 0, .slice none 0 0, .bool false] rfl (by kernel_rfl) (by kernel_rfl) (by kernel_rfl)
      (OpenSpec.preRow_of_cond 8 hx (by kernel_rfl) (fun k hk => by cases hk; kernel_rfl) (by kernel_rfl) (laid_met os))) ?_
  intro W base args ds gs before hval hW _ hk _ hL _ _
  exact contract H enc W base args ds gs before hval hW (hk _ rfl) hL

theorem over : Rows.FlowCheckSaysUptoSaid :=
  OpenClaim.holds_of_cond 3 Tryd.f3 rfl rfl rfl rfl rfl rfl rfl ⟨rfl, rfl, rfl, rfl, rfl⟩ rfl rfl rfl rfl rfl (by kernel_rfl) Tryd.func3 (by kernel_rfl)
    (of_decide_eq_true (by kernel_rfl)) (by unfold Func.isWrapper; first | (rw [if_pos (by decide +kernel)]; kernel_rfl) | (rw [if_neg (by decide +kernel)]; exact ⟨rfl, rfl⟩))
    (fun os started H enc _ F => by rw [OpenClaim.pre_eq_preRow]; exact lifted os started H enc F)

theorem plain (f : FuncId) (fn : Func) (hf : Tryd.pinned.checked.prog.funcNamed "chancery/chancerylaw1.FlowCheckSays" = some f) (hfn : Tryd.pinned.checked.prog.funcs[f]? = some fn) :
    false = Tryd.pinned.checked.prog.looks [] ∧ ∀ (j : Nat) t, fn.params[j]? = some t → Tryd.pinned.checked.prog.wantsStandIn t = false := by
  obtain rfl : f = 3 := Option.some.inj ((show Tryd.prog.funcNamed "chancery/chancerylaw1.FlowCheckSays" = some 3 by kernel_rfl).symm.trans hf) |>.symm
  obtain rfl : fn = Tryd.f3 := (Option.some.inj (Tryd.func3.symm.trans hfn)).symm
  refine ⟨by kernel_rfl, fun j t ht => ?_⟩
  rw [Tryd.params3] at ht
  rcases j with _ | _ | _ | _ | j
  · cases ht; exact (show Tryd.prog.wantsStandIn 3 = false by kernel_rfl)
  · cases ht; exact (show Tryd.prog.wantsStandIn 22 = false by kernel_rfl)
  · cases ht; exact (show Tryd.prog.wantsStandIn 22 = false by kernel_rfl)
  · cases ht; exact (show Tryd.prog.wantsStandIn 4 = false by kernel_rfl)
  · cases ht

theorem proved : Rows.FlowCheckSaysUptoCardSaid :=
  Claim7.holds_tied_plain_at .later [] _ _ _ _ over (fun _ h => by cases h) (by kernel_rfl) (fun _ h => by cases h) flowCheckSaysUpto_row_tie rfl ⟨rfl, rfl⟩ (by kernel_rfl) rfl plain (by kernel_rfl)
#print axioms proved
end Go.Proofs.YtdeglnbioiicaaaDoor.Al.RFlowCheck
