/-
  PROVED: 'FlowRangesMatch' returns true whatever its arguments of bulk at most 1048576 are, and leaves them as they were (statement 'FlowRangesMatchUptoCardSaid'). Conditions: none but the bulk.
-/
import Derived.Test.YtmbjbecccheclaaDoorWlk180
import Derived.Deep.DeepHandedRow
import Derived.JoinedCond
import Derived.Lay
import Derived.Lib.LaidRTab
import Derived.Lib.LaidTab
import Derived.OpenShut
import Derived.ProofKit
import Derived.Test.YtmbjbecccheclaaDoorCards
import Derived.Test.YtmbjbecccheclaaDoorChecked
import Derived.Test.YtmbjbecccheclaaDoorRows
import Derived.Test.YtmbjbecccheclaaDoorTie
import Derived.WalkKit
namespace Go.Proofs.YtmbjbecccheclaaDoor.Al.RFlowRanges
open Go.Proofs Go.Proofs.YtmbjbecccheclaaDoor.Al Go.Proofs.YtmbjbecccheclaaDoor
open Go.ChangeShapes Go.WideShapes Go.ChangeAt Go.RowKit
set_option linter.unusedVariables false

theorem own : ownKnob Tryd.prog.godebug = none := by kernel_rfl

theorem blk_all {H : Type} (l : List (DataW H)) : (l.map Rows.uptoBulk).sum = Rows.uptoBulkAll l := by
  induction l with
  | nil => simp [Rows.uptoBulkAll]
  | cons d l ih => rw [List.map_cons, List.sum_cons, ih, Rows.uptoBulkAll]
def blk (H : Type) : FX H where
  B := Rows.uptoBulk
  one := fun d => by
    cases d with
    | lit l => cases l <;> simp [Rows.uptoBulk]
    | nil => simp [Rows.uptoBulk]
    | ptr d => simp [Rows.uptoBulk]
    | slice elems spare => simp [Rows.uptoBulk]
    | agg parts => simp [Rows.uptoBulk]
    | iface t d => simp [Rows.uptoBulk]
    | map entries => simp [Rows.uptoBulk]
    | held h => simp [Rows.uptoBulk]
  str := fun s => by simp [Rows.uptoBulk]
  sl := fun l r => by rw [blk_all, Rows.uptoBulk]; omega
  agg := fun l => by rw [blk_all, Rows.uptoBulk]; omega
def ok_48 (x : AK) : Prop := x.Name.length ≤ maxLen ∧ x.Value.length ≤ maxLen
def mu_48 (x : AK) : Nat := (x.Name.length + 1) + (x.Value.length + 1) + 1
theorem rd_48 {H : Type} {enc : TypeId × Value → H} {W : World} (K : FX H) : BK K enc Tryd.prog W 48 AK.row ok_48 mu_48 := by
  intro fuel cs x h
  obtain ⟨hlen, xs, hx, hxl, hf⟩ := G7 (n := 2) Tryd.underlying48 (by kernel_rfl) h
  obtain ⟨y0, n0, g0, t0⟩ := hf 0 _ rfl
  obtain ⟨y1, n1, g1, t1⟩ := hf 1 _ rfl
  obtain rfl : xs = [y0, y1] := IX hxl (fun j y hj => by
    rcases j with _ | _ | j
    · cases hj; exact g0
    · cases hj; exact g1
    · cases hj)
  obtain ⟨a0, k0, r0, m0⟩ := ((BK.str K Tryd.underlying9)) _ _ _ t0
  obtain ⟨a1, k1, r1, m1⟩ := ((BK.str K Tryd.underlying9)) _ _ _ t1
  have m0 : a0.length + 1 ≤ K.B y0.1 := m0
  have m1 : a1.length + 1 ≤ K.B y1.1 := m1
  have hm := K.agg (List.map (fun z : DataW H × List MemPlace => z.1) [y0, y1])
  simp only [List.map_cons, List.map_nil, List.sum_cons, List.sum_nil] at hm
  refine ⟨⟨a0, a1⟩, ⟨k0, k1⟩, ⟨hlen, fun j d u h1 h2 => ?_⟩, ?_⟩
  · rcases j with _ | _ | j
    · exact r0.part (jj := 0) (by kernel_rfl) h1 h2
    · exact r1.part (jj := 0) (by kernel_rfl) h1 h2
    · cases h1
  · rw [hx]
    refine Nat.le_trans ?_ hm
    show (a0.length + 1) + (a1.length + 1) + 1 ≤ _
    omega

def ok_30 (x : AE) : Prop := (Lit.int .i64 x.Char).wf = true ∧ (Lit.int .i64 x.Ref).wf = true ∧ (x.Attrs.length ≤ maxLen ∧ ∀ a ∈ x.Attrs, ok_48 a)
def mu_30 (x : AE) : Nat := (1) + (1) + ((x.Attrs.map mu_48).sum + 1) + 1
theorem rd_30 {H : Type} {enc : TypeId × Value → H} {W : World} (K : FX H) : BK K enc Tryd.prog W 30 AE.row ok_30 mu_30 := by
  intro fuel cs x h
  obtain ⟨hlen, xs, hx, hxl, hf⟩ := G7 (n := 3) Tryd.underlying30 (by kernel_rfl) h
  obtain ⟨y0, n0, g0, t0⟩ := hf 0 _ rfl
  obtain ⟨y1, n1, g1, t1⟩ := hf 1 _ rfl
  obtain ⟨y2, n2, g2, t2⟩ := hf 2 _ rfl
  obtain rfl : xs = [y0, y1, y2] := IX hxl (fun j y hj => by
    rcases j with _ | _ | _ | j
    · cases hj; exact g0
    · cases hj; exact g1
    · cases hj; exact g2
    · cases hj)
  obtain ⟨a0, k0, r0, m0⟩ := ((BK.int K Tryd.underlying3)) _ _ _ t0
  obtain ⟨a1, k1, r1, m1⟩ := ((BK.int K Tryd.underlying3)) _ _ _ t1
  obtain ⟨a2, k2, r2, m2⟩ := ((BK.slice K (sz := 2) Tryd.underlying28 (by kernel_rfl) (by decide) (rd_48 K) (fun _ => rfl))) _ _ _ t2
  have m0 : 1 ≤ K.B y0.1 := m0
  have m1 : 1 ≤ K.B y1.1 := m1
  have m2 : (a2.map mu_48).sum + 1 ≤ K.B y2.1 := m2
  have hm := K.agg (List.map (fun z : DataW H × List MemPlace => z.1) [y0, y1, y2])
  simp only [List.map_cons, List.map_nil, List.sum_cons, List.sum_nil] at hm
  refine ⟨⟨a0, a1, a2⟩, ⟨k0, k1, k2⟩, ⟨hlen, fun j d u h1 h2 => ?_⟩, ?_⟩
  · rcases j with _ | _ | _ | j
    · exact r0.part (jj := 0) (by kernel_rfl) h1 h2
    · exact r1.part (jj := 0) (by kernel_rfl) h1 h2
    · exact r2.part (jj := 0) (by kernel_rfl) h1 h2
    · cases h1
  · rw [hx]
    refine Nat.le_trans ?_ hm
    show (1) + (1) + ((a2.map mu_48).sum + 1) + 1 ≤ _
    omega

theorem xLetter : RExtra Tryd.prog HT := ⟨by kernel_rfl, by kernel_rfl, by kernel_rfl, by kernel_rfl, by kernel_rfl, by kernel_rfl, by kernel_rfl, by kernel_rfl⟩
theorem xDigit : RExtra Tryd.prog IR := ⟨by kernel_rfl, by kernel_rfl, by kernel_rfl, by kernel_rfl, by kernel_rfl, by kernel_rfl, by kernel_rfl, by kernel_rfl⟩
set_option maxRecDepth 100000 in
theorem letter_data : Go.Pinned.letter = Lib.rtabData Lib.letterT := by kernel_rfl
set_option maxRecDepth 100000 in
theorem digit_data : Go.Pinned.digit = Lib.rtabData Lib.digitT := by kernel_rfl
theorem tabs {W : World} (h : laidMetH Tryd.prog Rows.flowRangesMatchUptoRow.laid W) : Ba (B9 W) := by
  have h' : laidMet Tryd.prog Rows.flowRangesMatchUptoRow.laid W := h
  refine Js (d1 := Go.Pinned.utf8First) (d2 := Rows.laid_unicode_utf8_acceptRanges) (t1 := 51) (t2 := 71) (e1 := 5) (e2 := 70) (Go.Lib.laidMet.reads h' ?_) (by kernel_rfl) (by kernel_rfl) (by kernel_rfl) Tryd.underlying51 Tryd.underlying5 (by kernel_rfl) (by kernel_rfl)
    (Go.Lib.laidMet.reads h' ?_) (by kernel_rfl) (by kernel_rfl) (by kernel_rfl) Tryd.underlying71 Tryd.underlying70 (fun i f hf => ?_) rfl (by kernel_rfl) (hF := ?_)
  · exact (.tail _ (.tail _ (.tail _ (.tail _ (.head _)))))
  · exact (.head _)
  · rcases i with _ | _ | i
    · cases hf; exact ⟨Tryd.underlying5, rfl, by kernel_rfl⟩
    · cases hf; exact ⟨Tryd.underlying5, rfl, by kernel_rfl⟩
    · cases hf
  · exact ⟨rvar_of_reads { HG with } xLetter (name := "unicode.Letter") (by kernel_rfl) (by kernel_rfl) (letter_data ▸ Go.Lib.laidMet.reads h' (.tail _ (.tail _ (.tail _ (.head _))))), rvar_of_reads { H9 with } xDigit (name := "unicode.Digit") (by kernel_rfl) (by kernel_rfl) (digit_data ▸ Go.Lib.laidMet.reads h' (.tail _ (.tail _ (.head _)))),
      LS (Go.Lib.laidMet.reads h' (.tail _ (.head _))) (by kernel_rfl) (by kernel_rfl) (by kernel_rfl) Tryd.underlying51 Tryd.underlying5 (by kernel_rfl) (by kernel_rfl)⟩

set_option maxRecDepth 100000 in
theorem contract (H : Type) (enc : TypeId × Value → H) (W : World) (base : Nat) (args : Array Value) (ds gs : List (DataW H)) (before : List MemPlace)
    (hval : ∀ (j : Nat) t v, Tryd.f3.params[j]? = some t → args[j]? = some v → Value.okWide Tryd.prog W .any base t v)
    (hW : DataW.Whole enc Tryd.prog Tryd.f3.params.toList Rows.flowRangesMatchSpec.vars false W args.toList ds gs before) (hk0 : Rows.uptoSmall H (ds ++ gs) = true) (hL : laidMetH Tryd.prog Rows.flowRangesMatchUptoRow.laid W) :
    Calls Tryd.prog 3 args W fun e W' => ∃ v, e = .returned v ∧ Rows.flowRangesMatchSpec.post enc Tryd.prog Tryd.f3 false true false false W args v W' := by
  have hW' := hW
  obtain ⟨p, q, hA0, hV, rfl, hfz, hnd⟩ := hW
  have hA : DataW.TrodAll enc Tryd.prog W 0 (fun _ => true) true Tryd.f3.params.toList args.toList ds p := hA0
  rw [Tryd.params3] at hA hval
  obtain ⟨v0, vs0, d0, ds0, p0, q0, hargs, rfl, rfl, h0, e0⟩ := trodAll_cons hA
  obtain ⟨rfl, rfl, rfl⟩ := trodAll_nil e0
  obtain rfl : args = #[v0] := by cases args; simp_all
  obtain ⟨rfl, rfl⟩ := trodVars_none hV
  have hk : (blk H).B d0 ≤ 1048576 := by
    have := of_decide_eq_true hk0
    simp only [List.append_nil, Rows.uptoBulkAll] at this
    show Rows.uptoBulk d0 ≤ 1048576
    omega
  obtain ⟨x0, k0, r0, m0⟩ := Kl (blk H) Tryd.underlying22 (BK.slice (blk H) (sz := 3) Tryd.underlying22 (by kernel_rfl) (by decide) (rd_30 (blk H)) (fun _ => rfl)) (hval 0 22 v0 rfl rfl) h0
  clear hA0
  have h0 := KP (ν := mu_30) (κ := mu_48) (fun e => by unfold mu_30; omega) (fun a => by unfold mu_48; omega) (f := x0) (by omega)
  have hp := I5 x0 (by have := h0.1; omega)
  obtain ⟨_, _, hc⟩ := Iq hp
  refine (hc (B9 W) #[v0] (Ll W (tabs hL)) rfl ⟨rfl, fun i a u k1 k2 => ?_⟩).mono fun e W' ⟨u, y, he, hy, hle, hok, hr⟩ => ?_
  · rcases i with _ | i
    · cases k1; cases k2; exact .r r0
    · cases k1
  · subst he; subst hy
    obtain rfl := CN hr
    exact ⟨_, rfl, LC (by kernel_rfl) (by rw [Tryd.params3]; intro t ht; simp at ht; subst ht; exact ⟨by kernel_rfl, of_decide_eq_true (by kernel_rfl)⟩) rfl hW' hle rfl rfl
      (fun _ _ _ => trodAll_cons_mk (shut_bool Tryd.underlying4 _) trodAll_mk0)⟩

/-- A world for the witness: all that is listed, laid. -/
noncomputable def laidWorld (os : Os) : World := World.laidAll Tryd.prog os Rows.flowRangesMatchUptoRow.laid
theorem laid_met (os : Os) : laidMet Tryd.prog Rows.flowRangesMatchUptoRow.laid ((laidWorld os).forCall (fun _ _ => 0) ⟨#[], #[.slice none 0 0], []⟩).memory :=
  laidMet_laidAll _ (by kernel_rfl) (by kernel_rfl)
theorem reads (os : Os) {H : Type} (enc : TypeId × Value → H) : ∃ places, DataW.whole enc Tryd.prog ((laidWorld os).forCall (fun _ _ => 0) ⟨#[], #[.slice none 0 0], []⟩).memory Tryd.f3.params.toList Rows.flowRangesMatchSpec.vars false (#[.slice none 0 0] : Array Value).toList 8 = some ([.nil], [], places) :=
  ⟨[], by kernel_rfl⟩

set_option maxRecDepth 100000 in
theorem lifted (os : Os) (started : os.Started) (H : Type) (enc : TypeId × Value → H) (F : Stop.Interp) :
    ReturnsInHanded {} Tryd.checked os 3 .any ((Rows.OpenSpec.upto Rows.flowRangesMatchSpec).preRow enc Tryd.prog Tryd.f3 Rows.flowRangesMatchUptoRow.domain false Rows.flowRangesMatchUptoRow.laid) (((Rows.OpenSpec.upto Rows.flowRangesMatchSpec).at F).post enc Tryd.prog Tryd.f3 false true false false) := by
  obtain ⟨places, hx⟩ := reads os enc
  refine returnsInHanded_of_row (C := Tryd.checked) (s := Rows.OpenSpec.upto Rows.flowRangesMatchSpec) own started (by kernel_rfl) Tryd.func3
    ⟨laidWorld os, fun _ _ => 0, ⟨#[], #[.slice none 0 0], []⟩, World.laidAll_os _ _ _, World.shaped_of_ZipB (by kernel_rfl) (by kernel_rfl), rfl, (Input.okWide_of_okWideB (by kernel_rfl)).2,
      (OpenSpec.preRow_of_cond 8 hx (by kernel_rfl) (fun k hk => by cases hk; kernel_rfl) (by kernel_rfl) (laid_met os)), by simp only [Assume.holds]; exact ⟨by simp, by simp, fun _ => Modest.zero, by simp, by simp⟩⟩ ?_
  intro W base args ds gs before hval hW _ hk _ hL _ _
  exact contract H enc W base args ds gs before hval hW (hk _ rfl) hL

theorem over : Rows.FlowRangesMatchUptoSaid :=
  OpenClaim.holds_of_cond 3 Tryd.f3 rfl rfl rfl rfl rfl rfl rfl ⟨rfl, rfl, rfl, rfl, rfl⟩ rfl rfl rfl rfl rfl (by kernel_rfl) Tryd.func3 (by kernel_rfl)
    (of_decide_eq_true (by kernel_rfl)) (by unfold Func.isWrapper; first | (rw [if_pos (by decide +kernel)]; kernel_rfl) | (rw [if_neg (by decide +kernel)]; exact ⟨rfl, rfl⟩))
    (fun os started H enc _ F => by rw [OpenClaim.pre_eq_preRow]; exact lifted os started H enc F)

theorem plain (f : FuncId) (fn : Func) (hf : Tryd.pinned.checked.prog.funcNamed "chancery/chancerylaw1.FlowRangesMatch" = some f) (hfn : Tryd.pinned.checked.prog.funcs[f]? = some fn) :
    false = Tryd.pinned.checked.prog.looks [] ∧ ∀ (j : Nat) t, fn.params[j]? = some t → Tryd.pinned.checked.prog.wantsStandIn t = false := by
  obtain rfl : f = 3 := Option.some.inj ((show Tryd.prog.funcNamed "chancery/chancerylaw1.FlowRangesMatch" = some 3 by kernel_rfl).symm.trans hf) |>.symm
  obtain rfl : fn = Tryd.f3 := (Option.some.inj (Tryd.func3.symm.trans hfn)).symm
  refine ⟨by kernel_rfl, fun j t ht => ?_⟩
  rw [Tryd.params3] at ht
  rcases j with _ | j
  · cases ht; exact (show Tryd.prog.wantsStandIn 22 = false by kernel_rfl)
  · cases ht

theorem proved : Rows.FlowRangesMatchUptoCardSaid :=
  Claim7.holds_tied_plain_at .later [] _ _ _ _ over (fun _ h => by cases h) (by kernel_rfl) (fun _ h => by cases h) flowRangesMatchUpto_row_tie rfl ⟨rfl, rfl⟩ (by kernel_rfl) rfl plain (by kernel_rfl)
#print axioms proved
end Go.Proofs.YtmbjbecccheclaaDoor.Al.RFlowRanges
