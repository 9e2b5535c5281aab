/-
  PROVED: 'AxisJoinMatches' returns true whatever its arguments are, and leaves them as they were (statement 'AxisJoinMatchesSaid'). Conditions: none.
-/
import Derived.Test.YtdeglnbioiicaaaWlk28x3
import Derived.JoinedCond
import Derived.OpenShut
import Derived.ProofKit
import Derived.Test.YtdeglnbioiicaaaChecked
import Derived.Test.YtdeglnbioiicaaaRows
import Derived.WalkKit
namespace Go.Proofs.Ytdeglnbioiicaaa.Al.RAxisJoin
open Go.Proofs Go.Proofs.Ytdeglnbioiicaaa.Al Go.Proofs.Ytdeglnbioiicaaa
open Go.ChangeShapes Go.WideShapes Go.ChangeAt Go.RowKit
set_option linter.unusedVariables false

theorem own : ownKnob Try.prog.godebug = none := by kernel_rfl

def ok_99 (x : GAxisStep) : Prop := (Lit.int .i64 x.Kind).wf = true ∧ (Lit.int .i64 x.N).wf = true
theorem rd_99 {H : Type} {enc : TypeId × Value → H} {W : World} : Rd enc Try.prog W 99 GAxisStep.row ok_99 := by
  intro fuel cs x h
  obtain ⟨hlen, hf⟩ := struct_fields Try.underlying99 (by kernel_rfl) (by kernel_rfl) h
  obtain ⟨v0, n0, y0, c0, t0⟩ := hf 0 _ rfl
  obtain ⟨v1, n1, y1, c1, t1⟩ := hf 1 _ rfl
  obtain ⟨a0, k0, r0⟩ := (Rd.int Try.underlying3) _ _ _ t0
  obtain ⟨a1, k1, r1⟩ := (Rd.int Try.underlying3) _ _ _ t1
  refine ⟨⟨a0, a1⟩, ⟨k0, k1⟩, hlen, fun j d u h1 h2 => ?_⟩
  rcases j with _ | _ | j
  · cases h1; rw [c0] at h2; cases h2; exact r0.get1
  · cases h1; rw [c1] at h2; cases h2; exact r1.get1
  · cases h1

set_option maxRecDepth 100000 in
theorem contract (H : Type) (enc : TypeId × Value → H) (W : World) (base : Nat) (args : Array Value) (ds gs : List (DataW H)) (before : List MemPlace)
    (hval : ∀ (j : Nat) t v, Try.f3.params[j]? = some t → args[j]? = some v → Value.okWide Try.prog W .any base t v)
    (hW : DataW.Whole enc Try.prog Try.f3.params.toList Rows.axisJoinMatchesSpec.vars false W args.toList ds gs before) :
    Calls Try.prog 3 args W fun e W' => ∃ v, e = .returned v ∧ Rows.axisJoinMatchesSpec.post enc Try.prog Try.f3 false true false false W args v W' := by
  have hW' := hW
  obtain ⟨p, q, hA0, hV, rfl, hfz, hnd⟩ := hW
  have hA : DataW.TrodAll enc Try.prog W 0 (fun _ => true) true Try.f3.params.toList args.toList ds p := hA0
  rw [Try.params3] at hA hval
  obtain ⟨v0, vs0, d0, ds0, p0, q0, hargs, rfl, rfl, h0, e0⟩ := trodAll_cons hA
  obtain ⟨v1, vs1, d1, ds1, p1, q1, rfl, rfl, rfl, h1, e1⟩ := trodAll_cons e0
  obtain ⟨rfl, rfl, rfl⟩ := trodAll_nil e1
  obtain rfl : args = #[v0, v1] := by cases args; simp_all
  obtain ⟨rfl, rfl⟩ := trodVars_none hV
  obtain ⟨x0, k0, r0⟩ := top_slice Try.underlying22 (Rd.slice (sz := 2) Try.underlying22 (by kernel_rfl) (by decide) rd_99 (fun _ => rfl)) (hval 0 22 v0 rfl rfl) h0
  obtain ⟨x1, k1, r1⟩ := top_slice Try.underlying22 (Rd.slice (sz := 2) Try.underlying22 (by kernel_rfl) (by decide) rd_99 (fun _ => rfl)) (hval 1 22 v1 rfl rfl) h1
  clear hA0
  obtain ⟨_, _, hc⟩ := w_law_AxisJoinMatches (law_AxisJoin_true x0 x1 k0.1 k1.1)
  refine (hc (Cx.start W) #[v0, v1] (Cx.start_ok W) rfl ⟨rfl, fun i a u k1 k2 => ?_⟩).mono fun e W' ⟨u, y, he, hy, hle, hok, hr⟩ => ?_
  · rcases i with _ | _ | i
    · cases k1; cases k2; exact .r r0
    · cases k1; cases k2; exact .r r1
    · cases k1
  · subst he; subst hy
    obtain rfl := rep_bool hr
    exact ⟨_, rfl, close_row (by kernel_rfl) (by rw [Try.params3]; intro t ht; simp at ht; subst ht; exact ⟨by kernel_rfl, of_decide_eq_true (by kernel_rfl)⟩) rfl hW' hle rfl rfl
      (fun _ _ _ => trodAll_cons_mk (shut_bool Try.underlying4 _) trodAll_mk0)⟩

set_option maxRecDepth 100000 in
theorem lifted (os : Os) (started : os.Started) (H : Type) (enc : TypeId × Value → H) :
    ReturnsInHanded {} Try.checked os 3 .any (Rows.axisJoinMatchesSpec.pre6 enc Try.prog Try.f3 Rows.axisJoinMatchesRow.domain false) (Rows.axisJoinMatchesSpec.post enc Try.prog Try.f3 false true false false) := by
  refine returnsInHanded_of_change (C := Try.checked) own started (by kernel_rfl) Try.func3
    (ChangeSpec.witness6 (enc := enc) (C := Try.checked) false ⟨#[], #[.slice none 0 0, .slice none 0 0], []⟩ 8 (by kernel_rfl) (by kernel_rfl) (by kernel_rfl) (by kernel_rfl)) ?_
  intro W base args ds gs before hval hW _ _
  exact contract H enc W base args ds gs before hval hW

theorem over : Rows.axisJoinMatchesRow.holds Try.pinned (OpenSpec.ofChange Rows.axisJoinMatchesSpec) :=
  OpenClaim.holds_of_wide 3 Try.f3 rfl rfl rfl rfl rfl rfl rfl ⟨rfl, rfl, rfl, rfl, rfl⟩ rfl rfl rfl rfl rfl (by kernel_rfl) Try.func3 (by kernel_rfl)
    (of_decide_eq_true (by kernel_rfl)) (by unfold Func.isWrapper; first | (rw [if_pos (by decide +kernel)]; kernel_rfl) | (rw [if_neg (by decide +kernel)]; exact ⟨rfl, rfl⟩))
    (fun os started H enc _ => lifted os started H enc)

theorem proved : Rows.AxisJoinMatchesSaid := over
#print axioms proved
end Go.Proofs.Ytdeglnbioiicaaa.Al.RAxisJoin
