/-
  PROVED: 'ReplicaTowardsLeads' returns true whatever its arguments of bulk at most 1048576 are, and leaves them as they were (statement 'ReplicaTowardsLeadsUptoSaid'). Conditions: none but the bulk.
-/
import Derived.Test.YtelkfhdgmbahgaaWlk212x2
import Derived.JoinedCond
import Derived.OpenShut
import Derived.ProofKit
import Derived.Test.YtelkfhdgmbahgaaChecked
import Derived.Test.YtelkfhdgmbahgaaRows
import Derived.WalkKit
namespace Go.Proofs.Ytelkfhdgmbahgaa.Al.RTowards2
open Go.Proofs Go.Proofs.Ytelkfhdgmbahgaa.Al Go.Proofs.Ytelkfhdgmbahgaa
open Go.ChangeShapes Go.WideShapes Go.ChangeAt Go.RowKit
set_option linter.unusedVariables false

theorem own : ownKnob Try.prog.godebug = none := by kernel_rfl

theorem blk_all {H : Type} (l : List (DataW H)) : (l.map Rows.uptoBulk).sum = Rows.uptoBulkAll l := by
  induction l with
  | nil => simp [Rows.uptoBulkAll]
  | cons d l ih => rw [List.map_cons, List.sum_cons, ih, Rows.uptoBulkAll]
def blk (H : Type) : Kz H where
  B := Rows.uptoBulk
  one := fun d => by
    cases d with
    | lit l => cases l <;> simp [Rows.uptoBulk]
    | nil => simp [Rows.uptoBulk]
    | ptr d => simp [Rows.uptoBulk]
    | slice elems spare => simp [Rows.uptoBulk]
    | agg parts => simp [Rows.uptoBulk]
    | iface t d => simp [Rows.uptoBulk]
    | map entries => simp [Rows.uptoBulk]
    | held h => simp [Rows.uptoBulk]
  str := fun s => by simp [Rows.uptoBulk]
  sl := fun l r => by rw [blk_all, Rows.uptoBulk]; omega
  agg := fun l => by rw [blk_all, Rows.uptoBulk]; omega
def ok_46 (x : AD) : Prop := (Lit.int .i64 x.Clock).wf = true ∧ (Lit.int .i64 x.Site).wf = true ∧ (Lit.int .i64 x.Kind).wf = true ∧ (Lit.int .i64 x.Item).wf = true ∧ (Lit.int .i64 x.Parent).wf = true ∧ x.Place.length ≤ maxLen ∧ x.Name.length ≤ maxLen ∧ x.Value.length ≤ maxLen
def mu_46 (x : AD) : Nat := (1) + (1) + (1) + (1) + (1) + (x.Place.length + 1) + (x.Name.length + 1) + (x.Value.length + 1) + 1
theorem rd_46 {H : Type} {enc : TypeId × Value → H} {W : World} (K : Kz H) : CM K enc Try.prog W 46 AD.row ok_46 mu_46 := by
  intro fuel cs x h
  obtain ⟨hlen, xs, hx, hxl, hf⟩ := T1 (n := 8) Try.underlying46 (by kernel_rfl) h
  obtain ⟨y0, n0, g0, t0⟩ := hf 0 _ rfl
  obtain ⟨y1, n1, g1, t1⟩ := hf 1 _ rfl
  obtain ⟨y2, n2, g2, t2⟩ := hf 2 _ rfl
  obtain ⟨y3, n3, g3, t3⟩ := hf 3 _ rfl
  obtain ⟨y4, n4, g4, t4⟩ := hf 4 _ rfl
  obtain ⟨y5, n5, g5, t5⟩ := hf 5 _ rfl
  obtain ⟨y6, n6, g6, t6⟩ := hf 6 _ rfl
  obtain ⟨y7, n7, g7, t7⟩ := hf 7 _ rfl
  obtain rfl : xs = [y0, y1, y2, y3, y4, y5, y6, y7] := Ux hxl (fun j y hj => by
    rcases j with _ | _ | _ | _ | _ | _ | _ | _ | j
    · cases hj; exact g0
    · cases hj; exact g1
    · cases hj; exact g2
    · cases hj; exact g3
    · cases hj; exact g4
    · cases hj; exact g5
    · cases hj; exact g6
    · cases hj; exact g7
    · cases hj)
  obtain ⟨a0, k0, r0, m0⟩ := ((CM.int K Try.underlying3)) _ _ _ t0
  obtain ⟨a1, k1, r1, m1⟩ := ((CM.int K Try.underlying3)) _ _ _ t1
  obtain ⟨a2, k2, r2, m2⟩ := ((CM.int K Try.underlying3)) _ _ _ t2
  obtain ⟨a3, k3, r3, m3⟩ := ((CM.int K Try.underlying3)) _ _ _ t3
  obtain ⟨a4, k4, r4, m4⟩ := ((CM.int K Try.underlying3)) _ _ _ t4
  obtain ⟨a5, k5, r5, m5⟩ := ((CM.str K Try.underlying9)) _ _ _ t5
  obtain ⟨a6, k6, r6, m6⟩ := ((CM.str K Try.underlying9)) _ _ _ t6
  obtain ⟨a7, k7, r7, m7⟩ := ((CM.str K Try.underlying9)) _ _ _ t7
  have m0 : 1 ≤ K.B y0.1 := m0
  have m1 : 1 ≤ K.B y1.1 := m1
  have m2 : 1 ≤ K.B y2.1 := m2
  have m3 : 1 ≤ K.B y3.1 := m3
  have m4 : 1 ≤ K.B y4.1 := m4
  have m5 : a5.length + 1 ≤ K.B y5.1 := m5
  have m6 : a6.length + 1 ≤ K.B y6.1 := m6
  have m7 : a7.length + 1 ≤ K.B y7.1 := m7
  have hm := K.agg (List.map (fun z : DataW H × List MemPlace => z.1) [y0, y1, y2, y3, y4, y5, y6, y7])
  simp only [List.map_cons, List.map_nil, List.sum_cons, List.sum_nil] at hm
  refine ⟨⟨a0, a1, a2, a3, a4, a5, a6, a7⟩, ⟨k0, k1, k2, k3, k4, k5, k6, k7⟩, ⟨hlen, fun j d u h1 h2 => ?_⟩, ?_⟩
  · rcases j with _ | _ | _ | _ | _ | _ | _ | _ | j
    · exact r0.part (jj := 0) (by kernel_rfl) h1 h2
    · exact r1.part (jj := 0) (by kernel_rfl) h1 h2
    · exact r2.part (jj := 0) (by kernel_rfl) h1 h2
    · exact r3.part (jj := 0) (by kernel_rfl) h1 h2
    · exact r4.part (jj := 0) (by kernel_rfl) h1 h2
    · exact r5.part (jj := 0) (by kernel_rfl) h1 h2
    · exact r6.part (jj := 0) (by kernel_rfl) h1 h2
    · exact r7.part (jj := 0) (by kernel_rfl) h1 h2
    · cases h1
  · rw [hx]
    refine Nat.le_trans ?_ hm
    show (1) + (1) + (1) + (1) + (1) + (a5.length + 1) + (a6.length + 1) + (a7.length + 1) + 1 ≤ _
    omega

set_option maxRecDepth 100000 in
theorem contract (H : Type) (enc : TypeId × Value → H) (W : World) (base : Nat) (args : Array Value) (ds gs : List (DataW H)) (before : List MemPlace)
    (hval : ∀ (j : Nat) t v, Try.f6.params[j]? = some t → args[j]? = some v → Value.okWide Try.prog W .any base t v)
    (hW : DataW.Whole enc Try.prog Try.f6.params.toList Rows.replicaTowardsLeadsSpec.vars false W args.toList ds gs before) (hk0 : Rows.uptoSmall H (ds ++ gs) = true) :
    Calls Try.prog 6 args W fun e W' => ∃ v, e = .returned v ∧ Rows.replicaTowardsLeadsSpec.post enc Try.prog Try.f6 false true false false W args v W' := by
  have hW' := hW
  obtain ⟨p, q, hA0, hV, rfl, hfz, hnd⟩ := hW
  have hA : DataW.TrodAll enc Try.prog W 0 (fun _ => true) true Try.f6.params.toList args.toList ds p := hA0
  rw [Try.params6] at hA hval
  obtain ⟨v0, vs0, d0, ds0, p0, q0, hargs, rfl, rfl, h0, e0⟩ := trodAll_cons hA
  obtain ⟨v1, vs1, d1, ds1, p1, q1, rfl, rfl, rfl, h1, e1⟩ := trodAll_cons e0
  obtain ⟨v2, vs2, d2, ds2, p2, q2, rfl, rfl, rfl, h2, e2⟩ := trodAll_cons e1
  obtain ⟨v3, vs3, d3, ds3, p3, q3, rfl, rfl, rfl, h3, e3⟩ := trodAll_cons e2
  obtain ⟨rfl, rfl, rfl⟩ := trodAll_nil e3
  obtain rfl : args = #[v0, v1, v2, v3] := by cases args; simp_all
  obtain ⟨rfl, rfl⟩ := trodVars_none hV
  have hk : (blk H).B d0 + (blk H).B d1 + (blk H).B d2 + (blk H).B d3 ≤ 1048576 := by
    have := of_decide_eq_true hk0
    simp only [List.append_nil, Rows.uptoBulkAll] at this
    show Rows.uptoBulk d0 + Rows.uptoBulk d1 + Rows.uptoBulk d2 + Rows.uptoBulk d3 ≤ 1048576
    omega
  obtain ⟨x0, k0, r0, m0⟩ := O3 (blk H) Try.underlying22 (CM.slice (blk H) (sz := 8) Try.underlying22 (by kernel_rfl) (by decide) (rd_46 (blk H)) (fun _ => rfl)) (hval 0 22 v0 rfl rfl) h0
  obtain ⟨x1, k1, r1, m1⟩ := O3 (blk H) Try.underlying22 (CM.slice (blk H) (sz := 8) Try.underlying22 (by kernel_rfl) (by decide) (rd_46 (blk H)) (fun _ => rfl)) (hval 1 22 v1 rfl rfl) h1
  obtain ⟨x2, k2, r2, m2⟩ := Ow (blk H) Try.underlying3 (hval 2 3 v2 rfl rfl) h2
  obtain ⟨x3, k3, r3, m3⟩ := Ow (blk H) Try.underlying3 (hval 3 3 v3 rfl rfl) h3
  clear hA0
  have h1 := Pj (μ := mu_46) (fun x => by unfold mu_46; omega) x0 (by omega)
  have h2 := Pj (μ := mu_46) (fun x => by unfold mu_46; omega) x1 (by omega)
  have hp := RE x0 x1 x2 x3 h1.1 h2.1 (by have := h1.2; have := h2.2; omega)
  obtain ⟨_, _, hc⟩ := QE hp
  refine (hc (Gv W) #[v0, v1, v2, v3] (Vo W ⟨fun _ _ h => (by cases h), fun _ _ h => (by cases h), W, trivial, Go.RowKit.Below.refl _ _, fun _ h => h⟩) rfl ⟨rfl, fun i a u k1 k2 => ?_⟩).mono fun e W' ⟨u, y, he, hy, hle, hok, hr⟩ => ?_
  · rcases i with _ | _ | _ | _ | i
    · cases k1; cases k2; exact .r r0
    · cases k1; cases k2; exact .r r1
    · cases k1; cases k2; exact .r r2
    · cases k1; cases k2; exact .r r3
    · cases k1
  · subst he; subst hy
    obtain rfl := EI hr
    exact ⟨_, rfl, QY (by kernel_rfl) (by rw [Try.params6]; intro t ht; simp at ht; rcases ht with rfl | rfl <;> exact ⟨by kernel_rfl, of_decide_eq_true (by kernel_rfl)⟩) rfl hW' hle rfl rfl
      (fun _ _ _ => trodAll_cons_mk (shut_bool Try.underlying4 _) trodAll_mk0)⟩

set_option maxRecDepth 100000 in
theorem lifted (os : Os) (started : os.Started) (H : Type) (enc : TypeId × Value → H) (F : Stop.Interp) :
    ReturnsInHanded {} Try.checked os 6 .any ((Rows.OpenSpec.upto Rows.replicaTowardsLeadsSpec).pre6 enc Try.prog Try.f6 Rows.replicaTowardsLeadsUptoRow.domain false) (((Rows.OpenSpec.upto Rows.replicaTowardsLeadsSpec).at F).post enc Try.prog Try.f6 false true false false) := by
  refine returnsInHanded_of_cond (C := Try.checked) (s := Rows.OpenSpec.upto Rows.replicaTowardsLeadsSpec) (k := Rows.uptoSmall) rfl own started (by kernel_rfl) Try.func6
    (OpenSpec.witness (enc := enc) (C := Try.checked) (s := Rows.OpenSpec.upto Rows.replicaTowardsLeadsSpec) (k := Rows.uptoSmall) rfl false ⟨#[], #[.slice none 0 0, .slice none 0 0, .int .i64 0, .int .i64 0], []⟩ 8 (by kernel_rfl) (by kernel_rfl) (by kernel_rfl)
      (x := ([.nil, .nil, .lit (.int .i64 0), .lit (.int .i64 0)], [], [])) (by kernel_rfl) rfl (by kernel_rfl)) ?_
  intro W base args ds gs before hval hW _ hk _
  exact contract H enc W base args ds gs before hval hW hk

theorem over : Rows.replicaTowardsLeadsUptoRow.holds Try.pinned (Rows.OpenSpec.upto Rows.replicaTowardsLeadsSpec) :=
  OpenClaim.holds_of_cond 6 Try.f6 rfl rfl rfl rfl rfl rfl rfl ⟨rfl, rfl, rfl, rfl, rfl⟩ rfl rfl rfl rfl rfl (by kernel_rfl) Try.func6 (by kernel_rfl)
    (of_decide_eq_true (by kernel_rfl)) (by unfold Func.isWrapper; first | (rw [if_pos (by decide +kernel)]; kernel_rfl) | (rw [if_neg (by decide +kernel)]; exact ⟨rfl, rfl⟩))
    (fun os started H enc _ F => lifted os started H enc F)

theorem proved : Rows.ReplicaTowardsLeadsUptoSaid := over
#print axioms proved
end Go.Proofs.Ytelkfhdgmbahgaa.Al.RTowards2
