/- Walks, as printed. -/
import Derived.Test.YtdeglnbioiicaaaWlk25x2
import Derived.Test.YtdeglnbioiicaaaProg
set_option linter.unusedVariables false
namespace Go.Proofs.Ytdeglnbioiicaaa.Al
open Go.Proofs
set_option maxHeartbeats 4000000 in
set_option maxRecDepth 20000 in
theorem w_ref_Units {a1 : List GAxisStep} {r : (List Int)} (h : ref_Units a1 = some r) : ARO Try.prog 57 [.r (.sl (a1.map GAxisStep.row))] (.r (.sl (r.map (rInt .i64)))) := by
  unfold ref_Units at h
  refine ARO.mkF Try.func57 rfl rfl Try.ntmps57 rfl (Nat.le_of_ble_eq_true rfl) fun n0 => ?_
  refine AW.seq_w fun K1 hK1 wK1 => ?_
  refine AW.region ?_
  refine AOps.step rfl rfl rfl (OpQ.spec (sp_assign rfl (.inl rfl)) _) ?_
  refine AOps.nil ?_
  refine hK1 _ ?_
  refine AW.seq_w fun K2 hK2 wK2 => ?_
  refine AW.region ?_
  refine AOps.step rfl rfl rfl (OpQ.spec (sp_assign rfl (.inl rfl)) _) ?_
  refine AOps.nil ?_
  refine hK2 _ ?_
  refine AW.seq_w fun K3 hK3 wK3 => ?_
  refine AW.seq_w fun K4 hK4 wK4 => ?_
  refine AW.region ?_
  refine AOps.step rfl rfl rfl (OpQ.spec (sp_move rfl (.inl rfl)) _) ?_
  refine AOps.step rfl rfl rfl (OpQ.spec (ms_len rfl tg_22.slice (.inl rfl)) _) ?_
  refine AOps.step rfl rfl rfl (OpQ.spec (sp_move rfl (.inl rfl)) _) ?_
  refine AOps.nil ?_
  refine hK4 _ ?_
  refine AW.block ?_
  refine jb1k h fun o1 hit1 hk1 => ?_
  have J1 : ∀ (out4 : List Int) (i5 : Nat → Nat), o1 = out4 → K3 ⟨[(3, .own 5003 (i5 0))], [(5003, some (.arr (i5 0) 3 1 (out4.map (rInt .i64))))], (i5 1), 28⟩ := by
    intro out4 i5 e
    have h1 := hk1 _ e
    refine hK3 _ ?_
    refine AW.seq_w fun K5 hK5 wK5 => ?_
    refine AW.region ?_
    refine AOps.step rfl rfl rfl (OpQ.spec (sp_move rfl (.inl rfl)) _) ?_
    refine AOps.step rfl rfl rfl (OpQ.spec (sp_assign rfl (.inl rfl)) _) ?_
    refine AOps.nil ?_
    refine hK5 _ ?_
    refine AW.ret ?_
    exact retf1 (P := Try.prog) (fun (r : (List Int)) => .r (.sl (r.map (rInt .i64)))) h1 (.inl rfl) (.t (.one (.own rfl)))
  refine AW.iter2 (fun (x2 : Int) (out2 : List Int) i3 => ⟨[(0, .r (.sl (a1.map GAxisStep.row))), (3, .own 5003 (i3 0)), (6, .r (.int .i64 (a1.length : Int))), (7, .r (.int .i64 x2))], [(5003, some (.arr (i3 0) 3 1 (out2.map (rInt .i64))))], (i3 1), 28⟩) (vec [n0, (n0 + 1)]) hit1 (Weak.trans (Weak.trans (Weak.adopt 3 5003 3 1 (by decide) rfl) (by exact Weak.cv (e' := [(0, .r (.sl (a1.map GAxisStep.row))), (2, .cst (.slice none 0 0)), (3, .own 5003 n0), (5, .r (.sl (a1.map GAxisStep.row))), (6, .r (.int .i64 (a1.length : Int))), (7, .r (.int .i64 0))]) (h' := [(5003, some (.arr n0 3 1 (([] : List Int).map (rInt .i64))))]) ⟨.inl (.inl rfl), .inl (.inl rfl), .inl (.inl rfl), .inl (.inl rfl), .inl (.inl rfl), .inl (.inl rfl), trivial⟩ ⟨.inl rfl, trivial⟩ (Nat.le_refl _))) (by exact Weak.cv ⟨.inl (.inl rfl), .inl (.inl rfl), .inl (.inl rfl), .inl (.inl rfl), trivial⟩ ⟨.inl rfl, trivial⟩ (Nat.le_refl _))) ?_
  intro x2 out2 i3 v1 hv1 hx1
  have h2 : ref_Units_L1 a1 x2 out2 = some v1 := hv1; unfold ref_Units_L1 at h2
  refine AW.seq_w fun K6 hK6 wK6 => ?_
  refine AW.region ?_
  refine AOps.step rfl rfl rfl (OpQ.spec (sp_lss rfl (.inl rfl) (.inl rfl)) _) ?_
  refine AOps.nil ?_
  refine hK6 _ ?_
  refine AW.seq_w fun K7 hK7 wK7 => ?_
  refine AW.cond rfl (fun hc1 => ?_) (fun hc1 => ?_)
  · have h3 := ite_t hc1 h2
    refine AW.skip ?_
    refine hK7 _ ?_
    refine AW.seq_w fun K8 hK8 wK8 => ?_
    refine AW.block ?_
    refine AW.seq_w fun K9 hK9 wK9 => ?_
    refine AW.region ?_
    refine AOps.step rfl rfl rfl (OpQ.spec (sp_move rfl (.inl rfl)) _) ?_
    refine AOps.step rfl rfl rfl (OpQ.spec (sp_assign rfl (.inl rfl)) _) ?_
    refine AOps.nil ?_
    refine hK9 _ ?_
    refine AW.seq_w fun K10 hK10 wK10 => ?_
    refine AW.region ?_
    refine AOps.step rfl rfl rfl (OpQ.spec (sp_move rfl (.inl rfl)) _) ?_
    refine AOps.step rfl rfl rfl (OpQ.spec (sp_move rfl (.inl rfl)) _) ?_
    refine ob1k h3 fun x4 ex4 h4 => ?_
    refine AOps.step rfl rfl rfl (OpQ.spec (ms_idx rfl tg_22.slice (.inl rfl) (.inl rfl) (fun _ => rfl) (fun _ => ex4)) _) ?_
    refine AOps.step rfl rfl rfl (OpQ.spec (sp_fieldAddr_ro rfl tf_99_1 (.inl rfl)) _) ?_
    refine AOps.step rfl rfl rfl (OpQ.spec (ms_load (d := .int .i64 x4.N) rfl ts_3 (.inl rfl) rfl) _) ?_
    refine AOps.step rfl rfl rfl (OpQ.spec (sp_move rfl (.inl rfl)) _) ?_
    refine AOps.nil ?_
    refine hK10 _ ?_
    refine AW.block ?_
    refine jb1k h4 fun o2 hit2 hk2 => ?_
    have J2 : ∀ (out8 : List Int) (i10 : Nat → Nat), o2 = out8 → K8 ⟨[(0, .r (.sl (a1.map GAxisStep.row))), (3, .own 5003 (i10 0)), (6, .r (.int .i64 (a1.length : Int))), (7, .r (.int .i64 x2))], [(5003, some (.arr (i10 0) 3 1 (out8.map (rInt .i64))))], (i10 1), 28⟩ := by
      intro out8 i10 e
      have h5 := hk2 _ e
      refine hK8 _ ?_
      refine AW.region ?_
      refine ob1k h5 fun x8 ex8 h6 => ?_
      refine AOps.step rfl rfl rfl (OpQ.spec (ms_add rfl (.inl rfl) (.inl rfl) (fun _ => ex8)) _) ?_
      refine AOps.step rfl rfl rfl (OpQ.spec (sp_move rfl (.inl rfl)) _) ?_
      refine AOps.nil ?_
      exact NextQ2.mk h6 (vec [(i10 0), (i10 1)]) ((by exact Weak.cv ⟨.inl (.inl rfl), .inl (.inl rfl), .inl (.inl rfl), .inl (.inl rfl), trivial⟩ ⟨.inl rfl, trivial⟩ (Nat.le_refl _)))
    refine AW.iter2 (fun (x6 : Int) (out6 : List Int) i8 => ⟨[(0, .r (.sl (a1.map GAxisStep.row))), (3, .own 5003 (i8 0)), (4, .r (.int .i64 x2)), (6, .r (.int .i64 (a1.length : Int))), (7, .r (.int .i64 x2)), (14, .r (.int .i64 x4.N)), (15, .r (.int .i64 x6))], [(5003, some (.arr (i8 0) 3 1 (out6.map (rInt .i64))))], (i8 1), 28⟩) (vec [(i3 0), (i3 1)]) hit2 ((by exact Weak.cv ⟨.inl (.inl rfl), .inl (.inl rfl), .inl (.inl rfl), .inl (.inl rfl), .inl (.inl rfl), .inl (.inl rfl), .inl (.inl rfl), trivial⟩ ⟨.inl rfl, trivial⟩ (Nat.le_refl _))) ?_
    intro x6 out6 i8 v2 hv2 hx2
    have h7 : ref_Units_L2 x4 x6 out6 = some v2 := hv2; unfold ref_Units_L2 at h7
    refine AW.seq_w fun K11 hK11 wK11 => ?_
    refine AW.region ?_
    refine AOps.step rfl rfl rfl (OpQ.spec (sp_lss rfl (.inl rfl) (.inl rfl)) _) ?_
    refine AOps.nil ?_
    refine hK11 _ ?_
    refine AW.seq_w fun K12 hK12 wK12 => ?_
    refine AW.cond rfl (fun hc2 => ?_) (fun hc2 => ?_)
    · have h8 := ite_t hc2 h7
      refine AW.skip ?_
      refine hK12 _ ?_
      refine AW.seq_w fun K13 hK13 wK13 => ?_
      refine AW.block ?_
      refine AW.region ?_
      refine AOps.step rfl rfl rfl (OpQ.spec (sp_move rfl (.inl rfl)) _) ?_
      refine AOps.step rfl rfl rfl (OpQ.spec (sp_move rfl (.inl rfl)) _) ?_
      refine AOps.step rfl rfl rfl (OpQ.spec (sp_move rfl (.inl rfl)) _) ?_
      refine AOps.step rfl rfl rfl (OpQ.spec (ms_idx rfl tg_22.slice (.inl rfl) (.inl rfl) (fun _ => rfl) (fun _ => ex4)) _) ?_
      refine AOps.step rfl rfl rfl (OpQ.spec (sp_fieldAddr_ro rfl tf_99_0 (.inl rfl)) _) ?_
      refine AOps.step rfl rfl rfl (OpQ.spec (ms_load (d := .int .i64 x4.Kind) rfl ts_3 (.inl rfl) rfl) _) ?_
      refine AOps.step rfl rfl rfl (ms_lit 23 rfl tg_84 (f := (rInt .i64)) (l := ([x4.Kind] : List Int)) ⟨rfl, ⟨_, (.inl rfl), rfl⟩, trivial⟩ rfl (fun _ => rfl) rfl) ?_
      refine ob1k h8 fun out9 eout9 h9 => ?_
      refine AOps.step rfl rfl rfl (ms_app rfl tg_84 (.inl rfl) rfl (.inr (.inl ⟨_, _, (.inl rfl), rfl⟩)) eout9) ?_
      refine AOps.step rfl rfl rfl (OpQ.spec (sp_assign rfl (.inl rfl)) _) ?_
      refine AOps.nil ?_
      refine hK13 _ ?_
      refine AW.region ?_
      refine ob1k h9 fun x9 ex9 h10 => ?_
      refine AOps.step rfl rfl rfl (OpQ.spec (ms_add rfl (.inl rfl) (.inl rfl) (fun _ => ex9)) _) ?_
      refine AOps.step rfl rfl rfl (OpQ.spec (sp_move rfl (.inl rfl)) _) ?_
      refine AOps.nil ?_
      exact NextQ2.mk h10 (vec [((i8 1) + 1), ((i8 1) + 2)]) ((by exact Weak.cv ⟨.inl (.inl rfl), .inl (.inl rfl), .inl (.inl rfl), .inl (.inl rfl), .inl (.inl rfl), .inl (.inl rfl), .inl (.inl rfl), trivial⟩ ⟨.inl rfl, trivial⟩ (Nat.le_refl _)))
    · have h8 := ite_f hc2 h7
      refine AW.exit ?_
      exact wK8 _ _ ((by exact Weak.cv ⟨.inl (.inl rfl), .inl (.inl rfl), .inl (.inl rfl), .inl (.inl rfl), trivial⟩ ⟨.inl rfl, trivial⟩ (Nat.le_refl _))) (J2 _ (vec [(i8 0), (i8 1)]) (hx2 _ (Option.some.inj h8).symm))
  · have h3 := ite_f hc1 h2
    refine AW.exit ?_
    exact wK3 _ _ ((by exact Weak.cv ⟨.inl (.inl rfl), trivial⟩ ⟨.inl rfl, trivial⟩ (Nat.le_refl _))) (J1 _ (vec [(i3 0), (i3 1)]) (hx1 _ (Option.some.inj h3).symm))
set_option maxHeartbeats 4000000 in
set_option maxRecDepth 20000 in
theorem w_ref_Olds {units1 : List Int} {r : (List Int) × (List Int)} (h : ref_Olds units1 = some r) : ARO Try.prog 114 [.r (.sl (units1.map (rInt .i64)))] (.tup [.r (.sl (r.1.map (rInt .i64))), .r (.sl (r.2.map (rInt .i64)))]) := by
  unfold ref_Olds at h
  refine ARO.mkF Try.func114 rfl rfl Try.ntmps114 rfl (Nat.le_of_ble_eq_true rfl) fun n0 => ?_
  refine AW.seq_w fun K1 hK1 wK1 => ?_
  refine AW.region ?_
  refine AOps.step rfl rfl rfl (OpQ.spec (sp_assign rfl (.inl rfl)) _) ?_
  refine AOps.step rfl rfl rfl (OpQ.spec (sp_assign rfl (.inl rfl)) _) ?_
  refine AOps.nil ?_
  refine hK1 _ ?_
  refine AW.seq_w fun K2 hK2 wK2 => ?_
  refine AW.region ?_
  refine AOps.step rfl rfl rfl (OpQ.spec (sp_assign rfl (.inl rfl)) _) ?_
  refine AOps.step rfl rfl rfl (OpQ.spec (sp_assign rfl (.inl rfl)) _) ?_
  refine AOps.nil ?_
  refine hK2 _ ?_
  refine AW.seq_w fun K3 hK3 wK3 => ?_
  refine AW.region ?_
  refine AOps.step rfl rfl rfl (OpQ.spec (sp_assign rfl (.inl rfl)) _) ?_
  refine AOps.nil ?_
  refine hK3 _ ?_
  refine AW.seq_w fun K4 hK4 wK4 => ?_
  refine AW.seq_w fun K5 hK5 wK5 => ?_
  refine AW.region ?_
  refine AOps.step rfl rfl rfl (OpQ.spec (sp_move rfl (.inl rfl)) _) ?_
  refine AOps.step rfl rfl rfl (OpQ.spec (ms_len rfl tg_84.slice (.inl rfl)) _) ?_
  refine AOps.step rfl rfl rfl (OpQ.spec (sp_move rfl (.inl rfl)) _) ?_
  refine AOps.nil ?_
  refine hK5 _ ?_
  refine AW.block ?_
  refine jb2k h fun o1 hit1 hk1 => ?_
  have J1 : ∀ (rows4 : List Int) (ahead4 : List Int) (i5 : Nat → Nat), o1 = (rows4, ahead4) → K4 ⟨[(4, .own 5004 (i5 0)), (5, .own 5005 (i5 1))], [(5004, some (.arr (i5 0) 3 1 (rows4.map (rInt .i64)))), (5005, some (.arr (i5 1) 3 1 (ahead4.map (rInt .i64))))], (i5 2), 43⟩ := by
    intro rows4 ahead4 i5 e
    have h1 := hk1 _ _ e
    refine hK4 _ ?_
    refine AW.seq_w fun K6 hK6 wK6 => ?_
    refine AW.region ?_
    refine AOps.step rfl rfl rfl (OpQ.spec (sp_move rfl (.inl rfl)) _) ?_
    refine AOps.step rfl rfl rfl (OpQ.spec (sp_move rfl (.inl rfl)) _) ?_
    refine AOps.step rfl rfl rfl (OpQ.spec (sp_assign rfl (.inl rfl)) _) ?_
    refine AOps.step rfl rfl rfl (OpQ.spec (sp_assign rfl (.inl rfl)) _) ?_
    refine AOps.nil ?_
    refine hK6 _ ?_
    refine AW.ret ?_
    exact retf2 (P := Try.prog) (fun (r : (List Int) × (List Int)) => .r (.sl (r.1.map (rInt .i64)))) (fun (r : (List Int) × (List Int)) => .r (.sl (r.2.map (rInt .i64)))) h1 (.inl rfl) (.t (.one (.own rfl))) (.t (.one (.own rfl)))
  refine AW.iter4 (fun (old2 : Int) (x2 : Int) (rows2 : List Int) (ahead2 : List Int) i3 => ⟨[(0, .r (.sl (units1.map (rInt .i64)))), (4, .own 5004 (i3 0)), (5, .own 5005 (i3 1)), (6, .r (.int .i64 old2)), (9, .r (.int .i64 (units1.length : Int))), (10, .r (.int .i64 x2))], [(5004, some (.arr (i3 0) 3 1 (rows2.map (rInt .i64)))), (5005, some (.arr (i3 1) 3 1 (ahead2.map (rInt .i64))))], (i3 2), 43⟩) (vec [n0, (n0 + 1), (n0 + 2)]) hit1 (Weak.trans (Weak.trans (Weak.adopt 4 5004 3 1 (by decide) rfl) (by exact Weak.cv (e' := [(0, .r (.sl (units1.map (rInt .i64)))), (2, .cst (.slice none 0 0)), (3, .cst (.slice none 0 0)), (4, .own 5004 n0), (5, .cst (.slice none 0 0)), (6, .r (.int .i64 0)), (8, .r (.sl (units1.map (rInt .i64)))), (9, .r (.int .i64 (units1.length : Int))), (10, .r (.int .i64 0))]) (h' := [(5004, some (.arr n0 3 1 (([] : List Int).map (rInt .i64))))]) ⟨.inl (.inl rfl), .inl (.inl rfl), .inl (.inl rfl), .inl (.inl rfl), .inl (.inl rfl), .inl (.inl rfl), .inl (.inl rfl), .inl (.inl rfl), .inl (.inl rfl), trivial⟩ ⟨.inl rfl, trivial⟩ (Nat.le_refl _))) (Weak.trans (Weak.trans (Weak.adopt 5 5005 3 1 (by decide) rfl) (by exact Weak.cv (e' := [(0, .r (.sl (units1.map (rInt .i64)))), (2, .cst (.slice none 0 0)), (3, .cst (.slice none 0 0)), (4, .own 5004 n0), (5, .own 5005 (n0 + 1)), (6, .r (.int .i64 0)), (8, .r (.sl (units1.map (rInt .i64)))), (9, .r (.int .i64 (units1.length : Int))), (10, .r (.int .i64 0))]) (h' := [(5004, some (.arr n0 3 1 (([] : List Int).map (rInt .i64)))), (5005, some (.arr (n0 + 1) 3 1 (([] : List Int).map (rInt .i64))))]) ⟨.inl (.inl rfl), .inl (.inl rfl), .inl (.inl rfl), .inl (.inl rfl), .inl (.inl rfl), .inl (.inl rfl), .inl (.inl rfl), .inl (.inl rfl), .inl (.inl rfl), trivial⟩ ⟨.inl rfl, .inl rfl, trivial⟩ (Nat.le_refl _))) (by exact Weak.cv ⟨.inl (.inl rfl), .inl (.inl rfl), .inl (.inl rfl), .inl (.inl rfl), .inl (.inl rfl), .inl (.inl rfl), trivial⟩ ⟨.inl rfl, .inl rfl, trivial⟩ (Nat.le_refl _)))) ?_
  intro old2 x2 rows2 ahead2 i3 v1 hv1 hx1
  have h2 : ref_Olds_L1 units1 old2 x2 rows2 ahead2 = some v1 := hv1; unfold ref_Olds_L1 at h2
  refine AW.seq_w fun K7 hK7 wK7 => ?_
  refine AW.region ?_
  refine AOps.step rfl rfl rfl (OpQ.spec (sp_lss rfl (.inl rfl) (.inl rfl)) _) ?_
  refine AOps.nil ?_
  refine hK7 _ ?_
  refine AW.seq_w fun K8 hK8 wK8 => ?_
  refine AW.cond rfl (fun hc1 => ?_) (fun hc1 => ?_)
  · have h3 := ite_t hc1 h2
    refine AW.skip ?_
    refine hK8 _ ?_
    refine AW.seq_w fun K9 hK9 wK9 => ?_
    refine AW.block ?_
    refine jb3k h3 fun p1 hp1 hk2 => ?_
    have J2 : ∀ (old4 : Int) (rows5 : List Int) (ahead5 : List Int) (i6 : Nat → Nat), p1 = (old4, rows5, ahead5) → K9 ⟨[(0, .r (.sl (units1.map (rInt .i64)))), (4, .own 5004 (i6 0)), (5, .own 5005 (i6 1)), (6, .r (.int .i64 old4)), (9, .r (.int .i64 (units1.length : Int))), (10, .r (.int .i64 x2))], [(5004, some (.arr (i6 0) 3 1 (rows5.map (rInt .i64)))), (5005, some (.arr (i6 1) 3 1 (ahead5.map (rInt .i64))))], (i6 2), 43⟩ := by
      intro old4 rows5 ahead5 i6 e
      have h4 := hk2 _ _ _ e
      refine hK9 _ ?_
      refine AW.region ?_
      refine ob1k h4 fun x4 ex4 h5 => ?_
      refine AOps.step rfl rfl rfl (OpQ.spec (ms_add rfl (.inl rfl) (.inl rfl) (fun _ => ex4)) _) ?_
      refine AOps.step rfl rfl rfl (OpQ.spec (sp_move rfl (.inl rfl)) _) ?_
      refine AOps.nil ?_
      exact NextQ4.mk h5 (vec [(i6 0), (i6 1), (i6 2)]) ((by exact Weak.cv ⟨.inl (.inl rfl), .inl (.inl rfl), .inl (.inl rfl), .inl (.inl rfl), .inl (.inl rfl), .inl (.inl rfl), trivial⟩ ⟨.inl rfl, .inl rfl, trivial⟩ (Nat.le_refl _)))
    refine AW.seq_w fun K10 hK10 wK10 => ?_
    refine AW.region ?_
    refine AOps.step rfl rfl rfl (OpQ.spec (sp_move rfl (.inl rfl)) _) ?_
    refine AOps.step rfl rfl rfl (OpQ.spec (sp_assign rfl (.inl rfl)) _) ?_
    refine AOps.nil ?_
    refine hK10 _ ?_
    refine AW.seq_w fun K11 hK11 wK11 => ?_
    refine AW.region ?_
    refine AOps.step rfl rfl rfl (OpQ.spec (sp_move rfl (.inl rfl)) _) ?_
    refine AOps.step rfl rfl rfl (OpQ.spec (sp_move rfl (.inl rfl)) _) ?_
    refine ob1k hp1 fun x5 ex5 h6 => ?_
    refine AOps.step rfl rfl rfl (OpQ.spec (ms_idx rfl tg_84.slice (.inl rfl) (.inl rfl) (fun _ => rfl) (fun _ => ex5)) _) ?_
    refine AOps.step rfl rfl rfl (OpQ.spec (ms_load (d := .int .i64 x5) rfl ts_3 (.inl rfl) rfl) _) ?_
    refine AOps.nil ?_
    refine hK11 _ ?_
    refine AW.block ?_
    refine AW.seq_w fun K12 hK12 wK12 => ?_
    refine AW.region ?_
    refine AOps.step rfl rfl rfl (OpQ.spec (sp_eql rfl (.inl rfl) (.inl rfl)) _) ?_
    refine AOps.step rfl rfl rfl (OpQ.spec (sp_assign rfl (.inl rfl)) _) ?_
    refine AOps.nil ?_
    refine hK12 _ ?_
    refine AW.cond rfl (fun hc2 => ?_) (fun hc2 => ?_)
    · have h7 := ite_t hc2 h6
      refine AW.seq_w fun K13 hK13 wK13 => ?_
      refine AW.weak (s' := ⟨[(0, .r (.sl (units1.map (rInt .i64)))), (4, .own 5004 (i3 0)), (5, .own 5005 (i3 1)), (6, .r (.int .i64 old2)), (9, .r (.int .i64 (units1.length : Int))), (10, .r (.int .i64 x2))], [(5004, some (.arr (i3 0) 3 1 (rows2.map (rInt .i64)))), (5005, some (.arr (i3 1) 3 1 (ahead2.map (rInt .i64))))], (i3 2), 43⟩) (by exact Weak.cv ⟨.inl (.inl rfl), .inl (.inl rfl), .inl (.inl rfl), .inl (.inl rfl), .inl (.inl rfl), .inl (.inl rfl), trivial⟩ ⟨.inl rfl, .inl rfl, trivial⟩ (Nat.le_refl _)) ?_
      refine AW.region ?_
      refine AOps.step rfl rfl rfl (OpQ.spec (sp_move rfl (.inl rfl)) _) ?_
      refine AOps.step rfl rfl rfl (OpQ.spec (sp_move rfl (.inl rfl)) _) ?_
      refine AOps.step rfl rfl rfl (ms_lit 23 rfl tg_84 (f := (rInt .i64)) (l := ([old2] : List Int)) ⟨rfl, ⟨_, (.inl rfl), rfl⟩, trivial⟩ rfl (fun _ => rfl) rfl) ?_
      refine ob1k h7 fun rows6 erows6 h8 => ?_
      refine AOps.step rfl rfl rfl (ms_app rfl tg_84 (.inl rfl) rfl (.inr (.inl ⟨_, _, (.inl rfl), rfl⟩)) erows6) ?_
      refine AOps.step rfl rfl rfl (OpQ.spec (sp_move rfl (.inl rfl)) _) ?_
      refine AOps.step rfl rfl rfl (OpQ.spec (sp_move rfl (.inl rfl)) _) ?_
      refine AOps.step rfl rfl rfl (ms_lit 27 rfl tg_84 (f := (rInt .i64)) (l := ([old2] : List Int)) ⟨rfl, ⟨_, (.inl rfl), rfl⟩, trivial⟩ rfl (fun _ => rfl) rfl) ?_
      refine ob1k h8 fun ahead6 eahead6 h9 => ?_
      refine AOps.step rfl rfl rfl (ms_app rfl tg_84 (.inl rfl) rfl (.inr (.inl ⟨_, _, (.inl rfl), rfl⟩)) eahead6) ?_
      refine AOps.step rfl rfl rfl (OpQ.spec (sp_assign rfl (.inl rfl)) _) ?_
      refine AOps.step rfl rfl rfl (OpQ.spec (sp_assign rfl (.inl rfl)) _) ?_
      refine AOps.nil ?_
      refine hK13 _ ?_
      refine AW.region ?_
      refine AOps.step rfl rfl rfl (OpQ.spec (sp_move rfl (.inl rfl)) _) ?_
      refine ob1k h9 fun old5 eold5 h10 => ?_
      refine AOps.step rfl rfl rfl (OpQ.spec (ms_add rfl (.inl rfl) (.inl rfl) (fun _ => eold5)) _) ?_
      refine AOps.step rfl rfl rfl (OpQ.spec (sp_assign rfl (.inl rfl)) _) ?_
      refine AOps.nil ?_
      exact wK9 _ _ ((by exact Weak.cv ⟨.inl (.inl rfl), .inl (.inl rfl), .inl (.inl rfl), .inl (.inl rfl), .inl (.inl rfl), .inl (.inl rfl), trivial⟩ ⟨.inl rfl, .inl rfl, trivial⟩ (Nat.le_refl _))) (J2 _ _ _ (vec [((i3 2) + 1), ((i3 2) + 3), ((i3 2) + 4)]) (Option.some.inj h10).symm)
    · have h7 := ite_f hc2 h6
      refine AW.seq_w fun K14 hK14 wK14 => ?_
      refine AW.region ?_
      refine AOps.step rfl rfl rfl (OpQ.spec (sp_eql rfl (.inl rfl) (.inl rfl)) _) ?_
      refine AOps.step rfl rfl rfl (OpQ.spec (sp_assign rfl (.inl rfl)) _) ?_
      refine AOps.nil ?_
      refine hK14 _ ?_
      refine AW.cond rfl (fun hc3 => ?_) (fun hc3 => ?_)
      · have h11 := ite_t hc3 h7
        refine AW.weak (s' := ⟨[(0, .r (.sl (units1.map (rInt .i64)))), (4, .own 5004 (i3 0)), (5, .own 5005 (i3 1)), (6, .r (.int .i64 old2)), (9, .r (.int .i64 (units1.length : Int))), (10, .r (.int .i64 x2))], [(5004, some (.arr (i3 0) 3 1 (rows2.map (rInt .i64)))), (5005, some (.arr (i3 1) 3 1 (ahead2.map (rInt .i64))))], (i3 2), 43⟩) (by exact Weak.cv ⟨.inl (.inl rfl), .inl (.inl rfl), .inl (.inl rfl), .inl (.inl rfl), .inl (.inl rfl), .inl (.inl rfl), trivial⟩ ⟨.inl rfl, .inl rfl, trivial⟩ (Nat.le_refl _)) ?_
        refine AW.region ?_
        refine AOps.step rfl rfl rfl (OpQ.spec (sp_move rfl (.inl rfl)) _) ?_
        refine AOps.step rfl rfl rfl (ms_lit 34 rfl tg_84 (f := (rInt .i64)) (l := ([(-1)] : List Int)) ⟨rfl, ⟨_, (.inl rfl), rfl⟩, trivial⟩ rfl (fun _ => rfl) rfl) ?_
        refine ob1k h11 fun rows7 erows7 h12 => ?_
        refine AOps.step rfl rfl rfl (ms_app rfl tg_84 (.inl rfl) rfl (.inr (.inl ⟨_, _, (.inl rfl), rfl⟩)) erows7) ?_
        refine AOps.step rfl rfl rfl (OpQ.spec (sp_move rfl (.inl rfl)) _) ?_
        refine AOps.step rfl rfl rfl (OpQ.spec (sp_move rfl (.inl rfl)) _) ?_
        refine AOps.step rfl rfl rfl (ms_lit 38 rfl tg_84 (f := (rInt .i64)) (l := ([old2] : List Int)) ⟨rfl, ⟨_, (.inl rfl), rfl⟩, trivial⟩ rfl (fun _ => rfl) rfl) ?_
        refine ob1k h12 fun ahead7 eahead7 h13 => ?_
        refine AOps.step rfl rfl rfl (ms_app rfl tg_84 (.inl rfl) rfl (.inr (.inl ⟨_, _, (.inl rfl), rfl⟩)) eahead7) ?_
        refine AOps.step rfl rfl rfl (OpQ.spec (sp_assign rfl (.inl rfl)) _) ?_
        refine AOps.step rfl rfl rfl (OpQ.spec (sp_assign rfl (.inl rfl)) _) ?_
        refine AOps.nil ?_
        exact wK9 _ _ ((by exact Weak.cv ⟨.inl (.inl rfl), .inl (.inl rfl), .inl (.inl rfl), .inl (.inl rfl), .inl (.inl rfl), .inl (.inl rfl), trivial⟩ ⟨.inl rfl, .inl rfl, trivial⟩ (Nat.le_refl _))) (J2 _ _ _ (vec [((i3 2) + 1), ((i3 2) + 3), ((i3 2) + 4)]) (Option.some.inj h13).symm)
      · have h11 := ite_f hc3 h7
        refine AW.weak (s' := ⟨[(0, .r (.sl (units1.map (rInt .i64)))), (4, .own 5004 (i3 0)), (5, .own 5005 (i3 1)), (6, .r (.int .i64 old2)), (9, .r (.int .i64 (units1.length : Int))), (10, .r (.int .i64 x2))], [(5004, some (.arr (i3 0) 3 1 (rows2.map (rInt .i64)))), (5005, some (.arr (i3 1) 3 1 (ahead2.map (rInt .i64))))], (i3 2), 43⟩) (by exact Weak.cv ⟨.inl (.inl rfl), .inl (.inl rfl), .inl (.inl rfl), .inl (.inl rfl), .inl (.inl rfl), .inl (.inl rfl), trivial⟩ ⟨.inl rfl, .inl rfl, trivial⟩ (Nat.le_refl _)) ?_
        refine AW.region ?_
        refine AOps.step rfl rfl rfl (OpQ.spec (sp_move rfl (.inl rfl)) _) ?_
        refine ob1k h11 fun old6 eold6 h14 => ?_
        refine AOps.step rfl rfl rfl (OpQ.spec (ms_add rfl (.inl rfl) (.inl rfl) (fun _ => eold6)) _) ?_
        refine AOps.step rfl rfl rfl (OpQ.spec (sp_assign rfl (.inl rfl)) _) ?_
        refine AOps.nil ?_
        exact wK9 _ _ ((by exact Weak.cv ⟨.inl (.inl rfl), .inl (.inl rfl), .inl (.inl rfl), .inl (.inl rfl), .inl (.inl rfl), .inl (.inl rfl), trivial⟩ ⟨.inl rfl, .inl rfl, trivial⟩ (Nat.le_refl _))) (J2 _ _ _ (vec [(i3 0), (i3 1), (i3 2)]) (Option.some.inj h14).symm)
  · have h3 := ite_f hc1 h2
    refine AW.exit ?_
    exact wK4 _ _ ((by exact Weak.cv ⟨.inl (.inl rfl), .inl (.inl rfl), trivial⟩ ⟨.inl rfl, .inl rfl, trivial⟩ (Nat.le_refl _))) (J1 _ _ (vec [(i3 0), (i3 1), (i3 2)]) (hx1 _ (Option.some.inj h3).symm))
set_option maxHeartbeats 4000000 in
set_option maxRecDepth 20000 in
theorem w_ref_GapAt {units1 : List Int} {at1 : Int} {right1 : Bool} {r : Int} (h : ref_GapAt units1 at1 right1 = some r) : ARO Try.prog 59 [.r (.sl (units1.map (rInt .i64))), .r (.int .i64 at1), .r (.bool right1)] (.r (.int .i64 r)) := by
  unfold ref_GapAt at h
  refine ARO.mkF Try.func59 rfl rfl Try.ntmps59 rfl (Nat.le_of_ble_eq_true rfl) fun n0 => ?_
  refine AW.seq_w fun K1 hK1 wK1 => ?_
  refine AW.region ?_
  refine AOps.step rfl rfl rfl (OpQ.spec (sp_assign rfl (.inl rfl)) _) ?_
  refine AOps.nil ?_
  refine hK1 _ ?_
  refine AW.seq_w fun K2 hK2 wK2 => ?_
  refine AW.region ?_
  refine AOps.step rfl rfl rfl (OpQ.spec (sp_move rfl (.inl rfl)) _) ?_
  refine ob2k h fun r1 r2 er1 h1 => ?_
  refine AOps.step rfl rfl rfl (sp_callS (r := .tup [.r (.sl (r1.map (rInt .i64))), .r (.sl (r2.map (rInt .i64)))]) (caps := []) (bs := [.r (.sl (units1.map (rInt .i64)))]) rfl (.inl rfl) rfl ⟨.inl ⟨(.inl rfl), rfl⟩, trivial⟩ (fun _ => w_ref_Olds (er1))) ?_
  refine AOps.step rfl rfl rfl (OpQ.spec (sp_move rfl (.inl rfl)) _) ?_
  refine AOps.step rfl rfl rfl (OpQ.spec (sp_extract (a := .r (.sl (r1.map (rInt .i64)))) rfl (.inl rfl) rfl) _) ?_
  refine AOps.step rfl rfl rfl (OpQ.spec (sp_extract (a := .r (.sl (r2.map (rInt .i64)))) rfl (.inl rfl) rfl) _) ?_
  refine AOps.step rfl rfl rfl (OpQ.spec (sp_assign rfl (.inl rfl)) _) ?_
  refine AOps.step rfl rfl rfl (OpQ.spec (sp_assign rfl (.inl rfl)) _) ?_
  refine AOps.nil ?_
  refine hK2 _ ?_
  refine AW.seq_w fun K3 hK3 wK3 => ?_
  refine AW.region ?_
  refine AOps.step rfl rfl rfl (OpQ.spec (sp_assign rfl (.inl rfl)) _) ?_
  refine AOps.nil ?_
  refine hK3 _ ?_
  refine AW.seq_w fun K4 hK4 wK4 => ?_
  refine AW.seq_w fun K5 hK5 wK5 => ?_
  refine AW.region ?_
  refine AOps.step rfl rfl rfl (OpQ.spec (sp_move rfl (.inl rfl)) _) ?_
  refine AOps.step rfl rfl rfl (OpQ.spec (ms_len rfl tg_84.slice (.inl rfl)) _) ?_
  refine AOps.step rfl rfl rfl (OpQ.spec (sp_move rfl (.inl rfl)) _) ?_
  refine AOps.nil ?_
  refine hK5 _ ?_
  refine AW.block ?_
  refine jb1k h1 fun o1 hit1 hk1 => ?_
  have J1 : ∀ (n4 : Int) (i5 : Nat → Nat), o1 = n4 → K4 ⟨[(9, .r (.int .i64 n4))], [], (i5 0), 64⟩ := by
    intro n4 i5 e
    have h2 := hk1 _ e
    refine hK4 _ ?_
    refine AW.seq_w fun K6 hK6 wK6 => ?_
    refine AW.region ?_
    refine AOps.step rfl rfl rfl (OpQ.spec (sp_move rfl (.inl rfl)) _) ?_
    refine AOps.step rfl rfl rfl (OpQ.spec (sp_assign rfl (.inl rfl)) _) ?_
    refine AOps.nil ?_
    refine hK6 _ ?_
    refine AW.ret ?_
    exact retf1 (P := Try.prog) (fun (r : Int) => .r (.int .i64 r)) h2 (.inl rfl) (.t (.d rfl))
  refine AW.iter2 (fun (n2 : Int) (x2 : Int) i3 => ⟨[(1, .r (.int .i64 at1)), (2, .r (.bool right1)), (7, .r (.sl (r1.map (rInt .i64)))), (8, .r (.sl (r2.map (rInt .i64)))), (9, .r (.int .i64 n2)), (17, .r (.int .i64 (r1.length : Int))), (18, .r (.int .i64 x2))], [], (i3 0), 64⟩) (vec [n0]) hit1 ((by exact Weak.cv ⟨.inl (.inl rfl), .inl (.inl rfl), .inl (.inl rfl), .inl (.inl rfl), .inl (.inl rfl), .inl (.inl rfl), .inl (.inl rfl), trivial⟩ trivial (Nat.le_refl _))) ?_
  intro n2 x2 i3 v1 hv1 hx1
  have h3 : ref_GapAt_L1 at1 right1 r1 r2 n2 x2 = some v1 := hv1; unfold ref_GapAt_L1 at h3
  refine AW.seq_w fun K7 hK7 wK7 => ?_
  refine AW.region ?_
  refine AOps.step rfl rfl rfl (OpQ.spec (sp_lss rfl (.inl rfl) (.inl rfl)) _) ?_
  refine AOps.nil ?_
  refine hK7 _ ?_
  refine AW.seq_w fun K8 hK8 wK8 => ?_
  refine AW.cond rfl (fun hc1 => ?_) (fun hc1 => ?_)
  · have h4 := ite_t hc1 h3
    refine AW.skip ?_
    refine hK8 _ ?_
    refine AW.seq_w fun K9 hK9 wK9 => ?_
    refine AW.block ?_
    refine jb1k h4 fun p1 hp1 hk2 => ?_
    have J2 : ∀ (n5 : Int) (i6 : Nat → Nat), p1 = n5 → K9 ⟨[(1, .r (.int .i64 at1)), (2, .r (.bool right1)), (7, .r (.sl (r1.map (rInt .i64)))), (8, .r (.sl (r2.map (rInt .i64)))), (9, .r (.int .i64 n5)), (17, .r (.int .i64 (r1.length : Int))), (18, .r (.int .i64 x2))], [], (i6 0), 64⟩ := by
      intro n5 i6 e
      have h5 := hk2 _ e
      refine hK9 _ ?_
      refine AW.region ?_
      refine ob1k h5 fun x4 ex4 h6 => ?_
      refine AOps.step rfl rfl rfl (OpQ.spec (ms_add rfl (.inl rfl) (.inl rfl) (fun _ => ex4)) _) ?_
      refine AOps.step rfl rfl rfl (OpQ.spec (sp_move rfl (.inl rfl)) _) ?_
      refine AOps.nil ?_
      exact NextQ2.mk h6 (vec [(i6 0)]) ((by exact Weak.cv ⟨.inl (.inl rfl), .inl (.inl rfl), .inl (.inl rfl), .inl (.inl rfl), .inl (.inl rfl), .inl (.inl rfl), .inl (.inl rfl), trivial⟩ trivial (Nat.le_refl _)))
    refine AW.seq_w fun K10 hK10 wK10 => ?_
    refine AW.region ?_
    refine AOps.step rfl rfl rfl (OpQ.spec (sp_move rfl (.inl rfl)) _) ?_
    refine AOps.step rfl rfl rfl (OpQ.spec (sp_assign rfl (.inl rfl)) _) ?_
    refine AOps.nil ?_
    refine hK10 _ ?_
    refine AW.seq_w fun K11 hK11 wK11 => ?_
    refine AW.region ?_
    refine AOps.step rfl rfl rfl (OpQ.spec (sp_move rfl (.inl rfl)) _) ?_
    refine AOps.step rfl rfl rfl (OpQ.spec (sp_move rfl (.inl rfl)) _) ?_
    refine ob1k hp1 fun x5 ex5 h7 => ?_
    refine AOps.step rfl rfl rfl (OpQ.spec (ms_idx rfl tg_84.slice (.inl rfl) (.inl rfl) (fun _ => rfl) (fun _ => ex5)) _) ?_
    refine AOps.step rfl rfl rfl (OpQ.spec (ms_load (d := .int .i64 x5) rfl ts_3 (.inl rfl) rfl) _) ?_
    refine AOps.step rfl rfl rfl (OpQ.spec (sp_geq rfl (.inl rfl) (.inl rfl)) _) ?_
    refine AOps.step rfl rfl rfl (OpQ.spec (sp_move rfl (.inl rfl)) _) ?_
    refine AOps.stepW (.one rfl rfl rfl) rfl rfl (OpQ.spec (sp_move rfl (.inl rfl)) _) ?_
    refine AOps.stepW (.one rfl rfl rfl) rfl rfl (OpQ.spec (sp_move rfl (.inl rfl)) _) ?_
    refine AOps.stepW (.one rfl rfl rfl) rfl rfl (OpQ.spec (ms_idx rfl tg_84.slice (.inr ⟨_, (by exact id), rfl⟩) (.inr ⟨_, (by exact id), rfl⟩) (fun _ => rfl) (fun _ => ex5)) _) ?_
    refine AOps.stepW (.one rfl rfl rfl) rfl rfl (OpQ.spec (ms_load (d := .int .i64 x5) rfl ts_3 (.inr ⟨_, (by exact id), rfl⟩) rfl) _) ?_
    refine AOps.stepW (.one rfl rfl rfl) rfl rfl (OpQ.spec (sp_move rfl (.inl rfl)) _) ?_
    refine AOps.stepW (.one rfl rfl rfl) rfl rfl (OpQ.spec (sp_lss rfl (.inr ⟨_, (by exact id), rfl⟩) (.inr ⟨_, (by exact id), rfl⟩)) _) ?_
    refine AOps.step rfl rfl rfl (OpQ.spec (sp_and rfl (.inl rfl) (.inr ⟨_, (by exact id), rfl⟩)) _) ?_
    refine AOps.step rfl rfl rfl (OpQ.spec (sp_move rfl (.inl rfl)) _) ?_
    refine AOps.stepW (.one rfl rfl rfl) rfl rfl (OpQ.spec (sp_move rfl (.inl rfl)) _) ?_
    refine AOps.stepW (.one rfl rfl rfl) rfl rfl (OpQ.spec (sp_move rfl (.inl rfl)) _) ?_
    refine AOps.stepW (.one rfl rfl rfl) rfl rfl (OpQ.spec (ms_idx rfl tg_84.slice (.inr ⟨_, (by exact id), rfl⟩) (.inr ⟨_, (by exact id), rfl⟩) (fun _ => rfl) (fun _ => ex5)) _) ?_
    refine AOps.stepW (.one rfl rfl rfl) rfl rfl (OpQ.spec (ms_load (d := .int .i64 x5) rfl ts_3 (.inr ⟨_, (by exact id), rfl⟩) rfl) _) ?_
    refine AOps.stepW (.one rfl rfl rfl) rfl rfl (OpQ.spec (sp_lss rfl (.inr ⟨_, (by exact id), rfl⟩) (.inl rfl)) _) ?_
    refine AOps.stepW (.one rfl rfl rfl) rfl rfl (OpQ.spec (sp_move rfl (.inr ⟨_, (by exact id), rfl⟩)) _) ?_
    refine AOps.stepW (.two rfl rfl rfl) rfl rfl (OpQ.spec (sp_move rfl (.inl rfl)) _) ?_
    refine AOps.stepW (.two rfl rfl rfl) rfl rfl (OpQ.spec (sp_move rfl (.inl rfl)) _) ?_
    refine ob1k h7 fun x6 ex6 h8 => ?_
    refine AOps.stepW (.two rfl rfl rfl) rfl rfl (OpQ.spec (ms_idx rfl tg_84.slice (.inr ⟨_, (by exact id), rfl⟩) (.inr ⟨_, (by exact id), rfl⟩) (fun _ => rfl) (gdt ex6)) _) ?_
    refine AOps.stepW (.two rfl rfl rfl) rfl rfl (OpQ.spec (ms_load (d := .int .i64 x6) rfl ts_3 (.inr ⟨_, (by exact id), rfl⟩) rfl) _) ?_
    refine AOps.stepW (.two rfl rfl rfl) rfl rfl (OpQ.spec (sp_move rfl (.inl rfl)) _) ?_
    refine AOps.stepW (.two rfl rfl rfl) rfl rfl (OpQ.spec (sp_lss rfl (.inr ⟨_, (by exact id), rfl⟩) (.inr ⟨_, (by exact id), rfl⟩)) _) ?_
    refine AOps.stepW (.two rfl rfl rfl) rfl rfl (OpQ.spec (sp_move rfl (.inr ⟨_, (by exact id), rfl⟩)) _) ?_
    refine AOps.stepW (.two rfl rfl rfl) rfl rfl (OpQ.spec (sp_move rfl (.inl rfl)) _) ?_
    refine AOps.stepW (.two rfl rfl rfl) rfl rfl (OpQ.spec (sp_move rfl (.inl rfl)) _) ?_
    refine AOps.stepW (.two rfl rfl rfl) rfl rfl (OpQ.spec (ms_idx rfl tg_84.slice (.inr ⟨_, (by exact id), rfl⟩) (.inr ⟨_, (by exact id), rfl⟩) (fun _ => rfl) (fun h => gdt ex6 (Bool.and_eq_true_iff.1 h).1)) _) ?_
    refine AOps.stepW (.two rfl rfl rfl) rfl rfl (OpQ.spec (ms_load (d := .int .i64 x6) rfl ts_3 (.inr ⟨_, (by exact id), rfl⟩) rfl) _) ?_
    refine AOps.stepW (.two rfl rfl rfl) rfl rfl (OpQ.spec (sp_move rfl (.inl rfl)) _) ?_
    refine AOps.stepW (.two rfl rfl rfl) rfl rfl (OpQ.spec (sp_eql rfl (.inr ⟨_, (by exact id), rfl⟩) (.inr ⟨_, (by exact id), rfl⟩)) _) ?_
    refine AOps.stepW (.two rfl rfl rfl) rfl rfl (OpQ.spec (sp_move rfl (.inr ⟨_, (by exact id), rfl⟩)) _) ?_
    refine AOps.stepW (.two rfl rfl rfl) rfl rfl (OpQ.spec (sp_move rfl (.inl rfl)) _) ?_
    refine AOps.stepW (.two rfl rfl rfl) rfl rfl (OpQ.spec (sp_and rfl (.inr ⟨_, (by exact id), rfl⟩) (.inr ⟨_, (by exact id), rfl⟩)) _) ?_
    refine AOps.stepW (.two rfl rfl rfl) rfl rfl (OpQ.spec (sp_or rfl (.inr ⟨_, (by exact id), rfl⟩) (.inr ⟨_, (by exact id), rfl⟩)) _) ?_
    refine AOps.stepW (.one rfl rfl rfl) rfl rfl (OpQ.spec (sp_and rfl (.inr ⟨_, (by exact id), rfl⟩) (.inr ⟨_, (by exact id), rfl⟩)) _) ?_
    refine AOps.step rfl rfl rfl (OpQ.spec (sp_or rfl (.inl rfl) (.inr ⟨_, (by exact id), rfl⟩)) _) ?_
    refine AOps.nil ?_
    refine hK11 _ ?_
    refine AW.cond rfl (fun hc2 => ?_) (fun hc2 => ?_)
    · have h9 := ite_t hc2 h8
      refine AW.weak (s' := ⟨[(1, .r (.int .i64 at1)), (2, .r (.bool right1)), (7, .r (.sl (r1.map (rInt .i64)))), (8, .r (.sl (r2.map (rInt .i64)))), (9, .r (.int .i64 n2)), (17, .r (.int .i64 (r1.length : Int))), (18, .r (.int .i64 x2))], [], (i3 0), 64⟩) (by exact Weak.cv ⟨.inl (.inl rfl), .inl (.inl rfl), .inl (.inl rfl), .inl (.inl rfl), .inl (.inl rfl), .inl (.inl rfl), .inl (.inl rfl), trivial⟩ trivial (Nat.le_refl _)) ?_
      refine AW.region ?_
      refine AOps.step rfl rfl rfl (OpQ.spec (sp_move rfl (.inl rfl)) _) ?_
      refine ob1k h9 fun n6 en6 h10 => ?_
      refine AOps.step rfl rfl rfl (OpQ.spec (ms_add rfl (.inl rfl) (.inl rfl) (fun _ => en6)) _) ?_
      refine AOps.step rfl rfl rfl (OpQ.spec (sp_assign rfl (.inl rfl)) _) ?_
      refine AOps.nil ?_
      exact wK9 _ _ ((by exact Weak.cv ⟨.inl (.inl rfl), .inl (.inl rfl), .inl (.inl rfl), .inl (.inl rfl), .inl (.inl rfl), .inl (.inl rfl), .inl (.inl rfl), trivial⟩ trivial (Nat.le_refl _))) (J2 _ (vec [(i3 0)]) (Option.some.inj h10).symm)
    · have h9 := ite_f hc2 h8
      refine AW.skip ?_
      exact wK9 _ _ ((by exact Weak.cv ⟨.inl (.inl rfl), .inl (.inl rfl), .inl (.inl rfl), .inl (.inl rfl), .inl (.inl rfl), .inl (.inl rfl), .inl (.inl rfl), trivial⟩ trivial (Nat.le_refl _))) (J2 _ (vec [(i3 0)]) (Option.some.inj h9).symm)
  · have h4 := ite_f hc1 h3
    refine AW.exit ?_
    exact wK4 _ _ ((by exact Weak.cv ⟨.inl (.inl rfl), trivial⟩ trivial (Nat.le_refl _))) (J1 _ (vec [(i3 0)]) (hx1 _ (Option.some.inj h4).symm))
set_option maxHeartbeats 4000000 in
set_option maxRecDepth 20000 in
theorem w_law_setError {l1 : List GSpan} {r : Int} (h : law_setError l1 = some r) : ARO Try.prog 60 [.r (.sl (l1.map GSpan.row))] (.r (.int .i64 r)) := by
  unfold law_setError at h
  refine ARO.mkF Try.func60 rfl rfl Try.ntmps60 rfl (Nat.le_of_ble_eq_true rfl) fun n0 => ?_
  refine AW.seq_w fun K1 hK1 wK1 => ?_
  refine AW.region ?_
  refine AOps.step rfl rfl rfl (OpQ.spec (sp_assign rfl (.inl rfl)) _) ?_
  refine AOps.nil ?_
  refine hK1 _ ?_
  refine AW.seq_w fun K2 hK2 wK2 => ?_
  refine AW.seq_w fun K3 hK3 wK3 => ?_
  refine AW.region ?_
  refine AOps.step rfl rfl rfl (OpQ.spec (sp_move rfl (.inl rfl)) _) ?_
  refine AOps.step rfl rfl rfl (OpQ.spec (ms_len rfl tg_79.slice (.inl rfl)) _) ?_
  refine AOps.step rfl rfl rfl (OpQ.spec (sp_move rfl (.inl rfl)) _) ?_
  refine AOps.nil ?_
  refine hK3 _ ?_
  refine AW.block ?_
  refine jc1k h fun o1 hit1 hk1 he1 => ?_
  have J1 : ∀ (u2 : Unit) (i5 : Nat → Nat), o1 = .nrm u2 → K2 ⟨[], [], (i5 0), 53⟩ := by
    intro u2 i5 e
    have h1 := hk1 _ e
    refine hK2 _ ?_
    refine AW.seq_w fun K4 hK4 wK4 => ?_
    refine AW.region ?_
    refine AOps.step rfl rfl rfl (OpQ.spec (sp_assign rfl (.inl rfl)) _) ?_
    refine AOps.nil ?_
    refine hK4 _ ?_
    refine AW.ret ?_
    exact retf1 (P := Try.prog) (fun (r : Int) => .r (.int .i64 r)) h1 (.inl rfl) (.t (.d rfl))
  refine AW.iter1 (fun (x2 : Int) i3 => ⟨[(0, .r (.sl (l1.map GSpan.row))), (5, .r (.int .i64 (l1.length : Int))), (6, .r (.int .i64 x2))], [], (i3 0), 53⟩) (vec [n0]) hit1 ((by exact Weak.cv ⟨.inl (.inl rfl), .inl (.inl rfl), .inl (.inl rfl), trivial⟩ trivial (Nat.le_refl _))) ?_
  intro x2 i3 v1 hv1 hx1
  have h2 : law_setError_L1 l1 x2 = some v1 := hv1; unfold law_setError_L1 at h2
  refine AW.seq_w fun K5 hK5 wK5 => ?_
  refine AW.region ?_
  refine AOps.step rfl rfl rfl (OpQ.spec (sp_lss rfl (.inl rfl) (.inl rfl)) _) ?_
  refine AOps.nil ?_
  refine hK5 _ ?_
  refine AW.seq_w fun K6 hK6 wK6 => ?_
  refine AW.cond rfl (fun hc1 => ?_) (fun hc1 => ?_)
  · have h3 := ite_t hc1 h2
    refine AW.skip ?_
    refine hK6 _ ?_
    refine AW.seq_w fun K7 hK7 wK7 => ?_
    refine AW.block ?_
    refine AW.seq_w fun K8 hK8 wK8 => ?_
    refine AW.region ?_
    refine AOps.step rfl rfl rfl (OpQ.spec (sp_move rfl (.inl rfl)) _) ?_
    refine AOps.step rfl rfl rfl (OpQ.spec (sp_assign rfl (.inl rfl)) _) ?_
    refine AOps.nil ?_
    refine hK8 _ ?_
    refine AW.seq_w fun K9 hK9 wK9 => ?_
    refine AW.seq_w fun K10 hK10 wK10 => ?_
    refine AW.regionQ hmix (by kernel_rfl) ?_
    refine AQ.step rfl rfl rfl (sp_move rfl (.inl rfl)) ?_
    refine AQ.step rfl rfl rfl (sp_move rfl (.inl rfl)) ?_
    refine ob1k h3 fun x4 ex4 h4 => ?_
    refine AQ.step rfl rfl rfl (ms_idx rfl tg_79.slice (.inl rfl) (.inl rfl) (fun _ => rfl) (fun _ => ex4)) ?_
    refine AQ.step rfl rfl rfl (sp_fieldAddr_ro rfl tf_90_0 (.inl rfl)) ?_
    refine AQ.step rfl rfl rfl (ms_load (d := .int .i64 x4.From) rfl ts_3 (.inl rfl) rfl) ?_
    refine AQ.step rfl rfl rfl (sp_lss rfl (.inl rfl) (.inl rfl)) ?_
    refine AQ.step rfl rfl rfl (sp_move rfl (.inl rfl)) ?_
    refine AQ.stepW (.one rfl rfl rfl) rfl rfl (sp_move rfl (.inl rfl)) ?_
    refine AQ.stepW (.one rfl rfl rfl) rfl rfl (sp_move rfl (.inl rfl)) ?_
    refine AQ.stepW (.one rfl rfl rfl) rfl rfl (ms_idx rfl tg_79.slice (.inr ⟨_, (by exact id), rfl⟩) (.inr ⟨_, (by exact id), rfl⟩) (fun _ => rfl) (fun _ => ex4)) ?_
    refine AQ.stepW (.one rfl rfl rfl) rfl rfl (sp_fieldAddr_ro rfl tf_90_1 (.inr ⟨_, (by exact id), rfl⟩)) ?_
    refine AQ.stepW (.one rfl rfl rfl) rfl rfl (ms_load (d := .int .i64 x4.To) rfl ts_3 (.inr ⟨_, (by exact id), rfl⟩) rfl) ?_
    refine AQ.stepW (.one rfl rfl rfl) rfl rfl (sp_move rfl (.inl rfl)) ?_
    refine AQ.stepW (.one rfl rfl rfl) rfl rfl (sp_move rfl (.inl rfl)) ?_
    refine AQ.stepW (.one rfl rfl rfl) rfl rfl (ms_idx rfl tg_79.slice (.inr ⟨_, (by exact id), rfl⟩) (.inr ⟨_, (by exact id), rfl⟩) (fun _ => rfl) (fun _ => ex4)) ?_
    refine AQ.stepW (.one rfl rfl rfl) rfl rfl (sp_fieldAddr_ro rfl tf_90_0 (.inr ⟨_, (by exact id), rfl⟩)) ?_
    refine AQ.stepW (.one rfl rfl rfl) rfl rfl (ms_load (d := .int .i64 x4.From) rfl ts_3 (.inr ⟨_, (by exact id), rfl⟩) rfl) ?_
    refine AQ.stepW (.one rfl rfl rfl) rfl rfl (sp_leq rfl (.inr ⟨_, (by exact id), rfl⟩) (.inr ⟨_, (by exact id), rfl⟩)) ?_
    refine AQ.step rfl rfl rfl (sp_or rfl (.inl rfl) (.inr ⟨_, (by exact id), rfl⟩)) ?_
    refine AQ.step rfl rfl rfl (sp_move rfl (.inl rfl)) ?_
    refine AQ.stepW (.one rfl rfl rfl) rfl rfl (sp_move rfl (.inl rfl)) ?_
    refine AQ.stepW (.one rfl rfl rfl) rfl rfl (sp_move rfl (.inl rfl)) ?_
    refine AQ.stepW (.one rfl rfl rfl) rfl rfl (ms_idx rfl tg_79.slice (.inr ⟨_, (by exact id), rfl⟩) (.inr ⟨_, (by exact id), rfl⟩) (fun _ => rfl) (fun _ => ex4)) ?_
    refine AQ.stepW (.one rfl rfl rfl) rfl rfl (sp_fieldAddr_ro rfl tf_90_1 (.inr ⟨_, (by exact id), rfl⟩)) ?_
    refine AQ.stepW (.one rfl rfl rfl) rfl rfl (ms_load (d := .int .i64 x4.To) rfl ts_3 (.inr ⟨_, (by exact id), rfl⟩) rfl) ?_
    refine AQ.stepW (.one rfl rfl rfl) rfl rfl (sp_gtr rfl (.inr ⟨_, (by exact id), rfl⟩) (.inl rfl)) ?_
    refine AQ.step rfl rfl rfl (sp_or rfl (.inl rfl) (.inr ⟨_, (by exact id), rfl⟩)) ?_
    refine AQ.nil ?_
    refine hK10 _ ?_
    refine AW.cond rfl (fun hc2 => ?_) (fun hc2 => ?_)
    · have h5 := ite_t hc2 h4
      refine AW.seq_w fun K11 hK11 wK11 => ?_
      refine AW.weak (s' := ⟨[], [], (i3 0), 53⟩) (by exact Weak.cv trivial trivial (Nat.le_refl _)) ?_
      refine AW.region ?_
      refine AOps.step rfl rfl rfl (OpQ.spec (sp_assign rfl (.inl rfl)) _) ?_
      refine AOps.nil ?_
      refine hK11 _ ?_
      refine AW.ret ?_
      exact retf1 (P := Try.prog) (fun (r : Int) => .r (.int .i64 r)) (he1 _ (hx1 _ (Option.some.inj h5).symm)) (.inl rfl) (.t (.d rfl))
    · have h5 := ite_f hc2 h4
      refine AW.skip ?_
      refine hK9 _ ?_
      refine AW.seq_w fun K12 hK12 wK12 => ?_
      refine AW.weak (s' := ⟨[(0, .r (.sl (l1.map GSpan.row))), (3, .r (.int .i64 x2)), (5, .r (.int .i64 (l1.length : Int))), (6, .r (.int .i64 x2))], [], (i3 0), 53⟩) (by exact Weak.cv ⟨.inl (.inl rfl), .inl (.inl rfl), .inl (.inl rfl), .inl (.inl rfl), trivial⟩ trivial (Nat.le_refl _)) ?_
      refine AW.regionQ hmix (by kernel_rfl) ?_
      refine AQ.step rfl rfl rfl (sp_move rfl (.inl rfl)) ?_
      refine AQ.step rfl rfl rfl (sp_gtr rfl (.inl rfl) (.inl rfl)) ?_
      refine AQ.step rfl rfl rfl (sp_move rfl (.inl rfl)) ?_
      refine AQ.stepW (.one rfl rfl rfl) rfl rfl (sp_move rfl (.inl rfl)) ?_
      refine AQ.stepW (.one rfl rfl rfl) rfl rfl (sp_move rfl (.inl rfl)) ?_
      refine AQ.stepW (.one rfl rfl rfl) rfl rfl (ms_idx rfl tg_79.slice (.inr ⟨_, (by exact id), rfl⟩) (.inr ⟨_, (by exact id), rfl⟩) (fun _ => rfl) (fun _ => ex4)) ?_
      refine AQ.stepW (.one rfl rfl rfl) rfl rfl (sp_fieldAddr_ro rfl tf_90_0 (.inr ⟨_, (by exact id), rfl⟩)) ?_
      refine AQ.stepW (.one rfl rfl rfl) rfl rfl (ms_load (d := .int .i64 x4.From) rfl ts_3 (.inr ⟨_, (by exact id), rfl⟩) rfl) ?_
      refine AQ.stepW (.one rfl rfl rfl) rfl rfl (sp_move rfl (.inl rfl)) ?_
      refine AQ.stepW (.one rfl rfl rfl) rfl rfl (sp_move rfl (.inl rfl)) ?_
      refine ob1k h5 fun x5 ex5 h6 => ?_
      refine AQ.stepW (.one rfl rfl rfl) rfl rfl (ms_sub rfl (.inr ⟨_, (by exact id), rfl⟩) (.inl rfl) (gdt ex5)) ?_
      refine ob1k h6 fun x6 ex6 h7 => ?_
      refine AQ.stepW (.one rfl rfl rfl) rfl rfl (ms_idx rfl tg_79.slice (.inr ⟨_, (by exact id), rfl⟩) (.inr ⟨_, (by exact id), rfl⟩) (fun _ => rfl) (gdt ex6)) ?_
      refine AQ.stepW (.one rfl rfl rfl) rfl rfl (sp_fieldAddr_ro rfl tf_90_1 (.inr ⟨_, (by exact id), rfl⟩)) ?_
      refine AQ.stepW (.one rfl rfl rfl) rfl rfl (ms_load (d := .int .i64 x6.To) rfl ts_3 (.inr ⟨_, (by exact id), rfl⟩) rfl) ?_
      refine AQ.stepW (.one rfl rfl rfl) rfl rfl (sp_leq rfl (.inr ⟨_, (by exact id), rfl⟩) (.inr ⟨_, (by exact id), rfl⟩)) ?_
      refine AQ.step rfl rfl rfl (sp_and rfl (.inl rfl) (.inr ⟨_, (by exact id), rfl⟩)) ?_
      refine AQ.nil ?_
      refine hK12 _ ?_
      refine AW.cond rfl (fun hc3 => ?_) (fun hc3 => ?_)
      · have h8 := ite_t hc3 h7
        refine AW.seq_w fun K13 hK13 wK13 => ?_
        refine AW.weak (s' := ⟨[], [], (i3 0), 53⟩) (by exact Weak.cv trivial trivial (Nat.le_refl _)) ?_
        refine AW.region ?_
        refine AOps.step rfl rfl rfl (OpQ.spec (sp_assign rfl (.inl rfl)) _) ?_
        refine AOps.nil ?_
        refine hK13 _ ?_
        refine AW.ret ?_
        exact retf1 (P := Try.prog) (fun (r : Int) => .r (.int .i64 r)) (he1 _ (hx1 _ (Option.some.inj h8).symm)) (.inl rfl) (.t (.d rfl))
      · have h8 := ite_f hc3 h7
        refine AW.skip ?_
        refine hK7 _ ?_
        refine AW.region ?_
        refine ob1k h8 fun x7 ex7 h9 => ?_
        refine AOps.step rfl rfl rfl (OpQ.spec (ms_add rfl (.inl rfl) (.inl rfl) (fun _ => ex7)) _) ?_
        refine AOps.step rfl rfl rfl (OpQ.spec (sp_move rfl (.inl rfl)) _) ?_
        refine AOps.nil ?_
        exact NextQ1.mk h9 (vec [(i3 0)]) ((by exact Weak.cv ⟨.inl (.inl rfl), .inl (.inl rfl), .inl (.inl rfl), trivial⟩ trivial (Nat.le_refl _)))
  · have h3 := ite_f hc1 h2
    refine AW.exit ?_
    exact wK2 _ _ ((by exact Weak.cv trivial trivial (Nat.le_refl _))) (J1 _ (vec [(i3 0)]) (hx1 _ (Option.some.inj h3).symm))
set_option maxHeartbeats 4000000 in
set_option maxRecDepth 20000 in
theorem w_ref_Where {units1 : List Int} {row1 : Int} {r : Int} (h : ref_Where units1 row1 = some r) : ARO Try.prog 115 [.r (.sl (units1.map (rInt .i64))), .r (.int .i64 row1)] (.r (.int .i64 r)) := by
  unfold ref_Where at h
  refine ARO.mkF Try.func115 rfl rfl Try.ntmps115 rfl (Nat.le_of_ble_eq_true rfl) fun n0 => ?_
  refine AW.seq_w fun K1 hK1 wK1 => ?_
  refine AW.region ?_
  refine AOps.step rfl rfl rfl (OpQ.spec (sp_assign rfl (.inl rfl)) _) ?_
  refine AOps.nil ?_
  refine hK1 _ ?_
  refine AW.seq_w fun K2 hK2 wK2 => ?_
  refine AW.region ?_
  refine AOps.step rfl rfl rfl (OpQ.spec (sp_move rfl (.inl rfl)) _) ?_
  refine ob2k h fun r1 r2 er1 h1 => ?_
  refine AOps.step rfl rfl rfl (sp_callS (r := .tup [.r (.sl (r1.map (rInt .i64))), .r (.sl (r2.map (rInt .i64)))]) (caps := []) (bs := [.r (.sl (units1.map (rInt .i64)))]) rfl (.inl rfl) rfl ⟨.inl ⟨(.inl rfl), rfl⟩, trivial⟩ (fun _ => w_ref_Olds (er1))) ?_
  refine AOps.step rfl rfl rfl (OpQ.spec (sp_move rfl (.inl rfl)) _) ?_
  refine AOps.step rfl rfl rfl (OpQ.spec (sp_extract (a := .r (.sl (r1.map (rInt .i64)))) rfl (.inl rfl) rfl) _) ?_
  refine AOps.step rfl rfl rfl (OpQ.spec (sp_extract (a := .r (.sl (r2.map (rInt .i64)))) rfl (.inl rfl) rfl) _) ?_
  refine AOps.step rfl rfl rfl (OpQ.spec (sp_assign rfl (.inl rfl)) _) ?_
  refine AOps.step rfl rfl rfl (OpQ.spec (sp_assign rfl (.inl rfl)) _) ?_
  refine AOps.nil ?_
  refine hK2 _ ?_
  refine AW.seq_w fun K3 hK3 wK3 => ?_
  refine AW.seq_w fun K4 hK4 wK4 => ?_
  refine AW.region ?_
  refine AOps.step rfl rfl rfl (OpQ.spec (sp_move rfl (.inl rfl)) _) ?_
  refine AOps.step rfl rfl rfl (OpQ.spec (ms_len rfl tg_84.slice (.inl rfl)) _) ?_
  refine AOps.step rfl rfl rfl (OpQ.spec (sp_move rfl (.inl rfl)) _) ?_
  refine AOps.nil ?_
  refine hK4 _ ?_
  refine AW.block ?_
  refine jc1k h1 fun o1 hit1 hk1 he1 => ?_
  have J1 : ∀ (u2 : Unit) (i5 : Nat → Nat), o1 = .nrm u2 → K3 ⟨[], [], (i5 0), 26⟩ := by
    intro u2 i5 e
    have h2 := hk1 _ e
    refine hK3 _ ?_
    refine AW.seq_w fun K5 hK5 wK5 => ?_
    refine AW.region ?_
    refine AOps.step rfl rfl rfl (OpQ.spec (sp_assign rfl (.inl rfl)) _) ?_
    refine AOps.nil ?_
    refine hK5 _ ?_
    refine AW.ret ?_
    exact retf1 (P := Try.prog) (fun (r : Int) => .r (.int .i64 r)) h2 (.inl rfl) (.t (.d rfl))
  refine AW.iter1 (fun (x2 : Int) i3 => ⟨[(1, .r (.int .i64 row1)), (5, .r (.sl (r1.map (rInt .i64)))), (14, .r (.int .i64 (r1.length : Int))), (15, .r (.int .i64 x2))], [], (i3 0), 26⟩) (vec [n0]) hit1 ((by exact Weak.cv ⟨.inl (.inl rfl), .inl (.inl rfl), .inl (.inl rfl), .inl (.inl rfl), trivial⟩ trivial (Nat.le_refl _))) ?_
  intro x2 i3 v1 hv1 hx1
  have h3 : ref_Where_L1 row1 r1 x2 = some v1 := hv1; unfold ref_Where_L1 at h3
  refine AW.seq_w fun K6 hK6 wK6 => ?_
  refine AW.region ?_
  refine AOps.step rfl rfl rfl (OpQ.spec (sp_lss rfl (.inl rfl) (.inl rfl)) _) ?_
  refine AOps.nil ?_
  refine hK6 _ ?_
  refine AW.seq_w fun K7 hK7 wK7 => ?_
  refine AW.cond rfl (fun hc1 => ?_) (fun hc1 => ?_)
  · have h4 := ite_t hc1 h3
    refine AW.skip ?_
    refine hK7 _ ?_
    refine AW.seq_w fun K8 hK8 wK8 => ?_
    refine AW.block ?_
    refine AW.seq_w fun K9 hK9 wK9 => ?_
    refine AW.region ?_
    refine AOps.step rfl rfl rfl (OpQ.spec (sp_move rfl (.inl rfl)) _) ?_
    refine AOps.step rfl rfl rfl (OpQ.spec (sp_assign rfl (.inl rfl)) _) ?_
    refine AOps.nil ?_
    refine hK9 _ ?_
    refine AW.seq_w fun K10 hK10 wK10 => ?_
    refine AW.region ?_
    refine AOps.step rfl rfl rfl (OpQ.spec (sp_move rfl (.inl rfl)) _) ?_
    refine AOps.step rfl rfl rfl (OpQ.spec (sp_move rfl (.inl rfl)) _) ?_
    refine ob1k h4 fun x4 ex4 h5 => ?_
    refine AOps.step rfl rfl rfl (OpQ.spec (ms_idx rfl tg_84.slice (.inl rfl) (.inl rfl) (fun _ => rfl) (fun _ => ex4)) _) ?_
    refine AOps.step rfl rfl rfl (OpQ.spec (ms_load (d := .int .i64 x4) rfl ts_3 (.inl rfl) rfl) _) ?_
    refine AOps.step rfl rfl rfl (OpQ.spec (sp_move rfl (.inl rfl)) _) ?_
    refine AOps.step rfl rfl rfl (OpQ.spec (sp_eql rfl (.inl rfl) (.inl rfl)) _) ?_
    refine AOps.nil ?_
    refine hK10 _ ?_
    refine AW.cond rfl (fun hc2 => ?_) (fun hc2 => ?_)
    · have h6 := ite_t hc2 h5
      refine AW.seq_w fun K11 hK11 wK11 => ?_
      refine AW.weak (s' := ⟨[(7, .r (.int .i64 x2))], [], (i3 0), 26⟩) (by exact Weak.cv ⟨.inl (.inl rfl), trivial⟩ trivial (Nat.le_refl _)) ?_
      refine AW.region ?_
      refine AOps.step rfl rfl rfl (OpQ.spec (sp_move rfl (.inl rfl)) _) ?_
      refine AOps.step rfl rfl rfl (OpQ.spec (sp_assign rfl (.inl rfl)) _) ?_
      refine AOps.nil ?_
      refine hK11 _ ?_
      refine AW.ret ?_
      exact retf1 (P := Try.prog) (fun (r : Int) => .r (.int .i64 r)) (he1 _ (hx1 _ (Option.some.inj h6).symm)) (.inl rfl) (.t (.d rfl))
    · have h6 := ite_f hc2 h5
      refine AW.skip ?_
      refine hK8 _ ?_
      refine AW.weak (s' := ⟨[(1, .r (.int .i64 row1)), (5, .r (.sl (r1.map (rInt .i64)))), (14, .r (.int .i64 (r1.length : Int))), (15, .r (.int .i64 x2))], [], (i3 0), 26⟩) (by exact Weak.cv ⟨.inl (.inl rfl), .inl (.inl rfl), .inl (.inl rfl), .inl (.inl rfl), trivial⟩ trivial (Nat.le_refl _)) ?_
      refine AW.region ?_
      refine ob1k h6 fun x5 ex5 h7 => ?_
      refine AOps.step rfl rfl rfl (OpQ.spec (ms_add rfl (.inl rfl) (.inl rfl) (fun _ => ex5)) _) ?_
      refine AOps.step rfl rfl rfl (OpQ.spec (sp_move rfl (.inl rfl)) _) ?_
      refine AOps.nil ?_
      exact NextQ1.mk h7 (vec [(i3 0)]) ((by exact Weak.cv ⟨.inl (.inl rfl), .inl (.inl rfl), .inl (.inl rfl), .inl (.inl rfl), trivial⟩ trivial (Nat.le_refl _)))
  · have h4 := ite_f hc1 h3
    refine AW.exit ?_
    exact wK3 _ _ ((by exact Weak.cv trivial trivial (Nat.le_refl _))) (J1 _ (vec [(i3 0)]) (hx1 _ (Option.some.inj h4).symm))
set_option maxHeartbeats 4000000 in
set_option maxRecDepth 20000 in
theorem w_ref_RestOf {units1 : List Int} {from1 : Int} {to1 : Int} {r : Int × Int} (h : ref_RestOf units1 from1 to1 = some r) : ARO Try.prog 61 [.r (.sl (units1.map (rInt .i64))), .r (.int .i64 from1), .r (.int .i64 to1)] (.tup [.r (.int .i64 r.1), .r (.int .i64 r.2)]) := by
  unfold ref_RestOf at h
  refine ARO.mkF Try.func61 rfl rfl Try.ntmps61 rfl (Nat.le_of_ble_eq_true rfl) fun n0 => ?_
  refine AW.seq_w fun K1 hK1 wK1 => ?_
  refine AW.region ?_
  refine AOps.step rfl rfl rfl (OpQ.spec (sp_assign rfl (.inl rfl)) _) ?_
  refine AOps.step rfl rfl rfl (OpQ.spec (sp_assign rfl (.inl rfl)) _) ?_
  refine AOps.nil ?_
  refine hK1 _ ?_
  refine AW.seq_w fun K2 hK2 wK2 => ?_
  refine AW.region ?_
  refine AOps.step rfl rfl rfl (OpQ.spec (sp_assign rfl (.inl rfl)) _) ?_
  refine AOps.step rfl rfl rfl (OpQ.spec (sp_assign rfl (.inl rfl)) _) ?_
  refine AOps.nil ?_
  refine hK2 _ ?_
  refine AW.seq_w fun K3 hK3 wK3 => ?_
  refine AW.seq_w fun K4 hK4 wK4 => ?_
  refine AW.region ?_
  refine AOps.step rfl rfl rfl (OpQ.spec (sp_move rfl (.inl rfl)) _) ?_
  refine ob1k h fun row1 erow1 h1 => ?_
  refine AOps.step rfl rfl rfl (OpQ.spec (ms_sub rfl (.inl rfl) (.inl rfl) (fun _ => erow1)) _) ?_
  refine AOps.step rfl rfl rfl (OpQ.spec (sp_assign rfl (.inl rfl)) _) ?_
  refine AOps.nil ?_
  refine hK4 _ ?_
  refine AW.block ?_
  refine jb2k h1 fun o1 hit1 hk1 => ?_
  have J1 : ∀ (low4 : Int) (high4 : Int) (i5 : Nat → Nat), o1 = (low4, high4) → K3 ⟨[(8, .r (.int .i64 low4)), (9, .r (.int .i64 high4))], [], (i5 0), 31⟩ := by
    intro low4 high4 i5 e
    have h2 := hk1 _ _ e
    refine hK3 _ ?_
    refine AW.seq_w fun K5 hK5 wK5 => ?_
    refine AW.region ?_
    refine AOps.step rfl rfl rfl (OpQ.spec (sp_move rfl (.inl rfl)) _) ?_
    refine AOps.step rfl rfl rfl (OpQ.spec (sp_move rfl (.inl rfl)) _) ?_
    refine AOps.step rfl rfl rfl (OpQ.spec (sp_assign rfl (.inl rfl)) _) ?_
    refine AOps.step rfl rfl rfl (OpQ.spec (sp_assign rfl (.inl rfl)) _) ?_
    refine AOps.nil ?_
    refine hK5 _ ?_
    refine AW.ret ?_
    exact retf2 (P := Try.prog) (fun (r : Int × Int) => .r (.int .i64 r.1)) (fun (r : Int × Int) => .r (.int .i64 r.2)) h2 (.inl rfl) (.t (.d rfl)) (.t (.d rfl))
  refine AW.iter3 (fun (low2 : Int) (high2 : Int) (row3 : Int) i3 => ⟨[(0, .r (.sl (units1.map (rInt .i64)))), (1, .r (.int .i64 from1)), (8, .r (.int .i64 low2)), (9, .r (.int .i64 high2)), (10, .r (.int .i64 row3))], [], (i3 0), 31⟩) (vec [n0]) hit1 ((by exact Weak.cv ⟨.inl (.inl rfl), .inl (.inl rfl), .inl (.inl rfl), .inl (.inl rfl), .inl (.inl rfl), trivial⟩ trivial (Nat.le_refl _))) ?_
  intro low2 high2 row3 i3 v1 hv1 hx1
  have h3 : ref_RestOf_L1 units1 from1 low2 high2 row3 = some v1 := hv1; unfold ref_RestOf_L1 at h3
  refine AW.seq_w fun K6 hK6 wK6 => ?_
  refine AW.seq_w fun K7 hK7 wK7 => ?_
  refine AW.region ?_
  refine AOps.step rfl rfl rfl (OpQ.spec (sp_move rfl (.inl rfl)) _) ?_
  refine AOps.step rfl rfl rfl (OpQ.spec (sp_move rfl (.inl rfl)) _) ?_
  refine AOps.step rfl rfl rfl (OpQ.spec (sp_geq rfl (.inl rfl) (.inl rfl)) _) ?_
  refine AOps.nil ?_
  refine hK7 _ ?_
  refine AW.cond rfl (fun hc1 => ?_) (fun hc1 => ?_)
  · have h4 := ite_t hc1 h3
    refine AW.skip ?_
    refine hK6 _ ?_
    refine AW.seq_w fun K8 hK8 wK8 => ?_
    refine AW.block ?_
    refine jb2k h4 fun p1 hp1 hk2 => ?_
    have J2 : ∀ (low5 : Int) (high5 : Int) (i6 : Nat → Nat), p1 = (low5, high5) → K8 ⟨[(0, .r (.sl (units1.map (rInt .i64)))), (1, .r (.int .i64 from1)), (8, .r (.int .i64 low5)), (9, .r (.int .i64 high5)), (10, .r (.int .i64 row3))], [], (i6 0), 31⟩ := by
      intro low5 high5 i6 e
      have h5 := hk2 _ _ e
      refine hK8 _ ?_
      refine AW.region ?_
      refine AOps.step rfl rfl rfl (OpQ.spec (sp_move rfl (.inl rfl)) _) ?_
      refine ob1k h5 fun row5 erow5 h6 => ?_
      refine AOps.step rfl rfl rfl (OpQ.spec (ms_sub rfl (.inl rfl) (.inl rfl) (fun _ => erow5)) _) ?_
      refine AOps.step rfl rfl rfl (OpQ.spec (sp_assign rfl (.inl rfl)) _) ?_
      refine AOps.nil ?_
      exact NextQ3.mk h6 (vec [(i6 0)]) ((by exact Weak.cv ⟨.inl (.inl rfl), .inl (.inl rfl), .inl (.inl rfl), .inl (.inl rfl), .inl (.inl rfl), trivial⟩ trivial (Nat.le_refl _)))
    refine AW.seq_w fun K9 hK9 wK9 => ?_
    refine AW.region ?_
    refine AOps.step rfl rfl rfl (OpQ.spec (sp_move rfl (.inl rfl)) _) ?_
    refine AOps.step rfl rfl rfl (OpQ.spec (sp_move rfl (.inl rfl)) _) ?_
    refine ob1k hp1 fun k1 ek1 h7 => ?_
    refine AOps.step rfl rfl rfl (sp_call (r := .r (.int .i64 k1)) (caps := []) (bs := [.r (.sl (units1.map (rInt .i64))), .r (.int .i64 row3)]) rfl (.inl rfl) rfl ⟨⟨_, (.inl rfl), .d rfl⟩, ⟨_, (.inl rfl), .d rfl⟩, trivial⟩ (fun _ => w_ref_Where (ek1)) rfl) ?_
    refine AOps.step rfl rfl rfl (OpQ.spec (sp_assign rfl (.inl rfl)) _) ?_
    refine AOps.nil ?_
    refine hK9 _ ?_
    refine AW.seq_w fun K10 hK10 wK10 => ?_
    refine AW.region ?_
    refine AOps.step rfl rfl rfl (OpQ.spec (sp_move rfl (.inl rfl)) _) ?_
    refine AOps.step rfl rfl rfl (OpQ.spec (sp_geq rfl (.inl rfl) (.inl rfl)) _) ?_
    refine AOps.nil ?_
    refine hK10 _ ?_
    refine AW.cond rfl (fun hc2 => ?_) (fun hc2 => ?_)
    · have h8 := ite_t hc2 h7
      refine AW.seq_w fun K11 hK11 wK11 => ?_
      refine AW.weak (s' := ⟨[(0, .r (.sl (units1.map (rInt .i64)))), (1, .r (.int .i64 from1)), (9, .r (.int .i64 high2)), (10, .r (.int .i64 row3)), (11, .r (.int .i64 k1))], [], (i3 0), 31⟩) (by exact Weak.cv ⟨.inl (.inl rfl), .inl (.inl rfl), .inl (.inl rfl), .inl (.inl rfl), .inl (.inl rfl), trivial⟩ trivial (Nat.le_refl _)) ?_
      refine AW.region ?_
      refine AOps.step rfl rfl rfl (OpQ.spec (sp_move rfl (.inl rfl)) _) ?_
      refine AOps.step rfl rfl rfl (OpQ.spec (sp_assign rfl (.inl rfl)) _) ?_
      refine AOps.nil ?_
      refine hK11 _ ?_
      refine AW.seq_w fun K12 hK12 wK12 => ?_
      refine AW.region ?_
      refine AOps.step rfl rfl rfl (OpQ.spec (sp_move rfl (.inl rfl)) _) ?_
      refine AOps.step rfl rfl rfl (OpQ.spec (sp_eql rfl (.inl rfl) (.inl rfl)) _) ?_
      refine AOps.nil ?_
      refine hK12 _ ?_
      refine AW.cond rfl (fun hc3 => ?_) (fun hc3 => ?_)
      · have h9 := ite_t hc3 h8
        refine AW.region ?_
        refine AOps.step rfl rfl rfl (OpQ.spec (sp_move rfl (.inl rfl)) _) ?_
        refine ob1k h9 fun high6 ehigh6 h10 => ?_
        refine AOps.step rfl rfl rfl (OpQ.spec (ms_add rfl (.inl rfl) (.inl rfl) (fun _ => ehigh6)) _) ?_
        refine AOps.step rfl rfl rfl (OpQ.spec (sp_assign rfl (.inl rfl)) _) ?_
        refine AOps.nil ?_
        exact wK8 _ _ ((by exact Weak.cv ⟨.inl (.inl rfl), .inl (.inl rfl), .inl (.inl rfl), .inl (.inl rfl), .inl (.inl rfl), trivial⟩ trivial (Nat.le_refl _))) (J2 _ _ (vec [(i3 0)]) (Option.some.inj h10).symm)
      · have h9 := ite_f hc3 h8
        refine AW.skip ?_
        exact wK8 _ _ ((by exact Weak.cv ⟨.inl (.inl rfl), .inl (.inl rfl), .inl (.inl rfl), .inl (.inl rfl), .inl (.inl rfl), trivial⟩ trivial (Nat.le_refl _))) (J2 _ _ (vec [(i3 0)]) (Option.some.inj h9).symm)
    · have h8 := ite_f hc2 h7
      refine AW.skip ?_
      exact wK8 _ _ ((by exact Weak.cv ⟨.inl (.inl rfl), .inl (.inl rfl), .inl (.inl rfl), .inl (.inl rfl), .inl (.inl rfl), trivial⟩ trivial (Nat.le_refl _))) (J2 _ _ (vec [(i3 0)]) (Option.some.inj h8).symm)
  · have h4 := ite_f hc1 h3
    refine AW.exit ?_
    exact wK3 _ _ ((by exact Weak.cv ⟨.inl (.inl rfl), .inl (.inl rfl), trivial⟩ trivial (Nat.le_refl _))) (J1 _ _ (vec [(i3 0)]) (hx1 _ (Option.some.inj h4).symm))
set_option maxHeartbeats 4000000 in
set_option maxRecDepth 20000 in
theorem w_axis_Rest {a1 : List GAxisStep} {from1 : Int} {to1 : Int} {r : Int × Int × Int} (h : axis_Rest a1 from1 to1 = some r) : ARO Try.prog 116 [.r (.sl (a1.map GAxisStep.row)), .r (.int .i64 from1), .r (.int .i64 to1)] (.tup [.r (.int .i64 r.1), .r (.int .i64 r.2.1), .r (.int .i64 r.2.2)]) := by
  unfold axis_Rest at h
  refine ARO.mkF Try.func116 rfl rfl Try.ntmps116 rfl (Nat.le_of_ble_eq_true rfl) fun n0 => ?_
  refine AW.seq_w fun K1 hK1 wK1 => ?_
  refine AW.region ?_
  refine AOps.step rfl rfl rfl (OpQ.spec (sp_assign rfl (.inl rfl)) _) ?_
  refine AOps.step rfl rfl rfl (OpQ.spec (sp_assign rfl (.inl rfl)) _) ?_
  refine AOps.step rfl rfl rfl (OpQ.spec (sp_assign rfl (.inl rfl)) _) ?_
  refine AOps.nil ?_
  refine hK1 _ ?_
  refine AW.seq_w fun K2 hK2 wK2 => ?_
  refine AW.seq_w fun K3 hK3 wK3 => ?_
  refine AW.region ?_
  refine AOps.step rfl rfl rfl (OpQ.spec (sp_move rfl (.inl rfl)) _) ?_
  refine ob1k h fun e1 ee1 h1 => ?_
  refine AOps.step rfl rfl rfl (sp_call (r := .r (.int .i64 e1)) (caps := []) (bs := [.r (.sl (a1.map GAxisStep.row))]) rfl (.inl rfl) rfl ⟨⟨_, (.inl rfl), .d rfl⟩, trivial⟩ (fun _ => w_axis_Check (ee1)) rfl) ?_
  refine AOps.step rfl rfl rfl (OpQ.spec (sp_assign rfl (.inl rfl)) _) ?_
  refine AOps.nil ?_
  refine hK3 _ ?_
  refine AW.seq_w fun K4 hK4 wK4 => ?_
  refine AW.region ?_
  refine AOps.step rfl rfl rfl (OpQ.spec (sp_move rfl (.inl rfl)) _) ?_
  refine AOps.step rfl rfl rfl (OpQ.spec (sp_neq rfl (.inl rfl) (.inl rfl)) _) ?_
  refine AOps.nil ?_
  refine hK4 _ ?_
  refine AW.cond rfl (fun hc1 => ?_) (fun hc1 => ?_)
  · have h2 := ite_t hc1 h1
    refine AW.seq_w fun K5 hK5 wK5 => ?_
    refine AW.weak (s' := ⟨[(9, .r (.int .i64 e1))], [], n0, 45⟩) (by exact Weak.cv ⟨.inl (.inl rfl), trivial⟩ trivial (Nat.le_refl _)) ?_
    refine AW.region ?_
    refine AOps.step rfl rfl rfl (OpQ.spec (sp_move rfl (.inl rfl)) _) ?_
    refine AOps.step rfl rfl rfl (OpQ.spec (sp_assign rfl (.inl rfl)) _) ?_
    refine AOps.step rfl rfl rfl (OpQ.spec (sp_assign rfl (.inl rfl)) _) ?_
    refine AOps.step rfl rfl rfl (OpQ.spec (sp_assign rfl (.inl rfl)) _) ?_
    refine AOps.nil ?_
    refine hK5 _ ?_
    refine AW.ret ?_
    exact retf3 (P := Try.prog) (fun (r : Int × Int × Int) => .r (.int .i64 r.1)) (fun (r : Int × Int × Int) => .r (.int .i64 r.2.1)) (fun (r : Int × Int × Int) => .r (.int .i64 r.2.2)) h2 (.inl rfl) (.t (.d rfl)) (.t (.d rfl)) (.t (.d rfl))
  · have h2 := ite_f hc1 h1
    refine AW.skip ?_
    refine hK2 _ ?_
    refine AW.seq_w fun K6 hK6 wK6 => ?_
    refine AW.seq_w fun K7 hK7 wK7 => ?_
    refine AW.region ?_
    refine AOps.step rfl rfl rfl (OpQ.spec (sp_move rfl (.inl rfl)) _) ?_
    refine ob2k h2 fun r1 r2 er1 h3 => ?_
    refine AOps.step rfl rfl rfl (sp_call (r := .tup [.r (.int .i64 r1), .r (.int .i64 r2)]) (caps := []) (bs := [.r (.sl (a1.map GAxisStep.row))]) rfl (.inl rfl) rfl ⟨⟨_, (.inl rfl), .d rfl⟩, trivial⟩ (fun _ => w_axis_lengths (er1)) rfl) ?_
    refine AOps.step rfl rfl rfl (OpQ.spec (sp_move rfl (.inl rfl)) _) ?_
    refine AOps.step rfl rfl rfl (OpQ.spec (sp_extract (a := .r (.int .i64 r1)) rfl (.inl rfl) rfl) _) ?_
    refine AOps.step rfl rfl rfl (OpQ.spec (sp_extract (a := .r (.int .i64 r2)) rfl (.inl rfl) rfl) _) ?_
    refine AOps.step rfl rfl rfl (OpQ.spec (sp_assign rfl (.inl rfl)) _) ?_
    refine AOps.step rfl rfl rfl (OpQ.spec (sp_assign rfl (.inl rfl)) _) ?_
    refine AOps.nil ?_
    refine hK7 _ ?_
    refine AW.seq_w fun K8 hK8 wK8 => ?_
    refine AW.weak (s' := ⟨[(0, .r (.sl (a1.map GAxisStep.row))), (1, .r (.int .i64 from1)), (2, .r (.int .i64 to1)), (10, .r (.int .i64 r1))], [], n0, 45⟩) (by exact Weak.cv ⟨.inl (.inl rfl), .inl (.inl rfl), .inl (.inl rfl), .inl (.inl rfl), trivial⟩ trivial (Nat.le_refl _)) ?_
    refine AW.region ?_
    refine AOps.step rfl rfl rfl (OpQ.spec (sp_move rfl (.inl rfl)) _) ?_
    refine AOps.step rfl rfl rfl (OpQ.spec (sp_lss rfl (.inl rfl) (.inl rfl)) _) ?_
    refine AOps.step rfl rfl rfl (OpQ.spec (sp_move rfl (.inl rfl)) _) ?_
    refine AOps.stepW (.one rfl rfl rfl) rfl rfl (OpQ.spec (sp_move rfl (.inl rfl)) _) ?_
    refine AOps.stepW (.one rfl rfl rfl) rfl rfl (OpQ.spec (sp_move rfl (.inl rfl)) _) ?_
    refine AOps.stepW (.one rfl rfl rfl) rfl rfl (OpQ.spec (sp_lss rfl (.inr ⟨_, (by exact id), rfl⟩) (.inr ⟨_, (by exact id), rfl⟩)) _) ?_
    refine AOps.step rfl rfl rfl (OpQ.spec (sp_or rfl (.inl rfl) (.inr ⟨_, (by exact id), rfl⟩)) _) ?_
    refine AOps.step rfl rfl rfl (OpQ.spec (sp_move rfl (.inl rfl)) _) ?_
    refine AOps.stepW (.one rfl rfl rfl) rfl rfl (OpQ.spec (sp_move rfl (.inl rfl)) _) ?_
    refine AOps.stepW (.one rfl rfl rfl) rfl rfl (OpQ.spec (sp_move rfl (.inl rfl)) _) ?_
    refine AOps.stepW (.one rfl rfl rfl) rfl rfl (OpQ.spec (sp_gtr rfl (.inr ⟨_, (by exact id), rfl⟩) (.inr ⟨_, (by exact id), rfl⟩)) _) ?_
    refine AOps.step rfl rfl rfl (OpQ.spec (sp_or rfl (.inl rfl) (.inr ⟨_, (by exact id), rfl⟩)) _) ?_
    refine AOps.nil ?_
    refine hK8 _ ?_
    refine AW.cond rfl (fun hc2 => ?_) (fun hc2 => ?_)
    · have h4 := ite_t hc2 h3
      refine AW.seq_w fun K9 hK9 wK9 => ?_
      refine AW.weak (s' := ⟨[], [], n0, 45⟩) (by exact Weak.cv trivial trivial (Nat.le_refl _)) ?_
      refine AW.region ?_
      refine AOps.step rfl rfl rfl (OpQ.spec (sp_assign rfl (.inl rfl)) _) ?_
      refine AOps.step rfl rfl rfl (OpQ.spec (sp_assign rfl (.inl rfl)) _) ?_
      refine AOps.step rfl rfl rfl (OpQ.spec (sp_assign rfl (.inl rfl)) _) ?_
      refine AOps.nil ?_
      refine hK9 _ ?_
      refine AW.ret ?_
      exact retf3 (P := Try.prog) (fun (r : Int × Int × Int) => .r (.int .i64 r.1)) (fun (r : Int × Int × Int) => .r (.int .i64 r.2.1)) (fun (r : Int × Int × Int) => .r (.int .i64 r.2.2)) h4 (.inl rfl) (.t (.d rfl)) (.t (.d rfl)) (.t (.d rfl))
    · have h4 := ite_f hc2 h3
      refine AW.skip ?_
      refine hK6 _ ?_
      refine AW.seq_w fun K10 hK10 wK10 => ?_
      refine AW.weak (s' := ⟨[(0, .r (.sl (a1.map GAxisStep.row))), (1, .r (.int .i64 from1)), (2, .r (.int .i64 to1))], [], n0, 45⟩) (by exact Weak.cv ⟨.inl (.inl rfl), .inl (.inl rfl), .inl (.inl rfl), trivial⟩ trivial (Nat.le_refl _)) ?_
      refine AW.region ?_
      refine AOps.step rfl rfl rfl (OpQ.spec (sp_move rfl (.inl rfl)) _) ?_
      refine AOps.step rfl rfl rfl (OpQ.spec (sp_move rfl (.inl rfl)) _) ?_
      refine AOps.step rfl rfl rfl (OpQ.spec (sp_move rfl (.inl rfl)) _) ?_
      refine ob2k h4 fun r3 r4 er3 h5 => ?_
      refine AOps.step rfl rfl rfl (sp_call (r := .tup [.r (.int .i64 r3), .r (.int .i64 r4)]) (caps := []) (bs := [.r (.sl (a1.map GAxisStep.row)), .r (.int .i64 from1), .r (.int .i64 to1)]) rfl (.inl rfl) rfl ⟨⟨_, (.inl rfl), .d rfl⟩, ⟨_, (.inl rfl), .d rfl⟩, ⟨_, (.inl rfl), .d rfl⟩, trivial⟩ (fun _ => w_axis_Hull (er3)) rfl) ?_
      refine AOps.step rfl rfl rfl (OpQ.spec (sp_move rfl (.inl rfl)) _) ?_
      refine AOps.step rfl rfl rfl (OpQ.spec (sp_extract (a := .r (.int .i64 r3)) rfl (.inl rfl) rfl) _) ?_
      refine AOps.step rfl rfl rfl (OpQ.spec (sp_extract (a := .r (.int .i64 r4)) rfl (.inl rfl) rfl) _) ?_
      refine AOps.step rfl rfl rfl (OpQ.spec (sp_assign rfl (.inl rfl)) _) ?_
      refine AOps.step rfl rfl rfl (OpQ.spec (sp_assign rfl (.inl rfl)) _) ?_
      refine AOps.nil ?_
      refine hK10 _ ?_
      refine AW.seq_w fun K11 hK11 wK11 => ?_
      refine AW.weak (s' := ⟨[(12, .r (.int .i64 r3)), (13, .r (.int .i64 r4))], [], n0, 45⟩) (by exact Weak.cv ⟨.inl (.inl rfl), .inl (.inl rfl), trivial⟩ trivial (Nat.le_refl _)) ?_
      refine AW.region ?_
      refine AOps.step rfl rfl rfl (OpQ.spec (sp_move rfl (.inl rfl)) _) ?_
      refine AOps.step rfl rfl rfl (OpQ.spec (sp_move rfl (.inl rfl)) _) ?_
      refine AOps.step rfl rfl rfl (OpQ.spec (sp_assign rfl (.inl rfl)) _) ?_
      refine AOps.step rfl rfl rfl (OpQ.spec (sp_assign rfl (.inl rfl)) _) ?_
      refine AOps.step rfl rfl rfl (OpQ.spec (sp_assign rfl (.inl rfl)) _) ?_
      refine AOps.nil ?_
      refine hK11 _ ?_
      refine AW.ret ?_
      exact retf3 (P := Try.prog) (fun (r : Int × Int × Int) => .r (.int .i64 r.1)) (fun (r : Int × Int × Int) => .r (.int .i64 r.2.1)) (fun (r : Int × Int × Int) => .r (.int .i64 r.2.2)) h5 (.inl rfl) (.t (.d rfl)) (.t (.d rfl)) (.t (.d rfl))
set_option maxHeartbeats 4000000 in
set_option maxRecDepth 20000 in
theorem w_span_Range {d1 : List GStep} {s1 : GSpan} {r : GSpan × Int} (h : span_Range d1 s1 = some r) : ARO Try.prog 62 [.r (.sl (d1.map GStep.row)), .agg [.r (.int .i64 s1.From), .r (.int .i64 s1.To)]] (.tup [.agg [.r (.int .i64 r.1.From), .r (.int .i64 r.1.To)], .r (.int .i64 r.2)]) := by
  unfold span_Range at h
  refine ARO.mkF Try.func62 rfl rfl Try.ntmps62 rfl (Nat.le_of_ble_eq_true rfl) fun n0 => ?_
  refine AW.seq_w fun K1 hK1 wK1 => ?_
  refine AW.region ?_
  refine AOps.step rfl rfl rfl (ms_box (cs := [.r (.int .i64 s1.From), .r (.int .i64 s1.To)]) 3 rfl (.inl rfl) rfl rfl) ?_
  refine AOps.step rfl rfl rfl (ms_alloc (cs := [.r (.int .i64 0), .r (.int .i64 0)]) 4 rfl t0_90 rfl rfl) ?_
  refine AOps.step rfl rfl rfl (OpQ.spec (sp_assign rfl (.inl rfl)) _) ?_
  refine AOps.nil ?_
  refine hK1 _ ?_
  refine AW.seq_w fun K2 hK2 wK2 => ?_
  refine AW.region ?_
  refine AOps.step rfl rfl rfl (OpQ.spec (sp_move rfl (.inl rfl)) _) ?_
  refine ob2k h fun r1 r2 er1 h1 => ?_
  refine AOps.step rfl rfl rfl (sp_callS (r := .tup [.r (.sl (r1.map GAxisStep.row)), .r (.int .i64 r2)]) (caps := []) (bs := [.r (.sl (d1.map GStep.row))]) rfl (.inl rfl) rfl ⟨.inl ⟨(.inl rfl), rfl⟩, trivial⟩ (fun _ => w_delta_Axis (er1))) ?_
  refine AOps.step rfl rfl rfl (OpQ.spec (sp_move rfl (.inl rfl)) _) ?_
  refine AOps.step rfl rfl rfl (OpQ.spec (sp_extract (a := .r (.sl (r1.map GAxisStep.row))) rfl (.inl rfl) rfl) _) ?_
  refine AOps.step rfl rfl rfl (OpQ.spec (sp_extract (a := .r (.int .i64 r2)) rfl (.inl rfl) rfl) _) ?_
  refine AOps.step rfl rfl rfl (OpQ.spec (sp_assign rfl (.inl rfl)) _) ?_
  refine AOps.step rfl rfl rfl (OpQ.spec (sp_assign rfl (.inl rfl)) _) ?_
  refine AOps.nil ?_
  refine hK2 _ ?_
  refine AW.seq_w fun K3 hK3 wK3 => ?_
  refine AW.seq_w fun K4 hK4 wK4 => ?_
  refine AW.region ?_
  refine AOps.step rfl rfl rfl (OpQ.spec (sp_move rfl (.inl rfl)) _) ?_
  refine AOps.step rfl rfl rfl (OpQ.spec (sp_neq rfl (.inl rfl) (.inl rfl)) _) ?_
  refine AOps.nil ?_
  refine hK4 _ ?_
  refine AW.cond rfl (fun hc1 => ?_) (fun hc1 => ?_)
  · have h2 := ite_t hc1 h1
    refine AW.seq_w fun K5 hK5 wK5 => ?_
    refine AW.weak (s' := ⟨[(4, .ptr 4 (n0 + 1) 0 0), (7, .r (.int .i64 r2))], [(4, some (.box (n0 + 1) 90 [.r (.int .i64 0), .r (.int .i64 0)]))], (n0 + 2), 33⟩) (by exact Weak.cv ⟨.inl (.inl rfl), .inl (.inl rfl), trivial⟩ ⟨.inl rfl, trivial⟩ (Nat.le_refl _)) ?_
    refine AW.region ?_
    refine AOps.step rfl rfl rfl (OpQ.spec (sp_build rfl tb_90 (q := []) (by exact trivial) (cs := [.r (.int .i64 0), .r (.int .i64 0)]) (by rfl)) _) ?_
    refine AOps.step rfl rfl rfl (OpQ.spec (sp_move rfl (.inl rfl)) _) ?_
    refine AOps.step0 rfl rfl (ms_store_box (ds := [.r (.int .i64 0), .r (.int .i64 0)]) rfl tz_90 (.inl rfl) rfl (.inl rfl) rfl rfl rfl rfl) ?_
    refine AOps.step rfl rfl rfl (OpQ.spec (sp_assign rfl (.inl rfl)) _) ?_
    refine AOps.nil ?_
    refine hK5 _ ?_
    refine AW.ret ?_
    exact retf2 (P := Try.prog) (fun (r : GSpan × Int) => .agg [.r (.int .i64 r.1.From), .r (.int .i64 r.1.To)]) (fun (r : GSpan × Int) => .r (.int .i64 r.2)) h2 (.inl rfl) (.a ta_90 rfl rfl rfl (.g (cs := [.int .i64 0, .int .i64 0]) rfl rfl)) (.t (.d rfl))
  · have h2 := ite_f hc1 h1
    refine AW.skip ?_
    refine hK3 _ ?_
    refine AW.seq_w fun K6 hK6 wK6 => ?_
    refine AW.weak (s' := ⟨[(3, .ptr 3 n0 0 0), (4, .ptr 4 (n0 + 1) 0 0), (6, .r (.sl (r1.map GAxisStep.row)))], [(3, some (.box n0 90 [.r (.int .i64 s1.From), .r (.int .i64 s1.To)])), (4, some (.box (n0 + 1) 90 [.r (.int .i64 0), .r (.int .i64 0)]))], (n0 + 2), 33⟩) (by exact Weak.cv ⟨.inl (.inl rfl), .inl (.inl rfl), .inl (.inl rfl), trivial⟩ ⟨.inl rfl, .inl rfl, trivial⟩ (Nat.le_refl _)) ?_
    refine AW.region ?_
    refine AOps.step rfl rfl rfl (OpQ.spec (sp_move rfl (.inl rfl)) _) ?_
    refine AOps.step rfl rfl rfl (OpQ.spec (sp_fieldAddr_own (ob := .box _ _ _) rfl tf_90_0 (.inl rfl) (fun _ => rfl) rfl) _) ?_
    refine AOps.step rfl rfl rfl (OpQ.spec (ms_load_box (a := .r (.int .i64 s1.From)) rfl ts_3 (.inl rfl) rfl rfl) _) ?_
    refine AOps.step rfl rfl rfl (OpQ.spec (sp_fieldAddr_own (ob := .box _ _ _) rfl tf_90_1 (.inl rfl) (fun _ => rfl) rfl) _) ?_
    refine AOps.step rfl rfl rfl (OpQ.spec (ms_load_box (a := .r (.int .i64 s1.To)) rfl ts_3 (.inl rfl) rfl rfl) _) ?_
    refine ob3k h2 fun r3 r4 r5 er3 h3 => ?_
    refine AOps.step rfl rfl rfl (sp_call (r := .tup [.r (.int .i64 r3), .r (.int .i64 r4), .r (.int .i64 r5)]) (caps := []) (bs := [.r (.sl (r1.map GAxisStep.row)), .r (.int .i64 s1.From), .r (.int .i64 s1.To)]) rfl (.inl rfl) rfl ⟨⟨_, (.inl rfl), .d rfl⟩, ⟨_, (.inl rfl), .d rfl⟩, ⟨_, (.inl rfl), .d rfl⟩, trivial⟩ (fun _ => w_axis_Rest (er3)) rfl) ?_
    refine AOps.step rfl rfl rfl (OpQ.spec (sp_move rfl (.inl rfl)) _) ?_
    refine AOps.step rfl rfl rfl (OpQ.spec (sp_extract (a := .r (.int .i64 r3)) rfl (.inl rfl) rfl) _) ?_
    refine AOps.step rfl rfl rfl (OpQ.spec (sp_extract (a := .r (.int .i64 r4)) rfl (.inl rfl) rfl) _) ?_
    refine AOps.step rfl rfl rfl (OpQ.spec (sp_extract (a := .r (.int .i64 r5)) rfl (.inl rfl) rfl) _) ?_
    refine AOps.step rfl rfl rfl (OpQ.spec (sp_assign rfl (.inl rfl)) _) ?_
    refine AOps.step rfl rfl rfl (OpQ.spec (sp_assign rfl (.inl rfl)) _) ?_
    refine AOps.step rfl rfl rfl (OpQ.spec (sp_assign rfl (.inl rfl)) _) ?_
    refine AOps.nil ?_
    refine hK6 _ ?_
    refine AW.seq_w fun K7 hK7 wK7 => ?_
    refine AW.weak (s' := ⟨[(4, .ptr 4 (n0 + 1) 0 0), (7, .r (.int .i64 r5)), (8, .r (.int .i64 r3)), (9, .r (.int .i64 r4))], [(4, some (.box (n0 + 1) 90 [.r (.int .i64 0), .r (.int .i64 0)]))], (n0 + 2), 33⟩) (by exact Weak.cv ⟨.inl (.inl rfl), .inl (.inl rfl), .inl (.inl rfl), .inl (.inl rfl), trivial⟩ ⟨.inl rfl, trivial⟩ (Nat.le_refl _)) ?_
    refine AW.region ?_
    refine AOps.step rfl rfl rfl (OpQ.spec (sp_move rfl (.inl rfl)) _) ?_
    refine AOps.step rfl rfl rfl (OpQ.spec (sp_move rfl (.inl rfl)) _) ?_
    refine AOps.step rfl rfl rfl (OpQ.spec (sp_build rfl tb_90 (q := [(0, _), (1, _)]) (by exact ⟨rfl, rfl, rfl, (.inl rfl), rfl, rfl, rfl, (.inl rfl), trivial⟩) (cs := [.r (.int .i64 r3), .r (.int .i64 r4)]) (by rfl)) _) ?_
    refine AOps.step rfl rfl rfl (OpQ.spec (sp_move rfl (.inl rfl)) _) ?_
    refine AOps.step0 rfl rfl (ms_store_box (ds := [.r (.int .i64 r3), .r (.int .i64 r4)]) rfl tz_90 (.inl rfl) rfl (.inl rfl) rfl rfl rfl rfl) ?_
    refine AOps.step rfl rfl rfl (OpQ.spec (sp_assign rfl (.inl rfl)) _) ?_
    refine AOps.nil ?_
    refine hK7 _ ?_
    refine AW.ret ?_
    exact retf2 (P := Try.prog) (fun (r : GSpan × Int) => .agg [.r (.int .i64 r.1.From), .r (.int .i64 r.1.To)]) (fun (r : GSpan × Int) => .r (.int .i64 r.2)) h3 (.inl rfl) (.a ta_90 rfl rfl rfl (.g (cs := [.int .i64 r3, .int .i64 r4]) rfl rfl)) (.t (.d rfl))
set_option maxHeartbeats 4000000 in
set_option maxRecDepth 20000 in
theorem w_law_SpanThroughMatches {d1 : List GStep} {l1 : List GSpan} {at1 : Int} {right1 : Bool} {r : Bool} (h : law_SpanThroughMatches d1 l1 at1 right1 = some r) : ARO Try.prog 11 [.r (.sl (d1.map GStep.row)), .r (.sl (l1.map GSpan.row)), .r (.int .i64 at1), .r (.bool right1)] (.r (.bool r)) := by
  unfold law_SpanThroughMatches at h
  refine ARO.mkF Try.func11 rfl rfl Try.ntmps11 rfl (Nat.le_of_ble_eq_true rfl) fun n0 => ?_
  refine AW.seq_w fun K1 hK1 wK1 => ?_
  refine AW.region ?_
  refine AOps.step rfl rfl rfl (OpQ.spec (sp_assign rfl (.inl rfl)) _) ?_
  refine AOps.nil ?_
  refine hK1 _ ?_
  refine AW.seq_w fun K2 hK2 wK2 => ?_
  refine AW.seq_w fun K3 hK3 wK3 => ?_
  refine AW.region ?_
  refine ob1k h fun r1 er1 h1 => ?_
  refine AOps.step rfl rfl rfl (sp_call (r := .r (.bool r1)) (caps := []) (bs := []) rfl (.inl rfl) rfl trivial (fun _ => w_law_spans (er1)) rfl) ?_
  refine AOps.step rfl rfl rfl (OpQ.spec (sp_not rfl (.inl rfl)) _) ?_
  refine AOps.step rfl rfl rfl (OpQ.spec (sp_move rfl (.inl rfl)) _) ?_
  refine ob1k h1 fun r2 er2 h2 => ?_
  refine AOps.stepW (.one rfl rfl rfl) rfl rfl (sp_call (r := .r (.bool r2)) (caps := []) (bs := []) rfl (.inl rfl) rfl trivial (fun hg => w_law_deltas (gdt er2 hg)) rfl) ?_
  refine AOps.stepW (.one rfl rfl rfl) rfl rfl (OpQ.spec (sp_not rfl (.inr ⟨_, (by exact id), rfl⟩)) _) ?_
  refine AOps.step rfl rfl rfl (OpQ.spec (sp_or rfl (.inl rfl) (.inr ⟨_, (by exact id), rfl⟩)) _) ?_
  refine AOps.nil ?_
  refine hK3 _ ?_
  refine AW.cond rfl (fun hc1 => ?_) (fun hc1 => ?_)
  · have h3 := ite_t hc1 h2
    refine AW.seq_w fun K4 hK4 wK4 => ?_
    refine AW.weak (s' := ⟨[], [], n0, 215⟩) (by exact Weak.cv trivial trivial (Nat.le_refl _)) ?_
    refine AW.region ?_
    refine AOps.step rfl rfl rfl (OpQ.spec (sp_assign rfl (.inl rfl)) _) ?_
    refine AOps.nil ?_
    refine hK4 _ ?_
    refine AW.ret ?_
    exact retf1 (P := Try.prog) (fun (r : Bool) => .r (.bool r)) h3 (.inl rfl) (.t (.d rfl))
  · have h3 := ite_f hc1 h2
    refine AW.skip ?_
    refine hK2 _ ?_
    refine AW.seq_w fun K5 hK5 wK5 => ?_
    refine AW.region ?_
    refine AOps.step rfl rfl rfl (OpQ.spec (sp_move rfl (.inl rfl)) _) ?_
    refine AOps.step rfl rfl rfl (OpQ.spec (sp_move rfl (.inl rfl)) _) ?_
    refine AOps.step rfl rfl rfl (OpQ.spec (sp_move rfl (.inl rfl)) _) ?_
    refine ob2k h3 fun r3 r4 er3 h4 => ?_
    refine AOps.step rfl rfl rfl (sp_call (r := .tup [.r (.int .i64 r3), .r (.int .i64 r4)]) (caps := []) (bs := [.r (.sl (d1.map GStep.row)), .r (.int .i64 at1), .r (.bool right1)]) rfl (.inl rfl) rfl ⟨⟨_, (.inl rfl), .d rfl⟩, ⟨_, (.inl rfl), .d rfl⟩, ⟨_, (.inl rfl), .d rfl⟩, trivial⟩ (fun _ => w_span_Move (er3)) rfl) ?_
    refine AOps.step rfl rfl rfl (OpQ.spec (sp_move rfl (.inl rfl)) _) ?_
    refine AOps.step rfl rfl rfl (OpQ.spec (sp_extract (a := .r (.int .i64 r3)) rfl (.inl rfl) rfl) _) ?_
    refine AOps.step rfl rfl rfl (OpQ.spec (sp_extract (a := .r (.int .i64 r4)) rfl (.inl rfl) rfl) _) ?_
    refine AOps.step rfl rfl rfl (OpQ.spec (sp_assign rfl (.inl rfl)) _) ?_
    refine AOps.step rfl rfl rfl (OpQ.spec (sp_assign rfl (.inl rfl)) _) ?_
    refine AOps.nil ?_
    refine hK5 _ ?_
    refine AW.seq_w fun K6 hK6 wK6 => ?_
    refine AW.weak (s' := ⟨[(0, .r (.sl (d1.map GStep.row))), (1, .r (.sl (l1.map GSpan.row))), (2, .r (.int .i64 at1)), (3, .r (.bool right1)), (9, .r (.int .i64 r3)), (10, .r (.int .i64 r4))], [], n0, 215⟩) (by exact Weak.cv ⟨.inl (.inl rfl), .inl (.inl rfl), .inl (.inl rfl), .inl (.inl rfl), .inl (.inl rfl), .inl (.inl rfl), trivial⟩ trivial (Nat.le_refl _)) ?_
    refine AW.region ?_
    refine AOps.step rfl rfl rfl (OpQ.spec (sp_move rfl (.inl rfl)) _) ?_
    refine AOps.step rfl rfl rfl (OpQ.spec (sp_move rfl (.inl rfl)) _) ?_
    refine ob2k h4 fun r5 r6 er5 h5 => ?_
    refine AOps.step rfl rfl rfl (sp_callS (r := .tup [.r (.sl (r5.map GSpan.row)), .r (.int .i64 r6)]) (caps := []) (bs := [.r (.sl (d1.map GStep.row)), .r (.sl (l1.map GSpan.row))]) rfl (.inl rfl) rfl ⟨.inl ⟨(.inl rfl), rfl⟩, .inl ⟨(.inl rfl), rfl⟩, trivial⟩ (fun _ => w_span_Through (er5))) ?_
    refine AOps.step rfl rfl rfl (OpQ.spec (sp_move rfl (.inl rfl)) _) ?_
    refine AOps.step rfl rfl rfl (OpQ.spec (sp_extract (a := .r (.sl (r5.map GSpan.row))) rfl (.inl rfl) rfl) _) ?_
    refine AOps.step rfl rfl rfl (OpQ.spec (sp_extract (a := .r (.int .i64 r6)) rfl (.inl rfl) rfl) _) ?_
    refine AOps.step rfl rfl rfl (OpQ.spec (sp_assign rfl (.inl rfl)) _) ?_
    refine AOps.step rfl rfl rfl (OpQ.spec (sp_assign rfl (.inl rfl)) _) ?_
    refine AOps.nil ?_
    refine hK6 _ ?_
    refine AW.seq_w fun K7 hK7 wK7 => ?_
    refine AW.region ?_
    refine AOps.step rfl rfl rfl (OpQ.spec (sp_move rfl (.inl rfl)) _) ?_
    refine ob1k h5 fun f1 ef1 h6 => ?_
    refine AOps.step rfl rfl rfl (sp_call (r := .r (.int .i64 f1)) (caps := []) (bs := [.r (.sl (d1.map GStep.row))]) rfl (.inl rfl) rfl ⟨⟨_, (.inl rfl), .d rfl⟩, trivial⟩ (fun _ => w_ref_DeltaError (ef1)) rfl) ?_
    refine AOps.step rfl rfl rfl (OpQ.spec (sp_assign rfl (.inl rfl)) _) ?_
    refine AOps.nil ?_
    refine hK7 _ ?_
    refine AW.seq_w fun K8 hK8 wK8 => ?_
    refine AW.seq_w fun K9 hK9 wK9 => ?_
    refine AW.region ?_
    refine AOps.step rfl rfl rfl (OpQ.spec (sp_move rfl (.inl rfl)) _) ?_
    refine AOps.step rfl rfl rfl (OpQ.spec (sp_neq rfl (.inl rfl) (.inl rfl)) _) ?_
    refine AOps.nil ?_
    refine hK9 _ ?_
    refine AW.cond rfl (fun hc2 => ?_) (fun hc2 => ?_)
    · have h7 := ite_t hc2 h6
      refine AW.seq_w fun K10 hK10 wK10 => ?_
      refine AW.weak (s' := ⟨[(9, .r (.int .i64 r3)), (10, .r (.int .i64 r4)), (11, .r (.sl (r5.map GSpan.row))), (12, .r (.int .i64 r6)), (13, .r (.int .i64 f1))], [], n0, 215⟩) (by exact Weak.cv ⟨.inl (.inl rfl), .inl (.inl rfl), .inl (.inl rfl), .inl (.inl rfl), .inl (.inl rfl), trivial⟩ trivial (Nat.le_refl _)) ?_
      refine AW.region ?_
      refine AOps.step rfl rfl rfl (OpQ.spec (sp_move rfl (.inl rfl)) _) ?_
      refine AOps.step rfl rfl rfl (OpQ.spec (sp_move rfl (.inl rfl)) _) ?_
      refine AOps.step rfl rfl rfl (OpQ.spec (sp_eql rfl (.inl rfl) (.inl rfl)) _) ?_
      refine AOps.step rfl rfl rfl (OpQ.spec (sp_move rfl (.inl rfl)) _) ?_
      refine AOps.stepW (.one rfl rfl rfl) rfl rfl (OpQ.spec (sp_move rfl (.inl rfl)) _) ?_
      refine AOps.stepW (.one rfl rfl rfl) rfl rfl (OpQ.spec (sp_move rfl (.inl rfl)) _) ?_
      refine AOps.stepW (.one rfl rfl rfl) rfl rfl (OpQ.spec (sp_eql rfl (.inr ⟨_, (by exact id), rfl⟩) (.inr ⟨_, (by exact id), rfl⟩)) _) ?_
      refine AOps.step rfl rfl rfl (OpQ.spec (sp_and rfl (.inl rfl) (.inr ⟨_, (by exact id), rfl⟩)) _) ?_
      refine AOps.step rfl rfl rfl (OpQ.spec (sp_move rfl (.inl rfl)) _) ?_
      refine AOps.stepW (.one rfl rfl rfl) rfl rfl (OpQ.spec (sp_move rfl (.inl rfl)) _) ?_
      refine AOps.stepW (.one rfl rfl rfl) rfl rfl (OpQ.spec (sp_eql rfl (.inr ⟨_, (by exact id), rfl⟩) (.inl rfl)) _) ?_
      refine AOps.step rfl rfl rfl (OpQ.spec (sp_and rfl (.inl rfl) (.inr ⟨_, (by exact id), rfl⟩)) _) ?_
      refine AOps.step rfl rfl rfl (OpQ.spec (sp_move rfl (.inl rfl)) _) ?_
      refine AOps.stepW (.one rfl rfl rfl) rfl rfl (OpQ.spec (sp_move rfl (.inl rfl)) _) ?_
      refine AOps.stepW (.one rfl rfl rfl) rfl rfl (OpQ.spec (ms_len rfl tg_79.slice (.inr ⟨_, (by exact id), rfl⟩)) _) ?_
      refine AOps.stepW (.one rfl rfl rfl) rfl rfl (OpQ.spec (sp_eql rfl (.inr ⟨_, (by exact id), rfl⟩) (.inl rfl)) _) ?_
      refine AOps.step rfl rfl rfl (OpQ.spec (sp_and rfl (.inl rfl) (.inr ⟨_, (by exact id), rfl⟩)) _) ?_
      refine AOps.step rfl rfl rfl (OpQ.spec (sp_assign rfl (.inl rfl)) _) ?_
      refine AOps.nil ?_
      refine hK10 _ ?_
      refine AW.ret ?_
      exact retf1 (P := Try.prog) (fun (r : Bool) => .r (.bool r)) h7 (.inl rfl) (.t (.d rfl))
    · have h7 := ite_f hc2 h6
      refine AW.skip ?_
      refine hK8 _ ?_
      refine AW.seq_w fun K11 hK11 wK11 => ?_
      refine AW.seq_w fun K12 hK12 wK12 => ?_
      refine AW.weak (s' := ⟨[(0, .r (.sl (d1.map GStep.row))), (1, .r (.sl (l1.map GSpan.row))), (2, .r (.int .i64 at1)), (3, .r (.bool right1)), (9, .r (.int .i64 r3)), (10, .r (.int .i64 r4)), (11, .r (.sl (r5.map GSpan.row))), (12, .r (.int .i64 r6))], [], n0, 215⟩) (by exact Weak.cv ⟨.inl (.inl rfl), .inl (.inl rfl), .inl (.inl rfl), .inl (.inl rfl), .inl (.inl rfl), .inl (.inl rfl), .inl (.inl rfl), .inl (.inl rfl), trivial⟩ trivial (Nat.le_refl _)) ?_
      refine AW.region ?_
      refine AOps.step rfl rfl rfl (OpQ.spec (sp_move rfl (.inl rfl)) _) ?_
      refine ob1k h7 fun r7 er7 h8 => ?_
      refine AOps.step rfl rfl rfl (sp_call (r := .r (.bool r7)) (caps := []) (bs := [.r (.sl (d1.map GStep.row))]) rfl (.inl rfl) rfl ⟨⟨_, (.inl rfl), .d rfl⟩, trivial⟩ (fun _ => w_law_short (er7)) rfl) ?_
      refine AOps.step rfl rfl rfl (OpQ.spec (sp_not rfl (.inl rfl)) _) ?_
      refine AOps.nil ?_
      refine hK12 _ ?_
      refine AW.cond rfl (fun hc3 => ?_) (fun hc3 => ?_)
      · have h9 := ite_t hc3 h8
        refine AW.seq_w fun K13 hK13 wK13 => ?_
        refine AW.weak (s' := ⟨[], [], n0, 215⟩) (by exact Weak.cv trivial trivial (Nat.le_refl _)) ?_
        refine AW.region ?_
        refine AOps.step rfl rfl rfl (OpQ.spec (sp_assign rfl (.inl rfl)) _) ?_
        refine AOps.nil ?_
        refine hK13 _ ?_
        refine AW.ret ?_
        exact retf1 (P := Try.prog) (fun (r : Bool) => .r (.bool r)) h9 (.inl rfl) (.t (.d rfl))
      · have h9 := ite_f hc3 h8
        refine AW.skip ?_
        refine hK11 _ ?_
        refine AW.seq_w fun K14 hK14 wK14 => ?_
        refine AW.region ?_
        refine AOps.step rfl rfl rfl (OpQ.spec (sp_move rfl (.inl rfl)) _) ?_
        refine ob1k h9 fun r8 er8 h10 => ?_
        refine AOps.step rfl rfl rfl (sp_callS (r := .agg [.r (.sl (r8.Adds.map (rSl GElem.row))), .r (.sl (r8.Cuts.map rBool)), .r (.sl (r8.Attrs.map (rSl GAttr.row)))]) (caps := []) (bs := [.r (.sl (d1.map GStep.row))]) rfl (.inl rfl) rfl ⟨.inl ⟨(.inl rfl), rfl⟩, trivial⟩ (fun _ => w_ref_ActOf (er8))) ?_
        refine ob1k h10 fun r9 er9 h11 => ?_
        refine AOps.step rfl rfl rfl (sp_callS (r := .agg [.r (.sl (r9.Adds.map (rSl GElem.row))), .r (.sl (r9.Cuts.map rBool)), .r (.sl (r9.Attrs.map (rSl GAttr.row)))]) (caps := []) (bs := [.agg [.r (.sl (r8.Adds.map (rSl GElem.row))), .r (.sl (r8.Cuts.map rBool)), .r (.sl (r8.Attrs.map (rSl GAttr.row)))]]) rfl (.inl rfl) rfl ⟨.inl ⟨(.inl rfl), rfl⟩, trivial⟩ (fun _ => w_law_plain (er9))) ?_
        refine ob1k h11 fun r10 er10 h12 => ?_
        refine AOps.step rfl rfl rfl (sp_callS (r := .r (.sl (r10.map GAxisStep.row))) (caps := []) (bs := [.agg [.r (.sl (r9.Adds.map (rSl GElem.row))), .r (.sl (r9.Cuts.map rBool)), .r (.sl (r9.Attrs.map (rSl GAttr.row)))]]) rfl (.inl rfl) rfl ⟨.inl ⟨(.inl rfl), rfl⟩, trivial⟩ (fun _ => w_law_steps (er10))) ?_
        refine ob1k h12 fun units1 eunits1 h13 => ?_
        refine AOps.step rfl rfl rfl (sp_callS (r := .r (.sl (units1.map (rInt .i64)))) (caps := []) (bs := [.r (.sl (r10.map GAxisStep.row))]) rfl (.inl rfl) rfl ⟨.inl ⟨(.inl rfl), rfl⟩, trivial⟩ (fun _ => w_ref_Units (eunits1))) ?_
        refine AOps.step rfl rfl rfl (OpQ.spec (sp_assign rfl (.inl rfl)) _) ?_
        refine AOps.nil ?_
        refine hK14 _ ?_
        refine AW.seq_w fun K15 hK15 wK15 => ?_
        refine AW.region ?_
        refine AOps.step rfl rfl rfl (OpQ.spec (sp_move rfl (.inl rfl)) _) ?_
        refine ob1k h13 fun n1 en1 h14 => ?_
        refine AOps.step rfl rfl rfl (sp_call (r := .r (.int .i64 n1)) (caps := []) (bs := [.r (.sl (d1.map GStep.row))]) rfl (.inl rfl) rfl ⟨⟨_, (.inl rfl), .d rfl⟩, trivial⟩ (fun _ => w_ref_DeltaSize (en1)) rfl) ?_
        refine AOps.step rfl rfl rfl (OpQ.spec (sp_assign rfl (.inl rfl)) _) ?_
        refine AOps.nil ?_
        refine hK15 _ ?_
        refine AW.seq_w fun K16 hK16 wK16 => ?_
        refine AW.seq_w fun K17 hK17 wK17 => ?_
        refine AW.weak (s' := ⟨[(0, .r (.sl (d1.map GStep.row))), (1, .r (.sl (l1.map GSpan.row))), (2, .r (.int .i64 at1)), (3, .r (.bool right1)), (9, .r (.int .i64 r3)), (10, .r (.int .i64 r4)), (11, .r (.sl (r5.map GSpan.row))), (12, .r (.int .i64 r6)), (14, .r (.sl (units1.map (rInt .i64)))), (15, .r (.int .i64 n1))], [], n0, 215⟩) (by exact Weak.cv ⟨.inl (.inl rfl), .inl (.inl rfl), .inl (.inl rfl), .inl (.inl rfl), .inl (.inl rfl), .inl (.inl rfl), .inl (.inl rfl), .inl (.inl rfl), .inl (.inl rfl), .inl (.inl rfl), trivial⟩ trivial (Nat.le_refl _)) ?_
        refine AW.region ?_
        refine AOps.step rfl rfl rfl (OpQ.spec (sp_move rfl (.inl rfl)) _) ?_
        refine AOps.step rfl rfl rfl (OpQ.spec (sp_move rfl (.inl rfl)) _) ?_
        refine ob1k h14 fun r11 er11 h15 => ?_
        refine AOps.step rfl rfl rfl (sp_call (r := .r (.bool r11)) (caps := []) (bs := [.r (.int .i64 at1), .r (.int .i64 0), .r (.int .i64 n1)]) rfl (.inl rfl) rfl ⟨⟨_, (.inl rfl), .d rfl⟩, ⟨_, (.inl rfl), .d rfl⟩, ⟨_, (.inl rfl), .d rfl⟩, trivial⟩ (fun _ => w_ref_In (er11)) rfl) ?_
        refine AOps.step rfl rfl rfl (OpQ.spec (sp_not rfl (.inl rfl)) _) ?_
        refine AOps.nil ?_
        refine hK17 _ ?_
        refine jc1k h15 fun p1 hp1 hk1 he1 => ?_
        have J1 : ∀ (u1 : Unit) (i1 : Nat → Nat), p1 = .nrm u1 → K16 ⟨[(0, .r (.sl (d1.map GStep.row))), (1, .r (.sl (l1.map GSpan.row))), (11, .r (.sl (r5.map GSpan.row))), (12, .r (.int .i64 r6)), (14, .r (.sl (units1.map (rInt .i64)))), (15, .r (.int .i64 n1))], [], (i1 0), 215⟩ := by
          intro u1 i1 e
          have h16 := hk1 _ e
          refine hK16 _ ?_
          refine AW.seq_w fun K18 hK18 wK18 => ?_
          refine AW.region ?_
          refine AOps.step rfl rfl rfl (OpQ.spec (sp_move rfl (.inl rfl)) _) ?_
          refine ob1k h16 fun f2 ef2 h17 => ?_
          refine AOps.step rfl rfl rfl (sp_call (r := .r (.int .i64 f2)) (caps := []) (bs := [.r (.sl (l1.map GSpan.row))]) rfl (.inl rfl) rfl ⟨⟨_, (.inl rfl), .d rfl⟩, trivial⟩ (fun _ => w_law_setError (ef2)) rfl) ?_
          refine AOps.step rfl rfl rfl (OpQ.spec (sp_assign rfl (.inl rfl)) _) ?_
          refine AOps.nil ?_
          refine hK18 _ ?_
          refine AW.seq_w fun K19 hK19 wK19 => ?_
          refine AW.seq_w fun K20 hK20 wK20 => ?_
          refine AW.region ?_
          refine AOps.step rfl rfl rfl (OpQ.spec (sp_move rfl (.inl rfl)) _) ?_
          refine AOps.step rfl rfl rfl (OpQ.spec (sp_eql rfl (.inl rfl) (.inl rfl)) _) ?_
          refine AOps.step rfl rfl rfl (OpQ.spec (sp_move rfl (.inl rfl)) _) ?_
          refine AOps.stepW (.one rfl rfl rfl) rfl rfl (OpQ.spec (sp_move rfl (.inl rfl)) _) ?_
          refine AOps.stepW (.one rfl rfl rfl) rfl rfl (OpQ.spec (ms_len rfl tg_79.slice (.inr ⟨_, (by exact id), rfl⟩)) _) ?_
          refine AOps.stepW (.one rfl rfl rfl) rfl rfl (OpQ.spec (sp_gtr rfl (.inr ⟨_, (by exact id), rfl⟩) (.inl rfl)) _) ?_
          refine AOps.step rfl rfl rfl (OpQ.spec (sp_and rfl (.inl rfl) (.inr ⟨_, (by exact id), rfl⟩)) _) ?_
          refine AOps.step rfl rfl rfl (OpQ.spec (sp_move rfl (.inl rfl)) _) ?_
          refine AOps.stepW (.one rfl rfl rfl) rfl rfl (OpQ.spec (sp_move rfl (.inl rfl)) _) ?_
          refine AOps.stepW (.one rfl rfl rfl) rfl rfl (OpQ.spec (sp_move rfl (.inl rfl)) _) ?_
          refine AOps.stepW (.one rfl rfl rfl) rfl rfl (OpQ.spec (ms_len rfl tg_79.slice (.inr ⟨_, (by exact id), rfl⟩)) _) ?_
          refine ob1k h17 fun x1 ex1 h18 => ?_
          refine AOps.stepW (.one rfl rfl rfl) rfl rfl (OpQ.spec (ms_sub rfl (.inr ⟨_, (by exact id), rfl⟩) (.inl rfl) (gdt ex1)) _) ?_
          refine ob1k h18 fun x2 ex2 h19 => ?_
          refine AOps.stepW (.one rfl rfl rfl) rfl rfl (OpQ.spec (ms_idx rfl tg_79.slice (.inr ⟨_, (by exact id), rfl⟩) (.inr ⟨_, (by exact id), rfl⟩) (fun _ => rfl) (gdt ex2)) _) ?_
          refine AOps.stepW (.one rfl rfl rfl) rfl rfl (OpQ.spec (sp_fieldAddr_ro rfl tf_90_1 (.inr ⟨_, (by exact id), rfl⟩)) _) ?_
          refine AOps.stepW (.one rfl rfl rfl) rfl rfl (OpQ.spec (ms_load (d := .int .i64 x2.To) rfl ts_3 (.inr ⟨_, (by exact id), rfl⟩) rfl) _) ?_
          refine AOps.stepW (.one rfl rfl rfl) rfl rfl (OpQ.spec (sp_move rfl (.inl rfl)) _) ?_
          refine AOps.stepW (.one rfl rfl rfl) rfl rfl (OpQ.spec (sp_gtr rfl (.inr ⟨_, (by exact id), rfl⟩) (.inr ⟨_, (by exact id), rfl⟩)) _) ?_
          refine AOps.step rfl rfl rfl (OpQ.spec (sp_and rfl (.inl rfl) (.inr ⟨_, (by exact id), rfl⟩)) _) ?_
          refine AOps.nil ?_
          refine hK20 _ ?_
          refine jb1k h19 fun p2 hp2 hk2 => ?_
          have J2 : ∀ (f3 : Int) (i2 : Nat → Nat), p2 = f3 → K19 ⟨[(0, .r (.sl (d1.map GStep.row))), (1, .r (.sl (l1.map GSpan.row))), (11, .r (.sl (r5.map GSpan.row))), (12, .r (.int .i64 r6)), (13, .r (.int .i64 f3)), (14, .r (.sl (units1.map (rInt .i64))))], [], (i2 0), 215⟩ := by
            intro f3 i2 e
            have h20 := hk2 _ e
            refine hK19 _ ?_
            refine AW.seq_w fun K21 hK21 wK21 => ?_
            refine AW.seq_w fun K22 hK22 wK22 => ?_
            refine AW.region ?_
            refine AOps.step rfl rfl rfl (OpQ.spec (sp_move rfl (.inl rfl)) _) ?_
            refine AOps.step rfl rfl rfl (OpQ.spec (sp_neq rfl (.inl rfl) (.inl rfl)) _) ?_
            refine AOps.nil ?_
            refine hK22 _ ?_
            refine AW.cond rfl (fun hc4 => ?_) (fun hc4 => ?_)
            · have h21 := ite_t hc4 h20
              refine AW.seq_w fun K23 hK23 wK23 => ?_
              refine AW.region ?_
              refine AOps.step rfl rfl rfl (OpQ.spec (sp_move rfl (.inl rfl)) _) ?_
              refine AOps.step rfl rfl rfl (OpQ.spec (sp_move rfl (.inl rfl)) _) ?_
              refine AOps.step rfl rfl rfl (OpQ.spec (sp_eql rfl (.inl rfl) (.inl rfl)) _) ?_
              refine AOps.step rfl rfl rfl (OpQ.spec (sp_move rfl (.inl rfl)) _) ?_
              refine AOps.stepW (.one rfl rfl rfl) rfl rfl (OpQ.spec (sp_move rfl (.inl rfl)) _) ?_
              refine AOps.stepW (.one rfl rfl rfl) rfl rfl (OpQ.spec (ms_len rfl tg_79.slice (.inr ⟨_, (by exact id), rfl⟩)) _) ?_
              refine AOps.stepW (.one rfl rfl rfl) rfl rfl (OpQ.spec (sp_eql rfl (.inr ⟨_, (by exact id), rfl⟩) (.inl rfl)) _) ?_
              refine AOps.step rfl rfl rfl (OpQ.spec (sp_and rfl (.inl rfl) (.inr ⟨_, (by exact id), rfl⟩)) _) ?_
              refine AOps.step rfl rfl rfl (OpQ.spec (sp_assign rfl (.inl rfl)) _) ?_
              refine AOps.nil ?_
              refine hK23 _ ?_
              refine AW.ret ?_
              exact retf1 (P := Try.prog) (fun (r : Bool) => .r (.bool r)) h21 (.inl rfl) (.t (.d rfl))
            · have h21 := ite_f hc4 h20
              refine AW.skip ?_
              refine hK21 _ ?_
              refine AW.seq_w fun K24 hK24 wK24 => ?_
              refine AW.region ?_
              refine AOps.step rfl rfl rfl (OpQ.spec (sp_assign rfl (.inl rfl)) _) ?_
              refine AOps.nil ?_
              refine hK24 _ ?_
              refine AW.seq_w fun K25 hK25 wK25 => ?_
              refine AW.seq_w fun K26 hK26 wK26 => ?_
              refine AW.region ?_
              refine AOps.step rfl rfl rfl (OpQ.spec (sp_move rfl (.inl rfl)) _) ?_
              refine AOps.step rfl rfl rfl (OpQ.spec (ms_len rfl tg_79.slice (.inl rfl)) _) ?_
              refine AOps.step rfl rfl rfl (OpQ.spec (sp_move rfl (.inl rfl)) _) ?_
              refine AOps.nil ?_
              refine hK26 _ ?_
              refine AW.block ?_
              refine jc1k h21 fun o1 hit1 hk3 he3 => ?_
              have J3 : ∀ (want4 : List GSpan) (i7 : Nat → Nat), o1 = .nrm want4 → K25 ⟨[(11, .r (.sl (r5.map GSpan.row))), (12, .r (.int .i64 r6)), (16, .own 5016 (i7 0))], [(5016, some (.arr (i7 0) 90 2 (want4.map GSpan.row)))], (i7 1), 215⟩ := by
                intro want4 i7 e
                have h22 := hk3 _ e
                refine hK25 _ ?_
                refine AW.seq_w fun K27 hK27 wK27 => ?_
                refine AW.seq_w fun K28 hK28 wK28 => ?_
                refine AW.region ?_
                refine AOps.step rfl rfl rfl (OpQ.spec (sp_move rfl (.inl rfl)) _) ?_
                refine AOps.step rfl rfl rfl (OpQ.spec (sp_neq rfl (.inl rfl) (.inl rfl)) _) ?_
                refine AOps.step rfl rfl rfl (OpQ.spec (sp_move rfl (.inl rfl)) _) ?_
                refine AOps.stepW (.one rfl rfl rfl) rfl rfl (OpQ.spec (sp_move rfl (.inl rfl)) _) ?_
                refine AOps.stepW (.one rfl rfl rfl) rfl rfl (OpQ.spec (ms_len rfl tg_79.slice (.inr ⟨_, (by exact id), rfl⟩)) _) ?_
                refine AOps.stepW (.one rfl rfl rfl) rfl rfl (OpQ.spec (sp_move rfl (.inl rfl)) _) ?_
                refine AOps.stepW (.one rfl rfl rfl) rfl rfl (OpQ.spec (ms_len_own rfl tg_79.slice (.inr ⟨_, (by exact id), rfl⟩) rfl) _) ?_
                refine AOps.stepW (.one rfl rfl rfl) rfl rfl (OpQ.spec (sp_neq rfl (.inr ⟨_, (by exact id), rfl⟩) (.inr ⟨_, (by exact id), rfl⟩)) _) ?_
                refine AOps.step rfl rfl rfl (OpQ.spec (sp_or rfl (.inl rfl) (.inr ⟨_, (by exact id), rfl⟩)) _) ?_
                refine AOps.nil ?_
                refine hK28 _ ?_
                refine AW.cond rfl (fun hc5 => ?_) (fun hc5 => ?_)
                · have h23 := ite_t hc5 h22
                  refine AW.seq_w fun K29 hK29 wK29 => ?_
                  refine AW.weak (s' := ⟨[], [], (i7 1), 215⟩) (by exact Weak.cv trivial trivial (Nat.le_refl _)) ?_
                  refine AW.region ?_
                  refine AOps.step rfl rfl rfl (OpQ.spec (sp_assign rfl (.inl rfl)) _) ?_
                  refine AOps.nil ?_
                  refine hK29 _ ?_
                  refine AW.ret ?_
                  exact retf1 (P := Try.prog) (fun (r : Bool) => .r (.bool r)) h23 (.inl rfl) (.t (.d rfl))
                · have h23 := ite_f hc5 h22
                  refine AW.skip ?_
                  refine hK27 _ ?_
                  refine AW.seq_w fun K30 hK30 wK30 => ?_
                  refine AW.seq_w fun K31 hK31 wK31 => ?_
                  refine AW.weak (s' := ⟨[(11, .r (.sl (r5.map GSpan.row))), (16, .own 5016 (i7 0))], [(5016, some (.arr (i7 0) 90 2 (want4.map GSpan.row)))], (i7 1), 215⟩) (by exact Weak.cv ⟨.inl (.inl rfl), .inl (.inl rfl), trivial⟩ ⟨.inl rfl, trivial⟩ (Nat.le_refl _)) ?_
                  refine AW.region ?_
                  refine AOps.step rfl rfl rfl (OpQ.spec (sp_move rfl (.inl rfl)) _) ?_
                  refine AOps.step rfl rfl rfl (OpQ.spec (ms_len rfl tg_79.slice (.inl rfl)) _) ?_
                  refine AOps.step rfl rfl rfl (OpQ.spec (sp_move rfl (.inl rfl)) _) ?_
                  refine AOps.nil ?_
                  refine hK31 _ ?_
                  refine AW.block ?_
                  refine jc1k h23 fun o2 hit2 hk4 he4 => ?_
                  have J4 : ∀ (u4 : Unit) (i12 : Nat → Nat), o2 = .nrm u4 → K30 ⟨[], [], (i12 0), 215⟩ := by
                    intro u4 i12 e
                    have h24 := hk4 _ e
                    refine hK30 _ ?_
                    refine AW.seq_w fun K32 hK32 wK32 => ?_
                    refine AW.region ?_
                    refine AOps.step rfl rfl rfl (OpQ.spec (sp_assign rfl (.inl rfl)) _) ?_
                    refine AOps.nil ?_
                    refine hK32 _ ?_
                    refine AW.ret ?_
                    exact retf1 (P := Try.prog) (fun (r : Bool) => .r (.bool r)) h24 (.inl rfl) (.t (.d rfl))
                  refine AW.iter1 (fun (x7 : Int) i10 => ⟨[(11, .r (.sl (r5.map GSpan.row))), (16, .own 5016 (i7 0)), (201, .r (.int .i64 (r5.length : Int))), (202, .r (.int .i64 x7))], [(5016, some (.arr (i7 0) 90 2 (want4.map GSpan.row)))], (i10 0), 215⟩) (vec [(i7 1)]) hit2 ((by exact Weak.cv ⟨.inl (.inl rfl), .inl (.inl rfl), .inl (.inl rfl), .inl (.inl rfl), trivial⟩ ⟨.inl rfl, trivial⟩ (Nat.le_refl _))) ?_
                  intro x7 i10 v1 hv1 hx2
                  have h25 : law_SpanThroughMatches_L2 r5 want4 x7 = some v1 := hv1; unfold law_SpanThroughMatches_L2 at h25
                  refine AW.seq_w fun K33 hK33 wK33 => ?_
                  refine AW.region ?_
                  refine AOps.step rfl rfl rfl (OpQ.spec (sp_lss rfl (.inl rfl) (.inl rfl)) _) ?_
                  refine AOps.nil ?_
                  refine hK33 _ ?_
                  refine AW.seq_w fun K34 hK34 wK34 => ?_
                  refine AW.cond rfl (fun hc6 => ?_) (fun hc6 => ?_)
                  · have h26 := ite_t hc6 h25
                    refine AW.skip ?_
                    refine hK34 _ ?_
                    refine AW.seq_w fun K35 hK35 wK35 => ?_
                    refine AW.block ?_
                    refine AW.seq_w fun K36 hK36 wK36 => ?_
                    refine AW.region ?_
                    refine AOps.step rfl rfl rfl (OpQ.spec (sp_move rfl (.inl rfl)) _) ?_
                    refine AOps.step rfl rfl rfl (OpQ.spec (sp_assign rfl (.inl rfl)) _) ?_
                    refine AOps.nil ?_
                    refine hK36 _ ?_
                    refine AW.seq_w fun K37 hK37 wK37 => ?_
                    refine AW.regionQ hmix (by kernel_rfl) ?_
                    refine AQ.step rfl rfl rfl (sp_move rfl (.inl rfl)) ?_
                    refine AQ.step rfl rfl rfl (sp_move rfl (.inl rfl)) ?_
                    refine ob1k h26 fun x9 ex9 h27 => ?_
                    refine AQ.step rfl rfl rfl (ms_idx rfl tg_79.slice (.inl rfl) (.inl rfl) (fun _ => rfl) (fun _ => ex9)) ?_
                    refine AQ.step rfl rfl rfl (ms_loadA (cs := [.r (.int .i64 x9.From), .r (.int .i64 x9.To)]) rfl ta_90 (.inl rfl) rfl rfl) ?_
                    refine AQ.step rfl rfl rfl (sp_move rfl (.inl rfl)) ?_
                    refine AQ.step rfl rfl rfl (sp_move rfl (.inl rfl)) ?_
                    refine ob1k h27 fun x10 ex10 h28 => ?_
                    refine AQ.step rfl rfl rfl (ms_idx_own rfl tg_79.slice (.inl rfl) rfl (.inl rfl) (fun _ => ex10)) ?_
                    refine AQ.step rfl rfl rfl (ms_loadA_own (cs := [.r (.int .i64 x10.From), .r (.int .i64 x10.To)]) rfl ta_90 (.inl rfl) (fun _ => rfl) (fun _ => ex10) rfl) ?_
                    refine AQ.step rfl rfl rfl (sp_aggneq rfl te_90 (.inl rfl) (.inl rfl) rfl) ?_
                    refine AQ.nil ?_
                    refine hK37 _ ?_
                    refine AW.cond rfl (fun hc7 => ?_) (fun hc7 => ?_)
                    · have h29 := ite_t hc7 h28
                      refine AW.seq_w fun K38 hK38 wK38 => ?_
                      refine AW.weak (s' := ⟨[], [], (i10 0), 215⟩) (by exact Weak.cv trivial trivial (Nat.le_refl _)) ?_
                      refine AW.region ?_
                      refine AOps.step rfl rfl rfl (OpQ.spec (sp_assign rfl (.inl rfl)) _) ?_
                      refine AOps.nil ?_
                      refine hK38 _ ?_
                      refine AW.ret ?_
                      exact retf1 (P := Try.prog) (fun (r : Bool) => .r (.bool r)) (he4 _ (hx2 _ (Option.some.inj h29).symm)) (.inl rfl) (.t (.d rfl))
                    · have h29 := ite_f hc7 h28
                      refine AW.skip ?_
                      refine hK35 _ ?_
                      refine AW.weak (s' := ⟨[(11, .r (.sl (r5.map GSpan.row))), (16, .own 5016 (i7 0)), (201, .r (.int .i64 (r5.length : Int))), (202, .r (.int .i64 x7))], [(5016, some (.arr (i7 0) 90 2 (want4.map GSpan.row)))], (i10 0), 215⟩) (by exact Weak.cv ⟨.inl (.inl rfl), .inl (.inl rfl), .inl (.inl rfl), .inl (.inl rfl), trivial⟩ ⟨.inl rfl, trivial⟩ (Nat.le_refl _)) ?_
                      refine AW.region ?_
                      refine ob1k h29 fun x11 ex11 h30 => ?_
                      refine AOps.step rfl rfl rfl (OpQ.spec (ms_add rfl (.inl rfl) (.inl rfl) (fun _ => ex11)) _) ?_
                      refine AOps.step rfl rfl rfl (OpQ.spec (sp_move rfl (.inl rfl)) _) ?_
                      refine AOps.nil ?_
                      exact NextQ1.mk h30 (vec [(i10 0)]) ((by exact Weak.cv ⟨.inl (.inl rfl), .inl (.inl rfl), .inl (.inl rfl), .inl (.inl rfl), trivial⟩ ⟨.inl rfl, trivial⟩ (Nat.le_refl _)))
                  · have h26 := ite_f hc6 h25
                    refine AW.exit ?_
                    exact wK30 _ _ ((by exact Weak.cv trivial trivial (Nat.le_refl _))) (J4 _ (vec [(i10 0)]) (hx2 _ (Option.some.inj h26).symm))
              refine AW.iter2 (fun (x4 : Int) (want2 : List GSpan) i5 => ⟨[(0, .r (.sl (d1.map GStep.row))), (1, .r (.sl (l1.map GSpan.row))), (11, .r (.sl (r5.map GSpan.row))), (12, .r (.int .i64 r6)), (14, .r (.sl (units1.map (rInt .i64)))), (16, .own 5016 (i5 0)), (125, .r (.int .i64 (l1.length : Int))), (126, .r (.int .i64 x4))], [(5016, some (.arr (i5 0) 90 2 (want2.map GSpan.row)))], (i5 1), 215⟩) (vec [(i2 0), ((i2 0) + 1)]) hit1 (Weak.trans (Weak.trans (Weak.adopt 16 5016 90 2 (by decide) rfl) (by exact Weak.cv (e' := [(0, .r (.sl (d1.map GStep.row))), (1, .r (.sl (l1.map GSpan.row))), (11, .r (.sl (r5.map GSpan.row))), (12, .r (.int .i64 r6)), (13, .r (.int .i64 f3)), (14, .r (.sl (units1.map (rInt .i64)))), (16, .own 5016 (i2 0)), (114, .r (.int .i64 f3)), (115, .r (.bool (!decide (f3 = 0)))), (124, .r (.sl (l1.map GSpan.row))), (125, .r (.int .i64 (l1.length : Int))), (126, .r (.int .i64 0))]) (h' := [(5016, some (.arr (i2 0) 90 2 (([] : List GSpan).map GSpan.row)))]) ⟨.inl (.inl rfl), .inl (.inl rfl), .inl (.inl rfl), .inl (.inl rfl), .inl (.inl rfl), .inl (.inl rfl), .inl (.inl rfl), .inl (.inl rfl), .inl (.inl rfl), .inl (.inl rfl), .inl (.inl rfl), .inl (.inl rfl), trivial⟩ ⟨.inl rfl, trivial⟩ (Nat.le_refl _))) (by exact Weak.cv ⟨.inl (.inl rfl), .inl (.inl rfl), .inl (.inl rfl), .inl (.inl rfl), .inl (.inl rfl), .inl (.inl rfl), .inl (.inl rfl), .inl (.inl rfl), trivial⟩ ⟨.inl rfl, trivial⟩ (Nat.le_refl _))) ?_
              intro x4 want2 i5 v2 hv2 hx1
              have h31 : law_SpanThroughMatches_L1 d1 l1 units1 x4 want2 = some v2 := hv2; unfold law_SpanThroughMatches_L1 at h31
              refine AW.seq_w fun K39 hK39 wK39 => ?_
              refine AW.region ?_
              refine AOps.step rfl rfl rfl (OpQ.spec (sp_lss rfl (.inl rfl) (.inl rfl)) _) ?_
              refine AOps.nil ?_
              refine hK39 _ ?_
              refine AW.seq_w fun K40 hK40 wK40 => ?_
              refine AW.cond rfl (fun hc8 => ?_) (fun hc8 => ?_)
              · have h32 := ite_t hc8 h31
                refine AW.skip ?_
                refine hK40 _ ?_
                refine AW.seq_w fun K41 hK41 wK41 => ?_
                refine AW.block ?_
                refine jc1k h32 fun p3 hp3 hk5 he5 => ?_
                have J5 : ∀ (want5 : List GSpan) (i13 : Nat → Nat), p3 = .nrm want5 → K41 ⟨[(0, .r (.sl (d1.map GStep.row))), (1, .r (.sl (l1.map GSpan.row))), (11, .r (.sl (r5.map GSpan.row))), (12, .r (.int .i64 r6)), (14, .r (.sl (units1.map (rInt .i64)))), (16, .own 5016 (i13 0)), (125, .r (.int .i64 (l1.length : Int))), (126, .r (.int .i64 x4))], [(5016, some (.arr (i13 0) 90 2 (want5.map GSpan.row)))], (i13 1), 215⟩ := by
                  intro want5 i13 e
                  have h33 := hk5 _ e
                  refine hK41 _ ?_
                  refine AW.region ?_
                  refine ob1k h33 fun x12 ex12 h34 => ?_
                  refine AOps.step rfl rfl rfl (OpQ.spec (ms_add rfl (.inl rfl) (.inl rfl) (fun _ => ex12)) _) ?_
                  refine AOps.step rfl rfl rfl (OpQ.spec (sp_move rfl (.inl rfl)) _) ?_
                  refine AOps.nil ?_
                  exact NextQ2.mk h34 (vec [(i13 0), (i13 1)]) ((by exact Weak.cv ⟨.inl (.inl rfl), .inl (.inl rfl), .inl (.inl rfl), .inl (.inl rfl), .inl (.inl rfl), .inl (.inl rfl), .inl (.inl rfl), .inl (.inl rfl), trivial⟩ ⟨.inl rfl, trivial⟩ (Nat.le_refl _)))
                refine AW.seq_w fun K42 hK42 wK42 => ?_
                refine AW.region ?_
                refine AOps.step rfl rfl rfl (OpQ.spec (sp_move rfl (.inl rfl)) _) ?_
                refine AOps.step rfl rfl rfl (OpQ.spec (sp_assign rfl (.inl rfl)) _) ?_
                refine AOps.nil ?_
                refine hK42 _ ?_
                refine AW.seq_w fun K43 hK43 wK43 => ?_
                refine AW.regionQ hmix (by kernel_rfl) ?_
                refine AQ.step rfl rfl rfl (sp_move rfl (.inl rfl)) ?_
                refine AQ.step rfl rfl rfl (sp_move rfl (.inl rfl)) ?_
                refine AQ.step rfl rfl rfl (sp_move rfl (.inl rfl)) ?_
                refine ob1k hp3 fun x13 ex13 h35 => ?_
                refine AQ.step rfl rfl rfl (ms_idx rfl tg_79.slice (.inl rfl) (.inl rfl) (fun _ => rfl) (fun _ => ex13)) ?_
                refine AQ.step rfl rfl rfl (sp_fieldAddr_ro rfl tf_90_0 (.inl rfl)) ?_
                refine AQ.step rfl rfl rfl (ms_load (d := .int .i64 x13.From) rfl ts_3 (.inl rfl) rfl) ?_
                refine AQ.step rfl rfl rfl (sp_move rfl (.inl rfl)) ?_
                refine AQ.step rfl rfl rfl (sp_move rfl (.inl rfl)) ?_
                refine AQ.step rfl rfl rfl (ms_idx rfl tg_79.slice (.inl rfl) (.inl rfl) (fun _ => rfl) (fun _ => ex13)) ?_
                refine AQ.step rfl rfl rfl (sp_fieldAddr_ro rfl tf_90_1 (.inl rfl)) ?_
                refine AQ.step rfl rfl rfl (ms_load (d := .int .i64 x13.To) rfl ts_3 (.inl rfl) rfl) ?_
                refine ob2k h35 fun r12 r13 er12 h36 => ?_
                refine AQ.stepC rfl rfl rfl (r := .tup [.r (.int .i64 r12), .r (.int .i64 r13)]) (caps := []) (bs := [.r (.sl (units1.map (rInt .i64))), .r (.int .i64 x13.From), .r (.int .i64 x13.To)]) rfl (.inl rfl) rfl ⟨⟨_, (.inl rfl), .d rfl⟩, ⟨_, (.inl rfl), .d rfl⟩, ⟨_, (.inl rfl), .d rfl⟩, trivial⟩ (fun _ => w_ref_RestOf (er12)) rfl ?_
                refine AQ.step rfl rfl rfl (sp_move rfl (.inl rfl)) ?_
                refine AQ.step rfl rfl rfl (sp_extract (a := .r (.int .i64 r12)) rfl (.inl rfl) rfl) ?_
                refine AQ.step rfl rfl rfl (sp_extract (a := .r (.int .i64 r13)) rfl (.inl rfl) rfl) ?_
                refine AQ.step rfl rfl rfl (sp_assign rfl (.inl rfl)) ?_
                refine AQ.step rfl rfl rfl (sp_assign rfl (.inl rfl)) ?_
                refine AQ.nil ?_
                refine hK43 _ ?_
                refine AW.seq_w fun K44 hK44 wK44 => ?_
                refine AW.weak (s' := ⟨[(0, .r (.sl (d1.map GStep.row))), (1, .r (.sl (l1.map GSpan.row))), (11, .r (.sl (r5.map GSpan.row))), (12, .r (.int .i64 r6)), (14, .r (.sl (units1.map (rInt .i64)))), (16, .own 5016 (i5 0)), (17, .r (.int .i64 x4)), (18, .r (.int .i64 r12)), (19, .r (.int .i64 r13)), (125, .r (.int .i64 (l1.length : Int))), (126, .r (.int .i64 x4))], [(5016, some (.arr (i5 0) 90 2 (want2.map GSpan.row)))], (i5 1), 215⟩) (by exact Weak.cv ⟨.inl (.inl rfl), .inl (.inl rfl), .inl (.inl rfl), .inl (.inl rfl), .inl (.inl rfl), .inl (.inl rfl), .inl (.inl rfl), .inl (.inl rfl), .inl (.inl rfl), .inl (.inl rfl), .inl (.inl rfl), trivial⟩ ⟨.inl rfl, trivial⟩ (Nat.le_refl _)) ?_
                refine AW.region ?_
                refine AOps.step rfl rfl rfl (OpQ.spec (sp_move rfl (.inl rfl)) _) ?_
                refine AOps.step rfl rfl rfl (OpQ.spec (sp_move rfl (.inl rfl)) _) ?_
                refine AOps.step rfl rfl rfl (OpQ.spec (sp_move rfl (.inl rfl)) _) ?_
                refine AOps.step rfl rfl rfl (OpQ.spec (ms_idx rfl tg_79.slice (.inl rfl) (.inl rfl) (fun _ => rfl) (fun _ => ex13)) _) ?_
                refine AOps.step rfl rfl rfl (OpQ.spec (ms_loadA (cs := [.r (.int .i64 x13.From), .r (.int .i64 x13.To)]) rfl ta_90 (.inl rfl) rfl rfl) _) ?_
                refine ob2k h36 fun r14 r15 er14 h37 => ?_
                refine AOps.step rfl rfl rfl (sp_callS (r := .tup [.agg [.r (.int .i64 r14.From), .r (.int .i64 r14.To)], .r (.int .i64 r15)]) (caps := []) (bs := [.r (.sl (d1.map GStep.row)), .agg [.r (.int .i64 x13.From), .r (.int .i64 x13.To)]]) rfl (.inl rfl) rfl ⟨.inl ⟨(.inl rfl), rfl⟩, .inl ⟨(.inl rfl), rfl⟩, trivial⟩ (fun _ => w_span_Range (er14))) ?_
                refine AOps.step rfl rfl rfl (OpQ.spec (sp_move rfl (.inl rfl)) _) ?_
                refine AOps.step rfl rfl rfl (OpQ.spec (sp_extract (a := .agg [.r (.int .i64 r14.From), .r (.int .i64 r14.To)]) rfl (.inl rfl) rfl) _) ?_
                refine AOps.step rfl rfl rfl (OpQ.spec (sp_extract (a := .r (.int .i64 r15)) rfl (.inl rfl) rfl) _) ?_
                refine AOps.step rfl rfl rfl (ms_alloc (cs := [.r (.int .i64 0), .r (.int .i64 0)]) 20 rfl t0_90 rfl rfl) ?_
                refine AOps.step0 rfl rfl (ms_store_box (ds := [.r (.int .i64 r14.From), .r (.int .i64 r14.To)]) rfl tz_90 (.inl rfl) rfl (.inl rfl) rfl rfl rfl rfl) ?_
                refine AOps.step rfl rfl rfl (OpQ.spec (sp_assign rfl (.inl rfl)) _) ?_
                refine AOps.nil ?_
                refine hK44 _ ?_
                refine AW.seq_w fun K45 hK45 wK45 => ?_
                refine AW.seq_w fun K46 hK46 wK46 => ?_
                refine AW.weak (s' := ⟨[(0, .r (.sl (d1.map GStep.row))), (1, .r (.sl (l1.map GSpan.row))), (11, .r (.sl (r5.map GSpan.row))), (12, .r (.int .i64 r6)), (14, .r (.sl (units1.map (rInt .i64)))), (16, .own 5016 (i5 0)), (18, .r (.int .i64 r12)), (19, .r (.int .i64 r13)), (20, .ptr 20 (i5 1) 0 0), (21, .r (.int .i64 r15)), (125, .r (.int .i64 (l1.length : Int))), (126, .r (.int .i64 x4))], [(20, some (.box (i5 1) 90 [.r (.int .i64 r14.From), .r (.int .i64 r14.To)])), (5016, some (.arr (i5 0) 90 2 (want2.map GSpan.row)))], ((i5 1) + 1), 215⟩) (by exact Weak.cv ⟨.inl (.inl rfl), .inl (.inl rfl), .inl (.inl rfl), .inl (.inl rfl), .inl (.inl rfl), .inl (.inl rfl), .inl (.inl rfl), .inl (.inl rfl), .inl (.inl rfl), .inl (.inl rfl), .inl (.inl rfl), .inl (.inl rfl), trivial⟩ ⟨.inl rfl, .inl rfl, trivial⟩ (Nat.le_refl _)) ?_
                refine AW.region ?_
                refine AOps.step rfl rfl rfl (OpQ.spec (sp_move rfl (.inl rfl)) _) ?_
                refine AOps.step rfl rfl rfl (OpQ.spec (sp_neq rfl (.inl rfl) (.inl rfl)) _) ?_
                refine AOps.step rfl rfl rfl (OpQ.spec (sp_move rfl (.inl rfl)) _) ?_
                refine AOps.stepW (.one rfl rfl rfl) rfl rfl (OpQ.spec (ms_loadA_box rfl ta_90 (.inl rfl) rfl rfl) _) ?_
                refine AOps.stepW (.one rfl rfl rfl) rfl rfl (OpQ.spec (sp_move rfl (.inl rfl)) _) ?_
                refine AOps.stepW (.one rfl rfl rfl) rfl rfl (OpQ.spec (sp_move rfl (.inl rfl)) _) ?_
                refine AOps.stepW (.one rfl rfl rfl) rfl rfl (OpQ.spec (sp_build rfl tb_90 (q := [(0, _), (1, _)]) (by exact ⟨rfl, rfl, rfl, (.inr ⟨_, (by exact id), rfl⟩), rfl, rfl, rfl, (.inr ⟨_, (by exact id), rfl⟩), trivial⟩) (cs := [.r (.int .i64 r12), .r (.int .i64 r13)]) (by rfl)) _) ?_
                refine AOps.stepW (.one rfl rfl rfl) rfl rfl (OpQ.spec (sp_aggneq rfl te_90 (.inr ⟨_, (by exact id), rfl⟩) (.inr ⟨_, (by exact id), rfl⟩) rfl) _) ?_
                refine AOps.step rfl rfl rfl (OpQ.spec (sp_or rfl (.inl rfl) (.inr ⟨_, (by exact id), rfl⟩)) _) ?_
                refine AOps.nil ?_
                refine hK46 _ ?_
                refine AW.cond rfl (fun hc9 => ?_) (fun hc9 => ?_)
                · have h38 := ite_t hc9 h37
                  refine AW.seq_w fun K47 hK47 wK47 => ?_
                  refine AW.weak (s' := ⟨[], [], ((i5 1) + 1), 215⟩) (by exact Weak.cv trivial trivial (Nat.le_refl _)) ?_
                  refine AW.region ?_
                  refine AOps.step rfl rfl rfl (OpQ.spec (sp_assign rfl (.inl rfl)) _) ?_
                  refine AOps.nil ?_
                  refine hK47 _ ?_
                  refine AW.ret ?_
                  exact retf1 (P := Try.prog) (fun (r : Bool) => .r (.bool r)) (he3 _ (hx1 _ (Option.some.inj (he5 _ (Option.some.inj h38).symm)).symm)) (.inl rfl) (.t (.d rfl))
                · have h38 := ite_f hc9 h37
                  refine AW.skip ?_
                  refine hK45 _ ?_
                  refine AW.seq_w fun K48 hK48 wK48 => ?_
                  refine AW.seq_w fun K49 hK49 wK49 => ?_
                  refine AW.region ?_
                  refine AOps.step rfl rfl rfl (OpQ.spec (sp_move rfl (.inl rfl)) _) ?_
                  refine AOps.step rfl rfl rfl (OpQ.spec (sp_move rfl (.inl rfl)) _) ?_
                  refine AOps.step rfl rfl rfl (OpQ.spec (sp_eql rfl (.inl rfl) (.inl rfl)) _) ?_
                  refine AOps.nil ?_
                  refine hK49 _ ?_
                  refine AW.cond rfl (fun hc10 => ?_) (fun hc10 => ?_)
                  · have h39 := ite_t hc10 h38
                    refine AW.exit ?_
                    exact wK41 _ _ ((by exact Weak.cv ⟨.inl (.inl rfl), .inl (.inl rfl), .inl (.inl rfl), .inl (.inl rfl), .inl (.inl rfl), .inl (.inl rfl), .inl (.inl rfl), .inl (.inl rfl), trivial⟩ ⟨.inl rfl, trivial⟩ (Nat.le_refl _))) (J5 _ (vec [(i5 0), ((i5 1) + 1)]) (Option.some.inj h39).symm)
                  · have h39 := ite_f hc10 h38
                    refine AW.skip ?_
                    refine hK48 _ ?_
                    refine AW.seq_w fun K50 hK50 wK50 => ?_
                    refine AW.seq_w fun K51 hK51 wK51 => ?_
                    refine AW.weak (s' := ⟨[(0, .r (.sl (d1.map GStep.row))), (1, .r (.sl (l1.map GSpan.row))), (11, .r (.sl (r5.map GSpan.row))), (12, .r (.int .i64 r6)), (14, .r (.sl (units1.map (rInt .i64)))), (16, .own 5016 (i5 0)), (18, .r (.int .i64 r12)), (19, .r (.int .i64 r13)), (125, .r (.int .i64 (l1.length : Int))), (126, .r (.int .i64 x4))], [(5016, some (.arr (i5 0) 90 2 (want2.map GSpan.row)))], ((i5 1) + 1), 215⟩) (by exact Weak.cv ⟨.inl (.inl rfl), .inl (.inl rfl), .inl (.inl rfl), .inl (.inl rfl), .inl (.inl rfl), .inl (.inl rfl), .inl (.inl rfl), .inl (.inl rfl), .inl (.inl rfl), .inl (.inl rfl), trivial⟩ ⟨.inl rfl, trivial⟩ (Nat.le_refl _)) ?_
                    refine AW.region ?_
                    refine AOps.step rfl rfl rfl (OpQ.spec (sp_move rfl (.inl rfl)) _) ?_
                    refine AOps.step rfl rfl rfl (OpQ.spec (ms_len_own rfl tg_79.slice (.inl rfl) rfl) _) ?_
                    refine ob1k h39 fun c1 ec1 h40 => ?_
                    refine AOps.step rfl rfl rfl (OpQ.spec (ms_sub rfl (.inl rfl) (.inl rfl) (fun _ => ec1)) _) ?_
                    refine AOps.step rfl rfl rfl (OpQ.spec (sp_assign rfl (.inl rfl)) _) ?_
                    refine AOps.nil ?_
                    refine hK51 _ ?_
                    refine AW.seq_w fun K52 hK52 wK52 => ?_
                    refine AW.region ?_
                    refine AOps.step rfl rfl rfl (OpQ.spec (sp_move rfl (.inl rfl)) _) ?_
                    refine AOps.step rfl rfl rfl (OpQ.spec (sp_geq rfl (.inl rfl) (.inl rfl)) _) ?_
                    refine AOps.step rfl rfl rfl (OpQ.spec (sp_move rfl (.inl rfl)) _) ?_
                    refine AOps.stepW (.one rfl rfl rfl) rfl rfl (OpQ.spec (sp_move rfl (.inl rfl)) _) ?_
                    refine AOps.stepW (.one rfl rfl rfl) rfl rfl (OpQ.spec (sp_move rfl (.inl rfl)) _) ?_
                    refine ob1k h40 fun x14 ex14 h41 => ?_
                    refine AOps.stepW (.one rfl rfl rfl) rfl rfl (OpQ.spec (ms_idx_own rfl tg_79.slice (.inr ⟨_, (by exact id), rfl⟩) rfl (.inr ⟨_, (by exact id), rfl⟩) (gdt ex14)) _) ?_
                    refine AOps.stepW (.one rfl rfl rfl) rfl rfl (OpQ.spec (sp_fieldAddr_own (ob := .arr _ _ _ _) rfl tf_90_1 (.inr ⟨_, (by exact id), rfl⟩) (fun _ => rfl) rfl) _) ?_
                    refine AOps.stepW (.one rfl rfl rfl) rfl rfl (OpQ.spec (ms_load_own (d := .int .i64 x14.To) rfl ts_3 (.inr ⟨_, (by exact id), rfl⟩) (fun _ => rfl) (gdt ex14) rfl) _) ?_
                    refine AOps.stepW (.one rfl rfl rfl) rfl rfl (OpQ.spec (sp_move rfl (.inl rfl)) _) ?_
                    refine AOps.stepW (.one rfl rfl rfl) rfl rfl (OpQ.spec (sp_eql rfl (.inr ⟨_, (by exact id), rfl⟩) (.inr ⟨_, (by exact id), rfl⟩)) _) ?_
                    refine AOps.step rfl rfl rfl (OpQ.spec (sp_and rfl (.inl rfl) (.inr ⟨_, (by exact id), rfl⟩)) _) ?_
                    refine AOps.nil ?_
                    refine hK52 _ ?_
                    refine AW.cond rfl (fun hc11 => ?_) (fun hc11 => ?_)
                    · have h42 := ite_t hc11 h41
                      refine AW.seq_w fun K53 hK53 wK53 => ?_
                      refine AW.region ?_
                      refine AOps.step rfl rfl rfl (OpQ.spec (sp_move rfl (.inl rfl)) _) ?_
                      refine AOps.step rfl rfl rfl (OpQ.spec (sp_move rfl (.inl rfl)) _) ?_
                      refine AOps.step rfl rfl rfl (OpQ.spec (sp_move rfl (.inl rfl)) _) ?_
                      refine ob1k h42 fun x15 ex15 h43 => ?_
                      refine AOps.step rfl rfl rfl (OpQ.spec (ms_idx_own rfl tg_79.slice (.inl rfl) rfl (.inl rfl) (fun _ => ex15)) _) ?_
                      refine AOps.step rfl rfl rfl (OpQ.spec (sp_fieldAddr_own (ob := .arr _ _ _ _) rfl tf_90_1 (.inl rfl) (fun _ => rfl) rfl) _) ?_
                      refine AOps.step0 rfl rfl (ms_store (v := (GSpan.mk x15.From r13)) rfl tz_3 (.inl rfl) rfl ex15 (.inl rfl) rfl rfl rfl rfl) ?_
                      refine AOps.nil ?_
                      refine hK53 _ ?_
                      refine AW.exit ?_
                      exact wK41 _ _ ((by exact Weak.cv ⟨.inl (.inl rfl), .inl (.inl rfl), .inl (.inl rfl), .inl (.inl rfl), .inl (.inl rfl), .inl (.inl rfl), .inl (.inl rfl), .inl (.inl rfl), trivial⟩ ⟨.inl rfl, trivial⟩ (Nat.le_refl _))) (J5 _ (vec [(i5 0), ((i5 1) + 1)]) (Option.some.inj h43).symm)
                    · have h42 := ite_f hc11 h41
                      refine AW.skip ?_
                      refine hK50 _ ?_
                      refine AW.region ?_
                      refine AOps.step rfl rfl rfl (OpQ.spec (sp_move rfl (.inl rfl)) _) ?_
                      refine AOps.step rfl rfl rfl (OpQ.spec (sp_move rfl (.inl rfl)) _) ?_
                      refine AOps.step rfl rfl rfl (OpQ.spec (sp_move rfl (.inl rfl)) _) ?_
                      refine AOps.step rfl rfl rfl (OpQ.spec (sp_build rfl tb_90 (q := [(0, _), (1, _)]) (by exact ⟨rfl, rfl, rfl, (.inl rfl), rfl, rfl, rfl, (.inl rfl), trivial⟩) (cs := [.r (.int .i64 r12), .r (.int .i64 r13)]) (by rfl)) _) ?_
                      refine AOps.step rfl rfl rfl (ms_lit 188 rfl tg_79 (f := GSpan.row) (l := ([(GSpan.mk r12 r13)] : List GSpan)) ⟨rfl, ⟨_, (.inl rfl), rfl⟩, trivial⟩ rfl (fun _ => rfl) rfl) ?_
                      refine ob1k h42 fun want6 ewant6 h44 => ?_
                      refine AOps.step rfl rfl rfl (ms_app rfl tg_79 (.inl rfl) rfl (.inr (.inl ⟨_, _, (.inl rfl), rfl⟩)) ewant6) ?_
                      refine AOps.step rfl rfl rfl (OpQ.spec (sp_assign rfl (.inl rfl)) _) ?_
                      refine AOps.nil ?_
                      exact wK41 _ _ ((by exact Weak.cv ⟨.inl (.inl rfl), .inl (.inl rfl), .inl (.inl rfl), .inl (.inl rfl), .inl (.inl rfl), .inl (.inl rfl), .inl (.inl rfl), .inl (.inl rfl), trivial⟩ ⟨.inl rfl, trivial⟩ (Nat.le_refl _))) (J5 _ (vec [((i5 1) + 2), ((i5 1) + 3)]) (Option.some.inj h44).symm)
              · have h32 := ite_f hc8 h31
                refine AW.exit ?_
                exact wK25 _ _ ((by exact Weak.cv ⟨.inl (.inl rfl), .inl (.inl rfl), .inl (.inl rfl), trivial⟩ ⟨.inl rfl, trivial⟩ (Nat.le_refl _))) (J3 _ (vec [(i5 0), (i5 1)]) (hx1 _ (Option.some.inj h32).symm))
          refine AW.cond rfl (fun hc12 => ?_) (fun hc12 => ?_)
          · have h45 := ite_t hc12 hp2
            refine AW.weak (s' := ⟨[(0, .r (.sl (d1.map GStep.row))), (1, .r (.sl (l1.map GSpan.row))), (11, .r (.sl (r5.map GSpan.row))), (12, .r (.int .i64 r6)), (14, .r (.sl (units1.map (rInt .i64))))], [], (i1 0), 215⟩) (by exact Weak.cv ⟨.inl (.inl rfl), .inl (.inl rfl), .inl (.inl rfl), .inl (.inl rfl), .inl (.inl rfl), trivial⟩ trivial (Nat.le_refl _)) ?_
            refine AW.region ?_
            refine AOps.step rfl rfl rfl (OpQ.spec (sp_assign rfl (.inl rfl)) _) ?_
            refine AOps.nil ?_
            exact wK19 _ _ ((by exact Weak.cv ⟨.inl (.inl rfl), .inl (.inl rfl), .inl (.inl rfl), .inl (.inl rfl), .inl (.inl rfl), .inl (.inl rfl), trivial⟩ trivial (Nat.le_refl _))) (J2 _ (vec [(i1 0)]) (Option.some.inj h45).symm)
          · have h45 := ite_f hc12 hp2
            refine AW.skip ?_
            exact wK19 _ _ ((by exact Weak.cv ⟨.inl (.inl rfl), .inl (.inl rfl), .inl (.inl rfl), .inl (.inl rfl), .inl (.inl rfl), .inl (.inl rfl), trivial⟩ trivial (Nat.le_refl _))) (J2 _ (vec [(i1 0)]) (Option.some.inj h45).symm)
        refine AW.cond rfl (fun hc13 => ?_) (fun hc13 => ?_)
        · have h46 := ite_t hc13 hp1
          refine AW.seq_w fun K54 hK54 wK54 => ?_
          refine AW.region ?_
          refine AOps.step rfl rfl rfl (OpQ.spec (sp_move rfl (.inl rfl)) _) ?_
          refine AOps.step rfl rfl rfl (OpQ.spec (sp_neq rfl (.inl rfl) (.inl rfl)) _) ?_
          refine AOps.step rfl rfl rfl (OpQ.spec (sp_move rfl (.inl rfl)) _) ?_
          refine AOps.stepW (.one rfl rfl rfl) rfl rfl (OpQ.spec (sp_move rfl (.inl rfl)) _) ?_
          refine AOps.stepW (.one rfl rfl rfl) rfl rfl (OpQ.spec (sp_neq rfl (.inr ⟨_, (by exact id), rfl⟩) (.inl rfl)) _) ?_
          refine AOps.step rfl rfl rfl (OpQ.spec (sp_or rfl (.inl rfl) (.inr ⟨_, (by exact id), rfl⟩)) _) ?_
          refine AOps.nil ?_
          refine hK54 _ ?_
          refine AW.cond rfl (fun hc14 => ?_) (fun hc14 => ?_)
          · have h47 := ite_t hc14 h46
            refine AW.seq_w fun K55 hK55 wK55 => ?_
            refine AW.weak (s' := ⟨[], [], n0, 215⟩) (by exact Weak.cv trivial trivial (Nat.le_refl _)) ?_
            refine AW.region ?_
            refine AOps.step rfl rfl rfl (OpQ.spec (sp_assign rfl (.inl rfl)) _) ?_
            refine AOps.nil ?_
            refine hK55 _ ?_
            refine AW.ret ?_
            exact retf1 (P := Try.prog) (fun (r : Bool) => .r (.bool r)) (he1 _ (Option.some.inj h47).symm) (.inl rfl) (.t (.d rfl))
          · have h47 := ite_f hc14 h46
            refine AW.skip ?_
            exact wK16 _ _ ((by exact Weak.cv ⟨.inl (.inl rfl), .inl (.inl rfl), .inl (.inl rfl), .inl (.inl rfl), .inl (.inl rfl), .inl (.inl rfl), trivial⟩ trivial (Nat.le_refl _))) (J1 _ (vec [n0]) (Option.some.inj h47).symm)
        · have h46 := ite_f hc13 hp1
          refine AW.seq_w fun K56 hK56 wK56 => ?_
          refine AW.region ?_
          refine AOps.step rfl rfl rfl (OpQ.spec (sp_move rfl (.inl rfl)) _) ?_
          refine AOps.step rfl rfl rfl (OpQ.spec (sp_neq rfl (.inl rfl) (.inl rfl)) _) ?_
          refine AOps.step rfl rfl rfl (OpQ.spec (sp_move rfl (.inl rfl)) _) ?_
          refine AOps.stepW (.one rfl rfl rfl) rfl rfl (OpQ.spec (sp_move rfl (.inl rfl)) _) ?_
          refine AOps.stepW (.one rfl rfl rfl) rfl rfl (OpQ.spec (sp_move rfl (.inl rfl)) _) ?_
          refine AOps.stepW (.one rfl rfl rfl) rfl rfl (OpQ.spec (sp_move rfl (.inl rfl)) _) ?_
          refine AOps.stepW (.one rfl rfl rfl) rfl rfl (OpQ.spec (sp_move rfl (.inl rfl)) _) ?_
          refine ob1k h46 fun r16 er16 h48 => ?_
          refine AOps.stepW (.one rfl rfl rfl) rfl rfl (sp_call (r := .r (.int .i64 r16)) (caps := []) (bs := [.r (.sl (units1.map (rInt .i64))), .r (.int .i64 at1), .r (.bool right1)]) rfl (.inl rfl) rfl ⟨⟨_, (.inr ⟨_, (by exact id), rfl⟩), .d rfl⟩, ⟨_, (.inr ⟨_, (by exact id), rfl⟩), .d rfl⟩, ⟨_, (.inr ⟨_, (by exact id), rfl⟩), .d rfl⟩, trivial⟩ (fun hg => w_ref_GapAt (gdt er16 hg)) rfl) ?_
          refine AOps.stepW (.one rfl rfl rfl) rfl rfl (OpQ.spec (sp_neq rfl (.inr ⟨_, (by exact id), rfl⟩) (.inr ⟨_, (by exact id), rfl⟩)) _) ?_
          refine AOps.step rfl rfl rfl (OpQ.spec (sp_or rfl (.inl rfl) (.inr ⟨_, (by exact id), rfl⟩)) _) ?_
          refine AOps.nil ?_
          refine hK56 _ ?_
          refine AW.cond rfl (fun hc15 => ?_) (fun hc15 => ?_)
          · have h49 := ite_t hc15 h48
            refine AW.seq_w fun K57 hK57 wK57 => ?_
            refine AW.weak (s' := ⟨[], [], n0, 215⟩) (by exact Weak.cv trivial trivial (Nat.le_refl _)) ?_
            refine AW.region ?_
            refine AOps.step rfl rfl rfl (OpQ.spec (sp_assign rfl (.inl rfl)) _) ?_
            refine AOps.nil ?_
            refine hK57 _ ?_
            refine AW.ret ?_
            exact retf1 (P := Try.prog) (fun (r : Bool) => .r (.bool r)) (he1 _ (Option.some.inj h49).symm) (.inl rfl) (.t (.d rfl))
          · have h49 := ite_f hc15 h48
            refine AW.skip ?_
            exact wK16 _ _ ((by exact Weak.cv ⟨.inl (.inl rfl), .inl (.inl rfl), .inl (.inl rfl), .inl (.inl rfl), .inl (.inl rfl), .inl (.inl rfl), trivial⟩ trivial (Nat.le_refl _))) (J1 _ (vec [n0]) (Option.some.inj h49).symm)
end Go.Proofs.Ytdeglnbioiicaaa.Al
