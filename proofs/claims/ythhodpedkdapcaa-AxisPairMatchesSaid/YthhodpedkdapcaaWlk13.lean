/- Walks, as printed. -/
import Derived.Test.YthhodpedkdapcaaPL1
import Derived.Test.YthhodpedkdapcaaProg
set_option linter.unusedVariables false
namespace Go.Proofs.Ythhodpedkdapcaa.Al
open Go.Proofs
theorem hmix : Try.prog.follows .mixedOrders = true := by kernel_rfl
theorem i_107 : (Try.prog.info? 107).map (fun i => (i.zero, i.size, i.bytes)) = some (some (.agg #[.string ⟨#[]⟩, .string ⟨#[]⟩]), 2, 32) := by kernel_rfl
theorem i_113 : (Try.prog.info? 113).map (fun i => (i.zero, i.size, i.bytes)) = some (some (.agg #[.slice none 0 0, .int .i64 0, .int .i64 0]), 3, 40) := by kernel_rfl
theorem i_119 : (Try.prog.info? 119).map (fun i => (i.zero, i.size, i.bytes)) = some (some (.agg #[.slice none 0 0, .int .i64 0]), 2, 32) := by kernel_rfl
theorem i_124 : (Try.prog.info? 124).map (fun i => (i.zero, i.size, i.bytes)) = some (some (.agg #[.int .i64 0, .int .i64 0, .slice none 0 0, .slice none 0 0]), 4, 64) := by kernel_rfl
theorem i_27 : (Try.prog.info? 27).map (fun i => (i.zero, i.size, i.bytes)) = some (some (.slice none 0 0), 1, 24) := by kernel_rfl
theorem i_3 : (Try.prog.info? 3).map (fun i => (i.zero, i.size, i.bytes)) = some (some (.int .i64 0), 1, 8) := by kernel_rfl
theorem i_4 : (Try.prog.info? 4).map (fun i => (i.zero, i.size, i.bytes)) = some (some (.bool false), 1, 1) := by kernel_rfl
theorem i_44 : (Try.prog.info? 44).map (fun i => (i.zero, i.size, i.bytes)) = some (some (.slice none 0 0), 1, 24) := by kernel_rfl
theorem i_55 : (Try.prog.info? 55).map (fun i => (i.zero, i.size, i.bytes)) = some (some (.slice none 0 0), 1, 24) := by kernel_rfl
theorem i_65 : (Try.prog.info? 65).map (fun i => (i.zero, i.size, i.bytes)) = some (some (.slice none 0 0), 1, 24) := by kernel_rfl
theorem i_70 : (Try.prog.info? 70).map (fun i => (i.zero, i.size, i.bytes)) = some (some (.agg #[.int .i64 0, .int .i64 0, .slice none 0 0]), 3, 40) := by kernel_rfl
theorem i_80 : (Try.prog.info? 80).map (fun i => (i.zero, i.size, i.bytes)) = some (some (.agg #[.int .i64 0, .int .i64 0]), 2, 16) := by kernel_rfl
theorem i_9 : (Try.prog.info? 9).map (fun i => (i.zero, i.size, i.bytes)) = some (some (.string ⟨#[]⟩), 1, 16) := by kernel_rfl
theorem i_91 : (Try.prog.info? 91).map (fun i => (i.zero, i.size, i.bytes)) = some (some (.slice none 0 0), 1, 24) := by kernel_rfl
theorem i_92 : (Try.prog.info? 92).map (fun i => (i.zero, i.size, i.bytes)) = some (some (.slice none 0 0), 1, 24) := by kernel_rfl
theorem i_94 : (Try.prog.info? 94).map (fun i => (i.zero, i.size, i.bytes)) = some (some (.agg #[.slice none 0 0, .slice none 0 0, .slice none 0 0]), 3, 72) := by kernel_rfl
theorem t0_113 : ZeroTy Try.prog 113 (.agg #[.slice none 0 0, .int .i64 0, .int .i64 0]) := ZeroTy.of i_113
theorem t0_124 : ZeroTy Try.prog 124 (.agg #[.int .i64 0, .int .i64 0, .slice none 0 0, .slice none 0 0]) := ZeroTy.of i_124
theorem t0_80 : ZeroTy Try.prog 80 (.agg #[.int .i64 0, .int .i64 0]) := ZeroTy.of i_80
theorem t0_94 : ZeroTy Try.prog 94 (.agg #[.slice none 0 0, .slice none 0 0, .slice none 0 0]) := ZeroTy.of i_94
theorem ta_107 : AggTy Try.prog 107 2 := AggTy.of Try.underlying107 rfl i_107
theorem ta_124 : AggTy Try.prog 124 4 := AggTy.of Try.underlying124 rfl i_124
theorem ta_80 : AggTy Try.prog 80 2 := AggTy.of Try.underlying80 rfl i_80
theorem ta_94 : AggTy Try.prog 94 3 := AggTy.of Try.underlying94 rfl i_94
theorem tb_119 : BuildTy Try.prog 119 [(0, 1), (1, 1)] [.slice none 0 0, .int .i64 0] := BuildTy.of Try.underlying119 (fun w => by kernel_rfl) i_119
theorem tb_124 : BuildTy Try.prog 124 [(0, 1), (1, 1), (2, 1), (3, 1)] [.int .i64 0, .int .i64 0, .slice none 0 0, .slice none 0 0] := BuildTy.of Try.underlying124 (fun w => by kernel_rfl) i_124
theorem tb_70 : BuildTy Try.prog 70 [(0, 1), (1, 1), (2, 1)] [.int .i64 0, .int .i64 0, .slice none 0 0] := BuildTy.of Try.underlying70 (fun w => by kernel_rfl) i_70
theorem tb_80 : BuildTy Try.prog 80 [(0, 1), (1, 1)] [.int .i64 0, .int .i64 0] := BuildTy.of Try.underlying80 (fun w => by kernel_rfl) i_80
theorem tb_94 : BuildTy Try.prog 94 [(0, 1), (1, 1), (2, 1)] [.slice none 0 0, .slice none 0 0, .slice none 0 0] := BuildTy.of Try.underlying94 (fun w => by kernel_rfl) i_94
theorem te_107 : EqTy Try.prog 107 [some .string, some .string] := EqTy.of Try.underlying107 (by kernel_rfl) (by kernel_rfl) (by exact ⟨rfl, rfl, Try.underlying9, rfl, rfl, Try.underlying9, trivial⟩)
theorem te_80 : EqTy Try.prog 80 [some (.int .i64), some (.int .i64)] := EqTy.of Try.underlying80 (by kernel_rfl) (by kernel_rfl) (by exact ⟨rfl, rfl, Try.underlying3, rfl, rfl, Try.underlying3, trivial⟩)
theorem tf_107_0 : FieldTy Try.prog 107 0 0 := FieldTy.of Try.underlying107 rfl rfl i_9 (by decide)
theorem tf_113_0 : FieldTy Try.prog 113 0 0 := FieldTy.of Try.underlying113 rfl rfl i_44 (by decide)
theorem tf_113_1 : FieldTy Try.prog 113 1 1 := FieldTy.of Try.underlying113 rfl rfl i_3 (by decide)
theorem tf_113_2 : FieldTy Try.prog 113 2 2 := FieldTy.of Try.underlying113 rfl rfl i_3 (by decide)
theorem tf_119_0 : FieldTy Try.prog 119 0 0 := FieldTy.of Try.underlying119 rfl rfl i_44 (by decide)
theorem tf_119_1 : FieldTy Try.prog 119 1 1 := FieldTy.of Try.underlying119 rfl rfl i_3 (by decide)
theorem tf_124_0 : FieldTy Try.prog 124 0 0 := FieldTy.of Try.underlying124 rfl rfl i_3 (by decide)
theorem tf_124_1 : FieldTy Try.prog 124 1 1 := FieldTy.of Try.underlying124 rfl rfl i_3 (by decide)
theorem tf_124_2 : FieldTy Try.prog 124 2 2 := FieldTy.of Try.underlying124 rfl rfl i_55 (by decide)
theorem tf_124_3 : FieldTy Try.prog 124 3 3 := FieldTy.of Try.underlying124 rfl rfl i_65 (by decide)
theorem tf_80_0 : FieldTy Try.prog 80 0 0 := FieldTy.of Try.underlying80 rfl rfl i_3 (by decide)
theorem tf_80_1 : FieldTy Try.prog 80 1 1 := FieldTy.of Try.underlying80 rfl rfl i_3 (by decide)
theorem tf_94_0 : FieldTy Try.prog 94 0 0 := FieldTy.of Try.underlying94 rfl rfl i_91 (by decide)
theorem tf_94_1 : FieldTy Try.prog 94 1 1 := FieldTy.of Try.underlying94 rfl rfl i_27 (by decide)
theorem tf_94_2 : FieldTy Try.prog 94 2 2 := FieldTy.of Try.underlying94 rfl rfl i_92 (by decide)
theorem tg_122 : GrowTy Try.prog 122 124 4 64 := GrowTy.of Try.underlying122 i_124 rfl rfl (by decide)
theorem tg_27 : GrowTy Try.prog 27 4 1 1 := GrowTy.of Try.underlying27 i_4 rfl rfl (by decide)
theorem tg_44 : GrowTy Try.prog 44 80 2 16 := GrowTy.of Try.underlying44 i_80 rfl rfl (by decide)
theorem tg_45 : GrowTy Try.prog 45 3 1 8 := GrowTy.of Try.underlying45 i_3 rfl rfl (by decide)
theorem tg_55 : GrowTy Try.prog 55 107 2 32 := GrowTy.of Try.underlying55 i_107 rfl rfl (by decide)
theorem tg_65 : GrowTy Try.prog 65 70 3 40 := GrowTy.of Try.underlying65 i_70 rfl rfl (by decide)
theorem tg_91 : GrowTy Try.prog 91 65 1 24 := GrowTy.of Try.underlying91 i_65 rfl rfl (by decide)
theorem tg_92 : GrowTy Try.prog 92 55 1 24 := GrowTy.of Try.underlying92 i_55 rfl rfl (by decide)
theorem ts_27 : ScalTy Try.prog 27 := ScalTy.of Try.underlying27 rfl i_27
theorem ts_3 : ScalTy Try.prog 3 := ScalTy.of Try.underlying3 rfl i_3
theorem ts_4 : ScalTy Try.prog 4 := ScalTy.of Try.underlying4 rfl i_4
theorem ts_44 : ScalTy Try.prog 44 := ScalTy.of Try.underlying44 rfl i_44
theorem ts_55 : ScalTy Try.prog 55 := ScalTy.of Try.underlying55 rfl i_55
theorem ts_65 : ScalTy Try.prog 65 := ScalTy.of Try.underlying65 rfl i_65
theorem ts_9 : ScalTy Try.prog 9 := ScalTy.of Try.underlying9 rfl i_9
theorem ts_91 : ScalTy Try.prog 91 := ScalTy.of Try.underlying91 rfl i_91
theorem ts_92 : ScalTy Try.prog 92 := ScalTy.of Try.underlying92 rfl i_92
theorem tz_124 : ∃ i, Try.prog.info? 124 = some i ∧ i.size = 4 := size_of i_124
theorem tz_27 : ∃ i, Try.prog.info? 27 = some i ∧ i.size = 1 := size_of i_27
theorem tz_3 : ∃ i, Try.prog.info? 3 = some i ∧ i.size = 1 := size_of i_3
theorem tz_44 : ∃ i, Try.prog.info? 44 = some i ∧ i.size = 1 := size_of i_44
theorem tz_65 : ∃ i, Try.prog.info? 65 = some i ∧ i.size = 1 := size_of i_65
theorem tz_80 : ∃ i, Try.prog.info? 80 = some i ∧ i.size = 2 := size_of i_80
theorem tz_91 : ∃ i, Try.prog.info? 91 = some i ∧ i.size = 1 := size_of i_91
theorem tz_92 : ∃ i, Try.prog.info? 92 = some i ∧ i.size = 1 := size_of i_92
theorem tz_94 : ∃ i, Try.prog.info? 94 = some i ∧ i.size = 3 := size_of i_94
set_option maxHeartbeats 4000000 in
set_option maxRecDepth 20000 in
theorem w_axis_Check {a1 : List GAxisStep} {r : Int} (h : axis_Check a1 = some r) : ARO Try.prog 60 [.r (.sl (a1.map GAxisStep.row))] (.r (.int .i64 r)) := by
  unfold axis_Check at h
  refine ARO.mkF Try.func60 rfl rfl Try.ntmps60 rfl (Nat.le_of_ble_eq_true rfl) fun n0 => ?_
  refine AW.seq_w fun K1 hK1 wK1 => ?_
  refine AW.region ?_
  refine AOps.step rfl rfl rfl (OpQ.spec (sp_assign rfl (.inl rfl)) _) ?_
  refine AOps.nil ?_
  refine hK1 _ ?_
  refine AW.seq_w fun K2 hK2 wK2 => ?_
  refine AW.region ?_
  refine AOps.step rfl rfl rfl (OpQ.spec (sp_assign rfl (.inl rfl)) _) ?_
  refine AOps.step rfl rfl rfl (OpQ.spec (sp_assign rfl (.inl rfl)) _) ?_
  refine AOps.nil ?_
  refine hK2 _ ?_
  refine AW.seq_w fun K3 hK3 wK3 => ?_
  refine AW.seq_w fun K4 hK4 wK4 => ?_
  refine AW.region ?_
  refine AOps.step rfl rfl rfl (OpQ.spec (sp_move rfl (.inl rfl)) _) ?_
  refine AOps.step rfl rfl rfl (OpQ.spec (ms_len rfl tg_44.slice (.inl rfl)) _) ?_
  refine AOps.step rfl rfl rfl (OpQ.spec (sp_move rfl (.inl rfl)) _) ?_
  refine AOps.nil ?_
  refine hK4 _ ?_
  refine AW.block ?_
  refine jc2k h fun o1 hit1 hk1 he1 => ?_
  have J1 : ∀ (before4 : Int) (after4 : Int) (i5 : Nat → Nat), o1 = .nrm (before4, after4) → K3 ⟨[(3, .r (.int .i64 before4)), (4, .r (.int .i64 after4))], [], (i5 0), 83⟩ := by
    intro before4 after4 i5 e
    have h1 := hk1 _ _ e
    refine hK3 _ ?_
    refine AW.seq_w fun K5 hK5 wK5 => ?_
    refine AW.seq_w fun K6 hK6 wK6 => ?_
    refine AW.region ?_
    refine AOps.step rfl rfl rfl (OpQ.spec (sp_move rfl (.inl rfl)) _) ?_
    refine AOps.step rfl rfl rfl (OpQ.spec (sp_gtr rfl (.inl rfl) (.inl rfl)) _) ?_
    refine AOps.step rfl rfl rfl (OpQ.spec (sp_move rfl (.inl rfl)) _) ?_
    refine AOps.stepW (.one rfl rfl rfl) rfl rfl (OpQ.spec (sp_move rfl (.inl rfl)) _) ?_
    refine AOps.stepW (.one rfl rfl rfl) rfl rfl (OpQ.spec (sp_gtr rfl (.inr ⟨_, (by exact id), rfl⟩) (.inl rfl)) _) ?_
    refine AOps.step rfl rfl rfl (OpQ.spec (sp_or rfl (.inl rfl) (.inr ⟨_, (by exact id), rfl⟩)) _) ?_
    refine AOps.nil ?_
    refine hK6 _ ?_
    refine AW.cond rfl (fun hc1 => ?_) (fun hc1 => ?_)
    · have h2 := ite_t hc1 h1
      refine AW.seq_w fun K7 hK7 wK7 => ?_
      refine AW.region ?_
      refine AOps.step rfl rfl rfl (OpQ.spec (sp_assign rfl (.inl rfl)) _) ?_
      refine AOps.nil ?_
      refine hK7 _ ?_
      refine AW.ret ?_
      exact retf1 (P := Try.prog) (fun (r : Int) => .r (.int .i64 r)) h2 (.inl rfl) (.t (.d rfl))
    · have h2 := ite_f hc1 h1
      refine AW.skip ?_
      refine hK5 _ ?_
      refine AW.seq_w fun K8 hK8 wK8 => ?_
      refine AW.region ?_
      refine AOps.step rfl rfl rfl (OpQ.spec (sp_assign rfl (.inl rfl)) _) ?_
      refine AOps.nil ?_
      refine hK8 _ ?_
      refine AW.ret ?_
      exact retf1 (P := Try.prog) (fun (r : Int) => .r (.int .i64 r)) h2 (.inl rfl) (.t (.d rfl))
  refine AW.iter3 (fun (before2 : Int) (after2 : Int) (x2 : Int) i3 => ⟨[(0, .r (.sl (a1.map GAxisStep.row))), (3, .r (.int .i64 before2)), (4, .r (.int .i64 after2)), (7, .r (.sl (a1.map GAxisStep.row))), (8, .r (.int .i64 (a1.length : Int))), (9, .r (.int .i64 x2))], [], (i3 0), 83⟩) (vec [n0]) hit1 ((by exact Weak.cv ⟨.inl (.inl rfl), .inl (.inl rfl), .inl (.inl rfl), .inl (.inl rfl), .inl (.inl rfl), .inl (.inl rfl), trivial⟩ trivial (Nat.le_refl _))) ?_
  intro before2 after2 x2 i3 v1 hv1 hx1
  have h3 : axis_Check_L1 a1 before2 after2 x2 = some v1 := hv1; unfold axis_Check_L1 at h3
  refine AW.seq_w fun K9 hK9 wK9 => ?_
  refine AW.region ?_
  refine AOps.step rfl rfl rfl (OpQ.spec (sp_lss rfl (.inl rfl) (.inl rfl)) _) ?_
  refine AOps.nil ?_
  refine hK9 _ ?_
  refine AW.seq_w fun K10 hK10 wK10 => ?_
  refine AW.cond rfl (fun hc2 => ?_) (fun hc2 => ?_)
  · have h4 := ite_t hc2 h3
    refine AW.skip ?_
    refine hK10 _ ?_
    refine AW.seq_w fun K11 hK11 wK11 => ?_
    refine AW.block ?_
    refine jc2k h4 fun p1 hp1 hk2 he2 => ?_
    have J2 : ∀ (before5 : Int) (after5 : Int) (i6 : Nat → Nat), p1 = .nrm (before5, after5) → K11 ⟨[(0, .r (.sl (a1.map GAxisStep.row))), (3, .r (.int .i64 before5)), (4, .r (.int .i64 after5)), (7, .r (.sl (a1.map GAxisStep.row))), (8, .r (.int .i64 (a1.length : Int))), (9, .r (.int .i64 x2))], [], (i6 0), 83⟩ := by
      intro before5 after5 i6 e
      have h5 := hk2 _ _ e
      refine hK11 _ ?_
      refine AW.region ?_
      refine ob1k h5 fun x4 ex4 h6 => ?_
      refine AOps.step rfl rfl rfl (OpQ.spec (ms_add rfl (.inl rfl) (.inl rfl) (fun _ => ex4)) _) ?_
      refine AOps.step rfl rfl rfl (OpQ.spec (sp_move rfl (.inl rfl)) _) ?_
      refine AOps.nil ?_
      exact NextQ3.mk h6 (vec [(i6 0)]) ((by exact Weak.cv ⟨.inl (.inl rfl), .inl (.inl rfl), .inl (.inl rfl), .inl (.inl rfl), .inl (.inl rfl), .inl (.inl rfl), trivial⟩ trivial (Nat.le_refl _)))
    refine AW.seq_w fun K12 hK12 wK12 => ?_
    refine AW.region ?_
    refine AOps.step rfl rfl rfl (OpQ.spec (sp_move rfl (.inl rfl)) _) ?_
    refine ob1k hp1 fun x5 ex5 h7 => ?_
    refine AOps.step rfl rfl rfl (OpQ.spec (ms_idx rfl tg_44.slice (.inl rfl) (.inl rfl) (fun _ => rfl) (fun _ => ex5)) _) ?_
    refine AOps.step rfl rfl rfl (OpQ.spec (ms_loadA (cs := [.r (.int .i64 x5.Kind), .r (.int .i64 x5.N)]) rfl ta_80 (.inl rfl) rfl rfl) _) ?_
    refine AOps.step rfl rfl rfl (ms_alloc (cs := [.r (.int .i64 0), .r (.int .i64 0)]) 6 rfl t0_80 rfl rfl) ?_
    refine AOps.step rfl rfl rfl (OpQ.spec (sp_assign rfl (.inl rfl)) _) ?_
    refine AOps.step0 rfl rfl (ms_store_box (ds := [.r (.int .i64 x5.Kind), .r (.int .i64 x5.N)]) rfl tz_80 (.inl rfl) rfl (.inl rfl) rfl rfl rfl rfl) ?_
    refine AOps.nil ?_
    refine hK12 _ ?_
    refine AW.seq_w fun K13 hK13 wK13 => ?_
    refine AW.block ?_
    refine AW.seq_w fun K14 hK14 wK14 => ?_
    refine AW.region ?_
    refine AOps.step rfl rfl rfl (OpQ.spec (sp_fieldAddr_own (ob := .box _ _ _) rfl tf_80_0 (.inl rfl) (fun _ => rfl) rfl) _) ?_
    refine AOps.step rfl rfl rfl (OpQ.spec (ms_load_box (a := .r (.int .i64 x5.Kind)) rfl ts_3 (.inl rfl) rfl rfl) _) ?_
    refine AOps.step rfl rfl rfl (OpQ.spec (sp_lss rfl (.inl rfl) (.inl rfl)) _) ?_
    refine AOps.step rfl rfl rfl (OpQ.spec (sp_move rfl (.inl rfl)) _) ?_
    refine AOps.stepW (.one rfl rfl rfl) rfl rfl (OpQ.spec (sp_fieldAddr_own (ob := .box _ _ _) rfl tf_80_0 (.inl rfl) (fun _ => rfl) rfl) _) ?_
    refine AOps.stepW (.one rfl rfl rfl) rfl rfl (OpQ.spec (ms_load_box (a := .r (.int .i64 x5.Kind)) rfl ts_3 (.inr ⟨_, (by exact id), rfl⟩) rfl rfl) _) ?_
    refine AOps.stepW (.one rfl rfl rfl) rfl rfl (OpQ.spec (sp_gtr rfl (.inr ⟨_, (by exact id), rfl⟩) (.inl rfl)) _) ?_
    refine AOps.step rfl rfl rfl (OpQ.spec (sp_or rfl (.inl rfl) (.inr ⟨_, (by exact id), rfl⟩)) _) ?_
    refine AOps.step rfl rfl rfl (OpQ.spec (sp_assign rfl (.inl rfl)) _) ?_
    refine AOps.nil ?_
    refine hK14 _ ?_
    refine AW.cond rfl (fun hc3 => ?_) (fun hc3 => ?_)
    · have h8 := ite_t hc3 h7
      refine AW.seq_w fun K15 hK15 wK15 => ?_
      refine AW.weak (s' := ⟨[], [], ((i3 0) + 1), 83⟩) (by exact Weak.cv trivial trivial (Nat.le_refl _)) ?_
      refine AW.region ?_
      refine AOps.step rfl rfl rfl (OpQ.spec (sp_assign rfl (.inl rfl)) _) ?_
      refine AOps.nil ?_
      refine hK15 _ ?_
      refine AW.ret ?_
      exact retf1 (P := Try.prog) (fun (r : Int) => .r (.int .i64 r)) (he1 _ (hx1 _ (Option.some.inj (he2 _ (Option.some.inj h8).symm)).symm)) (.inl rfl) (.t (.d rfl))
    · have h8 := ite_f hc3 h7
      refine AW.seq_w fun K16 hK16 wK16 => ?_
      refine AW.weak (s' := ⟨[(0, .r (.sl (a1.map GAxisStep.row))), (3, .r (.int .i64 before2)), (4, .r (.int .i64 after2)), (5, .r (.int .i64 x2)), (6, .ptr 6 (i3 0) 0 0), (7, .r (.sl (a1.map GAxisStep.row))), (8, .r (.int .i64 (a1.length : Int))), (9, .r (.int .i64 x2))], [(6, some (.box (i3 0) 80 [.r (.int .i64 x5.Kind), .r (.int .i64 x5.N)]))], ((i3 0) + 1), 83⟩) (by exact Weak.cv ⟨.inl (.inl rfl), .inl (.inl rfl), .inl (.inl rfl), .inl (.inl rfl), .inl (.inl rfl), .inl (.inl rfl), .inl (.inl rfl), .inl (.inl rfl), trivial⟩ ⟨.inl rfl, trivial⟩ (Nat.le_refl _)) ?_
      refine AW.region ?_
      refine AOps.step rfl rfl rfl (OpQ.spec (sp_fieldAddr_own (ob := .box _ _ _) rfl tf_80_1 (.inl rfl) (fun _ => rfl) rfl) _) ?_
      refine AOps.step rfl rfl rfl (OpQ.spec (ms_load_box (a := .r (.int .i64 x5.N)) rfl ts_3 (.inl rfl) rfl rfl) _) ?_
      refine AOps.step rfl rfl rfl (OpQ.spec (sp_lss rfl (.inl rfl) (.inl rfl)) _) ?_
      refine AOps.step rfl rfl rfl (OpQ.spec (sp_move rfl (.inl rfl)) _) ?_
      refine AOps.stepW (.one rfl rfl rfl) rfl rfl (OpQ.spec (sp_fieldAddr_own (ob := .box _ _ _) rfl tf_80_1 (.inl rfl) (fun _ => rfl) rfl) _) ?_
      refine AOps.stepW (.one rfl rfl rfl) rfl rfl (OpQ.spec (ms_load_box (a := .r (.int .i64 x5.N)) rfl ts_3 (.inr ⟨_, (by exact id), rfl⟩) rfl rfl) _) ?_
      refine AOps.stepW (.one rfl rfl rfl) rfl rfl (OpQ.spec (sp_gtr rfl (.inr ⟨_, (by exact id), rfl⟩) (.inl rfl)) _) ?_
      refine AOps.step rfl rfl rfl (OpQ.spec (sp_or rfl (.inl rfl) (.inr ⟨_, (by exact id), rfl⟩)) _) ?_
      refine AOps.step rfl rfl rfl (OpQ.spec (sp_assign rfl (.inl rfl)) _) ?_
      refine AOps.nil ?_
      refine hK16 _ ?_
      refine AW.cond rfl (fun hc4 => ?_) (fun hc4 => ?_)
      · have h9 := ite_t hc4 h8
        refine AW.seq_w fun K17 hK17 wK17 => ?_
        refine AW.weak (s' := ⟨[], [], ((i3 0) + 1), 83⟩) (by exact Weak.cv trivial trivial (Nat.le_refl _)) ?_
        refine AW.region ?_
        refine AOps.step rfl rfl rfl (OpQ.spec (sp_assign rfl (.inl rfl)) _) ?_
        refine AOps.nil ?_
        refine hK17 _ ?_
        refine AW.ret ?_
        exact retf1 (P := Try.prog) (fun (r : Int) => .r (.int .i64 r)) (he1 _ (hx1 _ (Option.some.inj (he2 _ (Option.some.inj h9).symm)).symm)) (.inl rfl) (.t (.d rfl))
      · have h9 := ite_f hc4 h8
        refine AW.seq_w fun K18 hK18 wK18 => ?_
        refine AW.regionQ hmix (by kernel_rfl) ?_
        refine AQ.step rfl rfl rfl (sp_move rfl (.inl rfl)) ?_
        refine AQ.step rfl rfl rfl (sp_gtr rfl (.inl rfl) (.inl rfl)) ?_
        refine AQ.step rfl rfl rfl (sp_move rfl (.inl rfl)) ?_
        refine AQ.stepW (.one rfl rfl rfl) rfl rfl (sp_move rfl (.inl rfl)) ?_
        refine AQ.stepW (.one rfl rfl rfl) rfl rfl (sp_move rfl (.inl rfl)) ?_
        refine ob1k h9 fun x6 ex6 h10 => ?_
        refine AQ.stepW (.one rfl rfl rfl) rfl rfl (ms_sub rfl (.inr ⟨_, (by exact id), rfl⟩) (.inl rfl) (gdt ex6)) ?_
        refine ob1k h10 fun x7 ex7 h11 => ?_
        refine AQ.stepW (.one rfl rfl rfl) rfl rfl (ms_idx rfl tg_44.slice (.inr ⟨_, (by exact id), rfl⟩) (.inr ⟨_, (by exact id), rfl⟩) (fun _ => rfl) (gdt ex7)) ?_
        refine AQ.stepW (.one rfl rfl rfl) rfl rfl (sp_fieldAddr_ro rfl tf_80_0 (.inr ⟨_, (by exact id), rfl⟩)) ?_
        refine AQ.stepW (.one rfl rfl rfl) rfl rfl (ms_load (d := .int .i64 x7.Kind) rfl ts_3 (.inr ⟨_, (by exact id), rfl⟩) rfl) ?_
        refine AQ.stepW (.one rfl rfl rfl) rfl rfl (sp_fieldAddr_own (ob := .box _ _ _) rfl tf_80_0 (.inl rfl) (fun _ => rfl) rfl) ?_
        refine AQ.stepW (.one rfl rfl rfl) rfl rfl (ms_load_box (a := .r (.int .i64 x5.Kind)) rfl ts_3 (.inr ⟨_, (by exact id), rfl⟩) rfl rfl) ?_
        refine AQ.stepW (.one rfl rfl rfl) rfl rfl (sp_eql rfl (.inr ⟨_, (by exact id), rfl⟩) (.inr ⟨_, (by exact id), rfl⟩)) ?_
        refine AQ.stepW (.one rfl rfl rfl) rfl rfl (sp_move rfl (.inr ⟨_, (by exact id), rfl⟩)) ?_
        refine AQ.stepW (.two rfl rfl rfl) rfl rfl (sp_move rfl (.inl rfl)) ?_
        refine AQ.stepW (.two rfl rfl rfl) rfl rfl (sp_move rfl (.inl rfl)) ?_
        refine AQ.stepW (.two rfl rfl rfl) rfl rfl (ms_sub rfl (.inr ⟨_, (by exact id), rfl⟩) (.inl rfl) (fun h => gdt ex6 (Bool.and_eq_true_iff.1 h).1)) ?_
        refine AQ.stepW (.two rfl rfl rfl) rfl rfl (ms_idx rfl tg_44.slice (.inr ⟨_, (by exact id), rfl⟩) (.inr ⟨_, (by exact id), rfl⟩) (fun _ => rfl) (fun h => gdt ex7 (Bool.and_eq_true_iff.1 h).1)) ?_
        refine AQ.stepW (.two rfl rfl rfl) rfl rfl (sp_fieldAddr_ro rfl tf_80_0 (.inr ⟨_, (by exact id), rfl⟩)) ?_
        refine AQ.stepW (.two rfl rfl rfl) rfl rfl (ms_load (d := .int .i64 x7.Kind) rfl ts_3 (.inr ⟨_, (by exact id), rfl⟩) rfl) ?_
        refine AQ.stepW (.two rfl rfl rfl) rfl rfl (sp_eql rfl (.inr ⟨_, (by exact id), rfl⟩) (.inl rfl)) ?_
        refine AQ.stepW (.two rfl rfl rfl) rfl rfl (sp_move rfl (.inr ⟨_, (by exact id), rfl⟩)) ?_
        refine AQ.stepW (.two rfl rfl rfl) rfl rfl (sp_fieldAddr_own (ob := .box _ _ _) rfl tf_80_0 (.inl rfl) (fun _ => rfl) rfl) ?_
        refine AQ.stepW (.two rfl rfl rfl) rfl rfl (ms_load_box (a := .r (.int .i64 x5.Kind)) rfl ts_3 (.inr ⟨_, (by exact id), rfl⟩) rfl rfl) ?_
        refine AQ.stepW (.two rfl rfl rfl) rfl rfl (sp_eql rfl (.inr ⟨_, (by exact id), rfl⟩) (.inl rfl)) ?_
        refine AQ.stepW (.two rfl rfl rfl) rfl rfl (sp_and rfl (.inr ⟨_, (by exact id), rfl⟩) (.inr ⟨_, (by exact id), rfl⟩)) ?_
        refine AQ.stepW (.one rfl rfl rfl) rfl rfl (sp_or rfl (.inr ⟨_, (by exact id), rfl⟩) (.inr ⟨_, (by exact id), rfl⟩)) ?_
        refine AQ.step rfl rfl rfl (sp_and rfl (.inl rfl) (.inr ⟨_, (by exact id), rfl⟩)) ?_
        refine AQ.step rfl rfl rfl (sp_assign rfl (.inl rfl)) ?_
        refine AQ.nil ?_
        refine hK18 _ ?_
        refine AW.cond rfl (fun hc5 => ?_) (fun hc5 => ?_)
        · have h12 := ite_t hc5 h11
          refine AW.seq_w fun K19 hK19 wK19 => ?_
          refine AW.weak (s' := ⟨[], [], ((i3 0) + 1), 83⟩) (by exact Weak.cv trivial trivial (Nat.le_refl _)) ?_
          refine AW.region ?_
          refine AOps.step rfl rfl rfl (OpQ.spec (sp_assign rfl (.inl rfl)) _) ?_
          refine AOps.nil ?_
          refine hK19 _ ?_
          refine AW.ret ?_
          exact retf1 (P := Try.prog) (fun (r : Int) => .r (.int .i64 r)) (he1 _ (hx1 _ (Option.some.inj (he2 _ (Option.some.inj h12).symm)).symm)) (.inl rfl) (.t (.d rfl))
        · have h12 := ite_f hc5 h11
          refine AW.skip ?_
          refine hK13 _ ?_
          refine AW.seq_w fun K20 hK20 wK20 => ?_
          refine AW.seq_w fun K21 hK21 wK21 => ?_
          refine AW.weak (s' := ⟨[(0, .r (.sl (a1.map GAxisStep.row))), (3, .r (.int .i64 before2)), (4, .r (.int .i64 after2)), (6, .ptr 6 (i3 0) 0 0), (7, .r (.sl (a1.map GAxisStep.row))), (8, .r (.int .i64 (a1.length : Int))), (9, .r (.int .i64 x2))], [(6, some (.box (i3 0) 80 [.r (.int .i64 x5.Kind), .r (.int .i64 x5.N)]))], ((i3 0) + 1), 83⟩) (by exact Weak.cv ⟨.inl (.inl rfl), .inl (.inl rfl), .inl (.inl rfl), .inl (.inl rfl), .inl (.inl rfl), .inl (.inl rfl), .inl (.inl rfl), trivial⟩ ⟨.inl rfl, trivial⟩ (Nat.le_refl _)) ?_
          refine AW.region ?_
          refine AOps.step rfl rfl rfl (OpQ.spec (sp_fieldAddr_own (ob := .box _ _ _) rfl tf_80_0 (.inl rfl) (fun _ => rfl) rfl) _) ?_
          refine AOps.step rfl rfl rfl (OpQ.spec (ms_load_box (a := .r (.int .i64 x5.Kind)) rfl ts_3 (.inl rfl) rfl rfl) _) ?_
          refine AOps.step rfl rfl rfl (OpQ.spec (sp_neq rfl (.inl rfl) (.inl rfl)) _) ?_
          refine AOps.nil ?_
          refine hK21 _ ?_
          refine jb1k h12 fun p2 hp2 hk3 => ?_
          have J3 : ∀ (before6 : Int) (i7 : Nat → Nat), p2 = before6 → K20 ⟨[(0, .r (.sl (a1.map GAxisStep.row))), (3, .r (.int .i64 before6)), (4, .r (.int .i64 after2)), (6, .ptr 6 (i3 0) 0 0), (7, .r (.sl (a1.map GAxisStep.row))), (8, .r (.int .i64 (a1.length : Int))), (9, .r (.int .i64 x2))], [(6, some (.box (i3 0) 80 [.r (.int .i64 x5.Kind), .r (.int .i64 x5.N)]))], (i7 0), 83⟩ := by
            intro before6 i7 e
            have h13 := hk3 _ e
            refine hK20 _ ?_
            refine AW.seq_w fun K22 hK22 wK22 => ?_
            refine AW.region ?_
            refine AOps.step rfl rfl rfl (OpQ.spec (sp_fieldAddr_own (ob := .box _ _ _) rfl tf_80_0 (.inl rfl) (fun _ => rfl) rfl) _) ?_
            refine AOps.step rfl rfl rfl (OpQ.spec (ms_load_box (a := .r (.int .i64 x5.Kind)) rfl ts_3 (.inl rfl) rfl rfl) _) ?_
            refine AOps.step rfl rfl rfl (OpQ.spec (sp_neq rfl (.inl rfl) (.inl rfl)) _) ?_
            refine AOps.nil ?_
            refine hK22 _ ?_
            refine AW.cond rfl (fun hc6 => ?_) (fun hc6 => ?_)
            · have h14 := ite_t hc6 h13
              refine AW.region ?_
              refine AOps.step rfl rfl rfl (OpQ.spec (sp_move rfl (.inl rfl)) _) ?_
              refine AOps.step rfl rfl rfl (OpQ.spec (sp_fieldAddr_own (ob := .box _ _ _) rfl tf_80_1 (.inl rfl) (fun _ => rfl) rfl) _) ?_
              refine AOps.step rfl rfl rfl (OpQ.spec (ms_load_box (a := .r (.int .i64 x5.N)) rfl ts_3 (.inl rfl) rfl rfl) _) ?_
              refine ob1k h14 fun x8 ex8 h15 => ?_
              refine AOps.step rfl rfl rfl (OpQ.spec (ms_add rfl (.inl rfl) (.inl rfl) (fun _ => ex8)) _) ?_
              refine AOps.step rfl rfl rfl (OpQ.spec (sp_min rfl (.inl rfl) (.inl rfl)) _) ?_
              refine AOps.step rfl rfl rfl (OpQ.spec (sp_assign rfl (.inl rfl)) _) ?_
              refine AOps.nil ?_
              exact wK11 _ _ ((by exact Weak.cv ⟨.inl (.inl rfl), .inl (.inl rfl), .inl (.inl rfl), .inl (.inl rfl), .inl (.inl rfl), .inl (.inl rfl), trivial⟩ trivial (Nat.le_refl _))) (J2 _ _ (vec [(i7 0)]) (Option.some.inj h15).symm)
            · have h14 := ite_f hc6 h13
              refine AW.skip ?_
              exact wK11 _ _ ((by exact Weak.cv ⟨.inl (.inl rfl), .inl (.inl rfl), .inl (.inl rfl), .inl (.inl rfl), .inl (.inl rfl), .inl (.inl rfl), trivial⟩ trivial (Nat.le_refl _))) (J2 _ _ (vec [(i7 0)]) (Option.some.inj h14).symm)
          refine AW.cond rfl (fun hc7 => ?_) (fun hc7 => ?_)
          · have h16 := ite_t hc7 hp2
            refine AW.region ?_
            refine AOps.step rfl rfl rfl (OpQ.spec (sp_move rfl (.inl rfl)) _) ?_
            refine AOps.step rfl rfl rfl (OpQ.spec (sp_fieldAddr_own (ob := .box _ _ _) rfl tf_80_1 (.inl rfl) (fun _ => rfl) rfl) _) ?_
            refine AOps.step rfl rfl rfl (OpQ.spec (ms_load_box (a := .r (.int .i64 x5.N)) rfl ts_3 (.inl rfl) rfl rfl) _) ?_
            refine ob1k h16 fun x9 ex9 h17 => ?_
            refine AOps.step rfl rfl rfl (OpQ.spec (ms_add rfl (.inl rfl) (.inl rfl) (fun _ => ex9)) _) ?_
            refine AOps.step rfl rfl rfl (OpQ.spec (sp_min rfl (.inl rfl) (.inl rfl)) _) ?_
            refine AOps.step rfl rfl rfl (OpQ.spec (sp_assign rfl (.inl rfl)) _) ?_
            refine AOps.nil ?_
            exact wK20 _ _ ((by exact Weak.cv ⟨.inl (.inl rfl), .inl (.inl rfl), .inl (.inl rfl), .inl (.inl rfl), .inl (.inl rfl), .inl (.inl rfl), .inl (.inl rfl), trivial⟩ ⟨.inl rfl, trivial⟩ (Nat.le_refl _))) (J3 _ (vec [((i3 0) + 1)]) (Option.some.inj h17).symm)
          · have h16 := ite_f hc7 hp2
            refine AW.skip ?_
            exact wK20 _ _ ((by exact Weak.cv ⟨.inl (.inl rfl), .inl (.inl rfl), .inl (.inl rfl), .inl (.inl rfl), .inl (.inl rfl), .inl (.inl rfl), .inl (.inl rfl), trivial⟩ ⟨.inl rfl, trivial⟩ (Nat.le_refl _))) (J3 _ (vec [((i3 0) + 1)]) (Option.some.inj h16).symm)
  · have h4 := ite_f hc2 h3
    refine AW.exit ?_
    exact wK3 _ _ ((by exact Weak.cv ⟨.inl (.inl rfl), .inl (.inl rfl), trivial⟩ trivial (Nat.le_refl _))) (J1 _ _ (vec [(i3 0)]) (hx1 _ (Option.some.inj h4).symm))

set_option maxHeartbeats 4000000 in
set_option maxRecDepth 20000 in
theorem w_axis_lengths {a1 : List GAxisStep} {r : Int × Int} (h : axis_lengths a1 = some r) : ARO Try.prog 76 [.r (.sl (a1.map GAxisStep.row))] (.tup [.r (.int .i64 r.1), .r (.int .i64 r.2)]) := by
  unfold axis_lengths at h
  refine ARO.mkF Try.func76 rfl rfl Try.ntmps76 rfl (Nat.le_of_ble_eq_true rfl) fun n0 => ?_
  refine AW.seq_w fun K1 hK1 wK1 => ?_
  refine AW.region ?_
  refine AOps.step rfl rfl rfl (OpQ.spec (sp_assign rfl (.inl rfl)) _) ?_
  refine AOps.step rfl rfl rfl (OpQ.spec (sp_assign rfl (.inl rfl)) _) ?_
  refine AOps.nil ?_
  refine hK1 _ ?_
  refine AW.seq_w fun K2 hK2 wK2 => ?_
  refine AW.region ?_
  refine AOps.step rfl rfl rfl (OpQ.spec (sp_assign rfl (.inl rfl)) _) ?_
  refine AOps.step rfl rfl rfl (OpQ.spec (sp_assign rfl (.inl rfl)) _) ?_
  refine AOps.nil ?_
  refine hK2 _ ?_
  refine AW.seq_w fun K3 hK3 wK3 => ?_
  refine AW.seq_w fun K4 hK4 wK4 => ?_
  refine AW.region ?_
  refine AOps.step rfl rfl rfl (OpQ.spec (sp_move rfl (.inl rfl)) _) ?_
  refine AOps.step rfl rfl rfl (OpQ.spec (ms_len rfl tg_44.slice (.inl rfl)) _) ?_
  refine AOps.step rfl rfl rfl (OpQ.spec (sp_move rfl (.inl rfl)) _) ?_
  refine AOps.nil ?_
  refine hK4 _ ?_
  refine AW.block ?_
  refine jb2k h fun o1 hit1 hk1 => ?_
  have J1 : ∀ (before4 : Int) (after4 : Int) (i5 : Nat → Nat), o1 = (before4, after4) → K3 ⟨[(4, .r (.int .i64 before4)), (5, .r (.int .i64 after4))], [], (i5 0), 31⟩ := by
    intro before4 after4 i5 e
    have h1 := hk1 _ _ e
    refine hK3 _ ?_
    refine AW.seq_w fun K5 hK5 wK5 => ?_
    refine AW.region ?_
    refine AOps.step rfl rfl rfl (OpQ.spec (sp_move rfl (.inl rfl)) _) ?_
    refine AOps.step rfl rfl rfl (OpQ.spec (sp_move rfl (.inl rfl)) _) ?_
    refine AOps.step rfl rfl rfl (OpQ.spec (sp_assign rfl (.inl rfl)) _) ?_
    refine AOps.step rfl rfl rfl (OpQ.spec (sp_assign rfl (.inl rfl)) _) ?_
    refine AOps.nil ?_
    refine hK5 _ ?_
    refine AW.ret ?_
    exact retf2 (P := Try.prog) (fun (r : Int × Int) => .r (.int .i64 r.1)) (fun (r : Int × Int) => .r (.int .i64 r.2)) h1 (.inl rfl) (.t (.d rfl)) (.t (.d rfl))
  refine AW.iter3 (fun (before2 : Int) (after2 : Int) (x2 : Int) i3 => ⟨[(4, .r (.int .i64 before2)), (5, .r (.int .i64 after2)), (8, .r (.sl (a1.map GAxisStep.row))), (9, .r (.int .i64 (a1.length : Int))), (10, .r (.int .i64 x2))], [], (i3 0), 31⟩) (vec [n0]) hit1 ((by exact Weak.cv ⟨.inl (.inl rfl), .inl (.inl rfl), .inl (.inl rfl), .inl (.inl rfl), .inl (.inl rfl), trivial⟩ trivial (Nat.le_refl _))) ?_
  intro before2 after2 x2 i3 v1 hv1 hx1
  have h2 : axis_lengths_L1 a1 before2 after2 x2 = some v1 := hv1; unfold axis_lengths_L1 at h2
  refine AW.seq_w fun K6 hK6 wK6 => ?_
  refine AW.region ?_
  refine AOps.step rfl rfl rfl (OpQ.spec (sp_lss rfl (.inl rfl) (.inl rfl)) _) ?_
  refine AOps.nil ?_
  refine hK6 _ ?_
  refine AW.seq_w fun K7 hK7 wK7 => ?_
  refine AW.cond rfl (fun hc1 => ?_) (fun hc1 => ?_)
  · have h3 := ite_t hc1 h2
    refine AW.skip ?_
    refine hK7 _ ?_
    refine AW.seq_w fun K8 hK8 wK8 => ?_
    refine AW.block ?_
    refine jb2k h3 fun p1 hp1 hk2 => ?_
    have J2 : ∀ (before5 : Int) (after5 : Int) (i6 : Nat → Nat), p1 = (before5, after5) → K8 ⟨[(4, .r (.int .i64 before5)), (5, .r (.int .i64 after5)), (8, .r (.sl (a1.map GAxisStep.row))), (9, .r (.int .i64 (a1.length : Int))), (10, .r (.int .i64 x2))], [], (i6 0), 31⟩ := by
      intro before5 after5 i6 e
      have h4 := hk2 _ _ e
      refine hK8 _ ?_
      refine AW.region ?_
      refine ob1k h4 fun x4 ex4 h5 => ?_
      refine AOps.step rfl rfl rfl (OpQ.spec (ms_add rfl (.inl rfl) (.inl rfl) (fun _ => ex4)) _) ?_
      refine AOps.step rfl rfl rfl (OpQ.spec (sp_move rfl (.inl rfl)) _) ?_
      refine AOps.nil ?_
      exact NextQ3.mk h5 (vec [(i6 0)]) ((by exact Weak.cv ⟨.inl (.inl rfl), .inl (.inl rfl), .inl (.inl rfl), .inl (.inl rfl), .inl (.inl rfl), trivial⟩ trivial (Nat.le_refl _)))
    refine AW.seq_w fun K9 hK9 wK9 => ?_
    refine AW.region ?_
    refine ob1k hp1 fun x5 ex5 h6 => ?_
    refine AOps.step rfl rfl rfl (OpQ.spec (ms_idx rfl tg_44.slice (.inl rfl) (.inl rfl) (fun _ => rfl) (fun _ => ex5)) _) ?_
    refine AOps.step rfl rfl rfl (OpQ.spec (ms_loadA (cs := [.r (.int .i64 x5.Kind), .r (.int .i64 x5.N)]) rfl ta_80 (.inl rfl) rfl rfl) _) ?_
    refine AOps.step rfl rfl rfl (ms_alloc (cs := [.r (.int .i64 0), .r (.int .i64 0)]) 7 rfl t0_80 rfl rfl) ?_
    refine AOps.step0 rfl rfl (ms_store_box (ds := [.r (.int .i64 x5.Kind), .r (.int .i64 x5.N)]) rfl tz_80 (.inl rfl) rfl (.inl rfl) rfl rfl rfl rfl) ?_
    refine AOps.nil ?_
    refine hK9 _ ?_
    refine AW.seq_w fun K10 hK10 wK10 => ?_
    refine AW.seq_w fun K11 hK11 wK11 => ?_
    refine AW.region ?_
    refine AOps.step rfl rfl rfl (OpQ.spec (sp_fieldAddr_own (ob := .box _ _ _) rfl tf_80_0 (.inl rfl) (fun _ => rfl) rfl) _) ?_
    refine AOps.step rfl rfl rfl (OpQ.spec (ms_load_box (a := .r (.int .i64 x5.Kind)) rfl ts_3 (.inl rfl) rfl rfl) _) ?_
    refine AOps.step rfl rfl rfl (OpQ.spec (sp_neq rfl (.inl rfl) (.inl rfl)) _) ?_
    refine AOps.nil ?_
    refine hK11 _ ?_
    refine jb1k h6 fun p2 hp2 hk3 => ?_
    have J3 : ∀ (before6 : Int) (i7 : Nat → Nat), p2 = before6 → K10 ⟨[(4, .r (.int .i64 before6)), (5, .r (.int .i64 after2)), (7, .ptr 7 (i3 0) 0 0), (8, .r (.sl (a1.map GAxisStep.row))), (9, .r (.int .i64 (a1.length : Int))), (10, .r (.int .i64 x2))], [(7, some (.box (i3 0) 80 [.r (.int .i64 x5.Kind), .r (.int .i64 x5.N)]))], (i7 0), 31⟩ := by
      intro before6 i7 e
      have h7 := hk3 _ e
      refine hK10 _ ?_
      refine AW.seq_w fun K12 hK12 wK12 => ?_
      refine AW.region ?_
      refine AOps.step rfl rfl rfl (OpQ.spec (sp_fieldAddr_own (ob := .box _ _ _) rfl tf_80_0 (.inl rfl) (fun _ => rfl) rfl) _) ?_
      refine AOps.step rfl rfl rfl (OpQ.spec (ms_load_box (a := .r (.int .i64 x5.Kind)) rfl ts_3 (.inl rfl) rfl rfl) _) ?_
      refine AOps.step rfl rfl rfl (OpQ.spec (sp_neq rfl (.inl rfl) (.inl rfl)) _) ?_
      refine AOps.nil ?_
      refine hK12 _ ?_
      refine AW.cond rfl (fun hc2 => ?_) (fun hc2 => ?_)
      · have h8 := ite_t hc2 h7
        refine AW.region ?_
        refine AOps.step rfl rfl rfl (OpQ.spec (sp_move rfl (.inl rfl)) _) ?_
        refine AOps.step rfl rfl rfl (OpQ.spec (sp_fieldAddr_own (ob := .box _ _ _) rfl tf_80_1 (.inl rfl) (fun _ => rfl) rfl) _) ?_
        refine AOps.step rfl rfl rfl (OpQ.spec (ms_load_box (a := .r (.int .i64 x5.N)) rfl ts_3 (.inl rfl) rfl rfl) _) ?_
        refine ob1k h8 fun after6 eafter6 h9 => ?_
        refine AOps.step rfl rfl rfl (OpQ.spec (ms_add rfl (.inl rfl) (.inl rfl) (fun _ => eafter6)) _) ?_
        refine AOps.step rfl rfl rfl (OpQ.spec (sp_assign rfl (.inl rfl)) _) ?_
        refine AOps.nil ?_
        exact wK8 _ _ ((by exact Weak.cv ⟨.inl (.inl rfl), .inl (.inl rfl), .inl (.inl rfl), .inl (.inl rfl), .inl (.inl rfl), trivial⟩ trivial (Nat.le_refl _))) (J2 _ _ (vec [(i7 0)]) (Option.some.inj h9).symm)
      · have h8 := ite_f hc2 h7
        refine AW.skip ?_
        exact wK8 _ _ ((by exact Weak.cv ⟨.inl (.inl rfl), .inl (.inl rfl), .inl (.inl rfl), .inl (.inl rfl), .inl (.inl rfl), trivial⟩ trivial (Nat.le_refl _))) (J2 _ _ (vec [(i7 0)]) (Option.some.inj h8).symm)
    refine AW.cond rfl (fun hc3 => ?_) (fun hc3 => ?_)
    · have h10 := ite_t hc3 hp2
      refine AW.region ?_
      refine AOps.step rfl rfl rfl (OpQ.spec (sp_move rfl (.inl rfl)) _) ?_
      refine AOps.step rfl rfl rfl (OpQ.spec (sp_fieldAddr_own (ob := .box _ _ _) rfl tf_80_1 (.inl rfl) (fun _ => rfl) rfl) _) ?_
      refine AOps.step rfl rfl rfl (OpQ.spec (ms_load_box (a := .r (.int .i64 x5.N)) rfl ts_3 (.inl rfl) rfl rfl) _) ?_
      refine ob1k h10 fun before7 ebefore7 h11 => ?_
      refine AOps.step rfl rfl rfl (OpQ.spec (ms_add rfl (.inl rfl) (.inl rfl) (fun _ => ebefore7)) _) ?_
      refine AOps.step rfl rfl rfl (OpQ.spec (sp_assign rfl (.inl rfl)) _) ?_
      refine AOps.nil ?_
      exact wK10 _ _ ((by exact Weak.cv ⟨.inl (.inl rfl), .inl (.inl rfl), .inl (.inl rfl), .inl (.inl rfl), .inl (.inl rfl), .inl (.inl rfl), trivial⟩ ⟨.inl rfl, trivial⟩ (Nat.le_refl _))) (J3 _ (vec [((i3 0) + 1)]) (Option.some.inj h11).symm)
    · have h10 := ite_f hc3 hp2
      refine AW.skip ?_
      exact wK10 _ _ ((by exact Weak.cv ⟨.inl (.inl rfl), .inl (.inl rfl), .inl (.inl rfl), .inl (.inl rfl), .inl (.inl rfl), .inl (.inl rfl), trivial⟩ ⟨.inl rfl, trivial⟩ (Nat.le_refl _))) (J3 _ (vec [((i3 0) + 1)]) (Option.some.inj h10).symm)
  · have h3 := ite_f hc1 h2
    refine AW.exit ?_
    exact wK3 _ _ ((by exact Weak.cv ⟨.inl (.inl rfl), .inl (.inl rfl), trivial⟩ trivial (Nat.le_refl _))) (J1 _ _ (vec [(i3 0)]) (hx1 _ (Option.some.inj h3).symm))

set_option maxHeartbeats 4000000 in
set_option maxRecDepth 20000 in
theorem w_axis_place {a1 : List GAxisStep} {p1 : Int} {r : Int} (h : axis_place a1 p1 = some r) : ARO Try.prog 77 [.r (.sl (a1.map GAxisStep.row)), .r (.int .i64 p1)] (.r (.int .i64 r)) := by
  unfold axis_place at h
  refine ARO.mkF Try.func77 rfl rfl Try.ntmps77 rfl (Nat.le_of_ble_eq_true rfl) fun n0 => ?_
  refine AW.seq_w fun K1 hK1 wK1 => ?_
  refine AW.region ?_
  refine AOps.step rfl rfl rfl (OpQ.spec (sp_assign rfl (.inl rfl)) _) ?_
  refine AOps.nil ?_
  refine hK1 _ ?_
  refine AW.seq_w fun K2 hK2 wK2 => ?_
  refine AW.region ?_
  refine AOps.step rfl rfl rfl (OpQ.spec (sp_assign rfl (.inl rfl)) _) ?_
  refine AOps.step rfl rfl rfl (OpQ.spec (sp_assign rfl (.inl rfl)) _) ?_
  refine AOps.nil ?_
  refine hK2 _ ?_
  refine AW.seq_w fun K3 hK3 wK3 => ?_
  refine AW.seq_w fun K4 hK4 wK4 => ?_
  refine AW.region ?_
  refine AOps.step rfl rfl rfl (OpQ.spec (sp_move rfl (.inl rfl)) _) ?_
  refine AOps.step rfl rfl rfl (OpQ.spec (ms_len rfl tg_44.slice (.inl rfl)) _) ?_
  refine AOps.step rfl rfl rfl (OpQ.spec (sp_move rfl (.inl rfl)) _) ?_
  refine AOps.nil ?_
  refine hK4 _ ?_
  refine AW.block ?_
  refine jc1k h fun o1 hit1 hk1 he1 => ?_
  have J1 : ∀ (u2 : Unit) (i5 : Nat → Nat), o1 = .nrm u2 → K3 ⟨[], [], (i5 0), 51⟩ := by
    intro u2 i5 e
    have h1 := hk1 _ e
    refine hK3 _ ?_
    refine AW.seq_w fun K5 hK5 wK5 => ?_
    refine AW.region ?_
    refine AOps.step rfl rfl rfl (OpQ.spec (sp_assign rfl (.inl rfl)) _) ?_
    refine AOps.nil ?_
    refine hK5 _ ?_
    refine AW.ret ?_
    exact retf1 (P := Try.prog) (fun (r : Int) => .r (.int .i64 r)) h1 (.inl rfl) (.t (.d rfl))
  refine AW.iter3 (fun (from2 : Int) (to2 : Int) (x2 : Int) i3 => ⟨[(1, .r (.int .i64 p1)), (5, .r (.int .i64 from2)), (6, .r (.int .i64 to2)), (9, .r (.sl (a1.map GAxisStep.row))), (10, .r (.int .i64 (a1.length : Int))), (11, .r (.int .i64 x2))], [], (i3 0), 51⟩) (vec [n0]) hit1 ((by exact Weak.cv ⟨.inl (.inl rfl), .inl (.inl rfl), .inl (.inl rfl), .inl (.inl rfl), .inl (.inl rfl), .inl (.inl rfl), trivial⟩ trivial (Nat.le_refl _))) ?_
  intro from2 to2 x2 i3 v1 hv1 hx1
  have h2 : axis_place_L1 a1 p1 from2 to2 x2 = some v1 := hv1; unfold axis_place_L1 at h2
  refine AW.seq_w fun K6 hK6 wK6 => ?_
  refine AW.region ?_
  refine AOps.step rfl rfl rfl (OpQ.spec (sp_lss rfl (.inl rfl) (.inl rfl)) _) ?_
  refine AOps.nil ?_
  refine hK6 _ ?_
  refine AW.seq_w fun K7 hK7 wK7 => ?_
  refine AW.cond rfl (fun hc1 => ?_) (fun hc1 => ?_)
  · have h3 := ite_t hc1 h2
    refine AW.skip ?_
    refine hK7 _ ?_
    refine AW.seq_w fun K8 hK8 wK8 => ?_
    refine AW.block ?_
    refine jc2k h3 fun p2 hp1 hk2 he2 => ?_
    have J2 : ∀ (from4 : Int) (to4 : Int) (i6 : Nat → Nat), p2 = .nrm (from4, to4) → K8 ⟨[(1, .r (.int .i64 p1)), (5, .r (.int .i64 from4)), (6, .r (.int .i64 to4)), (9, .r (.sl (a1.map GAxisStep.row))), (10, .r (.int .i64 (a1.length : Int))), (11, .r (.int .i64 x2))], [], (i6 0), 51⟩ := by
      intro from4 to4 i6 e
      have h4 := hk2 _ _ e
      refine hK8 _ ?_
      refine AW.region ?_
      refine ob1k h4 fun x4 ex4 h5 => ?_
      refine AOps.step rfl rfl rfl (OpQ.spec (ms_add rfl (.inl rfl) (.inl rfl) (fun _ => ex4)) _) ?_
      refine AOps.step rfl rfl rfl (OpQ.spec (sp_move rfl (.inl rfl)) _) ?_
      refine AOps.nil ?_
      exact NextQ3.mk h5 (vec [(i6 0)]) ((by exact Weak.cv ⟨.inl (.inl rfl), .inl (.inl rfl), .inl (.inl rfl), .inl (.inl rfl), .inl (.inl rfl), .inl (.inl rfl), trivial⟩ trivial (Nat.le_refl _)))
    refine AW.seq_w fun K9 hK9 wK9 => ?_
    refine AW.region ?_
    refine ob1k hp1 fun x5 ex5 h6 => ?_
    refine AOps.step rfl rfl rfl (OpQ.spec (ms_idx rfl tg_44.slice (.inl rfl) (.inl rfl) (fun _ => rfl) (fun _ => ex5)) _) ?_
    refine AOps.step rfl rfl rfl (OpQ.spec (ms_loadA (cs := [.r (.int .i64 x5.Kind), .r (.int .i64 x5.N)]) rfl ta_80 (.inl rfl) rfl rfl) _) ?_
    refine AOps.step rfl rfl rfl (ms_alloc (cs := [.r (.int .i64 0), .r (.int .i64 0)]) 8 rfl t0_80 rfl rfl) ?_
    refine AOps.step0 rfl rfl (ms_store_box (ds := [.r (.int .i64 x5.Kind), .r (.int .i64 x5.N)]) rfl tz_80 (.inl rfl) rfl (.inl rfl) rfl rfl rfl rfl) ?_
    refine AOps.nil ?_
    refine hK9 _ ?_
    refine AW.seq_w fun K10 hK10 wK10 => ?_
    refine AW.seq_w fun K11 hK11 wK11 => ?_
    refine AW.region ?_
    refine AOps.step rfl rfl rfl (OpQ.spec (sp_fieldAddr_own (ob := .box _ _ _) rfl tf_80_0 (.inl rfl) (fun _ => rfl) rfl) _) ?_
    refine AOps.step rfl rfl rfl (OpQ.spec (ms_load_box (a := .r (.int .i64 x5.Kind)) rfl ts_3 (.inl rfl) rfl rfl) _) ?_
    refine AOps.nil ?_
    refine hK11 _ ?_
    refine AW.block ?_
    refine jc1k h6 fun p3 hp2 hk3 he3 => ?_
    have J3 : ∀ (to5 : Int) (i7 : Nat → Nat), p3 = .nrm to5 → K10 ⟨[(1, .r (.int .i64 p1)), (5, .r (.int .i64 from2)), (6, .r (.int .i64 to5)), (8, .ptr 8 (i3 0) 0 0), (9, .r (.sl (a1.map GAxisStep.row))), (10, .r (.int .i64 (a1.length : Int))), (11, .r (.int .i64 x2))], [(8, some (.box (i3 0) 80 [.r (.int .i64 x5.Kind), .r (.int .i64 x5.N)]))], (i7 0), 51⟩ := by
      intro to5 i7 e
      have h7 := hk3 _ e
      refine hK10 _ ?_
      refine AW.region ?_
      refine AOps.step rfl rfl rfl (OpQ.spec (sp_move rfl (.inl rfl)) _) ?_
      refine AOps.step rfl rfl rfl (OpQ.spec (sp_fieldAddr_own (ob := .box _ _ _) rfl tf_80_1 (.inl rfl) (fun _ => rfl) rfl) _) ?_
      refine AOps.step rfl rfl rfl (OpQ.spec (ms_load_box (a := .r (.int .i64 x5.N)) rfl ts_3 (.inl rfl) rfl rfl) _) ?_
      refine ob1k h7 fun from5 efrom5 h8 => ?_
      refine AOps.step rfl rfl rfl (OpQ.spec (ms_add rfl (.inl rfl) (.inl rfl) (fun _ => efrom5)) _) ?_
      refine AOps.step rfl rfl rfl (OpQ.spec (sp_assign rfl (.inl rfl)) _) ?_
      refine AOps.nil ?_
      exact wK8 _ _ ((by exact Weak.cv ⟨.inl (.inl rfl), .inl (.inl rfl), .inl (.inl rfl), .inl (.inl rfl), .inl (.inl rfl), .inl (.inl rfl), trivial⟩ trivial (Nat.le_refl _))) (J2 _ _ (vec [(i7 0)]) (Option.some.inj h8).symm)
    refine AW.seq_w fun K12 hK12 wK12 => ?_
    refine AW.region ?_
    refine AOps.step rfl rfl rfl (OpQ.spec (sp_eql rfl (.inl rfl) (.inl rfl)) _) ?_
    refine AOps.step rfl rfl rfl (OpQ.spec (sp_assign rfl (.inl rfl)) _) ?_
    refine AOps.nil ?_
    refine hK12 _ ?_
    refine AW.cond rfl (fun hc2 => ?_) (fun hc2 => ?_)
    · have h9 := ite_t hc2 hp2
      refine AW.seq_w fun K13 hK13 wK13 => ?_
      refine AW.region ?_
      refine AOps.step rfl rfl rfl (OpQ.spec (sp_move rfl (.inl rfl)) _) ?_
      refine AOps.step rfl rfl rfl (OpQ.spec (sp_fieldAddr_own (ob := .box _ _ _) rfl tf_80_1 (.inl rfl) (fun _ => rfl) rfl) _) ?_
      refine AOps.step rfl rfl rfl (OpQ.spec (ms_load_box (a := .r (.int .i64 x5.N)) rfl ts_3 (.inl rfl) rfl rfl) _) ?_
      refine ob1k h9 fun to6 eto6 h10 => ?_
      refine AOps.step rfl rfl rfl (OpQ.spec (ms_add rfl (.inl rfl) (.inl rfl) (fun _ => eto6)) _) ?_
      refine AOps.step rfl rfl rfl (OpQ.spec (sp_assign rfl (.inl rfl)) _) ?_
      refine AOps.nil ?_
      refine hK13 _ ?_
      refine AW.exit ?_
      exact wK8 _ _ ((by exact Weak.cv ⟨.inl (.inl rfl), .inl (.inl rfl), .inl (.inl rfl), .inl (.inl rfl), .inl (.inl rfl), .inl (.inl rfl), trivial⟩ trivial (Nat.le_refl _))) (J2 _ _ (vec [((i3 0) + 1)]) (Option.some.inj (he3 _ (Option.some.inj h10).symm)).symm)
    · have h9 := ite_f hc2 hp2
      refine AW.seq_w fun K14 hK14 wK14 => ?_
      refine AW.region ?_
      refine AOps.step rfl rfl rfl (OpQ.spec (sp_eql rfl (.inl rfl) (.inl rfl)) _) ?_
      refine AOps.step rfl rfl rfl (OpQ.spec (sp_assign rfl (.inl rfl)) _) ?_
      refine AOps.nil ?_
      refine hK14 _ ?_
      refine AW.cond rfl (fun hc3 => ?_) (fun hc3 => ?_)
      · have h11 := ite_t hc3 h9
        refine AW.seq_w fun K15 hK15 wK15 => ?_
        refine AW.seq_w fun K16 hK16 wK16 => ?_
        refine AW.weak (s' := ⟨[(1, .r (.int .i64 p1)), (5, .r (.int .i64 from2)), (6, .r (.int .i64 to2)), (8, .ptr 8 (i3 0) 0 0), (9, .r (.sl (a1.map GAxisStep.row))), (10, .r (.int .i64 (a1.length : Int))), (11, .r (.int .i64 x2))], [(8, some (.box (i3 0) 80 [.r (.int .i64 x5.Kind), .r (.int .i64 x5.N)]))], ((i3 0) + 1), 51⟩) (by exact Weak.cv ⟨.inl (.inl rfl), .inl (.inl rfl), .inl (.inl rfl), .inl (.inl rfl), .inl (.inl rfl), .inl (.inl rfl), .inl (.inl rfl), trivial⟩ ⟨.inl rfl, trivial⟩ (Nat.le_refl _)) ?_
        refine AW.region ?_
        refine AOps.step rfl rfl rfl (OpQ.spec (sp_move rfl (.inl rfl)) _) ?_
        refine AOps.step rfl rfl rfl (OpQ.spec (sp_move rfl (.inl rfl)) _) ?_
        refine AOps.step rfl rfl rfl (OpQ.spec (sp_fieldAddr_own (ob := .box _ _ _) rfl tf_80_1 (.inl rfl) (fun _ => rfl) rfl) _) ?_
        refine AOps.step rfl rfl rfl (OpQ.spec (ms_load_box (a := .r (.int .i64 x5.N)) rfl ts_3 (.inl rfl) rfl rfl) _) ?_
        refine ob1k h11 fun x6 ex6 h12 => ?_
        refine AOps.step rfl rfl rfl (OpQ.spec (ms_add rfl (.inl rfl) (.inl rfl) (fun _ => ex6)) _) ?_
        refine AOps.step rfl rfl rfl (OpQ.spec (sp_lss rfl (.inl rfl) (.inl rfl)) _) ?_
        refine AOps.nil ?_
        refine hK16 _ ?_
        refine AW.cond rfl (fun hc4 => ?_) (fun hc4 => ?_)
        · have h13 := ite_t hc4 h12
          refine AW.seq_w fun K17 hK17 wK17 => ?_
          refine AW.weak (s' := ⟨[(1, .r (.int .i64 p1)), (5, .r (.int .i64 from2)), (6, .r (.int .i64 to2))], [], ((i3 0) + 1), 51⟩) (by exact Weak.cv ⟨.inl (.inl rfl), .inl (.inl rfl), .inl (.inl rfl), trivial⟩ trivial (Nat.le_refl _)) ?_
          refine AW.region ?_
          refine AOps.step rfl rfl rfl (OpQ.spec (sp_move rfl (.inl rfl)) _) ?_
          refine AOps.step rfl rfl rfl (OpQ.spec (sp_move rfl (.inl rfl)) _) ?_
          refine ob1k h13 fun x7 ex7 h14 => ?_
          refine AOps.step rfl rfl rfl (OpQ.spec (ms_add rfl (.inl rfl) (.inl rfl) (fun _ => ex7)) _) ?_
          refine AOps.step rfl rfl rfl (OpQ.spec (sp_move rfl (.inl rfl)) _) ?_
          refine ob1k h14 fun x8 ex8 h15 => ?_
          refine AOps.step rfl rfl rfl (OpQ.spec (ms_sub rfl (.inl rfl) (.inl rfl) (fun _ => ex8)) _) ?_
          refine AOps.step rfl rfl rfl (OpQ.spec (sp_assign rfl (.inl rfl)) _) ?_
          refine AOps.nil ?_
          refine hK17 _ ?_
          refine AW.ret ?_
          exact retf1 (P := Try.prog) (fun (r : Int) => .r (.int .i64 r)) (he1 _ (hx1 _ (Option.some.inj (he2 _ (Option.some.inj (he3 _ (Option.some.inj h15).symm)).symm)).symm)) (.inl rfl) (.t (.d rfl))
        · have h13 := ite_f hc4 h12
          refine AW.skip ?_
          refine hK15 _ ?_
          refine AW.region ?_
          refine AOps.step rfl rfl rfl (OpQ.spec (sp_move rfl (.inl rfl)) _) ?_
          refine AOps.step rfl rfl rfl (OpQ.spec (sp_fieldAddr_own (ob := .box _ _ _) rfl tf_80_1 (.inl rfl) (fun _ => rfl) rfl) _) ?_
          refine AOps.step rfl rfl rfl (OpQ.spec (ms_load_box (a := .r (.int .i64 x5.N)) rfl ts_3 (.inl rfl) rfl rfl) _) ?_
          refine ob1k h13 fun to7 eto7 h16 => ?_
          refine AOps.step rfl rfl rfl (OpQ.spec (ms_add rfl (.inl rfl) (.inl rfl) (fun _ => eto7)) _) ?_
          refine AOps.step rfl rfl rfl (OpQ.spec (sp_assign rfl (.inl rfl)) _) ?_
          refine AOps.nil ?_
          exact wK10 _ _ ((by exact Weak.cv ⟨.inl (.inl rfl), .inl (.inl rfl), .inl (.inl rfl), .inl (.inl rfl), .inl (.inl rfl), .inl (.inl rfl), .inl (.inl rfl), trivial⟩ ⟨.inl rfl, trivial⟩ (Nat.le_refl _))) (J3 _ (vec [((i3 0) + 1)]) (Option.some.inj h16).symm)
      · have h11 := ite_f hc3 h9
        refine AW.seq_w fun K18 hK18 wK18 => ?_
        refine AW.weak (s' := ⟨[(1, .r (.int .i64 p1)), (5, .r (.int .i64 from2)), (6, .r (.int .i64 to2)), (8, .ptr 8 (i3 0) 0 0), (9, .r (.sl (a1.map GAxisStep.row))), (10, .r (.int .i64 (a1.length : Int))), (11, .r (.int .i64 x2))], [(8, some (.box (i3 0) 80 [.r (.int .i64 x5.Kind), .r (.int .i64 x5.N)]))], ((i3 0) + 1), 51⟩) (by exact Weak.cv ⟨.inl (.inl rfl), .inl (.inl rfl), .inl (.inl rfl), .inl (.inl rfl), .inl (.inl rfl), .inl (.inl rfl), .inl (.inl rfl), trivial⟩ ⟨.inl rfl, trivial⟩ (Nat.le_refl _)) ?_
        refine AW.region ?_
        refine AOps.step rfl rfl rfl (OpQ.spec (sp_move rfl (.inl rfl)) _) ?_
        refine AOps.step rfl rfl rfl (OpQ.spec (sp_move rfl (.inl rfl)) _) ?_
        refine AOps.step rfl rfl rfl (OpQ.spec (sp_fieldAddr_own (ob := .box _ _ _) rfl tf_80_1 (.inl rfl) (fun _ => rfl) rfl) _) ?_
        refine AOps.step rfl rfl rfl (OpQ.spec (ms_load_box (a := .r (.int .i64 x5.N)) rfl ts_3 (.inl rfl) rfl rfl) _) ?_
        refine ob1k h11 fun x9 ex9 h17 => ?_
        refine AOps.step rfl rfl rfl (OpQ.spec (ms_add rfl (.inl rfl) (.inl rfl) (fun _ => ex9)) _) ?_
        refine AOps.step rfl rfl rfl (OpQ.spec (sp_lss rfl (.inl rfl) (.inl rfl)) _) ?_
        refine AOps.nil ?_
        refine hK18 _ ?_
        refine AW.cond rfl (fun hc5 => ?_) (fun hc5 => ?_)
        · have h18 := ite_t hc5 h17
          refine AW.seq_w fun K19 hK19 wK19 => ?_
          refine AW.weak (s' := ⟨[], [], ((i3 0) + 1), 51⟩) (by exact Weak.cv trivial trivial (Nat.le_refl _)) ?_
          refine AW.region ?_
          refine AOps.step rfl rfl rfl (OpQ.spec (sp_assign rfl (.inl rfl)) _) ?_
          refine AOps.nil ?_
          refine hK19 _ ?_
          refine AW.ret ?_
          exact retf1 (P := Try.prog) (fun (r : Int) => .r (.int .i64 r)) (he1 _ (hx1 _ (Option.some.inj (he2 _ (Option.some.inj (he3 _ (Option.some.inj h18).symm)).symm)).symm)) (.inl rfl) (.t (.d rfl))
        · have h18 := ite_f hc5 h17
          refine AW.skip ?_
          exact wK10 _ _ ((by exact Weak.cv ⟨.inl (.inl rfl), .inl (.inl rfl), .inl (.inl rfl), .inl (.inl rfl), .inl (.inl rfl), .inl (.inl rfl), .inl (.inl rfl), trivial⟩ ⟨.inl rfl, trivial⟩ (Nat.le_refl _))) (J3 _ (vec [((i3 0) + 1)]) (Option.some.inj h18).symm)
  · have h3 := ite_f hc1 h2
    refine AW.exit ?_
    exact wK3 _ _ ((by exact Weak.cv trivial trivial (Nat.le_refl _))) (J1 _ (vec [(i3 0)]) (hx1 _ (Option.some.inj h3).symm))

set_option maxHeartbeats 4000000 in
set_option maxRecDepth 20000 in
theorem w_axis_Apply {a1 : List GAxisStep} {places1 : List Int} {r : (List Int) × Int} (h : axis_Apply a1 places1 = some r) : ARO Try.prog 27 [.r (.sl (a1.map GAxisStep.row)), .r (.sl (places1.map (rInt .i64)))] (.tup [.r (.sl (r.1.map (rInt .i64))), .r (.int .i64 r.2)]) := by
  unfold axis_Apply at h
  refine ARO.mkF Try.func27 rfl rfl Try.ntmps27 rfl (Nat.le_of_ble_eq_true rfl) fun n0 => ?_
  refine AW.seq_w fun K1 hK1 wK1 => ?_
  refine AW.region ?_
  refine AOps.step rfl rfl rfl (OpQ.spec (sp_assign rfl (.inl rfl)) _) ?_
  refine AOps.step rfl rfl rfl (OpQ.spec (sp_assign rfl (.inl rfl)) _) ?_
  refine AOps.nil ?_
  refine hK1 _ ?_
  refine AW.seq_w fun K2 hK2 wK2 => ?_
  refine AW.seq_w fun K3 hK3 wK3 => ?_
  refine AW.region ?_
  refine AOps.step rfl rfl rfl (OpQ.spec (sp_move rfl (.inl rfl)) _) ?_
  refine ob1k h fun e1 ee1 h1 => ?_
  refine AOps.step rfl rfl rfl (sp_call (r := .r (.int .i64 e1)) (caps := []) (bs := [.r (.sl (a1.map GAxisStep.row))]) rfl (.inl rfl) rfl ⟨⟨_, (.inl rfl), .d rfl⟩, trivial⟩ (fun _ => w_axis_Check (ee1)) rfl) ?_
  refine AOps.step rfl rfl rfl (OpQ.spec (sp_assign rfl (.inl rfl)) _) ?_
  refine AOps.nil ?_
  refine hK3 _ ?_
  refine AW.seq_w fun K4 hK4 wK4 => ?_
  refine AW.region ?_
  refine AOps.step rfl rfl rfl (OpQ.spec (sp_move rfl (.inl rfl)) _) ?_
  refine AOps.step rfl rfl rfl (OpQ.spec (sp_neq rfl (.inl rfl) (.inl rfl)) _) ?_
  refine AOps.nil ?_
  refine hK4 _ ?_
  refine AW.cond rfl (fun hc1 => ?_) (fun hc1 => ?_)
  · have h2 := ite_t hc1 h1
    refine AW.seq_w fun K5 hK5 wK5 => ?_
    refine AW.region ?_
    refine AOps.step rfl rfl rfl (OpQ.spec (sp_move rfl (.inl rfl)) _) ?_
    refine AOps.step rfl rfl rfl (OpQ.spec (sp_assign rfl (.inl rfl)) _) ?_
    refine AOps.step rfl rfl rfl (OpQ.spec (sp_assign rfl (.inl rfl)) _) ?_
    refine AOps.nil ?_
    refine hK5 _ ?_
    refine AW.ret ?_
    exact retf2 (P := Try.prog) (fun (r : (List Int) × Int) => .r (.sl (r.1.map (rInt .i64)))) (fun (r : (List Int) × Int) => .r (.int .i64 r.2)) h2 (.inl rfl) (.t (.one (.nil))) (.t (.d rfl))
  · have h2 := ite_f hc1 h1
    refine AW.skip ?_
    refine hK2 _ ?_
    refine AW.seq_w fun K6 hK6 wK6 => ?_
    refine AW.region ?_
    refine AOps.step rfl rfl rfl (OpQ.spec (sp_move rfl (.inl rfl)) _) ?_
    refine ob2k h2 fun r1 r2 er1 h3 => ?_
    refine AOps.step rfl rfl rfl (sp_call (r := .tup [.r (.int .i64 r1), .r (.int .i64 r2)]) (caps := []) (bs := [.r (.sl (a1.map GAxisStep.row))]) rfl (.inl rfl) rfl ⟨⟨_, (.inl rfl), .d rfl⟩, trivial⟩ (fun _ => w_axis_lengths (er1)) rfl) ?_
    refine AOps.step rfl rfl rfl (OpQ.spec (sp_move rfl (.inl rfl)) _) ?_
    refine AOps.step rfl rfl rfl (OpQ.spec (sp_extract (a := .r (.int .i64 r1)) rfl (.inl rfl) rfl) _) ?_
    refine AOps.step rfl rfl rfl (OpQ.spec (sp_extract (a := .r (.int .i64 r2)) rfl (.inl rfl) rfl) _) ?_
    refine AOps.step rfl rfl rfl (OpQ.spec (sp_assign rfl (.inl rfl)) _) ?_
    refine AOps.step rfl rfl rfl (OpQ.spec (sp_assign rfl (.inl rfl)) _) ?_
    refine AOps.nil ?_
    refine hK6 _ ?_
    refine AW.seq_w fun K7 hK7 wK7 => ?_
    refine AW.weak (s' := ⟨[(0, .r (.sl (a1.map GAxisStep.row))), (1, .r (.sl (places1.map (rInt .i64)))), (7, .r (.int .i64 r1))], [], n0, 43⟩) (by exact Weak.cv ⟨.inl (.inl rfl), .inl (.inl rfl), .inl (.inl rfl), trivial⟩ trivial (Nat.le_refl _)) ?_
    refine AW.region ?_
    refine AOps.step rfl rfl rfl (OpQ.spec (sp_assign rfl (.inl rfl)) _) ?_
    refine AOps.nil ?_
    refine hK7 _ ?_
    refine AW.seq_w fun K8 hK8 wK8 => ?_
    refine AW.seq_w fun K9 hK9 wK9 => ?_
    refine AW.region ?_
    refine AOps.step rfl rfl rfl (OpQ.spec (sp_move rfl (.inl rfl)) _) ?_
    refine AOps.step rfl rfl rfl (OpQ.spec (ms_len rfl tg_45.slice (.inl rfl)) _) ?_
    refine AOps.step rfl rfl rfl (OpQ.spec (sp_move rfl (.inl rfl)) _) ?_
    refine AOps.nil ?_
    refine hK9 _ ?_
    refine AW.block ?_
    refine jc1k h3 fun o1 hit1 hk1 he1 => ?_
    have J1 : ∀ (out4 : List Int) (i5 : Nat → Nat), o1 = .nrm out4 → K8 ⟨[(9, .own 5009 (i5 0))], [(5009, some (.arr (i5 0) 3 1 (out4.map (rInt .i64))))], (i5 1), 43⟩ := by
      intro out4 i5 e
      have h4 := hk1 _ e
      refine hK8 _ ?_
      refine AW.seq_w fun K10 hK10 wK10 => ?_
      refine AW.region ?_
      refine AOps.step rfl rfl rfl (OpQ.spec (sp_move rfl (.inl rfl)) _) ?_
      refine AOps.step rfl rfl rfl (OpQ.spec (sp_assign rfl (.inl rfl)) _) ?_
      refine AOps.step rfl rfl rfl (OpQ.spec (sp_assign rfl (.inl rfl)) _) ?_
      refine AOps.nil ?_
      refine hK10 _ ?_
      refine AW.ret ?_
      exact retf2 (P := Try.prog) (fun (r : (List Int) × Int) => .r (.sl (r.1.map (rInt .i64)))) (fun (r : (List Int) × Int) => .r (.int .i64 r.2)) h4 (.inl rfl) (.t (.one (.own rfl))) (.t (.d rfl))
    refine AW.iter2 (fun (x2 : Int) (out2 : List Int) i3 => ⟨[(0, .r (.sl (a1.map GAxisStep.row))), (7, .r (.int .i64 r1)), (9, .own 5009 (i3 0)), (22, .r (.sl (places1.map (rInt .i64)))), (23, .r (.int .i64 (places1.length : Int))), (24, .r (.int .i64 x2))], [(5009, some (.arr (i3 0) 3 1 (out2.map (rInt .i64))))], (i3 1), 43⟩) (vec [n0, (n0 + 1)]) hit1 (Weak.trans (Weak.trans (Weak.adopt 9 5009 3 1 (by decide) rfl) (by exact Weak.cv (e' := [(0, .r (.sl (a1.map GAxisStep.row))), (1, .r (.sl (places1.map (rInt .i64)))), (7, .r (.int .i64 r1)), (9, .own 5009 n0), (22, .r (.sl (places1.map (rInt .i64)))), (23, .r (.int .i64 (places1.length : Int))), (24, .r (.int .i64 0))]) (h' := [(5009, some (.arr n0 3 1 (([] : List Int).map (rInt .i64))))]) ⟨.inl (.inl rfl), .inl (.inl rfl), .inl (.inl rfl), .inl (.inl rfl), .inl (.inl rfl), .inl (.inl rfl), .inl (.inl rfl), trivial⟩ ⟨.inl rfl, trivial⟩ (Nat.le_refl _))) (by exact Weak.cv ⟨.inl (.inl rfl), .inl (.inl rfl), .inl (.inl rfl), .inl (.inl rfl), .inl (.inl rfl), .inl (.inl rfl), trivial⟩ ⟨.inl rfl, trivial⟩ (Nat.le_refl _))) ?_
    intro x2 out2 i3 v1 hv1 hx1
    have h5 : axis_Apply_L1 a1 places1 r1 x2 out2 = some v1 := hv1; unfold axis_Apply_L1 at h5
    refine AW.seq_w fun K11 hK11 wK11 => ?_
    refine AW.region ?_
    refine AOps.step rfl rfl rfl (OpQ.spec (sp_lss rfl (.inl rfl) (.inl rfl)) _) ?_
    refine AOps.nil ?_
    refine hK11 _ ?_
    refine AW.seq_w fun K12 hK12 wK12 => ?_
    refine AW.cond rfl (fun hc2 => ?_) (fun hc2 => ?_)
    · have h6 := ite_t hc2 h5
      refine AW.skip ?_
      refine hK12 _ ?_
      refine AW.seq_w fun K13 hK13 wK13 => ?_
      refine AW.block ?_
      refine AW.seq_w fun K14 hK14 wK14 => ?_
      refine AW.region ?_
      refine ob1k h6 fun x4 ex4 h7 => ?_
      refine AOps.step rfl rfl rfl (OpQ.spec (ms_idx rfl tg_45.slice (.inl rfl) (.inl rfl) (fun _ => rfl) (fun _ => ex4)) _) ?_
      refine AOps.step rfl rfl rfl (OpQ.spec (ms_load (d := .int .i64 x4) rfl ts_3 (.inl rfl) rfl) _) ?_
      refine AOps.step rfl rfl rfl (OpQ.spec (sp_assign rfl (.inl rfl)) _) ?_
      refine AOps.nil ?_
      refine hK14 _ ?_
      refine AW.seq_w fun K15 hK15 wK15 => ?_
      refine AW.seq_w fun K16 hK16 wK16 => ?_
      refine AW.region ?_
      refine AOps.step rfl rfl rfl (OpQ.spec (sp_move rfl (.inl rfl)) _) ?_
      refine AOps.step rfl rfl rfl (OpQ.spec (sp_lss rfl (.inl rfl) (.inl rfl)) _) ?_
      refine AOps.step rfl rfl rfl (OpQ.spec (sp_move rfl (.inl rfl)) _) ?_
      refine AOps.stepW (.one rfl rfl rfl) rfl rfl (OpQ.spec (sp_move rfl (.inl rfl)) _) ?_
      refine AOps.stepW (.one rfl rfl rfl) rfl rfl (OpQ.spec (sp_move rfl (.inl rfl)) _) ?_
      refine AOps.stepW (.one rfl rfl rfl) rfl rfl (OpQ.spec (sp_geq rfl (.inr ⟨_, (by exact id), rfl⟩) (.inr ⟨_, (by exact id), rfl⟩)) _) ?_
      refine AOps.step rfl rfl rfl (OpQ.spec (sp_or rfl (.inl rfl) (.inr ⟨_, (by exact id), rfl⟩)) _) ?_
      refine AOps.nil ?_
      refine hK16 _ ?_
      refine AW.cond rfl (fun hc3 => ?_) (fun hc3 => ?_)
      · have h8 := ite_t hc3 h7
        refine AW.seq_w fun K17 hK17 wK17 => ?_
        refine AW.weak (s' := ⟨[], [], (i3 1), 43⟩) (by exact Weak.cv trivial trivial (Nat.le_refl _)) ?_
        refine AW.region ?_
        refine AOps.step rfl rfl rfl (OpQ.spec (sp_assign rfl (.inl rfl)) _) ?_
        refine AOps.step rfl rfl rfl (OpQ.spec (sp_assign rfl (.inl rfl)) _) ?_
        refine AOps.nil ?_
        refine hK17 _ ?_
        refine AW.ret ?_
        exact retf2 (P := Try.prog) (fun (r : (List Int) × Int) => .r (.sl (r.1.map (rInt .i64)))) (fun (r : (List Int) × Int) => .r (.int .i64 r.2)) (he1 _ (hx1 _ (Option.some.inj h8).symm)) (.inl rfl) (.t (.one (.nil))) (.t (.d rfl))
      · have h8 := ite_f hc3 h7
        refine AW.skip ?_
        refine hK15 _ ?_
        refine AW.region ?_
        refine AOps.step rfl rfl rfl (OpQ.spec (sp_move rfl (.inl rfl)) _) ?_
        refine AOps.step rfl rfl rfl (OpQ.spec (sp_move rfl (.inl rfl)) _) ?_
        refine AOps.step rfl rfl rfl (OpQ.spec (sp_move rfl (.inl rfl)) _) ?_
        refine ob1k h8 fun r3 er3 h9 => ?_
        refine AOps.step rfl rfl rfl (sp_call (r := .r (.int .i64 r3)) (caps := []) (bs := [.r (.sl (a1.map GAxisStep.row)), .r (.int .i64 x4)]) rfl (.inl rfl) rfl ⟨⟨_, (.inl rfl), .d rfl⟩, ⟨_, (.inl rfl), .d rfl⟩, trivial⟩ (fun _ => w_axis_place (er3)) rfl) ?_
        refine AOps.step rfl rfl rfl (ms_lit 39 rfl tg_45 (f := (rInt .i64)) (l := ([r3] : List Int)) ⟨rfl, ⟨_, (.inl rfl), rfl⟩, trivial⟩ rfl (fun _ => rfl) rfl) ?_
        refine ob1k h9 fun out5 eout5 h10 => ?_
        refine AOps.step rfl rfl rfl (ms_app rfl tg_45 (.inl rfl) rfl (.inr (.inl ⟨_, _, (.inl rfl), rfl⟩)) eout5) ?_
        refine AOps.step rfl rfl rfl (OpQ.spec (sp_assign rfl (.inl rfl)) _) ?_
        refine AOps.nil ?_
        refine hK13 _ ?_
        refine AW.weak (s' := ⟨[(0, .r (.sl (a1.map GAxisStep.row))), (7, .r (.int .i64 r1)), (9, .own 5009 ((i3 1) + 1)), (22, .r (.sl (places1.map (rInt .i64)))), (23, .r (.int .i64 (places1.length : Int))), (24, .r (.int .i64 x2))], [(5009, some (.arr ((i3 1) + 1) 3 1 (out5.map (rInt .i64))))], ((i3 1) + 2), 43⟩) (by exact Weak.cv ⟨.inl (.inl rfl), .inl (.inl rfl), .inl (.inl rfl), .inl (.inl rfl), .inl (.inl rfl), .inl (.inl rfl), trivial⟩ ⟨.inl rfl, trivial⟩ (Nat.le_refl _)) ?_
        refine AW.region ?_
        refine ob1k h10 fun x5 ex5 h11 => ?_
        refine AOps.step rfl rfl rfl (OpQ.spec (ms_add rfl (.inl rfl) (.inl rfl) (fun _ => ex5)) _) ?_
        refine AOps.step rfl rfl rfl (OpQ.spec (sp_move rfl (.inl rfl)) _) ?_
        refine AOps.nil ?_
        exact NextQ2.mk h11 (vec [((i3 1) + 1), ((i3 1) + 2)]) ((by exact Weak.cv ⟨.inl (.inl rfl), .inl (.inl rfl), .inl (.inl rfl), .inl (.inl rfl), .inl (.inl rfl), .inl (.inl rfl), trivial⟩ ⟨.inl rfl, trivial⟩ (Nat.le_refl _)))
    · have h6 := ite_f hc2 h5
      refine AW.exit ?_
      exact wK8 _ _ ((by exact Weak.cv ⟨.inl (.inl rfl), trivial⟩ ⟨.inl rfl, trivial⟩ (Nat.le_refl _))) (J1 _ (vec [(i3 0), (i3 1)]) (hx1 _ (Option.some.inj h6).symm))

set_option maxHeartbeats 4000000 in
set_option maxRecDepth 20000 in
theorem w_ref_SameInts {a1 : List Int} {b1 : List Int} {r : Bool} (h : ref_SameInts a1 b1 = some r) : ARO Try.prog 33 [.r (.sl (a1.map (rInt .i64))), .r (.sl (b1.map (rInt .i64)))] (.r (.bool r)) := by
  unfold ref_SameInts at h
  refine ARO.mkF Try.func33 rfl rfl Try.ntmps33 rfl (Nat.le_of_ble_eq_true rfl) fun n0 => ?_
  refine AW.seq_w fun K1 hK1 wK1 => ?_
  refine AW.region ?_
  refine AOps.step rfl rfl rfl (OpQ.spec (sp_assign rfl (.inl rfl)) _) ?_
  refine AOps.nil ?_
  refine hK1 _ ?_
  refine AW.seq_w fun K2 hK2 wK2 => ?_
  refine AW.seq_w fun K3 hK3 wK3 => ?_
  refine AW.region ?_
  refine AOps.step rfl rfl rfl (OpQ.spec (sp_move rfl (.inl rfl)) _) ?_
  refine AOps.step rfl rfl rfl (OpQ.spec (ms_len rfl tg_45.slice (.inl rfl)) _) ?_
  refine AOps.step rfl rfl rfl (OpQ.spec (sp_move rfl (.inl rfl)) _) ?_
  refine AOps.step rfl rfl rfl (OpQ.spec (ms_len rfl tg_45.slice (.inl rfl)) _) ?_
  refine AOps.step rfl rfl rfl (OpQ.spec (sp_neq rfl (.inl rfl) (.inl rfl)) _) ?_
  refine AOps.nil ?_
  refine hK3 _ ?_
  refine AW.cond rfl (fun hc1 => ?_) (fun hc1 => ?_)
  · have h1 := ite_t hc1 h
    refine AW.seq_w fun K4 hK4 wK4 => ?_
    refine AW.region ?_
    refine AOps.step rfl rfl rfl (OpQ.spec (sp_assign rfl (.inl rfl)) _) ?_
    refine AOps.nil ?_
    refine hK4 _ ?_
    refine AW.ret ?_
    exact retf1 (P := Try.prog) (fun (r : Bool) => .r (.bool r)) h1 (.inl rfl) (.t (.d rfl))
  · have h1 := ite_f hc1 h
    refine AW.skip ?_
    refine hK2 _ ?_
    refine AW.seq_w fun K5 hK5 wK5 => ?_
    refine AW.seq_w fun K6 hK6 wK6 => ?_
    refine AW.region ?_
    refine AOps.step rfl rfl rfl (OpQ.spec (sp_move rfl (.inl rfl)) _) ?_
    refine AOps.step rfl rfl rfl (OpQ.spec (ms_len rfl tg_45.slice (.inl rfl)) _) ?_
    refine AOps.step rfl rfl rfl (OpQ.spec (sp_move rfl (.inl rfl)) _) ?_
    refine AOps.nil ?_
    refine hK6 _ ?_
    refine AW.block ?_
    refine jc1k h1 fun o1 hit1 hk1 he1 => ?_
    have J1 : ∀ (u2 : Unit) (i5 : Nat → Nat), o1 = .nrm u2 → K5 ⟨[], [], (i5 0), 26⟩ := by
      intro u2 i5 e
      have h2 := hk1 _ e
      refine hK5 _ ?_
      refine AW.seq_w fun K7 hK7 wK7 => ?_
      refine AW.region ?_
      refine AOps.step rfl rfl rfl (OpQ.spec (sp_assign rfl (.inl rfl)) _) ?_
      refine AOps.nil ?_
      refine hK7 _ ?_
      refine AW.ret ?_
      exact retf1 (P := Try.prog) (fun (r : Bool) => .r (.bool r)) h2 (.inl rfl) (.t (.d rfl))
    refine AW.iter1 (fun (x2 : Int) i3 => ⟨[(0, .r (.sl (a1.map (rInt .i64)))), (1, .r (.sl (b1.map (rInt .i64)))), (12, .r (.int .i64 (a1.length : Int))), (13, .r (.int .i64 x2))], [], (i3 0), 26⟩) (vec [n0]) hit1 ((by exact Weak.cv ⟨.inl (.inl rfl), .inl (.inl rfl), .inl (.inl rfl), .inl (.inl rfl), trivial⟩ trivial (Nat.le_refl _))) ?_
    intro x2 i3 v1 hv1 hx1
    have h3 : ref_SameInts_L1 a1 b1 x2 = some v1 := hv1; unfold ref_SameInts_L1 at h3
    refine AW.seq_w fun K8 hK8 wK8 => ?_
    refine AW.region ?_
    refine AOps.step rfl rfl rfl (OpQ.spec (sp_lss rfl (.inl rfl) (.inl rfl)) _) ?_
    refine AOps.nil ?_
    refine hK8 _ ?_
    refine AW.seq_w fun K9 hK9 wK9 => ?_
    refine AW.cond rfl (fun hc2 => ?_) (fun hc2 => ?_)
    · have h4 := ite_t hc2 h3
      refine AW.skip ?_
      refine hK9 _ ?_
      refine AW.seq_w fun K10 hK10 wK10 => ?_
      refine AW.block ?_
      refine AW.seq_w fun K11 hK11 wK11 => ?_
      refine AW.region ?_
      refine AOps.step rfl rfl rfl (OpQ.spec (sp_move rfl (.inl rfl)) _) ?_
      refine AOps.step rfl rfl rfl (OpQ.spec (sp_assign rfl (.inl rfl)) _) ?_
      refine AOps.nil ?_
      refine hK11 _ ?_
      refine AW.seq_w fun K12 hK12 wK12 => ?_
      refine AW.regionQ hmix (by kernel_rfl) ?_
      refine AQ.step rfl rfl rfl (sp_move rfl (.inl rfl)) ?_
      refine AQ.step rfl rfl rfl (sp_move rfl (.inl rfl)) ?_
      refine ob1k h4 fun x4 ex4 h5 => ?_
      refine AQ.step rfl rfl rfl (ms_idx rfl tg_45.slice (.inl rfl) (.inl rfl) (fun _ => rfl) (fun _ => ex4)) ?_
      refine AQ.step rfl rfl rfl (ms_load (d := .int .i64 x4) rfl ts_3 (.inl rfl) rfl) ?_
      refine AQ.step rfl rfl rfl (sp_move rfl (.inl rfl)) ?_
      refine AQ.step rfl rfl rfl (sp_move rfl (.inl rfl)) ?_
      refine ob1k h5 fun x5 ex5 h6 => ?_
      refine AQ.step rfl rfl rfl (ms_idx rfl tg_45.slice (.inl rfl) (.inl rfl) (fun _ => rfl) (fun _ => ex5)) ?_
      refine AQ.step rfl rfl rfl (ms_load (d := .int .i64 x5) rfl ts_3 (.inl rfl) rfl) ?_
      refine AQ.step rfl rfl rfl (sp_neq rfl (.inl rfl) (.inl rfl)) ?_
      refine AQ.nil ?_
      refine hK12 _ ?_
      refine AW.cond rfl (fun hc3 => ?_) (fun hc3 => ?_)
      · have h7 := ite_t hc3 h6
        refine AW.seq_w fun K13 hK13 wK13 => ?_
        refine AW.weak (s' := ⟨[], [], (i3 0), 26⟩) (by exact Weak.cv trivial trivial (Nat.le_refl _)) ?_
        refine AW.region ?_
        refine AOps.step rfl rfl rfl (OpQ.spec (sp_assign rfl (.inl rfl)) _) ?_
        refine AOps.nil ?_
        refine hK13 _ ?_
        refine AW.ret ?_
        exact retf1 (P := Try.prog) (fun (r : Bool) => .r (.bool r)) (he1 _ (hx1 _ (Option.some.inj h7).symm)) (.inl rfl) (.t (.d rfl))
      · have h7 := ite_f hc3 h6
        refine AW.skip ?_
        refine hK10 _ ?_
        refine AW.weak (s' := ⟨[(0, .r (.sl (a1.map (rInt .i64)))), (1, .r (.sl (b1.map (rInt .i64)))), (12, .r (.int .i64 (a1.length : Int))), (13, .r (.int .i64 x2))], [], (i3 0), 26⟩) (by exact Weak.cv ⟨.inl (.inl rfl), .inl (.inl rfl), .inl (.inl rfl), .inl (.inl rfl), trivial⟩ trivial (Nat.le_refl _)) ?_
        refine AW.region ?_
        refine ob1k h7 fun x6 ex6 h8 => ?_
        refine AOps.step rfl rfl rfl (OpQ.spec (ms_add rfl (.inl rfl) (.inl rfl) (fun _ => ex6)) _) ?_
        refine AOps.step rfl rfl rfl (OpQ.spec (sp_move rfl (.inl rfl)) _) ?_
        refine AOps.nil ?_
        exact NextQ1.mk h8 (vec [(i3 0)]) ((by exact Weak.cv ⟨.inl (.inl rfl), .inl (.inl rfl), .inl (.inl rfl), .inl (.inl rfl), trivial⟩ trivial (Nat.le_refl _)))
    · have h4 := ite_f hc2 h3
      refine AW.exit ?_
      exact wK5 _ _ ((by exact Weak.cv trivial trivial (Nat.le_refl _))) (J1 _ (vec [(i3 0)]) (hx1 _ (Option.some.inj h4).symm))

set_option maxHeartbeats 4000000 in
set_option maxRecDepth 20000 in
theorem w_law_axes {r : Bool} (h : law_axes = some r) : ARO Try.prog 26 [] (.r (.bool r)) := by
  unfold law_axes at h
  refine ARO.mkF Try.func26 rfl rfl Try.ntmps26 rfl (Nat.le_of_ble_eq_true rfl) fun n0 => ?_
  refine AW.seq_w fun K1 hK1 wK1 => ?_
  refine AW.region ?_
  refine AOps.step rfl rfl rfl (OpQ.spec (sp_assign rfl (.inl rfl)) _) ?_
  refine AOps.nil ?_
  refine hK1 _ ?_
  refine AW.seq_w fun K2 hK2 wK2 => ?_
  refine AW.region ?_
  refine AOps.step rfl rfl rfl (OpQ.spec (sp_build rfl tb_80 (q := [(0, _), (1, _)]) (by exact ⟨rfl, rfl, rfl, (.inl rfl), rfl, rfl, rfl, (.inl rfl), trivial⟩) (cs := [.r (.int .i64 0), .r (.int .i64 2)]) (by rfl)) _) ?_
  refine AOps.step rfl rfl rfl (OpQ.spec (sp_build rfl tb_80 (q := [(0, _), (1, _)]) (by exact ⟨rfl, rfl, rfl, (.inl rfl), rfl, rfl, rfl, (.inl rfl), trivial⟩) (cs := [.r (.int .i64 1), .r (.int .i64 3)]) (by rfl)) _) ?_
  refine AOps.step rfl rfl rfl (OpQ.spec (sp_build rfl tb_80 (q := [(0, _), (1, _)]) (by exact ⟨rfl, rfl, rfl, (.inl rfl), rfl, rfl, rfl, (.inl rfl), trivial⟩) (cs := [.r (.int .i64 0), .r (.int .i64 1)]) (by rfl)) _) ?_
  refine AOps.step rfl rfl rfl (ms_lit 7 rfl tg_44 (f := GAxisStep.row) (l := ([(GAxisStep.mk 0 2), (GAxisStep.mk 1 3), (GAxisStep.mk 0 1)] : List GAxisStep)) ⟨rfl, ⟨_, (.inl rfl), rfl⟩, rfl, ⟨_, (.inl rfl), rfl⟩, rfl, ⟨_, (.inl rfl), rfl⟩, trivial⟩ rfl (fun _ => rfl) rfl) ?_
  refine AOps.step rfl rfl rfl (ms_lit 8 rfl tg_45 (f := (rInt .i64)) (l := ([1, 2] : List Int)) ⟨rfl, ⟨_, (.inl rfl), rfl⟩, rfl, ⟨_, (.inl rfl), rfl⟩, trivial⟩ rfl (fun _ => rfl) rfl) ?_
  refine AOps.weak (by exact Weak.frz (e' := [(0, .r (.bool false)), (4, .agg [.r (.int .i64 0), .r (.int .i64 2)]), (5, .agg [.r (.int .i64 1), .r (.int .i64 3)]), (6, .agg [.r (.int .i64 0), .r (.int .i64 1)]), (7, .r (.sl ([(GAxisStep.mk 0 2), (GAxisStep.mk 1 3), (GAxisStep.mk 0 1)].map GAxisStep.row))), (8, .own 8 (n0 + 1))]) (h' := [(8, some (.arr (n0 + 1) 3 1 ([1, 2].map (rInt .i64))))]) 7 rfl ⟨.inl (.inl rfl), .inl (.inl rfl), .inl (.inl rfl), .inl (.inl rfl), .inl (.inr (.inr ⟨rfl, rfl⟩)), .inl (.inl rfl), trivial⟩ ⟨rfl, .inl rfl, trivial⟩) ?_
  refine AOps.weak (by exact Weak.frz (e' := [(0, .r (.bool false)), (4, .agg [.r (.int .i64 0), .r (.int .i64 2)]), (5, .agg [.r (.int .i64 1), .r (.int .i64 3)]), (6, .agg [.r (.int .i64 0), .r (.int .i64 1)]), (7, .r (.sl ([(GAxisStep.mk 0 2), (GAxisStep.mk 1 3), (GAxisStep.mk 0 1)].map GAxisStep.row))), (8, .r (.sl ([1, 2].map (rInt .i64))))]) (h' := []) 8 rfl ⟨.inl (.inl rfl), .inl (.inl rfl), .inl (.inl rfl), .inl (.inl rfl), .inl (.inl rfl), .inl (.inr (.inr ⟨rfl, rfl⟩)), trivial⟩ trivial) ?_
  refine ob2k h fun r1 r2 er1 h1 => ?_
  refine AOps.step rfl rfl rfl (sp_callS (r := .tup [.r (.sl (r1.map (rInt .i64))), .r (.int .i64 r2)]) (caps := []) (bs := [.r (.sl ([(GAxisStep.mk 0 2), (GAxisStep.mk 1 3), (GAxisStep.mk 0 1)].map GAxisStep.row)), .r (.sl ([1, 2].map (rInt .i64)))]) rfl (.inl rfl) rfl ⟨.inl ⟨(.inl rfl), rfl⟩, .inl ⟨(.inl rfl), rfl⟩, trivial⟩ (fun _ => w_axis_Apply (er1))) ?_
  refine AOps.step rfl rfl rfl (OpQ.spec (sp_move rfl (.inl rfl)) _) ?_
  refine AOps.step rfl rfl rfl (OpQ.spec (sp_extract (a := .r (.sl (r1.map (rInt .i64)))) rfl (.inl rfl) rfl) _) ?_
  refine AOps.step rfl rfl rfl (OpQ.spec (sp_extract (a := .r (.int .i64 r2)) rfl (.inl rfl) rfl) _) ?_
  refine AOps.step rfl rfl rfl (OpQ.spec (sp_assign rfl (.inl rfl)) _) ?_
  refine AOps.step rfl rfl rfl (OpQ.spec (sp_assign rfl (.inl rfl)) _) ?_
  refine AOps.nil ?_
  refine hK2 _ ?_
  refine AW.seq_w fun K3 hK3 wK3 => ?_
  refine AW.weak (s' := ⟨[(1, .r (.sl (r1.map (rInt .i64)))), (2, .r (.int .i64 r2))], [], (n0 + 2), 19⟩) (by exact Weak.cv ⟨.inl (.inl rfl), .inl (.inl rfl), trivial⟩ trivial (Nat.le_refl _)) ?_
  refine AW.region ?_
  refine AOps.step rfl rfl rfl (OpQ.spec (sp_move rfl (.inl rfl)) _) ?_
  refine AOps.step rfl rfl rfl (OpQ.spec (sp_eql rfl (.inl rfl) (.inl rfl)) _) ?_
  refine AOps.step rfl rfl rfl (OpQ.spec (sp_move rfl (.inl rfl)) _) ?_
  refine AOps.stepW (.one rfl rfl rfl) rfl rfl (OpQ.spec (sp_move rfl (.inl rfl)) _) ?_
  refine jb1k h1 fun p1 hp1 hk1 => ?_
  have J1 : ∀ (x1 : Bool) (i1 : Nat → Nat), p1 = x1 → K3 ⟨[(0, .r (.bool x1))], [], (i1 0), 19⟩ := by
    intro x1 i1 e
    have h2 := hk1 _ e
    refine hK3 _ ?_
    refine AW.ret ?_
    exact retf1 (P := Try.prog) (fun (r : Bool) => .r (.bool r)) h2 (.inl rfl) (.t (.d rfl))
  refine AOps.split ((decide (r2 = 0)) == true) (fun hg1 => ?_) (fun hg1 => ?_)
  · have h3 := ite_t hg1 hp1
    refine AOps.weak (by exact Weak.unw (e' := [(1, .r (.sl (r1.map (rInt .i64)))), (2, .r (.int .i64 r2)), (12, .r (.int .i64 r2)), (13, .r (.bool (decide (r2 = 0)))), (14, .r (.bool (decide (r2 = 0)))), (15, .r (.sl (r1.map (rInt .i64))))]) hg1 ⟨.inl rfl, .inl rfl, .inl rfl, .inl rfl, .inl rfl, .inr rfl, trivial⟩) ?_
    refine AOps.stepGT (.one rfl rfl rfl) hg1 rfl rfl (ms_lit 16 rfl tg_45 (f := (rInt .i64)) (l := ([1, 5] : List Int)) ⟨rfl, ⟨_, (.inl rfl), rfl⟩, rfl, ⟨_, (.inl rfl), rfl⟩, trivial⟩ rfl (fun _ => rfl) rfl) ?_
    refine ob1k h3 fun r3 er3 h4 => ?_
    refine AOps.stepGT (.one rfl rfl rfl) hg1 rfl rfl (sp_call (r := .r (.bool r3)) (caps := []) (bs := [.r (.sl (r1.map (rInt .i64))), .r (.sl ([1, 5].map (rInt .i64)))]) rfl (.inl rfl) rfl ⟨⟨_, (.inl rfl), .d rfl⟩, ⟨_, (.inl rfl), .one (.own rfl)⟩, trivial⟩ (fun _ => w_ref_SameInts (er3)) rfl) ?_
    refine AOps.step rfl rfl rfl (OpQ.spec (sp_and rfl (.inl rfl) (.inl rfl)) _) ?_
    refine AOps.step rfl rfl rfl (OpQ.spec (sp_assign rfl (.inl rfl)) _) ?_
    refine AOps.nil ?_
    exact wK3 _ _ ((by exact Weak.cv ⟨.inl (.inl rfl), trivial⟩ trivial (Nat.le_refl _))) (J1 _ (vec [(n0 + 3)]) (Option.some.inj h4).symm)
  · have h3 := ite_f hg1 hp1
    refine AOps.stepGF2 (.one rfl rfl rfl) hg1 rfl rfl ?_
    refine AOps.stepGF2 (.one rfl rfl rfl) hg1 rfl rfl ?_
    refine AOps.step rfl rfl rfl (OpQ.spec (sp_and rfl (.inl rfl) (.inr ⟨_, (by exact id), rfl⟩)) _) ?_
    refine AOps.step rfl rfl rfl (OpQ.spec (sp_assign rfl (.inl rfl)) _) ?_
    refine AOps.nil ?_
    exact wK3 _ _ ((by exact Weak.cv ⟨.inl (.inl rfl), trivial⟩ trivial (Nat.le_refl _))) (J1 _ (vec [(n0 + 2)]) (Option.some.inj h3).symm)

set_option maxHeartbeats 4000000 in
set_option maxRecDepth 20000 in
theorem w_axis_reader_kind {w1 : Axis_Reader} {r : Int} {gb1000 : Nat} (h : axis_reader_kind w1 = some r) : AHC Try.prog 95 1 [.ptr 1000 gb1000 0 0] [(1000, some (.box gb1000 119 [.r (.sl (w1.steps.map GAxisStep.row)), .r (.int .i64 w1.used)]))] (fun rr h' => ∃ (i : Nat → Nat), rr = .r (.int .i64 r) ∧ h' = [(1000, some (.box gb1000 119 [.r (.sl (w1.steps.map GAxisStep.row)), .r (.int .i64 w1.used)]))]) := by
  unfold axis_reader_kind at h
  refine AHC.mkw Try.func95 rfl rfl Try.ntmps95 (Nat.le_of_ble_eq_true rfl) fun n0 => ?_
  refine AW.seq_w fun K1 hK1 wK1 => ?_
  refine AW.region ?_
  refine AOps.step rfl rfl rfl (OpQ.spec (sp_assign rfl (.inl rfl)) _) ?_
  refine AOps.nil ?_
  refine hK1 _ ?_
  refine AW.seq_w fun K2 hK2 wK2 => ?_
  refine AW.seq_w fun K3 hK3 wK3 => ?_
  refine AW.region ?_
  refine AOps.step rfl rfl rfl (OpQ.spec (sp_move rfl (.inl rfl)) _) ?_
  refine AOps.step rfl rfl rfl (OpQ.spec (sp_nilCheck_own (ob := .box _ _ _) rfl (.inl rfl) (fun _ => rfl) rfl) _) ?_
  refine AOps.step rfl rfl rfl (OpQ.spec (sp_fieldAddr_own (ob := .box _ _ _) rfl tf_119_0 (.inl rfl) (fun _ => rfl) rfl) _) ?_
  refine AOps.step rfl rfl rfl (OpQ.spec (ms_load_box (a := .r (.sl (w1.steps.map GAxisStep.row))) rfl ts_44 (.inl rfl) rfl rfl) _) ?_
  refine AOps.step rfl rfl rfl (OpQ.spec (ms_len rfl tg_44.slice (.inl rfl)) _) ?_
  refine AOps.step rfl rfl rfl (OpQ.spec (sp_eql rfl (.inl rfl) (.inl rfl)) _) ?_
  refine AOps.nil ?_
  refine hK3 _ ?_
  refine AW.cond rfl (fun hc1 => ?_) (fun hc1 => ?_)
  · have h1 := ite_t hc1 h
    refine AW.seq_w fun K4 hK4 wK4 => ?_
    refine AW.region ?_
    refine AOps.step rfl rfl rfl (OpQ.spec (sp_assign rfl (.inl rfl)) _) ?_
    refine AOps.nil ?_
    refine hK4 _ ?_
    refine AW.ret ?_
    exact RetW.mk (s' := ⟨[(2, .r (.int .i64 (-1)))], [(1000, some (.box gb1000 119 [.r (.sl (w1.steps.map GAxisStep.row)), .r (.int .i64 w1.used)]))], n0, 16⟩) ((by exact Weak.cv ⟨.inl (.inl rfl), trivial⟩ ⟨.inl rfl, trivial⟩ (Nat.le_refl _))) (reth_cast (fun (r : Int) rr h' => ∃ (i : Nat → Nat), rr = .r (.int .i64 r) ∧ h' = [(1000, some (.box gb1000 119 [.r (.sl (w1.steps.map GAxisStep.row)), .r (.int .i64 w1.used)]))]) h1 (by exact ⟨.r (.int .i64 (-1)), [(1000, some (.box gb1000 119 [.r (.sl (w1.steps.map GAxisStep.row)), .r (.int .i64 w1.used)]))], rfl, ⟨.inr rfl, trivial⟩, rfl, rfl, vec [], rfl, rfl⟩))
  · have h1 := ite_f hc1 h
    refine AW.skip ?_
    refine hK2 _ ?_
    refine AW.seq_w fun K5 hK5 wK5 => ?_
    refine AW.region ?_
    refine AOps.step rfl rfl rfl (OpQ.spec (sp_move rfl (.inl rfl)) _) ?_
    refine AOps.step rfl rfl rfl (OpQ.spec (sp_nilCheck_own (ob := .box _ _ _) rfl (.inl rfl) (fun _ => rfl) rfl) _) ?_
    refine AOps.step rfl rfl rfl (OpQ.spec (sp_fieldAddr_own (ob := .box _ _ _) rfl tf_119_0 (.inl rfl) (fun _ => rfl) rfl) _) ?_
    refine AOps.step rfl rfl rfl (OpQ.spec (ms_load_box (a := .r (.sl (w1.steps.map GAxisStep.row))) rfl ts_44 (.inl rfl) rfl rfl) _) ?_
    refine ob1k h1 fun x1 ex1 h2 => ?_
    refine AOps.step rfl rfl rfl (OpQ.spec (ms_idx rfl tg_44.slice (.inl rfl) (.inl rfl) (fun _ => rfl) (fun _ => ex1)) _) ?_
    refine AOps.step rfl rfl rfl (OpQ.spec (sp_fieldAddr_ro rfl tf_80_0 (.inl rfl)) _) ?_
    refine AOps.step rfl rfl rfl (OpQ.spec (ms_load (d := .int .i64 x1.Kind) rfl ts_3 (.inl rfl) rfl) _) ?_
    refine AOps.step rfl rfl rfl (OpQ.spec (sp_assign rfl (.inl rfl)) _) ?_
    refine AOps.nil ?_
    refine hK5 _ ?_
    refine AW.ret ?_
    exact RetW.mk (s' := ⟨[(2, .r (.int .i64 x1.Kind))], [(1000, some (.box gb1000 119 [.r (.sl (w1.steps.map GAxisStep.row)), .r (.int .i64 w1.used)]))], n0, 16⟩) ((by exact Weak.cv ⟨.inl (.inl rfl), trivial⟩ ⟨.inl rfl, trivial⟩ (Nat.le_refl _))) (reth_cast (fun (r : Int) rr h' => ∃ (i : Nat → Nat), rr = .r (.int .i64 r) ∧ h' = [(1000, some (.box gb1000 119 [.r (.sl (w1.steps.map GAxisStep.row)), .r (.int .i64 w1.used)]))]) h2 (by exact ⟨.r (.int .i64 x1.Kind), [(1000, some (.box gb1000 119 [.r (.sl (w1.steps.map GAxisStep.row)), .r (.int .i64 w1.used)]))], rfl, ⟨.inr rfl, trivial⟩, rfl, rfl, vec [], rfl, rfl⟩))

set_option maxHeartbeats 4000000 in
set_option maxRecDepth 20000 in
theorem w_axis_reader_left {w1 : Axis_Reader} {r : Int} {gb1000 : Nat} (h : axis_reader_left w1 = some r) : AHC Try.prog 96 1 [.ptr 1000 gb1000 0 0] [(1000, some (.box gb1000 119 [.r (.sl (w1.steps.map GAxisStep.row)), .r (.int .i64 w1.used)]))] (fun rr h' => ∃ (i : Nat → Nat), rr = .r (.int .i64 r) ∧ h' = [(1000, some (.box gb1000 119 [.r (.sl (w1.steps.map GAxisStep.row)), .r (.int .i64 w1.used)]))]) := by
  unfold axis_reader_left at h
  refine AHC.mkw Try.func96 rfl rfl Try.ntmps96 (Nat.le_of_ble_eq_true rfl) fun n0 => ?_
  refine AW.seq_w fun K1 hK1 wK1 => ?_
  refine AW.region ?_
  refine AOps.step rfl rfl rfl (OpQ.spec (sp_assign rfl (.inl rfl)) _) ?_
  refine AOps.nil ?_
  refine hK1 _ ?_
  refine AW.seq_w fun K2 hK2 wK2 => ?_
  refine AW.regionQ hmix (by kernel_rfl) ?_
  refine AQ.step rfl rfl rfl (sp_move rfl (.inl rfl)) ?_
  refine AQ.step rfl rfl rfl (sp_nilCheck_own (ob := .box _ _ _) rfl (.inl rfl) (fun _ => rfl) rfl) ?_
  refine AQ.step rfl rfl rfl (sp_fieldAddr_own (ob := .box _ _ _) rfl tf_119_0 (.inl rfl) (fun _ => rfl) rfl) ?_
  refine AQ.step rfl rfl rfl (ms_load_box (a := .r (.sl (w1.steps.map GAxisStep.row))) rfl ts_44 (.inl rfl) rfl rfl) ?_
  refine ob1k h fun x1 ex1 h1 => ?_
  refine AQ.step rfl rfl rfl (ms_idx rfl tg_44.slice (.inl rfl) (.inl rfl) (fun _ => rfl) (fun _ => ex1)) ?_
  refine AQ.step rfl rfl rfl (sp_fieldAddr_ro rfl tf_80_1 (.inl rfl)) ?_
  refine AQ.step rfl rfl rfl (ms_load (d := .int .i64 x1.N) rfl ts_3 (.inl rfl) rfl) ?_
  refine AQ.step rfl rfl rfl (sp_move rfl (.inl rfl)) ?_
  refine AQ.step rfl rfl rfl (sp_nilCheck_own (ob := .box _ _ _) rfl (.inl rfl) (fun _ => rfl) rfl) ?_
  refine AQ.step rfl rfl rfl (sp_fieldAddr_own (ob := .box _ _ _) rfl tf_119_1 (.inl rfl) (fun _ => rfl) rfl) ?_
  refine AQ.step rfl rfl rfl (ms_load_box (a := .r (.int .i64 w1.used)) rfl ts_3 (.inl rfl) rfl rfl) ?_
  refine ob1k h1 fun x2 ex2 h2 => ?_
  refine AQ.step rfl rfl rfl (ms_sub rfl (.inl rfl) (.inl rfl) (fun _ => ex2)) ?_
  refine AQ.step rfl rfl rfl (sp_assign rfl (.inl rfl)) ?_
  refine AQ.nil ?_
  refine hK2 _ ?_
  refine AW.ret ?_
  exact RetW.mk (s' := ⟨[(2, .r (.int .i64 x2))], [(1000, some (.box gb1000 119 [.r (.sl (w1.steps.map GAxisStep.row)), .r (.int .i64 w1.used)]))], n0, 15⟩) ((by exact Weak.cv ⟨.inl (.inl rfl), trivial⟩ ⟨.inl rfl, trivial⟩ (Nat.le_refl _))) (reth_cast (fun (r : Int) rr h' => ∃ (i : Nat → Nat), rr = .r (.int .i64 r) ∧ h' = [(1000, some (.box gb1000 119 [.r (.sl (w1.steps.map GAxisStep.row)), .r (.int .i64 w1.used)]))]) h2 (by exact ⟨.r (.int .i64 x2), [(1000, some (.box gb1000 119 [.r (.sl (w1.steps.map GAxisStep.row)), .r (.int .i64 w1.used)]))], rfl, ⟨.inr rfl, trivial⟩, rfl, rfl, vec [], rfl, rfl⟩))

set_option maxHeartbeats 4000000 in
set_option maxRecDepth 20000 in
theorem w_axis_writer_flush {w1 : Axis_Writer} {r : Axis_Writer} {gb1000 : Nat} {ga1001 : Nat} (h : axis_writer_flush w1 = some r) : AHC Try.prog 111 2 [.ptr 1000 gb1000 0 0] [(1000, some (.box gb1000 113 [.own 1001 ga1001, .r (.int .i64 w1.add), .r (.int .i64 w1.cut)])), (1001, some (.arr ga1001 80 2 (w1.out.map GAxisStep.row)))] (fun rr h' => ∃ (i : Nat → Nat), rr = .tup [] ∧ h' = [(1000, some (.box gb1000 113 [.own 1001 (i 0), .r (.int .i64 r.add), .r (.int .i64 r.cut)])), (1001, some (.arr (i 0) 80 2 (r.out.map GAxisStep.row)))]) := by
  unfold axis_writer_flush at h
  refine AHC.mkw Try.func111 rfl rfl Try.ntmps111 (Nat.le_of_ble_eq_true rfl) fun n0 => ?_
  refine AW.seq_w fun K1 hK1 wK1 => ?_
  refine AW.seq_w fun K2 hK2 wK2 => ?_
  refine AW.region ?_
  refine AOps.step rfl rfl rfl (OpQ.spec (sp_move rfl (.inl rfl)) _) ?_
  refine AOps.step rfl rfl rfl (OpQ.spec (sp_nilCheck_own (ob := .box _ _ _) rfl (.inl rfl) (fun _ => rfl) rfl) _) ?_
  refine AOps.step rfl rfl rfl (OpQ.spec (sp_fieldAddr_own (ob := .box _ _ _) rfl tf_113_1 (.inl rfl) (fun _ => rfl) rfl) _) ?_
  refine AOps.step rfl rfl rfl (OpQ.spec (ms_load_box (a := .r (.int .i64 w1.add)) rfl ts_3 (.inl rfl) rfl rfl) _) ?_
  refine AOps.step rfl rfl rfl (OpQ.spec (sp_gtr rfl (.inl rfl) (.inl rfl)) _) ?_
  refine AOps.nil ?_
  refine hK2 _ ?_
  refine jb1k h fun p1 hp1 hk1 => ?_
  have J1 : ∀ (w2 : Axis_Writer) (i1 : Nat → Nat), p1 = w2 → K1 ⟨[(0, .ptr 1000 gb1000 0 0)], [(1000, some (.box gb1000 113 [.own 1001 (i1 0), .r (.int .i64 w2.add), .r (.int .i64 w2.cut)])), (1001, some (.arr (i1 0) 80 2 (w2.out.map GAxisStep.row)))], (i1 1), 46⟩ := by
    intro w2 i1 e
    have h1 := hk1 _ e
    refine hK1 _ ?_
    refine AW.seq_w fun K3 hK3 wK3 => ?_
    refine AW.seq_w fun K4 hK4 wK4 => ?_
    refine AW.region ?_
    refine AOps.step rfl rfl rfl (OpQ.spec (sp_move rfl (.inl rfl)) _) ?_
    refine AOps.step rfl rfl rfl (OpQ.spec (sp_nilCheck_own (ob := .box _ _ _) rfl (.inl rfl) (fun _ => rfl) rfl) _) ?_
    refine AOps.step rfl rfl rfl (OpQ.spec (sp_fieldAddr_own (ob := .box _ _ _) rfl tf_113_2 (.inl rfl) (fun _ => rfl) rfl) _) ?_
    refine AOps.step rfl rfl rfl (OpQ.spec (ms_load_box (a := .r (.int .i64 w2.cut)) rfl ts_3 (.inl rfl) rfl rfl) _) ?_
    refine AOps.step rfl rfl rfl (OpQ.spec (sp_gtr rfl (.inl rfl) (.inl rfl)) _) ?_
    refine AOps.nil ?_
    refine hK4 _ ?_
    refine jb1k h1 fun p2 hp2 hk2 => ?_
    have J2 : ∀ (w3 : Axis_Writer) (i2 : Nat → Nat), p2 = w3 → K3 ⟨[(0, .ptr 1000 gb1000 0 0)], [(1000, some (.box gb1000 113 [.own 1001 (i2 0), .r (.int .i64 w3.add), .r (.int .i64 w3.cut)])), (1001, some (.arr (i2 0) 80 2 (w3.out.map GAxisStep.row)))], (i2 1), 46⟩ := by
      intro w3 i2 e
      have h2 := hk2 _ e
      refine hK3 _ ?_
      refine AW.region ?_
      refine AOps.step rfl rfl rfl (OpQ.spec (sp_move rfl (.inl rfl)) _) ?_
      refine AOps.step rfl rfl rfl (OpQ.spec (sp_move rfl (.inl rfl)) _) ?_
      refine AOps.step rfl rfl rfl (OpQ.spec (sp_nilCheck_own (ob := .box _ _ _) rfl (.inl rfl) (fun _ => rfl) rfl) _) ?_
      refine AOps.step rfl rfl rfl (OpQ.spec (sp_fieldAddr_own (ob := .box _ _ _) rfl tf_113_1 (.inl rfl) (fun _ => rfl) rfl) _) ?_
      refine AOps.step0 rfl rfl (ms_store_box (ds := [.own 1001 (i2 0), .r (.int .i64 0), .r (.int .i64 w3.cut)]) rfl tz_3 (.inl rfl) rfl (.inl rfl) rfl rfl rfl rfl) ?_
      refine AOps.step rfl rfl rfl (OpQ.spec (sp_nilCheck_own (ob := .box _ _ _) rfl (.inl rfl) (fun _ => rfl) rfl) _) ?_
      refine AOps.step rfl rfl rfl (OpQ.spec (sp_fieldAddr_own (ob := .box _ _ _) rfl tf_113_2 (.inl rfl) (fun _ => rfl) rfl) _) ?_
      refine AOps.step0 rfl rfl (ms_store_box (ds := [.own 1001 (i2 0), .r (.int .i64 0), .r (.int .i64 0)]) rfl tz_3 (.inl rfl) rfl (.inl rfl) rfl rfl rfl rfl) ?_
      refine AOps.nil ?_
      exact RetW.mk (s' := ⟨[], [(1000, some (.box gb1000 113 [.own 1001 (i2 0), .r (.int .i64 0), .r (.int .i64 0)])), (1001, some (.arr (i2 0) 80 2 (w3.out.map GAxisStep.row)))], (i2 1), 46⟩) ((by exact Weak.cv trivial ⟨.inl rfl, .inl rfl, trivial⟩ (Nat.le_refl _))) (reth_cast (fun (r : Axis_Writer) rr h' => ∃ (i : Nat → Nat), rr = .tup [] ∧ h' = [(1000, some (.box gb1000 113 [.own 1001 (i 0), .r (.int .i64 r.add), .r (.int .i64 r.cut)])), (1001, some (.arr (i 0) 80 2 (r.out.map GAxisStep.row)))]) h2 (by exact ⟨.tup [], [(1000, some (.box gb1000 113 [.own 1001 (i2 0), .r (.int .i64 0), .r (.int .i64 0)])), (1001, some (.arr (i2 0) 80 2 (w3.out.map GAxisStep.row)))], ⟨_, rfl, trivial⟩, ⟨.inr rfl, .inr rfl, trivial⟩, rfl, rfl, vec [(i2 0)], rfl, rfl⟩))
    refine AW.cond rfl (fun hc1 => ?_) (fun hc1 => ?_)
    · have h3 := ite_t hc1 hp2
      refine AW.regionF' [0] [1, 2, 3, 4, 5, 6, 7, 8, 9] [10] 11 hmix (by kernel_rfl) rfl rfl rfl rfl rfl ?_
      refine AFl.move rfl rfl rfl rfl ?_
      refine AFl.nil ?_
      refine AF.step rfl rfl rfl (sp_move rfl (.inl rfl)) ?_
      refine AF.step rfl rfl rfl (sp_nilCheck_own (ob := .box _ _ _) rfl (.inl rfl) (fun _ => rfl) rfl) ?_
      refine AF.step rfl rfl rfl (sp_fieldAddr_own (ob := .box _ _ _) rfl tf_113_0 (.inl rfl) (fun _ => rfl) rfl) ?_
      refine AF.step rfl rfl rfl (ms_load_box (a := .own 1001 (i1 0)) rfl ts_44 (.inl rfl) rfl rfl) ?_
      refine AF.step rfl rfl rfl (sp_move rfl (.inl rfl)) ?_
      refine AF.step rfl rfl rfl (sp_nilCheck_own (ob := .box _ _ _) rfl (.inl rfl) (fun _ => rfl) rfl) ?_
      refine AF.step rfl rfl rfl (sp_fieldAddr_own (ob := .box _ _ _) rfl tf_113_2 (.inl rfl) (fun _ => rfl) rfl) ?_
      refine AF.step rfl rfl rfl (ms_load_box (a := .r (.int .i64 w2.cut)) rfl ts_3 (.inl rfl) rfl rfl) ?_
      refine AF.step rfl rfl rfl (sp_build rfl tb_80 (q := [(0, _), (1, _)]) (by exact ⟨rfl, rfl, rfl, (.inl rfl), rfl, rfl, rfl, (.inl rfl), trivial⟩) (cs := [.r (.int .i64 2), .r (.int .i64 w2.cut)]) (by rfl)) ?_
      refine AF.nil ?_
      refine AA.step rfl rfl rfl (msA_lit 36 rfl tg_44 (f := GAxisStep.row) (l := ([(GAxisStep.mk 2 w2.cut)] : List GAxisStep)) ⟨rfl, ⟨_, (.inl rfl), rfl⟩, trivial⟩ rfl (fun _ => rfl) rfl) ?_
      refine AA.nil ?_
      refine ob1k h3 fun l1 el1 h4 => ?_
      refine AOps.step rfl rfl rfl (ms_app rfl tg_44 (.inl rfl) rfl (.inr (.inl ⟨_, _, (.inl rfl), rfl⟩)) el1) ?_
      refine AOps.step rfl rfl rfl (OpQ.spec (sp_nilCheck_own (ob := .box _ _ _) rfl (.inl rfl) (fun _ => rfl) rfl) _) ?_
      refine AOps.step rfl rfl rfl (OpQ.spec (sp_fieldAddr_own (ob := .box _ _ _) rfl tf_113_0 (.inl rfl) (fun _ => rfl) rfl) _) ?_
      refine AOps.step0 rfl rfl (ms_store_box (ds := [.own 1001 ((i1 1) + 1), .r (.int .i64 w2.add), .r (.int .i64 w2.cut)]) rfl tz_44 (.inl rfl) rfl (.inl rfl) rfl rfl rfl rfl) ?_
      refine AOps.nil ?_
      exact wK3 _ _ ((by exact Weak.cv ⟨.inl (.inl rfl), trivial⟩ ⟨.inl rfl, .inl rfl, trivial⟩ (Nat.le_refl _))) (J2 _ (vec [((i1 1) + 1), ((i1 1) + 2)]) (Option.some.inj h4).symm)
    · have h3 := ite_f hc1 hp2
      refine AW.skip ?_
      exact wK3 _ _ ((by exact Weak.cv ⟨.inl (.inl rfl), trivial⟩ ⟨.inl rfl, .inl rfl, trivial⟩ (Nat.le_refl _))) (J2 _ (vec [(i1 0), (i1 1)]) (Option.some.inj h3).symm)
  refine AW.cond rfl (fun hc2 => ?_) (fun hc2 => ?_)
  · have h5 := ite_t hc2 hp1
    refine AW.regionF' [0] [1, 2, 3, 4, 5, 6, 7, 8, 9] [10] 11 hmix (by kernel_rfl) rfl rfl rfl rfl rfl ?_
    refine AFl.move rfl rfl rfl rfl ?_
    refine AFl.nil ?_
    refine AF.step rfl rfl rfl (sp_move rfl (.inl rfl)) ?_
    refine AF.step rfl rfl rfl (sp_nilCheck_own (ob := .box _ _ _) rfl (.inl rfl) (fun _ => rfl) rfl) ?_
    refine AF.step rfl rfl rfl (sp_fieldAddr_own (ob := .box _ _ _) rfl tf_113_0 (.inl rfl) (fun _ => rfl) rfl) ?_
    refine AF.step rfl rfl rfl (ms_load_box (a := .own 1001 ga1001) rfl ts_44 (.inl rfl) rfl rfl) ?_
    refine AF.step rfl rfl rfl (sp_move rfl (.inl rfl)) ?_
    refine AF.step rfl rfl rfl (sp_nilCheck_own (ob := .box _ _ _) rfl (.inl rfl) (fun _ => rfl) rfl) ?_
    refine AF.step rfl rfl rfl (sp_fieldAddr_own (ob := .box _ _ _) rfl tf_113_1 (.inl rfl) (fun _ => rfl) rfl) ?_
    refine AF.step rfl rfl rfl (ms_load_box (a := .r (.int .i64 w1.add)) rfl ts_3 (.inl rfl) rfl rfl) ?_
    refine AF.step rfl rfl rfl (sp_build rfl tb_80 (q := [(0, _), (1, _)]) (by exact ⟨rfl, rfl, rfl, (.inl rfl), rfl, rfl, rfl, (.inl rfl), trivial⟩) (cs := [.r (.int .i64 1), .r (.int .i64 w1.add)]) (by rfl)) ?_
    refine AF.nil ?_
    refine AA.step rfl rfl rfl (msA_lit 17 rfl tg_44 (f := GAxisStep.row) (l := ([(GAxisStep.mk 1 w1.add)] : List GAxisStep)) ⟨rfl, ⟨_, (.inl rfl), rfl⟩, trivial⟩ rfl (fun _ => rfl) rfl) ?_
    refine AA.nil ?_
    refine ob1k h5 fun l2 el2 h6 => ?_
    refine AOps.step rfl rfl rfl (ms_app rfl tg_44 (.inl rfl) rfl (.inr (.inl ⟨_, _, (.inl rfl), rfl⟩)) el2) ?_
    refine AOps.step rfl rfl rfl (OpQ.spec (sp_nilCheck_own (ob := .box _ _ _) rfl (.inl rfl) (fun _ => rfl) rfl) _) ?_
    refine AOps.step rfl rfl rfl (OpQ.spec (sp_fieldAddr_own (ob := .box _ _ _) rfl tf_113_0 (.inl rfl) (fun _ => rfl) rfl) _) ?_
    refine AOps.step0 rfl rfl (ms_store_box (ds := [.own 1001 (n0 + 1), .r (.int .i64 w1.add), .r (.int .i64 w1.cut)]) rfl tz_44 (.inl rfl) rfl (.inl rfl) rfl rfl rfl rfl) ?_
    refine AOps.nil ?_
    exact wK1 _ _ ((by exact Weak.cv ⟨.inl (.inl rfl), trivial⟩ ⟨.inl rfl, .inl rfl, trivial⟩ (Nat.le_refl _))) (J1 _ (vec [(n0 + 1), (n0 + 2)]) (Option.some.inj h6).symm)
  · have h5 := ite_f hc2 hp1
    refine AW.skip ?_
    exact wK1 _ _ ((by exact Weak.cv ⟨.inl (.inl rfl), trivial⟩ ⟨.inl rfl, .inl rfl, trivial⟩ (Nat.le_refl _))) (J1 _ (vec [ga1001, n0]) (Option.some.inj h5).symm)

set_option maxHeartbeats 4000000 in
set_option maxRecDepth 20000 in
theorem w_axis_writer_put {w1 : Axis_Writer} {kind1 : Int} {n1 : Int} {r : Axis_Writer} {gb1000 : Nat} {ga1001 : Nat} (h : axis_writer_put w1 kind1 n1 = some r) : AHC Try.prog 92 2 [.ptr 1000 gb1000 0 0, .r (.int .i64 kind1), .r (.int .i64 n1)] [(1000, some (.box gb1000 113 [.own 1001 ga1001, .r (.int .i64 w1.add), .r (.int .i64 w1.cut)])), (1001, some (.arr ga1001 80 2 (w1.out.map GAxisStep.row)))] (fun rr h' => ∃ (i : Nat → Nat), rr = .tup [] ∧ h' = [(1000, some (.box gb1000 113 [.own 1001 (i 0), .r (.int .i64 r.add), .r (.int .i64 r.cut)])), (1001, some (.arr (i 0) 80 2 (r.out.map GAxisStep.row)))]) := by
  unfold axis_writer_put at h
  refine AHC.mkw Try.func92 rfl rfl Try.ntmps92 (Nat.le_of_ble_eq_true rfl) fun n0 => ?_
  refine AW.block ?_
  refine AW.seq_w fun K1 hK1 wK1 => ?_
  refine AW.region ?_
  refine AOps.step rfl rfl rfl (OpQ.spec (sp_move rfl (.inl rfl)) _) ?_
  refine AOps.step rfl rfl rfl (OpQ.spec (sp_eql rfl (.inl rfl) (.inl rfl)) _) ?_
  refine AOps.step rfl rfl rfl (OpQ.spec (sp_assign rfl (.inl rfl)) _) ?_
  refine AOps.nil ?_
  refine hK1 _ ?_
  refine AW.cond rfl (fun hc1 => ?_) (fun hc1 => ?_)
  · have h1 := ite_t hc1 h
    refine AW.skip ?_
    exact RetW.mk (s' := ⟨[], [(1000, some (.box gb1000 113 [.own 1001 ga1001, .r (.int .i64 w1.add), .r (.int .i64 w1.cut)])), (1001, some (.arr ga1001 80 2 (w1.out.map GAxisStep.row)))], n0, 76⟩) ((by exact Weak.cv trivial ⟨.inl rfl, .inl rfl, trivial⟩ (Nat.le_refl _))) (reth_cast (fun (r : Axis_Writer) rr h' => ∃ (i : Nat → Nat), rr = .tup [] ∧ h' = [(1000, some (.box gb1000 113 [.own 1001 (i 0), .r (.int .i64 r.add), .r (.int .i64 r.cut)])), (1001, some (.arr (i 0) 80 2 (r.out.map GAxisStep.row)))]) h1 (by exact ⟨.tup [], [(1000, some (.box gb1000 113 [.own 1001 ga1001, .r (.int .i64 w1.add), .r (.int .i64 w1.cut)])), (1001, some (.arr ga1001 80 2 (w1.out.map GAxisStep.row)))], ⟨_, rfl, trivial⟩, ⟨.inr rfl, .inr rfl, trivial⟩, rfl, rfl, vec [ga1001], rfl, rfl⟩))
  · have h1 := ite_f hc1 h
    refine AW.seq_w fun K2 hK2 wK2 => ?_
    refine AW.region ?_
    refine AOps.step rfl rfl rfl (OpQ.spec (sp_move rfl (.inl rfl)) _) ?_
    refine AOps.step rfl rfl rfl (OpQ.spec (sp_eql rfl (.inl rfl) (.inl rfl)) _) ?_
    refine AOps.step rfl rfl rfl (OpQ.spec (sp_assign rfl (.inl rfl)) _) ?_
    refine AOps.nil ?_
    refine hK2 _ ?_
    refine AW.cond rfl (fun hc2 => ?_) (fun hc2 => ?_)
    · have h2 := ite_t hc2 h1
      refine AW.region ?_
      refine AOps.step rfl rfl rfl (OpQ.spec (sp_move rfl (.inl rfl)) _) ?_
      refine AOps.step rfl rfl rfl (OpQ.spec (sp_nilCheck_own (ob := .box _ _ _) rfl (.inl rfl) (fun _ => rfl) rfl) _) ?_
      refine AOps.step rfl rfl rfl (OpQ.spec (sp_fieldAddr_own (ob := .box _ _ _) rfl tf_113_1 (.inl rfl) (fun _ => rfl) rfl) _) ?_
      refine AOps.step rfl rfl rfl (OpQ.spec (ms_load_box (a := .r (.int .i64 w1.add)) rfl ts_3 (.inl rfl) rfl rfl) _) ?_
      refine AOps.step rfl rfl rfl (OpQ.spec (sp_move rfl (.inl rfl)) _) ?_
      refine ob1k h2 fun x1 ex1 h3 => ?_
      refine AOps.step rfl rfl rfl (OpQ.spec (ms_add rfl (.inl rfl) (.inl rfl) (fun _ => ex1)) _) ?_
      refine AOps.step rfl rfl rfl (OpQ.spec (sp_nilCheck_own (ob := .box _ _ _) rfl (.inl rfl) (fun _ => rfl) rfl) _) ?_
      refine AOps.step rfl rfl rfl (OpQ.spec (sp_fieldAddr_own (ob := .box _ _ _) rfl tf_113_1 (.inl rfl) (fun _ => rfl) rfl) _) ?_
      refine AOps.step0 rfl rfl (ms_store_box (ds := [.own 1001 ga1001, .r (.int .i64 x1), .r (.int .i64 w1.cut)]) rfl tz_3 (.inl rfl) rfl (.inl rfl) rfl rfl rfl rfl) ?_
      refine AOps.nil ?_
      exact RetW.mk (s' := ⟨[], [(1000, some (.box gb1000 113 [.own 1001 ga1001, .r (.int .i64 x1), .r (.int .i64 w1.cut)])), (1001, some (.arr ga1001 80 2 (w1.out.map GAxisStep.row)))], n0, 76⟩) ((by exact Weak.cv trivial ⟨.inl rfl, .inl rfl, trivial⟩ (Nat.le_refl _))) (reth_cast (fun (r : Axis_Writer) rr h' => ∃ (i : Nat → Nat), rr = .tup [] ∧ h' = [(1000, some (.box gb1000 113 [.own 1001 (i 0), .r (.int .i64 r.add), .r (.int .i64 r.cut)])), (1001, some (.arr (i 0) 80 2 (r.out.map GAxisStep.row)))]) h3 (by exact ⟨.tup [], [(1000, some (.box gb1000 113 [.own 1001 ga1001, .r (.int .i64 x1), .r (.int .i64 w1.cut)])), (1001, some (.arr ga1001 80 2 (w1.out.map GAxisStep.row)))], ⟨_, rfl, trivial⟩, ⟨.inr rfl, .inr rfl, trivial⟩, rfl, rfl, vec [ga1001], rfl, rfl⟩))
    · have h2 := ite_f hc2 h1
      refine AW.seq_w fun K3 hK3 wK3 => ?_
      refine AW.region ?_
      refine AOps.step rfl rfl rfl (OpQ.spec (sp_move rfl (.inl rfl)) _) ?_
      refine AOps.step rfl rfl rfl (OpQ.spec (sp_eql rfl (.inl rfl) (.inl rfl)) _) ?_
      refine AOps.step rfl rfl rfl (OpQ.spec (sp_assign rfl (.inl rfl)) _) ?_
      refine AOps.nil ?_
      refine hK3 _ ?_
      refine AW.cond rfl (fun hc3 => ?_) (fun hc3 => ?_)
      · have h4 := ite_t hc3 h2
        refine AW.weak (s' := ⟨[(0, .ptr 1000 gb1000 0 0), (2, .r (.int .i64 n1))], [(1000, some (.box gb1000 113 [.own 1001 ga1001, .r (.int .i64 w1.add), .r (.int .i64 w1.cut)])), (1001, some (.arr ga1001 80 2 (w1.out.map GAxisStep.row)))], n0, 76⟩) (by exact Weak.cv ⟨.inl (.inl rfl), .inl (.inl rfl), trivial⟩ ⟨.inl rfl, .inl rfl, trivial⟩ (Nat.le_refl _)) ?_
        refine AW.region ?_
        refine AOps.step rfl rfl rfl (OpQ.spec (sp_move rfl (.inl rfl)) _) ?_
        refine AOps.step rfl rfl rfl (OpQ.spec (sp_nilCheck_own (ob := .box _ _ _) rfl (.inl rfl) (fun _ => rfl) rfl) _) ?_
        refine AOps.step rfl rfl rfl (OpQ.spec (sp_fieldAddr_own (ob := .box _ _ _) rfl tf_113_2 (.inl rfl) (fun _ => rfl) rfl) _) ?_
        refine AOps.step rfl rfl rfl (OpQ.spec (ms_load_box (a := .r (.int .i64 w1.cut)) rfl ts_3 (.inl rfl) rfl rfl) _) ?_
        refine AOps.step rfl rfl rfl (OpQ.spec (sp_move rfl (.inl rfl)) _) ?_
        refine ob1k h4 fun x2 ex2 h5 => ?_
        refine AOps.step rfl rfl rfl (OpQ.spec (ms_add rfl (.inl rfl) (.inl rfl) (fun _ => ex2)) _) ?_
        refine AOps.step rfl rfl rfl (OpQ.spec (sp_nilCheck_own (ob := .box _ _ _) rfl (.inl rfl) (fun _ => rfl) rfl) _) ?_
        refine AOps.step rfl rfl rfl (OpQ.spec (sp_fieldAddr_own (ob := .box _ _ _) rfl tf_113_2 (.inl rfl) (fun _ => rfl) rfl) _) ?_
        refine AOps.step0 rfl rfl (ms_store_box (ds := [.own 1001 ga1001, .r (.int .i64 w1.add), .r (.int .i64 x2)]) rfl tz_3 (.inl rfl) rfl (.inl rfl) rfl rfl rfl rfl) ?_
        refine AOps.nil ?_
        exact RetW.mk (s' := ⟨[], [(1000, some (.box gb1000 113 [.own 1001 ga1001, .r (.int .i64 w1.add), .r (.int .i64 x2)])), (1001, some (.arr ga1001 80 2 (w1.out.map GAxisStep.row)))], n0, 76⟩) ((by exact Weak.cv trivial ⟨.inl rfl, .inl rfl, trivial⟩ (Nat.le_refl _))) (reth_cast (fun (r : Axis_Writer) rr h' => ∃ (i : Nat → Nat), rr = .tup [] ∧ h' = [(1000, some (.box gb1000 113 [.own 1001 (i 0), .r (.int .i64 r.add), .r (.int .i64 r.cut)])), (1001, some (.arr (i 0) 80 2 (r.out.map GAxisStep.row)))]) h5 (by exact ⟨.tup [], [(1000, some (.box gb1000 113 [.own 1001 ga1001, .r (.int .i64 w1.add), .r (.int .i64 x2)])), (1001, some (.arr ga1001 80 2 (w1.out.map GAxisStep.row)))], ⟨_, rfl, trivial⟩, ⟨.inr rfl, .inr rfl, trivial⟩, rfl, rfl, vec [ga1001], rfl, rfl⟩))
      · have h4 := ite_f hc3 h2
        refine AW.seq_w fun K4 hK4 wK4 => ?_
        refine AW.weak (s' := ⟨[(0, .ptr 1000 gb1000 0 0), (2, .r (.int .i64 n1))], [(1000, some (.box gb1000 113 [.own 1001 ga1001, .r (.int .i64 w1.add), .r (.int .i64 w1.cut)])), (1001, some (.arr ga1001 80 2 (w1.out.map GAxisStep.row)))], n0, 76⟩) (by exact Weak.cv ⟨.inl (.inl rfl), .inl (.inl rfl), trivial⟩ ⟨.inl rfl, .inl rfl, trivial⟩ (Nat.le_refl _)) ?_
        refine AW.region ?_
        refine AOps.step rfl rfl rfl (OpQ.spec (sp_move rfl (.inl rfl)) _) ?_
        refine ob1k h4 fun w2 ew2 h6 => ?_
        refine AOps.stepHI [1000, 1001] (hc := [(1000, some (.box gb1000 113 [.own 1001 ga1001, .r (.int .i64 w1.add), .r (.int .i64 w1.cut)])), (1001, some (.arr ga1001 80 2 (w1.out.map GAxisStep.row)))]) (bs := [.ptr 1000 gb1000 0 0]) (caps := []) rfl rfl rfl rfl (.inl rfl) rfl ⟨.inl ⟨(.inl rfl), rfl⟩, trivial⟩ ⟨rfl, rfl, rfl, rfl, rfl, rfl, trivial⟩ (by decide) (w_axis_writer_flush ew2) ?_
        intro i1 n2
        refine AOps.weak (s' := ⟨[(0, .ptr 1000 gb1000 0 0), (2, .r (.int .i64 n1)), (7, .ptr 1000 gb1000 0 0), (8, .tup [])], [(1000, some (.box gb1000 113 [.own 1001 (i1 0), .r (.int .i64 w2.add), .r (.int .i64 w2.cut)])), (1001, some (.arr (i1 0) 80 2 (w2.out.map GAxisStep.row)))], n2, 76⟩) (by exact Weak.cv ⟨.inl (.inl rfl), .inl (.inl rfl), .inl (.inl rfl), .inl (.inl rfl), trivial⟩ ⟨.inl rfl, .inl rfl, trivial⟩ (Nat.le_refl _)) ?_
        refine AOps.nil ?_
        refine hK4 _ ?_
        refine AW.seq_w fun K5 hK5 wK5 => ?_
        refine AW.seq_w fun K6 hK6 wK6 => ?_
        refine AW.region ?_
        refine AOps.step rfl rfl rfl (OpQ.spec (sp_move rfl (.inl rfl)) _) ?_
        refine AOps.step rfl rfl rfl (OpQ.spec (sp_nilCheck_own (ob := .box _ _ _) rfl (.inl rfl) (fun _ => rfl) rfl) _) ?_
        refine AOps.step rfl rfl rfl (OpQ.spec (sp_fieldAddr_own (ob := .box _ _ _) rfl tf_113_0 (.inl rfl) (fun _ => rfl) rfl) _) ?_
        refine AOps.step rfl rfl rfl (OpQ.spec (ms_load_box (a := .own 1001 (i1 0)) rfl ts_44 (.inl rfl) rfl rfl) _) ?_
        refine AOps.step rfl rfl rfl (OpQ.spec (ms_len_own rfl tg_44.slice (.inl rfl) rfl) _) ?_
        refine ob1k h6 fun k1 ek1 h7 => ?_
        refine AOps.step rfl rfl rfl (OpQ.spec (ms_sub rfl (.inl rfl) (.inl rfl) (fun _ => ek1)) _) ?_
        refine AOps.step rfl rfl rfl (OpQ.spec (sp_assign rfl (.inl rfl)) _) ?_
        refine AOps.nil ?_
        refine hK6 _ ?_
        refine AW.seq_w fun K7 hK7 wK7 => ?_
        refine AW.region ?_
        refine AOps.step rfl rfl rfl (OpQ.spec (sp_move rfl (.inl rfl)) _) ?_
        refine AOps.step rfl rfl rfl (OpQ.spec (sp_geq rfl (.inl rfl) (.inl rfl)) _) ?_
        refine AOps.step rfl rfl rfl (OpQ.spec (sp_move rfl (.inl rfl)) _) ?_
        refine AOps.stepW (.one rfl rfl rfl) rfl rfl (OpQ.spec (sp_move rfl (.inl rfl)) _) ?_
        refine AOps.stepW (.one rfl rfl rfl) rfl rfl (OpQ.spec (sp_nilCheck_own (ob := .box _ _ _) rfl (.inr ⟨_, (by exact id), rfl⟩) (fun _ => rfl) rfl) _) ?_
        refine AOps.stepW (.one rfl rfl rfl) rfl rfl (OpQ.spec (sp_fieldAddr_own (ob := .box _ _ _) rfl tf_113_0 (.inr ⟨_, (by exact id), rfl⟩) (fun _ => rfl) rfl) _) ?_
        refine AOps.stepW (.one rfl rfl rfl) rfl rfl (OpQ.spec (ms_load_box (a := .own 1001 (i1 0)) rfl ts_44 (.inr ⟨_, (by exact id), rfl⟩) rfl rfl) _) ?_
        refine AOps.stepW (.one rfl rfl rfl) rfl rfl (OpQ.spec (sp_move rfl (.inl rfl)) _) ?_
        refine ob1k h7 fun x3 ex3 h8 => ?_
        refine AOps.stepW (.one rfl rfl rfl) rfl rfl (OpQ.spec (ms_idx_own rfl tg_44.slice (.inr ⟨_, (by exact id), rfl⟩) rfl (.inr ⟨_, (by exact id), rfl⟩) (gdt ex3)) _) ?_
        refine AOps.stepW (.one rfl rfl rfl) rfl rfl (OpQ.spec (sp_fieldAddr_own (ob := .arr _ _ _ _) rfl tf_80_0 (.inr ⟨_, (by exact id), rfl⟩) (fun _ => rfl) rfl) _) ?_
        refine AOps.stepW (.one rfl rfl rfl) rfl rfl (OpQ.spec (ms_load_own (d := .int .i64 x3.Kind) rfl ts_3 (.inr ⟨_, (by exact id), rfl⟩) (fun _ => rfl) (gdt ex3) rfl) _) ?_
        refine AOps.stepW (.one rfl rfl rfl) rfl rfl (OpQ.spec (sp_eql rfl (.inr ⟨_, (by exact id), rfl⟩) (.inl rfl)) _) ?_
        refine AOps.step rfl rfl rfl (OpQ.spec (sp_and rfl (.inl rfl) (.inr ⟨_, (by exact id), rfl⟩)) _) ?_
        refine AOps.nil ?_
        refine hK7 _ ?_
        refine AW.cond rfl (fun hc4 => ?_) (fun hc4 => ?_)
        · have h9 := ite_t hc4 h8
          refine AW.seq_w fun K8 hK8 wK8 => ?_
          refine AW.weak (s' := ⟨[(0, .ptr 1000 gb1000 0 0), (2, .r (.int .i64 n1)), (6, .r (.int .i64 k1))], [(1000, some (.box gb1000 113 [.own 1001 (i1 0), .r (.int .i64 w2.add), .r (.int .i64 w2.cut)])), (1001, some (.arr (i1 0) 80 2 (w2.out.map GAxisStep.row)))], n2, 76⟩) (by exact Weak.cv ⟨.inl (.inl rfl), .inl (.inl rfl), .inl (.inl rfl), trivial⟩ ⟨.inl rfl, .inl rfl, trivial⟩ (Nat.le_refl _)) ?_
          refine AW.region ?_
          refine AOps.step rfl rfl rfl (OpQ.spec (sp_move rfl (.inl rfl)) _) ?_
          refine AOps.step rfl rfl rfl (OpQ.spec (sp_nilCheck_own (ob := .box _ _ _) rfl (.inl rfl) (fun _ => rfl) rfl) _) ?_
          refine AOps.step rfl rfl rfl (OpQ.spec (sp_fieldAddr_own (ob := .box _ _ _) rfl tf_113_0 (.inl rfl) (fun _ => rfl) rfl) _) ?_
          refine AOps.step rfl rfl rfl (OpQ.spec (ms_load_box (a := .own 1001 (i1 0)) rfl ts_44 (.inl rfl) rfl rfl) _) ?_
          refine AOps.step rfl rfl rfl (OpQ.spec (sp_move rfl (.inl rfl)) _) ?_
          refine ob1k h9 fun x4 ex4 h10 => ?_
          refine AOps.step rfl rfl rfl (OpQ.spec (ms_idx_own rfl tg_44.slice (.inl rfl) rfl (.inl rfl) (fun _ => ex4)) _) ?_
          refine AOps.step rfl rfl rfl (OpQ.spec (sp_fieldAddr_own (ob := .arr _ _ _ _) rfl tf_80_1 (.inl rfl) (fun _ => rfl) rfl) _) ?_
          refine AOps.step rfl rfl rfl (OpQ.spec (ms_load_own (d := .int .i64 x4.N) rfl ts_3 (.inl rfl) (fun _ => rfl) (fun _ => ex4) rfl) _) ?_
          refine AOps.step rfl rfl rfl (OpQ.spec (sp_move rfl (.inl rfl)) _) ?_
          refine ob1k h10 fun x5 ex5 h11 => ?_
          refine AOps.step rfl rfl rfl (OpQ.spec (ms_add rfl (.inl rfl) (.inl rfl) (fun _ => ex5)) _) ?_
          refine AOps.step rfl rfl rfl (OpQ.spec (ms_idx_own rfl tg_44.slice (.inl rfl) rfl (.inl rfl) (fun _ => ex4)) _) ?_
          refine AOps.step rfl rfl rfl (OpQ.spec (sp_fieldAddr_own (ob := .arr _ _ _ _) rfl tf_80_1 (.inl rfl) (fun _ => rfl) rfl) _) ?_
          refine AOps.step0 rfl rfl (ms_store (v := (GAxisStep.mk x4.Kind x5)) rfl tz_3 (.inl rfl) rfl ex4 (.inl rfl) rfl rfl rfl rfl) ?_
          refine AOps.nil ?_
          refine hK8 _ ?_
          refine AW.ret ?_
          exact RetW.mk (s' := ⟨[], [(1000, some (.box gb1000 113 [.own 1001 (i1 0), .r (.int .i64 w2.add), .r (.int .i64 w2.cut)])), (1001, some (.arr (i1 0) 80 2 ((w2.out.set k1.toNat (GAxisStep.mk x4.Kind x5)).map GAxisStep.row)))], n2, 76⟩) ((by exact Weak.cv trivial ⟨.inl rfl, .inl rfl, trivial⟩ (Nat.le_refl _))) (reth_cast (fun (r : Axis_Writer) rr h' => ∃ (i : Nat → Nat), rr = .tup [] ∧ h' = [(1000, some (.box gb1000 113 [.own 1001 (i 0), .r (.int .i64 r.add), .r (.int .i64 r.cut)])), (1001, some (.arr (i 0) 80 2 (r.out.map GAxisStep.row)))]) h11 (by exact ⟨.tup [], [(1000, some (.box gb1000 113 [.own 1001 (i1 0), .r (.int .i64 w2.add), .r (.int .i64 w2.cut)])), (1001, some (.arr (i1 0) 80 2 ((w2.out.set k1.toNat (GAxisStep.mk x4.Kind x5)).map GAxisStep.row)))], ⟨_, rfl, trivial⟩, ⟨.inr rfl, .inr rfl, trivial⟩, rfl, rfl, vec [(i1 0)], rfl, rfl⟩))
        · have h9 := ite_f hc4 h8
          refine AW.skip ?_
          refine hK5 _ ?_
          refine AW.weak (s' := ⟨[(0, .ptr 1000 gb1000 0 0), (2, .r (.int .i64 n1))], [(1000, some (.box gb1000 113 [.own 1001 (i1 0), .r (.int .i64 w2.add), .r (.int .i64 w2.cut)])), (1001, some (.arr (i1 0) 80 2 (w2.out.map GAxisStep.row)))], n2, 76⟩) (by exact Weak.cv ⟨.inl (.inl rfl), .inl (.inl rfl), trivial⟩ ⟨.inl rfl, .inl rfl, trivial⟩ (Nat.le_refl _)) ?_
          refine AW.region ?_
          refine AOps.step rfl rfl rfl (OpQ.spec (sp_move rfl (.inl rfl)) _) ?_
          refine AOps.step rfl rfl rfl (OpQ.spec (sp_move rfl (.inl rfl)) _) ?_
          refine AOps.step rfl rfl rfl (OpQ.spec (sp_nilCheck_own (ob := .box _ _ _) rfl (.inl rfl) (fun _ => rfl) rfl) _) ?_
          refine AOps.step rfl rfl rfl (OpQ.spec (sp_fieldAddr_own (ob := .box _ _ _) rfl tf_113_0 (.inl rfl) (fun _ => rfl) rfl) _) ?_
          refine AOps.step rfl rfl rfl (OpQ.spec (ms_load_box (a := .own 1001 (i1 0)) rfl ts_44 (.inl rfl) rfl rfl) _) ?_
          refine AOps.step rfl rfl rfl (OpQ.spec (sp_move rfl (.inl rfl)) _) ?_
          refine AOps.step rfl rfl rfl (OpQ.spec (sp_build rfl tb_80 (q := [(0, _), (1, _)]) (by exact ⟨rfl, rfl, rfl, (.inl rfl), rfl, rfl, rfl, (.inl rfl), trivial⟩) (cs := [.r (.int .i64 0), .r (.int .i64 n1)]) (by rfl)) _) ?_
          refine AOps.step rfl rfl rfl (ms_lit 47 rfl tg_44 (f := GAxisStep.row) (l := ([(GAxisStep.mk 0 n1)] : List GAxisStep)) ⟨rfl, ⟨_, (.inl rfl), rfl⟩, trivial⟩ rfl (fun _ => rfl) rfl) ?_
          refine ob1k h9 fun l1 el1 h12 => ?_
          refine AOps.step rfl rfl rfl (ms_app rfl tg_44 (.inl rfl) rfl (.inr (.inl ⟨_, _, (.inl rfl), rfl⟩)) el1) ?_
          refine AOps.step rfl rfl rfl (OpQ.spec (sp_nilCheck_own (ob := .box _ _ _) rfl (.inl rfl) (fun _ => rfl) rfl) _) ?_
          refine AOps.step rfl rfl rfl (OpQ.spec (sp_fieldAddr_own (ob := .box _ _ _) rfl tf_113_0 (.inl rfl) (fun _ => rfl) rfl) _) ?_
          refine AOps.step0 rfl rfl (ms_store_box (ds := [.own 1001 (n2 + 1), .r (.int .i64 w2.add), .r (.int .i64 w2.cut)]) rfl tz_44 (.inl rfl) rfl (.inl rfl) rfl rfl rfl rfl) ?_
          refine AOps.nil ?_
          exact RetW.mk (s' := ⟨[], [(1000, some (.box gb1000 113 [.own 1001 (n2 + 1), .r (.int .i64 w2.add), .r (.int .i64 w2.cut)])), (1001, some (.arr (n2 + 1) 80 2 (l1.map GAxisStep.row)))], (n2 + 2), 76⟩) ((by exact Weak.cv trivial ⟨.inl rfl, .inl rfl, trivial⟩ (Nat.le_refl _))) (reth_cast (fun (r : Axis_Writer) rr h' => ∃ (i : Nat → Nat), rr = .tup [] ∧ h' = [(1000, some (.box gb1000 113 [.own 1001 (i 0), .r (.int .i64 r.add), .r (.int .i64 r.cut)])), (1001, some (.arr (i 0) 80 2 (r.out.map GAxisStep.row)))]) h12 (by exact ⟨.tup [], [(1000, some (.box gb1000 113 [.own 1001 (n2 + 1), .r (.int .i64 w2.add), .r (.int .i64 w2.cut)])), (1001, some (.arr (n2 + 1) 80 2 (l1.map GAxisStep.row)))], ⟨_, rfl, trivial⟩, ⟨.inr rfl, .inr rfl, trivial⟩, rfl, rfl, vec [(n2 + 1)], rfl, rfl⟩))

set_option maxHeartbeats 4000000 in
set_option maxRecDepth 20000 in
theorem w_axis_reader_take {w1 : Axis_Reader} {n1 : Int} {r : Axis_Reader} {gb1000 : Nat} (h : axis_reader_take w1 n1 = some r) : AHC Try.prog 97 1 [.ptr 1000 gb1000 0 0, .r (.int .i64 n1)] [(1000, some (.box gb1000 119 [.r (.sl (w1.steps.map GAxisStep.row)), .r (.int .i64 w1.used)]))] (fun rr h' => ∃ (i : Nat → Nat), rr = .tup [] ∧ h' = [(1000, some (.box gb1000 119 [.r (.sl (r.steps.map GAxisStep.row)), .r (.int .i64 r.used)]))]) := by
  unfold axis_reader_take at h
  refine AHC.mkw Try.func97 rfl rfl Try.ntmps97 (Nat.le_of_ble_eq_true rfl) fun n0 => ?_
  refine AW.seq_w fun K1 hK1 wK1 => ?_
  refine AW.region ?_
  refine AOps.step rfl rfl rfl (OpQ.spec (sp_move rfl (.inl rfl)) _) ?_
  refine AOps.step rfl rfl rfl (OpQ.spec (sp_nilCheck_own (ob := .box _ _ _) rfl (.inl rfl) (fun _ => rfl) rfl) _) ?_
  refine AOps.step rfl rfl rfl (OpQ.spec (sp_fieldAddr_own (ob := .box _ _ _) rfl tf_119_1 (.inl rfl) (fun _ => rfl) rfl) _) ?_
  refine AOps.step rfl rfl rfl (OpQ.spec (ms_load_box (a := .r (.int .i64 w1.used)) rfl ts_3 (.inl rfl) rfl rfl) _) ?_
  refine AOps.step rfl rfl rfl (OpQ.spec (sp_move rfl (.inl rfl)) _) ?_
  refine ob1k h fun x1 ex1 h1 => ?_
  refine AOps.step rfl rfl rfl (OpQ.spec (ms_add rfl (.inl rfl) (.inl rfl) (fun _ => ex1)) _) ?_
  refine AOps.step rfl rfl rfl (OpQ.spec (sp_nilCheck_own (ob := .box _ _ _) rfl (.inl rfl) (fun _ => rfl) rfl) _) ?_
  refine AOps.step rfl rfl rfl (OpQ.spec (sp_fieldAddr_own (ob := .box _ _ _) rfl tf_119_1 (.inl rfl) (fun _ => rfl) rfl) _) ?_
  refine AOps.step0 rfl rfl (ms_store_box (ds := [.r (.sl (w1.steps.map GAxisStep.row)), .r (.int .i64 x1)]) rfl tz_3 (.inl rfl) rfl (.inl rfl) rfl rfl rfl rfl) ?_
  refine AOps.nil ?_
  refine hK1 _ ?_
  refine AW.seq_w fun K2 hK2 wK2 => ?_
  refine AW.weak (s' := ⟨[(0, .ptr 1000 gb1000 0 0)], [(1000, some (.box gb1000 119 [.r (.sl (w1.steps.map GAxisStep.row)), .r (.int .i64 x1)]))], n0, 35⟩) (by exact Weak.cv ⟨.inl (.inl rfl), trivial⟩ ⟨.inl rfl, trivial⟩ (Nat.le_refl _)) ?_
  refine AW.regionQ hmix (by kernel_rfl) ?_
  refine AQ.step rfl rfl rfl (sp_move rfl (.inl rfl)) ?_
  refine AQ.step rfl rfl rfl (sp_nilCheck_own (ob := .box _ _ _) rfl (.inl rfl) (fun _ => rfl) rfl) ?_
  refine AQ.step rfl rfl rfl (sp_fieldAddr_own (ob := .box _ _ _) rfl tf_119_1 (.inl rfl) (fun _ => rfl) rfl) ?_
  refine AQ.step rfl rfl rfl (ms_load_box (a := .r (.int .i64 x1)) rfl ts_3 (.inl rfl) rfl rfl) ?_
  refine AQ.step rfl rfl rfl (sp_move rfl (.inl rfl)) ?_
  refine AQ.step rfl rfl rfl (sp_nilCheck_own (ob := .box _ _ _) rfl (.inl rfl) (fun _ => rfl) rfl) ?_
  refine AQ.step rfl rfl rfl (sp_fieldAddr_own (ob := .box _ _ _) rfl tf_119_0 (.inl rfl) (fun _ => rfl) rfl) ?_
  refine AQ.step rfl rfl rfl (ms_load_box (a := .r (.sl (w1.steps.map GAxisStep.row))) rfl ts_44 (.inl rfl) rfl rfl) ?_
  refine ob1k h1 fun x2 ex2 h2 => ?_
  refine AQ.step rfl rfl rfl (ms_idx rfl tg_44.slice (.inl rfl) (.inl rfl) (fun _ => rfl) (fun _ => ex2)) ?_
  refine AQ.step rfl rfl rfl (sp_fieldAddr_ro rfl tf_80_1 (.inl rfl)) ?_
  refine AQ.step rfl rfl rfl (ms_load (d := .int .i64 x2.N) rfl ts_3 (.inl rfl) rfl) ?_
  refine AQ.step rfl rfl rfl (sp_eql rfl (.inl rfl) (.inl rfl)) ?_
  refine AQ.nil ?_
  refine hK2 _ ?_
  refine AW.cond rfl (fun hc1 => ?_) (fun hc1 => ?_)
  · have h3 := ite_t hc1 h2
    refine AW.weak (s' := ⟨[(0, .ptr 1000 gb1000 0 0)], [(1000, some (.box gb1000 119 [.r (.sl (w1.steps.map GAxisStep.row)), .r (.int .i64 x1)]))], n0, 35⟩) (by exact Weak.cv ⟨.inl (.inl rfl), trivial⟩ ⟨.inl rfl, trivial⟩ (Nat.le_refl _)) ?_
    refine AW.region ?_
    refine AOps.step rfl rfl rfl (OpQ.spec (sp_move rfl (.inl rfl)) _) ?_
    refine AOps.step rfl rfl rfl (OpQ.spec (sp_move rfl (.inl rfl)) _) ?_
    refine AOps.step rfl rfl rfl (OpQ.spec (sp_move rfl (.inl rfl)) _) ?_
    refine AOps.step rfl rfl rfl (OpQ.spec (sp_nilCheck_own (ob := .box _ _ _) rfl (.inl rfl) (fun _ => rfl) rfl) _) ?_
    refine AOps.step rfl rfl rfl (OpQ.spec (sp_fieldAddr_own (ob := .box _ _ _) rfl tf_119_0 (.inl rfl) (fun _ => rfl) rfl) _) ?_
    refine AOps.step rfl rfl rfl (OpQ.spec (ms_load_box (a := .r (.sl (w1.steps.map GAxisStep.row))) rfl ts_44 (.inl rfl) rfl rfl) _) ?_
    refine ob1k h3 fun l1 el1 h4 => ?_
    refine AOps.step rfl rfl rfl (OpQ.spec (ms_slice rfl tg_44.slice (.inl rfl) (by exact ⟨_, (.inl rfl)⟩) (by exact rfl) (fun _ => rfl) (fun _ => el1)) _) ?_
    refine AOps.step rfl rfl rfl (OpQ.spec (sp_nilCheck_own (ob := .box _ _ _) rfl (.inl rfl) (fun _ => rfl) rfl) _) ?_
    refine AOps.step rfl rfl rfl (OpQ.spec (sp_fieldAddr_own (ob := .box _ _ _) rfl tf_119_0 (.inl rfl) (fun _ => rfl) rfl) _) ?_
    refine AOps.step0 rfl rfl (ms_store_box (ds := [.r (.sl (l1.map GAxisStep.row)), .r (.int .i64 x1)]) rfl tz_44 (.inl rfl) rfl (.inl rfl) rfl rfl rfl rfl) ?_
    refine AOps.step rfl rfl rfl (OpQ.spec (sp_nilCheck_own (ob := .box _ _ _) rfl (.inl rfl) (fun _ => rfl) rfl) _) ?_
    refine AOps.step rfl rfl rfl (OpQ.spec (sp_fieldAddr_own (ob := .box _ _ _) rfl tf_119_1 (.inl rfl) (fun _ => rfl) rfl) _) ?_
    refine AOps.step0 rfl rfl (ms_store_box (ds := [.r (.sl (l1.map GAxisStep.row)), .r (.int .i64 0)]) rfl tz_3 (.inl rfl) rfl (.inl rfl) rfl rfl rfl rfl) ?_
    refine AOps.nil ?_
    exact RetW.mk (s' := ⟨[], [(1000, some (.box gb1000 119 [.r (.sl (l1.map GAxisStep.row)), .r (.int .i64 0)]))], n0, 35⟩) ((by exact Weak.cv trivial ⟨.inl rfl, trivial⟩ (Nat.le_refl _))) (reth_cast (fun (r : Axis_Reader) rr h' => ∃ (i : Nat → Nat), rr = .tup [] ∧ h' = [(1000, some (.box gb1000 119 [.r (.sl (r.steps.map GAxisStep.row)), .r (.int .i64 r.used)]))]) h4 (by exact ⟨.tup [], [(1000, some (.box gb1000 119 [.r (.sl (l1.map GAxisStep.row)), .r (.int .i64 0)]))], ⟨_, rfl, trivial⟩, ⟨.inr rfl, trivial⟩, rfl, rfl, vec [], rfl, rfl⟩))
  · have h3 := ite_f hc1 h2
    refine AW.skip ?_
    exact RetW.mk (s' := ⟨[], [(1000, some (.box gb1000 119 [.r (.sl (w1.steps.map GAxisStep.row)), .r (.int .i64 x1)]))], n0, 35⟩) ((by exact Weak.cv trivial ⟨.inl rfl, trivial⟩ (Nat.le_refl _))) (reth_cast (fun (r : Axis_Reader) rr h' => ∃ (i : Nat → Nat), rr = .tup [] ∧ h' = [(1000, some (.box gb1000 119 [.r (.sl (r.steps.map GAxisStep.row)), .r (.int .i64 r.used)]))]) h3 (by exact ⟨.tup [], [(1000, some (.box gb1000 119 [.r (.sl (w1.steps.map GAxisStep.row)), .r (.int .i64 x1)]))], ⟨_, rfl, trivial⟩, ⟨.inr rfl, trivial⟩, rfl, rfl, vec [], rfl, rfl⟩))

set_option maxHeartbeats 4000000 in
set_option maxRecDepth 20000 in
theorem w_axis_writer_done {w1 : Axis_Writer} {r : (List GAxisStep) × Int × Axis_Writer} {gb1000 : Nat} {ga1001 : Nat} (h : axis_writer_done w1 = some r) : AHC Try.prog 93 2 [.ptr 1000 gb1000 0 0] [(1000, some (.box gb1000 113 [.own 1001 ga1001, .r (.int .i64 w1.add), .r (.int .i64 w1.cut)])), (1001, some (.arr ga1001 80 2 (w1.out.map GAxisStep.row)))] (fun rr h' => ∃ (i : Nat → Nat), rr = .tup [.r (.sl (r.1.map GAxisStep.row)), .r (.int .i64 r.2.1)] ∧ h' = [(1000, some (.box gb1000 113 [.r (.sl (r.2.2.out.map GAxisStep.row)), .r (.int .i64 r.2.2.add), .r (.int .i64 r.2.2.cut)]))]) := by
  unfold axis_writer_done at h
  refine AHC.mkw Try.func93 rfl rfl Try.ntmps93 (Nat.le_of_ble_eq_true rfl) fun n0 => ?_
  refine AW.seq_w fun K1 hK1 wK1 => ?_
  refine AW.region ?_
  refine AOps.step rfl rfl rfl (OpQ.spec (sp_assign rfl (.inl rfl)) _) ?_
  refine AOps.step rfl rfl rfl (OpQ.spec (sp_assign rfl (.inl rfl)) _) ?_
  refine AOps.nil ?_
  refine hK1 _ ?_
  refine AW.seq_w fun K2 hK2 wK2 => ?_
  refine AW.region ?_
  refine AOps.step rfl rfl rfl (OpQ.spec (sp_move rfl (.inl rfl)) _) ?_
  refine ob1k h fun w2 ew2 h1 => ?_
  refine AOps.stepHI [1000, 1001] (hc := [(1000, some (.box gb1000 113 [.own 1001 ga1001, .r (.int .i64 w1.add), .r (.int .i64 w1.cut)])), (1001, some (.arr ga1001 80 2 (w1.out.map GAxisStep.row)))]) (bs := [.ptr 1000 gb1000 0 0]) (caps := []) rfl rfl rfl rfl (.inl rfl) rfl ⟨.inl ⟨(.inl rfl), rfl⟩, trivial⟩ ⟨rfl, rfl, rfl, rfl, rfl, rfl, trivial⟩ (by decide) (w_axis_writer_flush ew2) ?_
  intro i1 n1
  refine AOps.weak (s' := ⟨[(0, .ptr 1000 gb1000 0 0), (2, .cst (.slice none 0 0)), (3, .r (.int .i64 0)), (4, .ptr 1000 gb1000 0 0), (5, .tup [])], [(1000, some (.box gb1000 113 [.own 1001 (i1 0), .r (.int .i64 w2.add), .r (.int .i64 w2.cut)])), (1001, some (.arr (i1 0) 80 2 (w2.out.map GAxisStep.row)))], n1, 16⟩) (by exact Weak.cv ⟨.inl (.inl rfl), .inl (.inl rfl), .inl (.inl rfl), .inl (.inl rfl), .inl (.inl rfl), trivial⟩ ⟨.inl rfl, .inl rfl, trivial⟩ (Nat.le_refl _)) ?_
  refine AOps.nil ?_
  refine hK2 _ ?_
  refine AW.seq_w fun K3 hK3 wK3 => ?_
  refine AW.seq_w fun K4 hK4 wK4 => ?_
  refine AW.region ?_
  refine AOps.step rfl rfl rfl (OpQ.spec (sp_move rfl (.inl rfl)) _) ?_
  refine AOps.step rfl rfl rfl (OpQ.spec (sp_nilCheck_own (ob := .box _ _ _) rfl (.inl rfl) (fun _ => rfl) rfl) _) ?_
  refine AOps.step rfl rfl rfl (OpQ.spec (sp_fieldAddr_own (ob := .box _ _ _) rfl tf_113_0 (.inl rfl) (fun _ => rfl) rfl) _) ?_
  refine AOps.step rfl rfl rfl (OpQ.spec (ms_load_box (a := .own 1001 (i1 0)) rfl ts_44 (.inl rfl) rfl rfl) _) ?_
  refine ob1k h1 fun r1 er1 h2 => ?_
  refine AOps.step rfl rfl rfl (sp_call (r := .r (.int .i64 r1)) (caps := []) (bs := [.r (.sl (w2.out.map GAxisStep.row))]) rfl (.inl rfl) rfl ⟨⟨_, (.inl rfl), .one (.own rfl)⟩, trivial⟩ (fun _ => w_axis_Check (er1)) rfl) ?_
  refine AOps.step rfl rfl rfl (OpQ.spec (sp_neq rfl (.inl rfl) (.inl rfl)) _) ?_
  refine AOps.nil ?_
  refine hK4 _ ?_
  refine AW.cond rfl (fun hc1 => ?_) (fun hc1 => ?_)
  · have h3 := ite_t hc1 h2
    refine AW.seq_w fun K5 hK5 wK5 => ?_
    refine AW.weak (s' := ⟨[], [(1000, some (.box gb1000 113 [.own 1001 (i1 0), .r (.int .i64 w2.add), .r (.int .i64 w2.cut)])), (1001, some (.arr (i1 0) 80 2 (w2.out.map GAxisStep.row)))], n1, 16⟩) (by exact Weak.cv trivial ⟨.inl rfl, .inl rfl, trivial⟩ (Nat.le_refl _)) ?_
    refine AW.region ?_
    refine AOps.step rfl rfl rfl (OpQ.spec (sp_assign rfl (.inl rfl)) _) ?_
    refine AOps.step rfl rfl rfl (OpQ.spec (sp_assign rfl (.inl rfl)) _) ?_
    refine AOps.nil ?_
    refine hK5 _ ?_
    refine AW.ret ?_
    exact RetW.mk (s' := ⟨[(2, .r (.sl [])), (3, .r (.int .i64 3))], [(1000, some (.box gb1000 113 [.r (.sl (w2.out.map GAxisStep.row)), .r (.int .i64 w2.add), .r (.int .i64 w2.cut)]))], n1, 16⟩) (Weak.trans (by exact Weak.frz (e' := [(2, .cst (.slice none 0 0)), (3, .r (.int .i64 3))]) (h' := [(1000, some (.box gb1000 113 [.r (.sl (w2.out.map GAxisStep.row)), .r (.int .i64 w2.add), .r (.int .i64 w2.cut)]))]) 1001 rfl ⟨.inl (.inl rfl), .inl (.inl rfl), trivial⟩ ⟨rfl, .inr (.inr ⟨_, _, _, _, rfl, rfl, ⟨.inr (.inr ⟨rfl, rfl⟩), .inl rfl, .inl rfl, trivial⟩⟩), trivial⟩) (by exact Weak.cv ⟨.inl (.inr (.inr ⟨rfl, rfl⟩)), .inl (.inl rfl), trivial⟩ ⟨.inl rfl, trivial⟩ (Nat.le_refl _))) (reth_cast (fun (r : (List GAxisStep) × Int × Axis_Writer) rr h' => ∃ (i : Nat → Nat), rr = .tup [.r (.sl (r.1.map GAxisStep.row)), .r (.int .i64 r.2.1)] ∧ h' = [(1000, some (.box gb1000 113 [.r (.sl (r.2.2.out.map GAxisStep.row)), .r (.int .i64 r.2.2.add), .r (.int .i64 r.2.2.cut)]))]) h3 (by exact ⟨.tup [.r (.sl []), .r (.int .i64 3)], [(1000, some (.box gb1000 113 [.r (.sl (w2.out.map GAxisStep.row)), .r (.int .i64 w2.add), .r (.int .i64 w2.cut)]))], ⟨_, rfl, ⟨rfl, rfl, trivial⟩⟩, ⟨.inr rfl, trivial⟩, rfl, rfl, vec [], rfl, rfl⟩))
  · have h3 := ite_f hc1 h2
    refine AW.skip ?_
    refine hK3 _ ?_
    refine AW.seq_w fun K6 hK6 wK6 => ?_
    refine AW.weak (s' := ⟨[(0, .ptr 1000 gb1000 0 0)], [(1000, some (.box gb1000 113 [.own 1001 (i1 0), .r (.int .i64 w2.add), .r (.int .i64 w2.cut)])), (1001, some (.arr (i1 0) 80 2 (w2.out.map GAxisStep.row)))], n1, 16⟩) (by exact Weak.cv ⟨.inl (.inl rfl), trivial⟩ ⟨.inl rfl, .inl rfl, trivial⟩ (Nat.le_refl _)) ?_
    refine AW.region ?_
    refine AOps.step rfl rfl rfl (OpQ.spec (sp_move rfl (.inl rfl)) _) ?_
    refine AOps.step rfl rfl rfl (OpQ.spec (sp_nilCheck_own (ob := .box _ _ _) rfl (.inl rfl) (fun _ => rfl) rfl) _) ?_
    refine AOps.step rfl rfl rfl (OpQ.spec (sp_fieldAddr_own (ob := .box _ _ _) rfl tf_113_0 (.inl rfl) (fun _ => rfl) rfl) _) ?_
    refine AOps.step rfl rfl rfl (OpQ.spec (ms_load_box (a := .own 1001 (i1 0)) rfl ts_44 (.inl rfl) rfl rfl) _) ?_
    refine AOps.step rfl rfl rfl (OpQ.spec (sp_assign rfl (.inl rfl)) _) ?_
    refine AOps.step rfl rfl rfl (OpQ.spec (sp_assign rfl (.inl rfl)) _) ?_
    refine AOps.nil ?_
    refine hK6 _ ?_
    refine AW.ret ?_
    exact RetW.mk (s' := ⟨[(2, .r (.sl (w2.out.map GAxisStep.row))), (3, .r (.int .i64 0))], [(1000, some (.box gb1000 113 [.r (.sl (w2.out.map GAxisStep.row)), .r (.int .i64 w2.add), .r (.int .i64 w2.cut)]))], n1, 16⟩) (Weak.trans (by exact Weak.frz (e' := [(0, .ptr 1000 gb1000 0 0), (2, .r (.sl (w2.out.map GAxisStep.row))), (3, .r (.int .i64 0)), (12, .ptr 1000 gb1000 0 0), (13, .ptr 1000 gb1000 0 0), (14, .ptr 1000 gb1000 0 0), (15, .r (.sl (w2.out.map GAxisStep.row)))]) (h' := [(1000, some (.box gb1000 113 [.r (.sl (w2.out.map GAxisStep.row)), .r (.int .i64 w2.add), .r (.int .i64 w2.cut)]))]) 1001 rfl ⟨.inl (.inl rfl), .inl (.inr (.inr ⟨rfl, rfl⟩)), .inl (.inl rfl), .inl (.inl rfl), .inl (.inl rfl), .inl (.inl rfl), .inl (.inr (.inr ⟨rfl, rfl⟩)), trivial⟩ ⟨rfl, .inr (.inr ⟨_, _, _, _, rfl, rfl, ⟨.inr (.inr ⟨rfl, rfl⟩), .inl rfl, .inl rfl, trivial⟩⟩), trivial⟩) (by exact Weak.cv ⟨.inl (.inl rfl), .inl (.inl rfl), trivial⟩ ⟨.inl rfl, trivial⟩ (Nat.le_refl _))) (reth_cast (fun (r : (List GAxisStep) × Int × Axis_Writer) rr h' => ∃ (i : Nat → Nat), rr = .tup [.r (.sl (r.1.map GAxisStep.row)), .r (.int .i64 r.2.1)] ∧ h' = [(1000, some (.box gb1000 113 [.r (.sl (r.2.2.out.map GAxisStep.row)), .r (.int .i64 r.2.2.add), .r (.int .i64 r.2.2.cut)]))]) h3 (by exact ⟨.tup [.r (.sl (w2.out.map GAxisStep.row)), .r (.int .i64 0)], [(1000, some (.box gb1000 113 [.r (.sl (w2.out.map GAxisStep.row)), .r (.int .i64 w2.add), .r (.int .i64 w2.cut)]))], ⟨_, rfl, ⟨rfl, rfl, trivial⟩⟩, ⟨.inr rfl, trivial⟩, rfl, rfl, vec [], rfl, rfl⟩))

set_option maxHeartbeats 4000000 in
set_option maxRecDepth 20000 in
theorem w_axis_Pair {a1 : List GAxisStep} {b1 : List GAxisStep} {r : (List GAxisStep) × (List GAxisStep) × Int} (h : axis_Pair a1 b1 = some r) : ARO Try.prog 65 [.r (.sl (a1.map GAxisStep.row)), .r (.sl (b1.map GAxisStep.row))] (.tup [.r (.sl (r.1.map GAxisStep.row)), .r (.sl (r.2.1.map GAxisStep.row)), .r (.int .i64 r.2.2)]) := by
  unfold axis_Pair at h
  refine ARO.mkF Try.func65 rfl rfl Try.ntmps65 rfl (Nat.le_of_ble_eq_true rfl) fun n0 => ?_
  refine AW.seq_w fun K1 hK1 wK1 => ?_
  refine AW.region ?_
  refine AOps.step rfl rfl rfl (OpQ.spec (sp_assign rfl (.inl rfl)) _) ?_
  refine AOps.step rfl rfl rfl (OpQ.spec (sp_assign rfl (.inl rfl)) _) ?_
  refine AOps.step rfl rfl rfl (OpQ.spec (sp_assign rfl (.inl rfl)) _) ?_
  refine AOps.nil ?_
  refine hK1 _ ?_
  refine AW.seq_w fun K2 hK2 wK2 => ?_
  refine AW.seq_w fun K3 hK3 wK3 => ?_
  refine AW.region ?_
  refine AOps.step rfl rfl rfl (OpQ.spec (sp_move rfl (.inl rfl)) _) ?_
  refine ob1k h fun e1 ee1 h1 => ?_
  refine AOps.step rfl rfl rfl (sp_call (r := .r (.int .i64 e1)) (caps := []) (bs := [.r (.sl (a1.map GAxisStep.row))]) rfl (.inl rfl) rfl ⟨⟨_, (.inl rfl), .d rfl⟩, trivial⟩ (fun _ => w_axis_Check (ee1)) rfl) ?_
  refine AOps.step rfl rfl rfl (OpQ.spec (sp_assign rfl (.inl rfl)) _) ?_
  refine AOps.nil ?_
  refine hK3 _ ?_
  refine AW.seq_w fun K4 hK4 wK4 => ?_
  refine AW.region ?_
  refine AOps.step rfl rfl rfl (OpQ.spec (sp_move rfl (.inl rfl)) _) ?_
  refine AOps.step rfl rfl rfl (OpQ.spec (sp_neq rfl (.inl rfl) (.inl rfl)) _) ?_
  refine AOps.nil ?_
  refine hK4 _ ?_
  refine AW.cond rfl (fun hc1 => ?_) (fun hc1 => ?_)
  · have h2 := ite_t hc1 h1
    refine AW.seq_w fun K5 hK5 wK5 => ?_
    refine AW.weak (s' := ⟨[(7, .r (.int .i64 e1))], [], n0, 128⟩) (by exact Weak.cv ⟨.inl (.inl rfl), trivial⟩ trivial (Nat.le_refl _)) ?_
    refine AW.region ?_
    refine AOps.step rfl rfl rfl (OpQ.spec (sp_move rfl (.inl rfl)) _) ?_
    refine AOps.step rfl rfl rfl (OpQ.spec (sp_assign rfl (.inl rfl)) _) ?_
    refine AOps.step rfl rfl rfl (OpQ.spec (sp_assign rfl (.inl rfl)) _) ?_
    refine AOps.step rfl rfl rfl (OpQ.spec (sp_assign rfl (.inl rfl)) _) ?_
    refine AOps.nil ?_
    refine hK5 _ ?_
    refine AW.ret ?_
    exact retf3 (P := Try.prog) (fun (r : (List GAxisStep) × (List GAxisStep) × Int) => .r (.sl (r.1.map GAxisStep.row))) (fun (r : (List GAxisStep) × (List GAxisStep) × Int) => .r (.sl (r.2.1.map GAxisStep.row))) (fun (r : (List GAxisStep) × (List GAxisStep) × Int) => .r (.int .i64 r.2.2)) h2 (.inl rfl) (.t (.one (.nil))) (.t (.one (.nil))) (.t (.d rfl))
  · have h2 := ite_f hc1 h1
    refine AW.skip ?_
    refine hK2 _ ?_
    refine AW.seq_w fun K6 hK6 wK6 => ?_
    refine AW.seq_w fun K7 hK7 wK7 => ?_
    refine AW.region ?_
    refine AOps.step rfl rfl rfl (OpQ.spec (sp_move rfl (.inl rfl)) _) ?_
    refine ob1k h2 fun e2 ee2 h3 => ?_
    refine AOps.step rfl rfl rfl (sp_call (r := .r (.int .i64 e2)) (caps := []) (bs := [.r (.sl (b1.map GAxisStep.row))]) rfl (.inl rfl) rfl ⟨⟨_, (.inl rfl), .d rfl⟩, trivial⟩ (fun _ => w_axis_Check (ee2)) rfl) ?_
    refine AOps.step rfl rfl rfl (OpQ.spec (sp_assign rfl (.inl rfl)) _) ?_
    refine AOps.nil ?_
    refine hK7 _ ?_
    refine AW.seq_w fun K8 hK8 wK8 => ?_
    refine AW.weak (s' := ⟨[(0, .r (.sl (a1.map GAxisStep.row))), (1, .r (.sl (b1.map GAxisStep.row))), (8, .r (.int .i64 e2))], [], n0, 128⟩) (by exact Weak.cv ⟨.inl (.inl rfl), .inl (.inl rfl), .inl (.inl rfl), trivial⟩ trivial (Nat.le_refl _)) ?_
    refine AW.region ?_
    refine AOps.step rfl rfl rfl (OpQ.spec (sp_move rfl (.inl rfl)) _) ?_
    refine AOps.step rfl rfl rfl (OpQ.spec (sp_neq rfl (.inl rfl) (.inl rfl)) _) ?_
    refine AOps.nil ?_
    refine hK8 _ ?_
    refine AW.cond rfl (fun hc2 => ?_) (fun hc2 => ?_)
    · have h4 := ite_t hc2 h3
      refine AW.seq_w fun K9 hK9 wK9 => ?_
      refine AW.region ?_
      refine AOps.step rfl rfl rfl (OpQ.spec (sp_move rfl (.inl rfl)) _) ?_
      refine AOps.step rfl rfl rfl (OpQ.spec (sp_assign rfl (.inl rfl)) _) ?_
      refine AOps.step rfl rfl rfl (OpQ.spec (sp_assign rfl (.inl rfl)) _) ?_
      refine AOps.step rfl rfl rfl (OpQ.spec (sp_assign rfl (.inl rfl)) _) ?_
      refine AOps.nil ?_
      refine hK9 _ ?_
      refine AW.ret ?_
      exact retf3 (P := Try.prog) (fun (r : (List GAxisStep) × (List GAxisStep) × Int) => .r (.sl (r.1.map GAxisStep.row))) (fun (r : (List GAxisStep) × (List GAxisStep) × Int) => .r (.sl (r.2.1.map GAxisStep.row))) (fun (r : (List GAxisStep) × (List GAxisStep) × Int) => .r (.int .i64 r.2.2)) h4 (.inl rfl) (.t (.one (.nil))) (.t (.one (.nil))) (.t (.d rfl))
    · have h4 := ite_f hc2 h3
      refine AW.skip ?_
      refine hK6 _ ?_
      refine AW.seq_w fun K10 hK10 wK10 => ?_
      refine AW.region ?_
      refine AOps.step rfl rfl rfl (OpQ.spec (sp_move rfl (.inl rfl)) _) ?_
      refine ob2k h4 fun r1 r2 er1 h5 => ?_
      refine AOps.step rfl rfl rfl (sp_call (r := .tup [.r (.int .i64 r1), .r (.int .i64 r2)]) (caps := []) (bs := [.r (.sl (a1.map GAxisStep.row))]) rfl (.inl rfl) rfl ⟨⟨_, (.inl rfl), .d rfl⟩, trivial⟩ (fun _ => w_axis_lengths (er1)) rfl) ?_
      refine AOps.step rfl rfl rfl (OpQ.spec (sp_move rfl (.inl rfl)) _) ?_
      refine AOps.step rfl rfl rfl (OpQ.spec (sp_extract (a := .r (.int .i64 r1)) rfl (.inl rfl) rfl) _) ?_
      refine AOps.step rfl rfl rfl (OpQ.spec (sp_extract (a := .r (.int .i64 r2)) rfl (.inl rfl) rfl) _) ?_
      refine AOps.step rfl rfl rfl (OpQ.spec (sp_assign rfl (.inl rfl)) _) ?_
      refine AOps.step rfl rfl rfl (OpQ.spec (sp_assign rfl (.inl rfl)) _) ?_
      refine AOps.nil ?_
      refine hK10 _ ?_
      refine AW.seq_w fun K11 hK11 wK11 => ?_
      refine AW.seq_w fun K12 hK12 wK12 => ?_
      refine AW.weak (s' := ⟨[(0, .r (.sl (a1.map GAxisStep.row))), (1, .r (.sl (b1.map GAxisStep.row))), (9, .r (.int .i64 r1))], [], n0, 128⟩) (by exact Weak.cv ⟨.inl (.inl rfl), .inl (.inl rfl), .inl (.inl rfl), trivial⟩ trivial (Nat.le_refl _)) ?_
      refine AW.region ?_
      refine AOps.step rfl rfl rfl (OpQ.spec (sp_move rfl (.inl rfl)) _) ?_
      refine ob2k h5 fun r3 r4 er3 h6 => ?_
      refine AOps.step rfl rfl rfl (sp_call (r := .tup [.r (.int .i64 r3), .r (.int .i64 r4)]) (caps := []) (bs := [.r (.sl (b1.map GAxisStep.row))]) rfl (.inl rfl) rfl ⟨⟨_, (.inl rfl), .d rfl⟩, trivial⟩ (fun _ => w_axis_lengths (er3)) rfl) ?_
      refine AOps.step rfl rfl rfl (OpQ.spec (sp_move rfl (.inl rfl)) _) ?_
      refine AOps.step rfl rfl rfl (OpQ.spec (sp_extract (a := .r (.int .i64 r3)) rfl (.inl rfl) rfl) _) ?_
      refine AOps.step rfl rfl rfl (OpQ.spec (sp_extract (a := .r (.int .i64 r4)) rfl (.inl rfl) rfl) _) ?_
      refine AOps.step rfl rfl rfl (OpQ.spec (sp_assign rfl (.inl rfl)) _) ?_
      refine AOps.step rfl rfl rfl (OpQ.spec (sp_assign rfl (.inl rfl)) _) ?_
      refine AOps.nil ?_
      refine hK12 _ ?_
      refine AW.seq_w fun K13 hK13 wK13 => ?_
      refine AW.region ?_
      refine AOps.step rfl rfl rfl (OpQ.spec (sp_move rfl (.inl rfl)) _) ?_
      refine AOps.step rfl rfl rfl (OpQ.spec (sp_move rfl (.inl rfl)) _) ?_
      refine AOps.step rfl rfl rfl (OpQ.spec (sp_neq rfl (.inl rfl) (.inl rfl)) _) ?_
      refine AOps.nil ?_
      refine hK13 _ ?_
      refine AW.cond rfl (fun hc3 => ?_) (fun hc3 => ?_)
      · have h7 := ite_t hc3 h6
        refine AW.seq_w fun K14 hK14 wK14 => ?_
        refine AW.weak (s' := ⟨[], [], n0, 128⟩) (by exact Weak.cv trivial trivial (Nat.le_refl _)) ?_
        refine AW.region ?_
        refine AOps.step rfl rfl rfl (OpQ.spec (sp_assign rfl (.inl rfl)) _) ?_
        refine AOps.step rfl rfl rfl (OpQ.spec (sp_assign rfl (.inl rfl)) _) ?_
        refine AOps.step rfl rfl rfl (OpQ.spec (sp_assign rfl (.inl rfl)) _) ?_
        refine AOps.nil ?_
        refine hK14 _ ?_
        refine AW.ret ?_
        exact retf3 (P := Try.prog) (fun (r : (List GAxisStep) × (List GAxisStep) × Int) => .r (.sl (r.1.map GAxisStep.row))) (fun (r : (List GAxisStep) × (List GAxisStep) × Int) => .r (.sl (r.2.1.map GAxisStep.row))) (fun (r : (List GAxisStep) × (List GAxisStep) × Int) => .r (.int .i64 r.2.2)) h7 (.inl rfl) (.t (.one (.nil))) (.t (.one (.nil))) (.t (.d rfl))
      · have h7 := ite_f hc3 h6
        refine AW.skip ?_
        refine hK11 _ ?_
        refine AW.seq_w fun K15 hK15 wK15 => ?_
        refine AW.weak (s' := ⟨[(0, .r (.sl (a1.map GAxisStep.row))), (1, .r (.sl (b1.map GAxisStep.row)))], [], n0, 128⟩) (by exact Weak.cv ⟨.inl (.inl rfl), .inl (.inl rfl), trivial⟩ trivial (Nat.le_refl _)) ?_
        refine AW.region ?_
        refine AOps.step rfl rfl rfl (ms_alloc (cs := [.cst (.slice none 0 0), .r (.int .i64 0), .r (.int .i64 0)]) 13 rfl t0_113 rfl rfl) ?_
        refine AOps.step rfl rfl rfl (ms_alloc (cs := [.cst (.slice none 0 0), .r (.int .i64 0), .r (.int .i64 0)]) 14 rfl t0_113 rfl rfl) ?_
        refine AOps.nil ?_
        refine hK15 _ ?_
        refine AW.seq_w fun K16 hK16 wK16 => ?_
        refine AW.region ?_
        refine AOps.step rfl rfl rfl (OpQ.spec (sp_move rfl (.inl rfl)) _) ?_
        refine AOps.step rfl rfl rfl (OpQ.spec (sp_build rfl tb_119 (q := [(0, _)]) (by exact ⟨rfl, rfl, rfl, (.inl rfl), trivial⟩) (cs := [.r (.sl (a1.map GAxisStep.row)), .r (.int .i64 0)]) (by rfl)) _) ?_
        refine AOps.step rfl rfl rfl (ms_box (cs := [.r (.sl (a1.map GAxisStep.row)), .r (.int .i64 0)]) 47 rfl (.inl rfl) rfl rfl) ?_
        refine AOps.step rfl rfl rfl (OpQ.spec (sp_move rfl (.inl rfl)) _) ?_
        refine AOps.step rfl rfl rfl (OpQ.spec (sp_build rfl tb_119 (q := [(0, _)]) (by exact ⟨rfl, rfl, rfl, (.inl rfl), trivial⟩) (cs := [.r (.sl (b1.map GAxisStep.row)), .r (.int .i64 0)]) (by rfl)) _) ?_
        refine AOps.step rfl rfl rfl (ms_box (cs := [.r (.sl (b1.map GAxisStep.row)), .r (.int .i64 0)]) 50 rfl (.inl rfl) rfl rfl) ?_
        refine AOps.step rfl rfl rfl (OpQ.spec (sp_assign rfl (.inl rfl)) _) ?_
        refine AOps.step rfl rfl rfl (OpQ.spec (sp_assign rfl (.inl rfl)) _) ?_
        refine AOps.nil ?_
        refine hK16 _ ?_
        refine AW.seq_w fun K17 hK17 wK17 => ?_
        refine AW.block ?_
        refine jb2k h7 fun o1 hit1 hk1 => ?_
        have J1 : ∀ (x4 : Axis_Writer) (y4 : Axis_Writer) (i5 : Nat → Nat), o1 = (x4, y4) → K17 ⟨[(13, .ptr 13 n0 0 0), (14, .ptr 14 (n0 + 1) 0 0)], [(13, some (.box n0 113 [.own 3130 (i5 0), .r (.int .i64 x4.add), .r (.int .i64 x4.cut)])), (14, some (.box (n0 + 1) 113 [.own 3140 (i5 1), .r (.int .i64 y4.add), .r (.int .i64 y4.cut)])), (3130, some (.arr (i5 0) 80 2 (x4.out.map GAxisStep.row))), (3140, some (.arr (i5 1) 80 2 (y4.out.map GAxisStep.row)))], (i5 2), 128⟩ := by
          intro x4 y4 i5 e
          have h8 := hk1 _ _ e
          refine hK17 _ ?_
          refine AW.seq_w fun K18 hK18 wK18 => ?_
          refine AW.region ?_
          refine ob3k h8 fun r5 r6 w1 er5 h9 => ?_
          refine AOps.stepHI [13, 3130] (hc := [(1000, some (.box n0 113 [.own 1001 (i5 0), .r (.int .i64 x4.add), .r (.int .i64 x4.cut)])), (1001, some (.arr (i5 0) 80 2 (x4.out.map GAxisStep.row)))]) (bs := [.ptr 1000 n0 0 0]) (caps := []) rfl rfl rfl rfl (.inl rfl) rfl ⟨.inl ⟨(.inl rfl), rfl⟩, trivial⟩ ⟨rfl, rfl, rfl, rfl, rfl, rfl, trivial⟩ (by decide) (w_axis_writer_done er5) ?_
          intro i6 n1
          refine AOps.weak (s' := ⟨[(13, .ptr 13 n0 0 0), (14, .ptr 14 (n0 + 1) 0 0), (113, .tup [.r (.sl (r5.map GAxisStep.row)), .r (.int .i64 r6)])], [(13, some (.box n0 113 [.r (.sl (w1.out.map GAxisStep.row)), .r (.int .i64 w1.add), .r (.int .i64 w1.cut)])), (14, some (.box (n0 + 1) 113 [.own 3140 (i5 1), .r (.int .i64 y4.add), .r (.int .i64 y4.cut)])), (3140, some (.arr (i5 1) 80 2 (y4.out.map GAxisStep.row)))], n1, 128⟩) (by exact Weak.cv ⟨.inl (.inl rfl), .inl (.inl rfl), .inl (.inl rfl), trivial⟩ ⟨.inl rfl, .inl rfl, .inl rfl, trivial⟩ (Nat.le_refl _)) ?_
          refine AOps.step rfl rfl rfl (OpQ.spec (sp_move rfl (.inl rfl)) _) ?_
          refine AOps.step rfl rfl rfl (OpQ.spec (sp_extract (a := .r (.sl (r5.map GAxisStep.row))) rfl (.inl rfl) rfl) _) ?_
          refine AOps.step rfl rfl rfl (OpQ.spec (sp_extract (a := .r (.int .i64 r6)) rfl (.inl rfl) rfl) _) ?_
          refine AOps.step rfl rfl rfl (OpQ.spec (sp_assign rfl (.inl rfl)) _) ?_
          refine AOps.step rfl rfl rfl (OpQ.spec (sp_assign rfl (.inl rfl)) _) ?_
          refine AOps.nil ?_
          refine hK18 _ ?_
          refine AW.seq_w fun K19 hK19 wK19 => ?_
          refine AW.region ?_
          refine ob3k h9 fun r7 r8 w2 er7 h10 => ?_
          refine AOps.stepHI [14, 3140] (hc := [(1000, some (.box (n0 + 1) 113 [.own 1001 (i5 1), .r (.int .i64 y4.add), .r (.int .i64 y4.cut)])), (1001, some (.arr (i5 1) 80 2 (y4.out.map GAxisStep.row)))]) (bs := [.ptr 1000 (n0 + 1) 0 0]) (caps := []) rfl rfl rfl rfl (.inl rfl) rfl ⟨.inl ⟨(.inl rfl), rfl⟩, trivial⟩ ⟨rfl, rfl, rfl, rfl, rfl, rfl, trivial⟩ (by decide) (w_axis_writer_done er7) ?_
          intro i7 n2
          refine AOps.weak (s' := ⟨[(13, .ptr 13 n0 0 0), (14, .ptr 14 (n0 + 1) 0 0), (18, .r (.sl (r5.map GAxisStep.row))), (19, .r (.int .i64 r6)), (112, .tup [.r (.sl (r5.map GAxisStep.row)), .r (.int .i64 r6)]), (113, .tup [.r (.sl (r5.map GAxisStep.row)), .r (.int .i64 r6)]), (114, .r (.sl (r5.map GAxisStep.row))), (115, .r (.int .i64 r6)), (117, .tup [.r (.sl (r7.map GAxisStep.row)), .r (.int .i64 r8)])], [(13, some (.box n0 113 [.r (.sl (w1.out.map GAxisStep.row)), .r (.int .i64 w1.add), .r (.int .i64 w1.cut)])), (14, some (.box (n0 + 1) 113 [.r (.sl (w2.out.map GAxisStep.row)), .r (.int .i64 w2.add), .r (.int .i64 w2.cut)]))], n2, 128⟩) (by exact Weak.cv ⟨.inl (.inl rfl), .inl (.inl rfl), .inl (.inl rfl), .inl (.inl rfl), .inl (.inl rfl), .inl (.inl rfl), .inl (.inl rfl), .inl (.inl rfl), .inl (.inl rfl), trivial⟩ ⟨.inl rfl, .inl rfl, trivial⟩ (Nat.le_refl _)) ?_
          refine AOps.step rfl rfl rfl (OpQ.spec (sp_move rfl (.inl rfl)) _) ?_
          refine AOps.step rfl rfl rfl (OpQ.spec (sp_extract (a := .r (.sl (r7.map GAxisStep.row))) rfl (.inl rfl) rfl) _) ?_
          refine AOps.step rfl rfl rfl (OpQ.spec (sp_extract (a := .r (.int .i64 r8)) rfl (.inl rfl) rfl) _) ?_
          refine AOps.step rfl rfl rfl (OpQ.spec (sp_assign rfl (.inl rfl)) _) ?_
          refine AOps.step rfl rfl rfl (OpQ.spec (sp_assign rfl (.inl rfl)) _) ?_
          refine AOps.nil ?_
          refine hK19 _ ?_
          refine AW.seq_w fun K20 hK20 wK20 => ?_
          refine AW.seq_w fun K21 hK21 wK21 => ?_
          refine AW.weak (s' := ⟨[(18, .r (.sl (r5.map GAxisStep.row))), (19, .r (.int .i64 r6)), (20, .r (.sl (r7.map GAxisStep.row))), (21, .r (.int .i64 r8))], [], n2, 128⟩) (by exact Weak.cv ⟨.inl (.inl rfl), .inl (.inl rfl), .inl (.inl rfl), .inl (.inl rfl), trivial⟩ trivial (Nat.le_refl _)) ?_
          refine AW.region ?_
          refine AOps.step rfl rfl rfl (OpQ.spec (sp_move rfl (.inl rfl)) _) ?_
          refine AOps.step rfl rfl rfl (OpQ.spec (sp_neq rfl (.inl rfl) (.inl rfl)) _) ?_
          refine AOps.step rfl rfl rfl (OpQ.spec (sp_move rfl (.inl rfl)) _) ?_
          refine AOps.stepW (.one rfl rfl rfl) rfl rfl (OpQ.spec (sp_move rfl (.inl rfl)) _) ?_
          refine AOps.stepW (.one rfl rfl rfl) rfl rfl (OpQ.spec (sp_neq rfl (.inr ⟨_, (by exact id), rfl⟩) (.inl rfl)) _) ?_
          refine AOps.step rfl rfl rfl (OpQ.spec (sp_or rfl (.inl rfl) (.inr ⟨_, (by exact id), rfl⟩)) _) ?_
          refine AOps.nil ?_
          refine hK21 _ ?_
          refine AW.cond rfl (fun hc4 => ?_) (fun hc4 => ?_)
          · have h11 := ite_t hc4 h10
            refine AW.seq_w fun K22 hK22 wK22 => ?_
            refine AW.weak (s' := ⟨[], [], n2, 128⟩) (by exact Weak.cv trivial trivial (Nat.le_refl _)) ?_
            refine AW.region ?_
            refine AOps.step rfl rfl rfl (OpQ.spec (sp_assign rfl (.inl rfl)) _) ?_
            refine AOps.step rfl rfl rfl (OpQ.spec (sp_assign rfl (.inl rfl)) _) ?_
            refine AOps.step rfl rfl rfl (OpQ.spec (sp_assign rfl (.inl rfl)) _) ?_
            refine AOps.nil ?_
            refine hK22 _ ?_
            refine AW.ret ?_
            exact retf3 (P := Try.prog) (fun (r : (List GAxisStep) × (List GAxisStep) × Int) => .r (.sl (r.1.map GAxisStep.row))) (fun (r : (List GAxisStep) × (List GAxisStep) × Int) => .r (.sl (r.2.1.map GAxisStep.row))) (fun (r : (List GAxisStep) × (List GAxisStep) × Int) => .r (.int .i64 r.2.2)) h11 (.inl rfl) (.t (.one (.nil))) (.t (.one (.nil))) (.t (.d rfl))
          · have h11 := ite_f hc4 h10
            refine AW.skip ?_
            refine hK20 _ ?_
            refine AW.seq_w fun K23 hK23 wK23 => ?_
            refine AW.region ?_
            refine AOps.step rfl rfl rfl (OpQ.spec (sp_move rfl (.inl rfl)) _) ?_
            refine AOps.step rfl rfl rfl (OpQ.spec (sp_move rfl (.inl rfl)) _) ?_
            refine AOps.step rfl rfl rfl (OpQ.spec (sp_assign rfl (.inl rfl)) _) ?_
            refine AOps.step rfl rfl rfl (OpQ.spec (sp_assign rfl (.inl rfl)) _) ?_
            refine AOps.step rfl rfl rfl (OpQ.spec (sp_assign rfl (.inl rfl)) _) ?_
            refine AOps.nil ?_
            refine hK23 _ ?_
            refine AW.ret ?_
            exact retf3 (P := Try.prog) (fun (r : (List GAxisStep) × (List GAxisStep) × Int) => .r (.sl (r.1.map GAxisStep.row))) (fun (r : (List GAxisStep) × (List GAxisStep) × Int) => .r (.sl (r.2.1.map GAxisStep.row))) (fun (r : (List GAxisStep) × (List GAxisStep) × Int) => .r (.int .i64 r.2.2)) h11 (.inl rfl) (.t (.d rfl)) (.t (.d rfl)) (.t (.d rfl))
        refine AW.iter4 (fun (x2 : Axis_Writer) (y2 : Axis_Writer) (p2 : Axis_Reader) (q2 : Axis_Reader) i3 => ⟨[(13, .ptr 13 n0 0 0), (14, .ptr 14 (n0 + 1) 0 0), (15, .ptr 47 (n0 + 2) 0 0), (16, .ptr 50 (n0 + 3) 0 0)], [(13, some (.box n0 113 [.own 3130 (i3 0), .r (.int .i64 x2.add), .r (.int .i64 x2.cut)])), (14, some (.box (n0 + 1) 113 [.own 3140 (i3 1), .r (.int .i64 y2.add), .r (.int .i64 y2.cut)])), (47, some (.box (n0 + 2) 119 [.r (.sl (p2.steps.map GAxisStep.row)), .r (.int .i64 p2.used)])), (50, some (.box (n0 + 3) 119 [.r (.sl (q2.steps.map GAxisStep.row)), .r (.int .i64 q2.used)])), (3130, some (.arr (i3 0) 80 2 (x2.out.map GAxisStep.row))), (3140, some (.arr (i3 1) 80 2 (y2.out.map GAxisStep.row)))], (i3 2), 128⟩) (vec [(n0 + 4), (n0 + 5), (n0 + 6)]) hit1 (Weak.trans (Weak.trans (Weak.adoptBox 13 0 3130 80 2 (by decide) rfl rfl (by decide)) (by exact Weak.cv (e' := [(0, .r (.sl (a1.map GAxisStep.row))), (1, .r (.sl (b1.map GAxisStep.row))), (13, .ptr 13 n0 0 0), (14, .ptr 14 (n0 + 1) 0 0), (15, .ptr 47 (n0 + 2) 0 0), (16, .ptr 50 (n0 + 3) 0 0), (45, .r (.sl (a1.map GAxisStep.row))), (46, .agg [.r (.sl (a1.map GAxisStep.row)), .r (.int .i64 0)]), (47, .ptr 47 (n0 + 2) 0 0), (48, .r (.sl (b1.map GAxisStep.row))), (49, .agg [.r (.sl (b1.map GAxisStep.row)), .r (.int .i64 0)]), (50, .ptr 50 (n0 + 3) 0 0)]) (h' := [(13, some (.box n0 113 [.own 3130 (n0 + 4), .r (.int .i64 0), .r (.int .i64 0)])), (14, some (.box (n0 + 1) 113 [.cst (.slice none 0 0), .r (.int .i64 0), .r (.int .i64 0)])), (47, some (.box (n0 + 2) 119 [.r (.sl (a1.map GAxisStep.row)), .r (.int .i64 0)])), (50, some (.box (n0 + 3) 119 [.r (.sl (b1.map GAxisStep.row)), .r (.int .i64 0)])), (3130, some (.arr (n0 + 4) 80 2 (([] : List GAxisStep).map GAxisStep.row)))]) ⟨.inl (.inl rfl), .inl (.inl rfl), .inl (.inl rfl), .inl (.inl rfl), .inl (.inl rfl), .inl (.inl rfl), .inl (.inl rfl), .inl (.inl rfl), .inl (.inl rfl), .inl (.inl rfl), .inl (.inl rfl), .inl (.inl rfl), trivial⟩ ⟨.inl rfl, .inl rfl, .inl rfl, .inl rfl, .inl rfl, trivial⟩ (Nat.le_refl _))) (Weak.trans (Weak.trans (Weak.adoptBox 14 0 3140 80 2 (by decide) rfl rfl (by decide)) (by exact Weak.cv (e' := [(0, .r (.sl (a1.map GAxisStep.row))), (1, .r (.sl (b1.map GAxisStep.row))), (13, .ptr 13 n0 0 0), (14, .ptr 14 (n0 + 1) 0 0), (15, .ptr 47 (n0 + 2) 0 0), (16, .ptr 50 (n0 + 3) 0 0), (45, .r (.sl (a1.map GAxisStep.row))), (46, .agg [.r (.sl (a1.map GAxisStep.row)), .r (.int .i64 0)]), (47, .ptr 47 (n0 + 2) 0 0), (48, .r (.sl (b1.map GAxisStep.row))), (49, .agg [.r (.sl (b1.map GAxisStep.row)), .r (.int .i64 0)]), (50, .ptr 50 (n0 + 3) 0 0)]) (h' := [(13, some (.box n0 113 [.own 3130 (n0 + 4), .r (.int .i64 0), .r (.int .i64 0)])), (14, some (.box (n0 + 1) 113 [.own 3140 (n0 + 5), .r (.int .i64 0), .r (.int .i64 0)])), (47, some (.box (n0 + 2) 119 [.r (.sl (a1.map GAxisStep.row)), .r (.int .i64 0)])), (50, some (.box (n0 + 3) 119 [.r (.sl (b1.map GAxisStep.row)), .r (.int .i64 0)])), (3130, some (.arr (n0 + 4) 80 2 (([] : List GAxisStep).map GAxisStep.row))), (3140, some (.arr (n0 + 5) 80 2 (([] : List GAxisStep).map GAxisStep.row)))]) ⟨.inl (.inl rfl), .inl (.inl rfl), .inl (.inl rfl), .inl (.inl rfl), .inl (.inl rfl), .inl (.inl rfl), .inl (.inl rfl), .inl (.inl rfl), .inl (.inl rfl), .inl (.inl rfl), .inl (.inl rfl), .inl (.inl rfl), trivial⟩ ⟨.inl rfl, .inl rfl, .inl rfl, .inl rfl, .inl rfl, .inl rfl, trivial⟩ (Nat.le_refl _))) (by exact Weak.cv ⟨.inl (.inl rfl), .inl (.inl rfl), .inl (.inl rfl), .inl (.inl rfl), trivial⟩ ⟨.inl rfl, .inl rfl, .inl rfl, .inl rfl, .inl rfl, .inl rfl, trivial⟩ (Nat.le_refl _)))) ?_
        intro x2 y2 p2 q2 i3 v1 hv1 hx1
        have h12 : axis_Pair_L1 x2 y2 p2 q2 = some v1 := hv1; unfold axis_Pair_L1 at h12
        refine AW.seq_w fun K24 hK24 wK24 => ?_
        refine AW.seq_w fun K25 hK25 wK25 => ?_
        refine AW.region ?_
        refine AOps.step rfl rfl rfl (OpQ.spec (sp_move rfl (.inl rfl)) _) ?_
        refine ob1k h12 fun r9 er9 h13 => ?_
        refine AOps.stepHI [47] (hc := [(1000, some (.box (n0 + 2) 119 [.r (.sl (p2.steps.map GAxisStep.row)), .r (.int .i64 p2.used)]))]) (bs := [.ptr 1000 (n0 + 2) 0 0]) (caps := []) rfl rfl rfl rfl (.inl rfl) rfl ⟨.inl ⟨(.inl rfl), rfl⟩, trivial⟩ ⟨rfl, rfl, rfl, trivial⟩ (by decide) (w_axis_reader_kind er9) ?_
        intro i8 n3
        refine AOps.weak (s' := ⟨[(13, .ptr 13 n0 0 0), (14, .ptr 14 (n0 + 1) 0 0), (15, .ptr 47 (n0 + 2) 0 0), (16, .ptr 50 (n0 + 3) 0 0), (51, .ptr 47 (n0 + 2) 0 0), (52, .r (.int .i64 r9))], [(13, some (.box n0 113 [.own 3130 (i3 0), .r (.int .i64 x2.add), .r (.int .i64 x2.cut)])), (14, some (.box (n0 + 1) 113 [.own 3140 (i3 1), .r (.int .i64 y2.add), .r (.int .i64 y2.cut)])), (47, some (.box (n0 + 2) 119 [.r (.sl (p2.steps.map GAxisStep.row)), .r (.int .i64 p2.used)])), (50, some (.box (n0 + 3) 119 [.r (.sl (q2.steps.map GAxisStep.row)), .r (.int .i64 q2.used)])), (3130, some (.arr (i3 0) 80 2 (x2.out.map GAxisStep.row))), (3140, some (.arr (i3 1) 80 2 (y2.out.map GAxisStep.row)))], n3, 128⟩) (by exact Weak.cv ⟨.inl (.inl rfl), .inl (.inl rfl), .inl (.inl rfl), .inl (.inl rfl), .inl (.inl rfl), .inl (.inl rfl), trivial⟩ ⟨.inl rfl, .inl rfl, .inl rfl, .inl rfl, .inl rfl, .inl rfl, trivial⟩ (Nat.le_refl _)) ?_
        refine AOps.step rfl rfl rfl (OpQ.spec (sp_geq rfl (.inl rfl) (.inl rfl)) _) ?_
        refine AOps.step rfl rfl rfl (OpQ.spec (sp_move rfl (.inl rfl)) _) ?_
        refine AOps.stepW (.one rfl rfl rfl) rfl rfl (OpQ.spec (sp_move rfl (.inl rfl)) _) ?_
        refine jb1k h13 fun p4 hp1 hk2 => ?_
        have J2 : ∀ (x5 : Bool) (i9 : Nat → Nat), p4 = x5 → K25 ⟨[(13, .ptr 13 n0 0 0), (14, .ptr 14 (n0 + 1) 0 0), (15, .ptr 47 (n0 + 2) 0 0), (16, .ptr 50 (n0 + 3) 0 0), (58, .r (.bool x5))], [(13, some (.box n0 113 [.own 3130 (i3 0), .r (.int .i64 x2.add), .r (.int .i64 x2.cut)])), (14, some (.box (n0 + 1) 113 [.own 3140 (i3 1), .r (.int .i64 y2.add), .r (.int .i64 y2.cut)])), (47, some (.box (n0 + 2) 119 [.r (.sl (p2.steps.map GAxisStep.row)), .r (.int .i64 p2.used)])), (50, some (.box (n0 + 3) 119 [.r (.sl (q2.steps.map GAxisStep.row)), .r (.int .i64 q2.used)])), (3130, some (.arr (i3 0) 80 2 (x2.out.map GAxisStep.row))), (3140, some (.arr (i3 1) 80 2 (y2.out.map GAxisStep.row)))], (i9 0), 128⟩ := by
          intro x5 i9 e
          have h14 := hk2 _ e
          refine hK25 _ ?_
          refine AW.cond rfl (fun hc5 => ?_) (fun hc5 => ?_)
          · have h15 := ite_t hc5 h14
            refine AW.skip ?_
            refine hK24 _ ?_
            refine AW.block ?_
            refine AW.seq_w fun K26 hK26 wK26 => ?_
            refine AW.block ?_
            refine AW.seq_w fun K27 hK27 wK27 => ?_
            refine AW.region ?_
            refine AOps.step rfl rfl rfl (OpQ.spec (sp_move rfl (.inl rfl)) _) ?_
            refine AOps.stepHI [47] (hc := [(1000, some (.box (n0 + 2) 119 [.r (.sl (p2.steps.map GAxisStep.row)), .r (.int .i64 p2.used)]))]) (bs := [.ptr 1000 (n0 + 2) 0 0]) (caps := []) rfl rfl rfl rfl (.inl rfl) rfl ⟨.inl ⟨(.inl rfl), rfl⟩, trivial⟩ ⟨rfl, rfl, rfl, trivial⟩ (by decide) (w_axis_reader_kind er9) ?_
            intro i10 n4
            refine AOps.weak (s' := ⟨[(13, .ptr 13 n0 0 0), (14, .ptr 14 (n0 + 1) 0 0), (15, .ptr 47 (n0 + 2) 0 0), (16, .ptr 50 (n0 + 3) 0 0), (58, .r (.bool x5)), (60, .ptr 47 (n0 + 2) 0 0), (61, .r (.int .i64 r9))], [(13, some (.box n0 113 [.own 3130 (i3 0), .r (.int .i64 x2.add), .r (.int .i64 x2.cut)])), (14, some (.box (n0 + 1) 113 [.own 3140 (i3 1), .r (.int .i64 y2.add), .r (.int .i64 y2.cut)])), (47, some (.box (n0 + 2) 119 [.r (.sl (p2.steps.map GAxisStep.row)), .r (.int .i64 p2.used)])), (50, some (.box (n0 + 3) 119 [.r (.sl (q2.steps.map GAxisStep.row)), .r (.int .i64 q2.used)])), (3130, some (.arr (i3 0) 80 2 (x2.out.map GAxisStep.row))), (3140, some (.arr (i3 1) 80 2 (y2.out.map GAxisStep.row)))], n4, 128⟩) (by exact Weak.cv ⟨.inl (.inl rfl), .inl (.inl rfl), .inl (.inl rfl), .inl (.inl rfl), .inl (.inl rfl), .inl (.inl rfl), .inl (.inl rfl), trivial⟩ ⟨.inl rfl, .inl rfl, .inl rfl, .inl rfl, .inl rfl, .inl rfl, trivial⟩ (Nat.le_refl _)) ?_
            refine AOps.step rfl rfl rfl (OpQ.spec (sp_eql rfl (.inl rfl) (.inl rfl)) _) ?_
            refine AOps.step rfl rfl rfl (OpQ.spec (sp_assign rfl (.inl rfl)) _) ?_
            refine AOps.nil ?_
            refine hK27 _ ?_
            refine AW.cond rfl (fun hc6 => ?_) (fun hc6 => ?_)
            · have h16 := ite_t hc6 h15
              refine AW.seq_w fun K28 hK28 wK28 => ?_
              refine AW.region ?_
              refine AOps.step rfl rfl rfl (OpQ.spec (sp_move rfl (.inl rfl)) _) ?_
              refine ob1k h16 fun r11 er11 h17 => ?_
              refine AOps.stepHI [47] (hc := [(1000, some (.box (n0 + 2) 119 [.r (.sl (p2.steps.map GAxisStep.row)), .r (.int .i64 p2.used)]))]) (bs := [.ptr 1000 (n0 + 2) 0 0]) (caps := []) rfl rfl rfl rfl (.inl rfl) rfl ⟨.inl ⟨(.inl rfl), rfl⟩, trivial⟩ ⟨rfl, rfl, rfl, trivial⟩ (by decide) (w_axis_reader_left er11) ?_
              intro i11 n5
              refine AOps.weak (s' := ⟨[(13, .ptr 13 n0 0 0), (14, .ptr 14 (n0 + 1) 0 0), (15, .ptr 47 (n0 + 2) 0 0), (16, .ptr 50 (n0 + 3) 0 0), (58, .r (.bool x5)), (59, .r (.bool (decide (r9 = 1)))), (60, .ptr 47 (n0 + 2) 0 0), (61, .r (.int .i64 r9)), (62, .r (.bool (decide (r9 = 1)))), (63, .ptr 47 (n0 + 2) 0 0), (64, .r (.int .i64 r11))], [(13, some (.box n0 113 [.own 3130 (i3 0), .r (.int .i64 x2.add), .r (.int .i64 x2.cut)])), (14, some (.box (n0 + 1) 113 [.own 3140 (i3 1), .r (.int .i64 y2.add), .r (.int .i64 y2.cut)])), (47, some (.box (n0 + 2) 119 [.r (.sl (p2.steps.map GAxisStep.row)), .r (.int .i64 p2.used)])), (50, some (.box (n0 + 3) 119 [.r (.sl (q2.steps.map GAxisStep.row)), .r (.int .i64 q2.used)])), (3130, some (.arr (i3 0) 80 2 (x2.out.map GAxisStep.row))), (3140, some (.arr (i3 1) 80 2 (y2.out.map GAxisStep.row)))], n5, 128⟩) (by exact Weak.cv ⟨.inl (.inl rfl), .inl (.inl rfl), .inl (.inl rfl), .inl (.inl rfl), .inl (.inl rfl), .inl (.inl rfl), .inl (.inl rfl), .inl (.inl rfl), .inl (.inl rfl), .inl (.inl rfl), .inl (.inl rfl), trivial⟩ ⟨.inl rfl, .inl rfl, .inl rfl, .inl rfl, .inl rfl, .inl rfl, trivial⟩ (Nat.le_refl _)) ?_
              refine ob1k h17 fun w3 ew3 h18 => ?_
              refine AOps.stepHI [13, 3130] (hc := [(1000, some (.box n0 113 [.own 1001 (i3 0), .r (.int .i64 x2.add), .r (.int .i64 x2.cut)])), (1001, some (.arr (i3 0) 80 2 (x2.out.map GAxisStep.row)))]) (bs := [.ptr 1000 n0 0 0, .r (.int .i64 1), .r (.int .i64 r11)]) (caps := []) rfl rfl rfl rfl (.inl rfl) rfl ⟨.inl ⟨(.inl rfl), rfl⟩, .inl ⟨(.inl rfl), rfl⟩, .inl ⟨(.inl rfl), rfl⟩, trivial⟩ ⟨rfl, rfl, rfl, rfl, rfl, rfl, trivial⟩ (by decide) (w_axis_writer_put ew3) ?_
              intro i12 n6
              refine AOps.weak (s' := ⟨[(13, .ptr 13 n0 0 0), (14, .ptr 14 (n0 + 1) 0 0), (15, .ptr 47 (n0 + 2) 0 0), (16, .ptr 50 (n0 + 3) 0 0), (58, .r (.bool x5)), (59, .r (.bool (decide (r9 = 1)))), (60, .ptr 47 (n0 + 2) 0 0), (61, .r (.int .i64 r9)), (62, .r (.bool (decide (r9 = 1)))), (63, .ptr 47 (n0 + 2) 0 0), (64, .r (.int .i64 r11)), (65, .tup [])], [(13, some (.box n0 113 [.own 3130 (i12 0), .r (.int .i64 w3.add), .r (.int .i64 w3.cut)])), (14, some (.box (n0 + 1) 113 [.own 3140 (i3 1), .r (.int .i64 y2.add), .r (.int .i64 y2.cut)])), (47, some (.box (n0 + 2) 119 [.r (.sl (p2.steps.map GAxisStep.row)), .r (.int .i64 p2.used)])), (50, some (.box (n0 + 3) 119 [.r (.sl (q2.steps.map GAxisStep.row)), .r (.int .i64 q2.used)])), (3130, some (.arr (i12 0) 80 2 (w3.out.map GAxisStep.row))), (3140, some (.arr (i3 1) 80 2 (y2.out.map GAxisStep.row)))], n6, 128⟩) (by exact Weak.cv ⟨.inl (.inl rfl), .inl (.inl rfl), .inl (.inl rfl), .inl (.inl rfl), .inl (.inl rfl), .inl (.inl rfl), .inl (.inl rfl), .inl (.inl rfl), .inl (.inl rfl), .inl (.inl rfl), .inl (.inl rfl), .inl (.inl rfl), trivial⟩ ⟨.inl rfl, .inl rfl, .inl rfl, .inl rfl, .inl rfl, .inl rfl, trivial⟩ (Nat.le_refl _)) ?_
              refine AOps.nil ?_
              refine hK28 _ ?_
              refine AW.seq_w fun K29 hK29 wK29 => ?_
              refine AW.region ?_
              refine AOps.step rfl rfl rfl (OpQ.spec (sp_move rfl (.inl rfl)) _) ?_
              refine AOps.stepHI [47] (hc := [(1000, some (.box (n0 + 2) 119 [.r (.sl (p2.steps.map GAxisStep.row)), .r (.int .i64 p2.used)]))]) (bs := [.ptr 1000 (n0 + 2) 0 0]) (caps := []) rfl rfl rfl rfl (.inl rfl) rfl ⟨.inl ⟨(.inl rfl), rfl⟩, trivial⟩ ⟨rfl, rfl, rfl, trivial⟩ (by decide) (w_axis_reader_left er11) ?_
              intro i13 n7
              refine AOps.weak (s' := ⟨[(13, .ptr 13 n0 0 0), (14, .ptr 14 (n0 + 1) 0 0), (15, .ptr 47 (n0 + 2) 0 0), (16, .ptr 50 (n0 + 3) 0 0), (58, .r (.bool x5)), (59, .r (.bool (decide (r9 = 1)))), (60, .ptr 47 (n0 + 2) 0 0), (61, .r (.int .i64 r9)), (62, .r (.bool (decide (r9 = 1)))), (63, .ptr 47 (n0 + 2) 0 0), (64, .r (.int .i64 r11)), (65, .tup []), (66, .ptr 47 (n0 + 2) 0 0), (67, .r (.int .i64 r11))], [(13, some (.box n0 113 [.own 3130 (i12 0), .r (.int .i64 w3.add), .r (.int .i64 w3.cut)])), (14, some (.box (n0 + 1) 113 [.own 3140 (i3 1), .r (.int .i64 y2.add), .r (.int .i64 y2.cut)])), (47, some (.box (n0 + 2) 119 [.r (.sl (p2.steps.map GAxisStep.row)), .r (.int .i64 p2.used)])), (50, some (.box (n0 + 3) 119 [.r (.sl (q2.steps.map GAxisStep.row)), .r (.int .i64 q2.used)])), (3130, some (.arr (i12 0) 80 2 (w3.out.map GAxisStep.row))), (3140, some (.arr (i3 1) 80 2 (y2.out.map GAxisStep.row)))], n7, 128⟩) (by exact Weak.cv ⟨.inl (.inl rfl), .inl (.inl rfl), .inl (.inl rfl), .inl (.inl rfl), .inl (.inl rfl), .inl (.inl rfl), .inl (.inl rfl), .inl (.inl rfl), .inl (.inl rfl), .inl (.inl rfl), .inl (.inl rfl), .inl (.inl rfl), .inl (.inl rfl), .inl (.inl rfl), trivial⟩ ⟨.inl rfl, .inl rfl, .inl rfl, .inl rfl, .inl rfl, .inl rfl, trivial⟩ (Nat.le_refl _)) ?_
              refine ob1k h18 fun w4 ew4 h19 => ?_
              refine AOps.stepHI [14, 3140] (hc := [(1000, some (.box (n0 + 1) 113 [.own 1001 (i3 1), .r (.int .i64 y2.add), .r (.int .i64 y2.cut)])), (1001, some (.arr (i3 1) 80 2 (y2.out.map GAxisStep.row)))]) (bs := [.ptr 1000 (n0 + 1) 0 0, .r (.int .i64 0), .r (.int .i64 r11)]) (caps := []) rfl rfl rfl rfl (.inl rfl) rfl ⟨.inl ⟨(.inl rfl), rfl⟩, .inl ⟨(.inl rfl), rfl⟩, .inl ⟨(.inl rfl), rfl⟩, trivial⟩ ⟨rfl, rfl, rfl, rfl, rfl, rfl, trivial⟩ (by decide) (w_axis_writer_put ew4) ?_
              intro i14 n8
              refine AOps.weak (s' := ⟨[(13, .ptr 13 n0 0 0), (14, .ptr 14 (n0 + 1) 0 0), (15, .ptr 47 (n0 + 2) 0 0), (16, .ptr 50 (n0 + 3) 0 0), (58, .r (.bool x5)), (59, .r (.bool (decide (r9 = 1)))), (60, .ptr 47 (n0 + 2) 0 0), (61, .r (.int .i64 r9)), (62, .r (.bool (decide (r9 = 1)))), (63, .ptr 47 (n0 + 2) 0 0), (64, .r (.int .i64 r11)), (65, .tup []), (66, .ptr 47 (n0 + 2) 0 0), (67, .r (.int .i64 r11)), (68, .tup [])], [(13, some (.box n0 113 [.own 3130 (i12 0), .r (.int .i64 w3.add), .r (.int .i64 w3.cut)])), (14, some (.box (n0 + 1) 113 [.own 3140 (i14 0), .r (.int .i64 w4.add), .r (.int .i64 w4.cut)])), (47, some (.box (n0 + 2) 119 [.r (.sl (p2.steps.map GAxisStep.row)), .r (.int .i64 p2.used)])), (50, some (.box (n0 + 3) 119 [.r (.sl (q2.steps.map GAxisStep.row)), .r (.int .i64 q2.used)])), (3130, some (.arr (i12 0) 80 2 (w3.out.map GAxisStep.row))), (3140, some (.arr (i14 0) 80 2 (w4.out.map GAxisStep.row)))], n8, 128⟩) (by exact Weak.cv ⟨.inl (.inl rfl), .inl (.inl rfl), .inl (.inl rfl), .inl (.inl rfl), .inl (.inl rfl), .inl (.inl rfl), .inl (.inl rfl), .inl (.inl rfl), .inl (.inl rfl), .inl (.inl rfl), .inl (.inl rfl), .inl (.inl rfl), .inl (.inl rfl), .inl (.inl rfl), .inl (.inl rfl), trivial⟩ ⟨.inl rfl, .inl rfl, .inl rfl, .inl rfl, .inl rfl, .inl rfl, trivial⟩ (Nat.le_refl _)) ?_
              refine AOps.nil ?_
              refine hK29 _ ?_
              refine AW.seq_w fun K30 hK30 wK30 => ?_
              refine AW.weak (s' := ⟨[(13, .ptr 13 n0 0 0), (14, .ptr 14 (n0 + 1) 0 0), (15, .ptr 47 (n0 + 2) 0 0), (16, .ptr 50 (n0 + 3) 0 0)], [(13, some (.box n0 113 [.own 3130 (i12 0), .r (.int .i64 w3.add), .r (.int .i64 w3.cut)])), (14, some (.box (n0 + 1) 113 [.own 3140 (i14 0), .r (.int .i64 w4.add), .r (.int .i64 w4.cut)])), (47, some (.box (n0 + 2) 119 [.r (.sl (p2.steps.map GAxisStep.row)), .r (.int .i64 p2.used)])), (50, some (.box (n0 + 3) 119 [.r (.sl (q2.steps.map GAxisStep.row)), .r (.int .i64 q2.used)])), (3130, some (.arr (i12 0) 80 2 (w3.out.map GAxisStep.row))), (3140, some (.arr (i14 0) 80 2 (w4.out.map GAxisStep.row)))], n8, 128⟩) (by exact Weak.cv ⟨.inl (.inl rfl), .inl (.inl rfl), .inl (.inl rfl), .inl (.inl rfl), trivial⟩ ⟨.inl rfl, .inl rfl, .inl rfl, .inl rfl, .inl rfl, .inl rfl, trivial⟩ (Nat.le_refl _)) ?_
              refine AW.region ?_
              refine AOps.step rfl rfl rfl (OpQ.spec (sp_move rfl (.inl rfl)) _) ?_
              refine AOps.step rfl rfl rfl (OpQ.spec (sp_move rfl (.inl rfl)) _) ?_
              refine AOps.stepHI [47] (hc := [(1000, some (.box (n0 + 2) 119 [.r (.sl (p2.steps.map GAxisStep.row)), .r (.int .i64 p2.used)]))]) (bs := [.ptr 1000 (n0 + 2) 0 0]) (caps := []) rfl rfl rfl rfl (.inl rfl) rfl ⟨.inl ⟨(.inl rfl), rfl⟩, trivial⟩ ⟨rfl, rfl, rfl, trivial⟩ (by decide) (w_axis_reader_left er11) ?_
              intro i15 n9
              refine AOps.weak (s' := ⟨[(13, .ptr 13 n0 0 0), (14, .ptr 14 (n0 + 1) 0 0), (15, .ptr 47 (n0 + 2) 0 0), (16, .ptr 50 (n0 + 3) 0 0), (69, .ptr 47 (n0 + 2) 0 0), (70, .ptr 47 (n0 + 2) 0 0), (71, .r (.int .i64 r11))], [(13, some (.box n0 113 [.own 3130 (i12 0), .r (.int .i64 w3.add), .r (.int .i64 w3.cut)])), (14, some (.box (n0 + 1) 113 [.own 3140 (i14 0), .r (.int .i64 w4.add), .r (.int .i64 w4.cut)])), (47, some (.box (n0 + 2) 119 [.r (.sl (p2.steps.map GAxisStep.row)), .r (.int .i64 p2.used)])), (50, some (.box (n0 + 3) 119 [.r (.sl (q2.steps.map GAxisStep.row)), .r (.int .i64 q2.used)])), (3130, some (.arr (i12 0) 80 2 (w3.out.map GAxisStep.row))), (3140, some (.arr (i14 0) 80 2 (w4.out.map GAxisStep.row)))], n9, 128⟩) (by exact Weak.cv ⟨.inl (.inl rfl), .inl (.inl rfl), .inl (.inl rfl), .inl (.inl rfl), .inl (.inl rfl), .inl (.inl rfl), .inl (.inl rfl), trivial⟩ ⟨.inl rfl, .inl rfl, .inl rfl, .inl rfl, .inl rfl, .inl rfl, trivial⟩ (Nat.le_refl _)) ?_
              refine ob1k h19 fun w5 ew5 h20 => ?_
              refine AOps.stepHI [47] (hc := [(1000, some (.box (n0 + 2) 119 [.r (.sl (p2.steps.map GAxisStep.row)), .r (.int .i64 p2.used)]))]) (bs := [.ptr 1000 (n0 + 2) 0 0, .r (.int .i64 r11)]) (caps := []) rfl rfl rfl rfl (.inl rfl) rfl ⟨.inl ⟨(.inl rfl), rfl⟩, .inl ⟨(.inl rfl), rfl⟩, trivial⟩ ⟨rfl, rfl, rfl, trivial⟩ (by decide) (w_axis_reader_take ew5) ?_
              intro i16 n10
              refine AOps.weak (s' := ⟨[(13, .ptr 13 n0 0 0), (14, .ptr 14 (n0 + 1) 0 0), (15, .ptr 47 (n0 + 2) 0 0), (16, .ptr 50 (n0 + 3) 0 0), (69, .ptr 47 (n0 + 2) 0 0), (70, .ptr 47 (n0 + 2) 0 0), (71, .r (.int .i64 r11)), (72, .tup [])], [(13, some (.box n0 113 [.own 3130 (i12 0), .r (.int .i64 w3.add), .r (.int .i64 w3.cut)])), (14, some (.box (n0 + 1) 113 [.own 3140 (i14 0), .r (.int .i64 w4.add), .r (.int .i64 w4.cut)])), (47, some (.box (n0 + 2) 119 [.r (.sl (w5.steps.map GAxisStep.row)), .r (.int .i64 w5.used)])), (50, some (.box (n0 + 3) 119 [.r (.sl (q2.steps.map GAxisStep.row)), .r (.int .i64 q2.used)])), (3130, some (.arr (i12 0) 80 2 (w3.out.map GAxisStep.row))), (3140, some (.arr (i14 0) 80 2 (w4.out.map GAxisStep.row)))], n10, 128⟩) (by exact Weak.cv ⟨.inl (.inl rfl), .inl (.inl rfl), .inl (.inl rfl), .inl (.inl rfl), .inl (.inl rfl), .inl (.inl rfl), .inl (.inl rfl), .inl (.inl rfl), trivial⟩ ⟨.inl rfl, .inl rfl, .inl rfl, .inl rfl, .inl rfl, .inl rfl, trivial⟩ (Nat.le_refl _)) ?_
              refine AOps.nil ?_
              refine hK30 _ ?_
              refine AW.exit ?_
              exact NextQ4.mk h20 (vec [(i12 0), (i14 0), n10]) ((by exact Weak.cv ⟨.inl (.inl rfl), .inl (.inl rfl), .inl (.inl rfl), .inl (.inl rfl), trivial⟩ ⟨.inl rfl, .inl rfl, .inl rfl, .inl rfl, .inl rfl, .inl rfl, trivial⟩ (Nat.le_refl _)))
            · have h16 := ite_f hc6 h15
              refine AW.seq_w fun K31 hK31 wK31 => ?_
              refine AW.region ?_
              refine AOps.step rfl rfl rfl (OpQ.spec (sp_move rfl (.inl rfl)) _) ?_
              refine ob1k h16 fun r14 er14 h21 => ?_
              refine AOps.stepHI [50] (hc := [(1000, some (.box (n0 + 3) 119 [.r (.sl (q2.steps.map GAxisStep.row)), .r (.int .i64 q2.used)]))]) (bs := [.ptr 1000 (n0 + 3) 0 0]) (caps := []) rfl rfl rfl rfl (.inl rfl) rfl ⟨.inl ⟨(.inl rfl), rfl⟩, trivial⟩ ⟨rfl, rfl, rfl, trivial⟩ (by decide) (w_axis_reader_kind er14) ?_
              intro i17 n11
              refine AOps.weak (s' := ⟨[(13, .ptr 13 n0 0 0), (14, .ptr 14 (n0 + 1) 0 0), (15, .ptr 47 (n0 + 2) 0 0), (16, .ptr 50 (n0 + 3) 0 0), (58, .r (.bool x5)), (59, .r (.bool (decide (r9 = 1)))), (60, .ptr 47 (n0 + 2) 0 0), (61, .r (.int .i64 r9)), (62, .r (.bool (decide (r9 = 1)))), (74, .ptr 50 (n0 + 3) 0 0), (75, .r (.int .i64 r14))], [(13, some (.box n0 113 [.own 3130 (i3 0), .r (.int .i64 x2.add), .r (.int .i64 x2.cut)])), (14, some (.box (n0 + 1) 113 [.own 3140 (i3 1), .r (.int .i64 y2.add), .r (.int .i64 y2.cut)])), (47, some (.box (n0 + 2) 119 [.r (.sl (p2.steps.map GAxisStep.row)), .r (.int .i64 p2.used)])), (50, some (.box (n0 + 3) 119 [.r (.sl (q2.steps.map GAxisStep.row)), .r (.int .i64 q2.used)])), (3130, some (.arr (i3 0) 80 2 (x2.out.map GAxisStep.row))), (3140, some (.arr (i3 1) 80 2 (y2.out.map GAxisStep.row)))], n11, 128⟩) (by exact Weak.cv ⟨.inl (.inl rfl), .inl (.inl rfl), .inl (.inl rfl), .inl (.inl rfl), .inl (.inl rfl), .inl (.inl rfl), .inl (.inl rfl), .inl (.inl rfl), .inl (.inl rfl), .inl (.inl rfl), .inl (.inl rfl), trivial⟩ ⟨.inl rfl, .inl rfl, .inl rfl, .inl rfl, .inl rfl, .inl rfl, trivial⟩ (Nat.le_refl _)) ?_
              refine AOps.step rfl rfl rfl (OpQ.spec (sp_eql rfl (.inl rfl) (.inl rfl)) _) ?_
              refine AOps.step rfl rfl rfl (OpQ.spec (sp_assign rfl (.inl rfl)) _) ?_
              refine AOps.nil ?_
              refine hK31 _ ?_
              refine AW.cond rfl (fun hc7 => ?_) (fun hc7 => ?_)
              · have h22 := ite_t hc7 h21
                refine AW.seq_w fun K32 hK32 wK32 => ?_
                refine AW.weak (s' := ⟨[(13, .ptr 13 n0 0 0), (14, .ptr 14 (n0 + 1) 0 0), (15, .ptr 47 (n0 + 2) 0 0), (16, .ptr 50 (n0 + 3) 0 0)], [(13, some (.box n0 113 [.own 3130 (i3 0), .r (.int .i64 x2.add), .r (.int .i64 x2.cut)])), (14, some (.box (n0 + 1) 113 [.own 3140 (i3 1), .r (.int .i64 y2.add), .r (.int .i64 y2.cut)])), (47, some (.box (n0 + 2) 119 [.r (.sl (p2.steps.map GAxisStep.row)), .r (.int .i64 p2.used)])), (50, some (.box (n0 + 3) 119 [.r (.sl (q2.steps.map GAxisStep.row)), .r (.int .i64 q2.used)])), (3130, some (.arr (i3 0) 80 2 (x2.out.map GAxisStep.row))), (3140, some (.arr (i3 1) 80 2 (y2.out.map GAxisStep.row)))], n11, 128⟩) (by exact Weak.cv ⟨.inl (.inl rfl), .inl (.inl rfl), .inl (.inl rfl), .inl (.inl rfl), trivial⟩ ⟨.inl rfl, .inl rfl, .inl rfl, .inl rfl, .inl rfl, .inl rfl, trivial⟩ (Nat.le_refl _)) ?_
                refine AW.region ?_
                refine AOps.step rfl rfl rfl (OpQ.spec (sp_move rfl (.inl rfl)) _) ?_
                refine ob1k h22 fun r15 er15 h23 => ?_
                refine AOps.stepHI [50] (hc := [(1000, some (.box (n0 + 3) 119 [.r (.sl (q2.steps.map GAxisStep.row)), .r (.int .i64 q2.used)]))]) (bs := [.ptr 1000 (n0 + 3) 0 0]) (caps := []) rfl rfl rfl rfl (.inl rfl) rfl ⟨.inl ⟨(.inl rfl), rfl⟩, trivial⟩ ⟨rfl, rfl, rfl, trivial⟩ (by decide) (w_axis_reader_left er15) ?_
                intro i18 n12
                refine AOps.weak (s' := ⟨[(13, .ptr 13 n0 0 0), (14, .ptr 14 (n0 + 1) 0 0), (15, .ptr 47 (n0 + 2) 0 0), (16, .ptr 50 (n0 + 3) 0 0), (77, .ptr 50 (n0 + 3) 0 0), (78, .r (.int .i64 r15))], [(13, some (.box n0 113 [.own 3130 (i3 0), .r (.int .i64 x2.add), .r (.int .i64 x2.cut)])), (14, some (.box (n0 + 1) 113 [.own 3140 (i3 1), .r (.int .i64 y2.add), .r (.int .i64 y2.cut)])), (47, some (.box (n0 + 2) 119 [.r (.sl (p2.steps.map GAxisStep.row)), .r (.int .i64 p2.used)])), (50, some (.box (n0 + 3) 119 [.r (.sl (q2.steps.map GAxisStep.row)), .r (.int .i64 q2.used)])), (3130, some (.arr (i3 0) 80 2 (x2.out.map GAxisStep.row))), (3140, some (.arr (i3 1) 80 2 (y2.out.map GAxisStep.row)))], n12, 128⟩) (by exact Weak.cv ⟨.inl (.inl rfl), .inl (.inl rfl), .inl (.inl rfl), .inl (.inl rfl), .inl (.inl rfl), .inl (.inl rfl), trivial⟩ ⟨.inl rfl, .inl rfl, .inl rfl, .inl rfl, .inl rfl, .inl rfl, trivial⟩ (Nat.le_refl _)) ?_
                refine ob1k h23 fun w6 ew6 h24 => ?_
                refine AOps.stepHI [13, 3130] (hc := [(1000, some (.box n0 113 [.own 1001 (i3 0), .r (.int .i64 x2.add), .r (.int .i64 x2.cut)])), (1001, some (.arr (i3 0) 80 2 (x2.out.map GAxisStep.row)))]) (bs := [.ptr 1000 n0 0 0, .r (.int .i64 0), .r (.int .i64 r15)]) (caps := []) rfl rfl rfl rfl (.inl rfl) rfl ⟨.inl ⟨(.inl rfl), rfl⟩, .inl ⟨(.inl rfl), rfl⟩, .inl ⟨(.inl rfl), rfl⟩, trivial⟩ ⟨rfl, rfl, rfl, rfl, rfl, rfl, trivial⟩ (by decide) (w_axis_writer_put ew6) ?_
                intro i19 n13
                refine AOps.weak (s' := ⟨[(13, .ptr 13 n0 0 0), (14, .ptr 14 (n0 + 1) 0 0), (15, .ptr 47 (n0 + 2) 0 0), (16, .ptr 50 (n0 + 3) 0 0), (77, .ptr 50 (n0 + 3) 0 0), (78, .r (.int .i64 r15)), (79, .tup [])], [(13, some (.box n0 113 [.own 3130 (i19 0), .r (.int .i64 w6.add), .r (.int .i64 w6.cut)])), (14, some (.box (n0 + 1) 113 [.own 3140 (i3 1), .r (.int .i64 y2.add), .r (.int .i64 y2.cut)])), (47, some (.box (n0 + 2) 119 [.r (.sl (p2.steps.map GAxisStep.row)), .r (.int .i64 p2.used)])), (50, some (.box (n0 + 3) 119 [.r (.sl (q2.steps.map GAxisStep.row)), .r (.int .i64 q2.used)])), (3130, some (.arr (i19 0) 80 2 (w6.out.map GAxisStep.row))), (3140, some (.arr (i3 1) 80 2 (y2.out.map GAxisStep.row)))], n13, 128⟩) (by exact Weak.cv ⟨.inl (.inl rfl), .inl (.inl rfl), .inl (.inl rfl), .inl (.inl rfl), .inl (.inl rfl), .inl (.inl rfl), .inl (.inl rfl), trivial⟩ ⟨.inl rfl, .inl rfl, .inl rfl, .inl rfl, .inl rfl, .inl rfl, trivial⟩ (Nat.le_refl _)) ?_
                refine AOps.nil ?_
                refine hK32 _ ?_
                refine AW.seq_w fun K33 hK33 wK33 => ?_
                refine AW.region ?_
                refine AOps.step rfl rfl rfl (OpQ.spec (sp_move rfl (.inl rfl)) _) ?_
                refine AOps.stepHI [50] (hc := [(1000, some (.box (n0 + 3) 119 [.r (.sl (q2.steps.map GAxisStep.row)), .r (.int .i64 q2.used)]))]) (bs := [.ptr 1000 (n0 + 3) 0 0]) (caps := []) rfl rfl rfl rfl (.inl rfl) rfl ⟨.inl ⟨(.inl rfl), rfl⟩, trivial⟩ ⟨rfl, rfl, rfl, trivial⟩ (by decide) (w_axis_reader_left er15) ?_
                intro i20 n14
                refine AOps.weak (s' := ⟨[(13, .ptr 13 n0 0 0), (14, .ptr 14 (n0 + 1) 0 0), (15, .ptr 47 (n0 + 2) 0 0), (16, .ptr 50 (n0 + 3) 0 0), (77, .ptr 50 (n0 + 3) 0 0), (78, .r (.int .i64 r15)), (79, .tup []), (80, .ptr 50 (n0 + 3) 0 0), (81, .r (.int .i64 r15))], [(13, some (.box n0 113 [.own 3130 (i19 0), .r (.int .i64 w6.add), .r (.int .i64 w6.cut)])), (14, some (.box (n0 + 1) 113 [.own 3140 (i3 1), .r (.int .i64 y2.add), .r (.int .i64 y2.cut)])), (47, some (.box (n0 + 2) 119 [.r (.sl (p2.steps.map GAxisStep.row)), .r (.int .i64 p2.used)])), (50, some (.box (n0 + 3) 119 [.r (.sl (q2.steps.map GAxisStep.row)), .r (.int .i64 q2.used)])), (3130, some (.arr (i19 0) 80 2 (w6.out.map GAxisStep.row))), (3140, some (.arr (i3 1) 80 2 (y2.out.map GAxisStep.row)))], n14, 128⟩) (by exact Weak.cv ⟨.inl (.inl rfl), .inl (.inl rfl), .inl (.inl rfl), .inl (.inl rfl), .inl (.inl rfl), .inl (.inl rfl), .inl (.inl rfl), .inl (.inl rfl), .inl (.inl rfl), trivial⟩ ⟨.inl rfl, .inl rfl, .inl rfl, .inl rfl, .inl rfl, .inl rfl, trivial⟩ (Nat.le_refl _)) ?_
                refine ob1k h24 fun w7 ew7 h25 => ?_
                refine AOps.stepHI [14, 3140] (hc := [(1000, some (.box (n0 + 1) 113 [.own 1001 (i3 1), .r (.int .i64 y2.add), .r (.int .i64 y2.cut)])), (1001, some (.arr (i3 1) 80 2 (y2.out.map GAxisStep.row)))]) (bs := [.ptr 1000 (n0 + 1) 0 0, .r (.int .i64 1), .r (.int .i64 r15)]) (caps := []) rfl rfl rfl rfl (.inl rfl) rfl ⟨.inl ⟨(.inl rfl), rfl⟩, .inl ⟨(.inl rfl), rfl⟩, .inl ⟨(.inl rfl), rfl⟩, trivial⟩ ⟨rfl, rfl, rfl, rfl, rfl, rfl, trivial⟩ (by decide) (w_axis_writer_put ew7) ?_
                intro i21 n15
                refine AOps.weak (s' := ⟨[(13, .ptr 13 n0 0 0), (14, .ptr 14 (n0 + 1) 0 0), (15, .ptr 47 (n0 + 2) 0 0), (16, .ptr 50 (n0 + 3) 0 0), (77, .ptr 50 (n0 + 3) 0 0), (78, .r (.int .i64 r15)), (79, .tup []), (80, .ptr 50 (n0 + 3) 0 0), (81, .r (.int .i64 r15)), (82, .tup [])], [(13, some (.box n0 113 [.own 3130 (i19 0), .r (.int .i64 w6.add), .r (.int .i64 w6.cut)])), (14, some (.box (n0 + 1) 113 [.own 3140 (i21 0), .r (.int .i64 w7.add), .r (.int .i64 w7.cut)])), (47, some (.box (n0 + 2) 119 [.r (.sl (p2.steps.map GAxisStep.row)), .r (.int .i64 p2.used)])), (50, some (.box (n0 + 3) 119 [.r (.sl (q2.steps.map GAxisStep.row)), .r (.int .i64 q2.used)])), (3130, some (.arr (i19 0) 80 2 (w6.out.map GAxisStep.row))), (3140, some (.arr (i21 0) 80 2 (w7.out.map GAxisStep.row)))], n15, 128⟩) (by exact Weak.cv ⟨.inl (.inl rfl), .inl (.inl rfl), .inl (.inl rfl), .inl (.inl rfl), .inl (.inl rfl), .inl (.inl rfl), .inl (.inl rfl), .inl (.inl rfl), .inl (.inl rfl), .inl (.inl rfl), trivial⟩ ⟨.inl rfl, .inl rfl, .inl rfl, .inl rfl, .inl rfl, .inl rfl, trivial⟩ (Nat.le_refl _)) ?_
                refine AOps.nil ?_
                refine hK33 _ ?_
                refine AW.seq_w fun K34 hK34 wK34 => ?_
                refine AW.region ?_
                refine AOps.step rfl rfl rfl (OpQ.spec (sp_move rfl (.inl rfl)) _) ?_
                refine AOps.step rfl rfl rfl (OpQ.spec (sp_move rfl (.inl rfl)) _) ?_
                refine AOps.stepHI [50] (hc := [(1000, some (.box (n0 + 3) 119 [.r (.sl (q2.steps.map GAxisStep.row)), .r (.int .i64 q2.used)]))]) (bs := [.ptr 1000 (n0 + 3) 0 0]) (caps := []) rfl rfl rfl rfl (.inl rfl) rfl ⟨.inl ⟨(.inl rfl), rfl⟩, trivial⟩ ⟨rfl, rfl, rfl, trivial⟩ (by decide) (w_axis_reader_left er15) ?_
                intro i22 n16
                refine AOps.weak (s' := ⟨[(13, .ptr 13 n0 0 0), (14, .ptr 14 (n0 + 1) 0 0), (15, .ptr 47 (n0 + 2) 0 0), (16, .ptr 50 (n0 + 3) 0 0), (77, .ptr 50 (n0 + 3) 0 0), (78, .r (.int .i64 r15)), (79, .tup []), (80, .ptr 50 (n0 + 3) 0 0), (81, .r (.int .i64 r15)), (82, .tup []), (83, .ptr 50 (n0 + 3) 0 0), (84, .ptr 50 (n0 + 3) 0 0), (85, .r (.int .i64 r15))], [(13, some (.box n0 113 [.own 3130 (i19 0), .r (.int .i64 w6.add), .r (.int .i64 w6.cut)])), (14, some (.box (n0 + 1) 113 [.own 3140 (i21 0), .r (.int .i64 w7.add), .r (.int .i64 w7.cut)])), (47, some (.box (n0 + 2) 119 [.r (.sl (p2.steps.map GAxisStep.row)), .r (.int .i64 p2.used)])), (50, some (.box (n0 + 3) 119 [.r (.sl (q2.steps.map GAxisStep.row)), .r (.int .i64 q2.used)])), (3130, some (.arr (i19 0) 80 2 (w6.out.map GAxisStep.row))), (3140, some (.arr (i21 0) 80 2 (w7.out.map GAxisStep.row)))], n16, 128⟩) (by exact Weak.cv ⟨.inl (.inl rfl), .inl (.inl rfl), .inl (.inl rfl), .inl (.inl rfl), .inl (.inl rfl), .inl (.inl rfl), .inl (.inl rfl), .inl (.inl rfl), .inl (.inl rfl), .inl (.inl rfl), .inl (.inl rfl), .inl (.inl rfl), .inl (.inl rfl), trivial⟩ ⟨.inl rfl, .inl rfl, .inl rfl, .inl rfl, .inl rfl, .inl rfl, trivial⟩ (Nat.le_refl _)) ?_
                refine ob1k h25 fun w8 ew8 h26 => ?_
                refine AOps.stepHI [50] (hc := [(1000, some (.box (n0 + 3) 119 [.r (.sl (q2.steps.map GAxisStep.row)), .r (.int .i64 q2.used)]))]) (bs := [.ptr 1000 (n0 + 3) 0 0, .r (.int .i64 r15)]) (caps := []) rfl rfl rfl rfl (.inl rfl) rfl ⟨.inl ⟨(.inl rfl), rfl⟩, .inl ⟨(.inl rfl), rfl⟩, trivial⟩ ⟨rfl, rfl, rfl, trivial⟩ (by decide) (w_axis_reader_take ew8) ?_
                intro i23 n17
                refine AOps.weak (s' := ⟨[(13, .ptr 13 n0 0 0), (14, .ptr 14 (n0 + 1) 0 0), (15, .ptr 47 (n0 + 2) 0 0), (16, .ptr 50 (n0 + 3) 0 0), (77, .ptr 50 (n0 + 3) 0 0), (78, .r (.int .i64 r15)), (79, .tup []), (80, .ptr 50 (n0 + 3) 0 0), (81, .r (.int .i64 r15)), (82, .tup []), (83, .ptr 50 (n0 + 3) 0 0), (84, .ptr 50 (n0 + 3) 0 0), (85, .r (.int .i64 r15)), (86, .tup [])], [(13, some (.box n0 113 [.own 3130 (i19 0), .r (.int .i64 w6.add), .r (.int .i64 w6.cut)])), (14, some (.box (n0 + 1) 113 [.own 3140 (i21 0), .r (.int .i64 w7.add), .r (.int .i64 w7.cut)])), (47, some (.box (n0 + 2) 119 [.r (.sl (p2.steps.map GAxisStep.row)), .r (.int .i64 p2.used)])), (50, some (.box (n0 + 3) 119 [.r (.sl (w8.steps.map GAxisStep.row)), .r (.int .i64 w8.used)])), (3130, some (.arr (i19 0) 80 2 (w6.out.map GAxisStep.row))), (3140, some (.arr (i21 0) 80 2 (w7.out.map GAxisStep.row)))], n17, 128⟩) (by exact Weak.cv ⟨.inl (.inl rfl), .inl (.inl rfl), .inl (.inl rfl), .inl (.inl rfl), .inl (.inl rfl), .inl (.inl rfl), .inl (.inl rfl), .inl (.inl rfl), .inl (.inl rfl), .inl (.inl rfl), .inl (.inl rfl), .inl (.inl rfl), .inl (.inl rfl), .inl (.inl rfl), trivial⟩ ⟨.inl rfl, .inl rfl, .inl rfl, .inl rfl, .inl rfl, .inl rfl, trivial⟩ (Nat.le_refl _)) ?_
                refine AOps.nil ?_
                refine hK34 _ ?_
                refine AW.exit ?_
                exact NextQ4.mk h26 (vec [(i19 0), (i21 0), n17]) ((by exact Weak.cv ⟨.inl (.inl rfl), .inl (.inl rfl), .inl (.inl rfl), .inl (.inl rfl), trivial⟩ ⟨.inl rfl, .inl rfl, .inl rfl, .inl rfl, .inl rfl, .inl rfl, trivial⟩ (Nat.le_refl _)))
              · have h22 := ite_f hc7 h21
                refine AW.skip ?_
                refine hK26 _ ?_
                refine AW.seq_w fun K35 hK35 wK35 => ?_
                refine AW.weak (s' := ⟨[(13, .ptr 13 n0 0 0), (14, .ptr 14 (n0 + 1) 0 0), (15, .ptr 47 (n0 + 2) 0 0), (16, .ptr 50 (n0 + 3) 0 0)], [(13, some (.box n0 113 [.own 3130 (i3 0), .r (.int .i64 x2.add), .r (.int .i64 x2.cut)])), (14, some (.box (n0 + 1) 113 [.own 3140 (i3 1), .r (.int .i64 y2.add), .r (.int .i64 y2.cut)])), (47, some (.box (n0 + 2) 119 [.r (.sl (p2.steps.map GAxisStep.row)), .r (.int .i64 p2.used)])), (50, some (.box (n0 + 3) 119 [.r (.sl (q2.steps.map GAxisStep.row)), .r (.int .i64 q2.used)])), (3130, some (.arr (i3 0) 80 2 (x2.out.map GAxisStep.row))), (3140, some (.arr (i3 1) 80 2 (y2.out.map GAxisStep.row)))], n11, 128⟩) (by exact Weak.cv ⟨.inl (.inl rfl), .inl (.inl rfl), .inl (.inl rfl), .inl (.inl rfl), trivial⟩ ⟨.inl rfl, .inl rfl, .inl rfl, .inl rfl, .inl rfl, .inl rfl, trivial⟩ (Nat.le_refl _)) ?_
                refine AW.region ?_
                refine AOps.step rfl rfl rfl (OpQ.spec (sp_move rfl (.inl rfl)) _) ?_
                refine ob1k h22 fun r18 er18 h27 => ?_
                refine AOps.stepHI [47] (hc := [(1000, some (.box (n0 + 2) 119 [.r (.sl (p2.steps.map GAxisStep.row)), .r (.int .i64 p2.used)]))]) (bs := [.ptr 1000 (n0 + 2) 0 0]) (caps := []) rfl rfl rfl rfl (.inl rfl) rfl ⟨.inl ⟨(.inl rfl), rfl⟩, trivial⟩ ⟨rfl, rfl, rfl, trivial⟩ (by decide) (w_axis_reader_left er18) ?_
                intro i24 n18
                refine AOps.weak (s' := ⟨[(13, .ptr 13 n0 0 0), (14, .ptr 14 (n0 + 1) 0 0), (15, .ptr 47 (n0 + 2) 0 0), (16, .ptr 50 (n0 + 3) 0 0), (87, .ptr 47 (n0 + 2) 0 0), (88, .r (.int .i64 r18))], [(13, some (.box n0 113 [.own 3130 (i3 0), .r (.int .i64 x2.add), .r (.int .i64 x2.cut)])), (14, some (.box (n0 + 1) 113 [.own 3140 (i3 1), .r (.int .i64 y2.add), .r (.int .i64 y2.cut)])), (47, some (.box (n0 + 2) 119 [.r (.sl (p2.steps.map GAxisStep.row)), .r (.int .i64 p2.used)])), (50, some (.box (n0 + 3) 119 [.r (.sl (q2.steps.map GAxisStep.row)), .r (.int .i64 q2.used)])), (3130, some (.arr (i3 0) 80 2 (x2.out.map GAxisStep.row))), (3140, some (.arr (i3 1) 80 2 (y2.out.map GAxisStep.row)))], n18, 128⟩) (by exact Weak.cv ⟨.inl (.inl rfl), .inl (.inl rfl), .inl (.inl rfl), .inl (.inl rfl), .inl (.inl rfl), .inl (.inl rfl), trivial⟩ ⟨.inl rfl, .inl rfl, .inl rfl, .inl rfl, .inl rfl, .inl rfl, trivial⟩ (Nat.le_refl _)) ?_
                refine AOps.step rfl rfl rfl (OpQ.spec (sp_move rfl (.inl rfl)) _) ?_
                refine ob1k h27 fun r19 er19 h28 => ?_
                refine AOps.stepHI [50] (hc := [(1000, some (.box (n0 + 3) 119 [.r (.sl (q2.steps.map GAxisStep.row)), .r (.int .i64 q2.used)]))]) (bs := [.ptr 1000 (n0 + 3) 0 0]) (caps := []) rfl rfl rfl rfl (.inl rfl) rfl ⟨.inl ⟨(.inl rfl), rfl⟩, trivial⟩ ⟨rfl, rfl, rfl, trivial⟩ (by decide) (w_axis_reader_left er19) ?_
                intro i25 n19
                refine AOps.weak (s' := ⟨[(13, .ptr 13 n0 0 0), (14, .ptr 14 (n0 + 1) 0 0), (15, .ptr 47 (n0 + 2) 0 0), (16, .ptr 50 (n0 + 3) 0 0), (87, .ptr 47 (n0 + 2) 0 0), (88, .r (.int .i64 r18)), (89, .ptr 50 (n0 + 3) 0 0), (90, .r (.int .i64 r19))], [(13, some (.box n0 113 [.own 3130 (i3 0), .r (.int .i64 x2.add), .r (.int .i64 x2.cut)])), (14, some (.box (n0 + 1) 113 [.own 3140 (i3 1), .r (.int .i64 y2.add), .r (.int .i64 y2.cut)])), (47, some (.box (n0 + 2) 119 [.r (.sl (p2.steps.map GAxisStep.row)), .r (.int .i64 p2.used)])), (50, some (.box (n0 + 3) 119 [.r (.sl (q2.steps.map GAxisStep.row)), .r (.int .i64 q2.used)])), (3130, some (.arr (i3 0) 80 2 (x2.out.map GAxisStep.row))), (3140, some (.arr (i3 1) 80 2 (y2.out.map GAxisStep.row)))], n19, 128⟩) (by exact Weak.cv ⟨.inl (.inl rfl), .inl (.inl rfl), .inl (.inl rfl), .inl (.inl rfl), .inl (.inl rfl), .inl (.inl rfl), .inl (.inl rfl), .inl (.inl rfl), trivial⟩ ⟨.inl rfl, .inl rfl, .inl rfl, .inl rfl, .inl rfl, .inl rfl, trivial⟩ (Nat.le_refl _)) ?_
                refine AOps.step rfl rfl rfl (OpQ.spec (sp_min rfl (.inl rfl) (.inl rfl)) _) ?_
                refine AOps.step rfl rfl rfl (OpQ.spec (sp_assign rfl (.inl rfl)) _) ?_
                refine AOps.nil ?_
                refine hK35 _ ?_
                refine AW.seq_w fun K36 hK36 wK36 => ?_
                refine AW.seq_w fun K37 hK37 wK37 => ?_
                refine AW.region ?_
                refine AOps.step rfl rfl rfl (OpQ.spec (sp_move rfl (.inl rfl)) _) ?_
                refine AOps.stepHI [50] (hc := [(1000, some (.box (n0 + 3) 119 [.r (.sl (q2.steps.map GAxisStep.row)), .r (.int .i64 q2.used)]))]) (bs := [.ptr 1000 (n0 + 3) 0 0]) (caps := []) rfl rfl rfl rfl (.inl rfl) rfl ⟨.inl ⟨(.inl rfl), rfl⟩, trivial⟩ ⟨rfl, rfl, rfl, trivial⟩ (by decide) (w_axis_reader_kind er14) ?_
                intro i26 n20
                refine AOps.weak (s' := ⟨[(13, .ptr 13 n0 0 0), (14, .ptr 14 (n0 + 1) 0 0), (15, .ptr 47 (n0 + 2) 0 0), (16, .ptr 50 (n0 + 3) 0 0), (17, .r (.int .i64 (min r18 r19))), (87, .ptr 47 (n0 + 2) 0 0), (88, .r (.int .i64 r18)), (89, .ptr 50 (n0 + 3) 0 0), (90, .r (.int .i64 r19)), (91, .r (.int .i64 (min r18 r19))), (92, .ptr 50 (n0 + 3) 0 0), (93, .r (.int .i64 r14))], [(13, some (.box n0 113 [.own 3130 (i3 0), .r (.int .i64 x2.add), .r (.int .i64 x2.cut)])), (14, some (.box (n0 + 1) 113 [.own 3140 (i3 1), .r (.int .i64 y2.add), .r (.int .i64 y2.cut)])), (47, some (.box (n0 + 2) 119 [.r (.sl (p2.steps.map GAxisStep.row)), .r (.int .i64 p2.used)])), (50, some (.box (n0 + 3) 119 [.r (.sl (q2.steps.map GAxisStep.row)), .r (.int .i64 q2.used)])), (3130, some (.arr (i3 0) 80 2 (x2.out.map GAxisStep.row))), (3140, some (.arr (i3 1) 80 2 (y2.out.map GAxisStep.row)))], n20, 128⟩) (by exact Weak.cv ⟨.inl (.inl rfl), .inl (.inl rfl), .inl (.inl rfl), .inl (.inl rfl), .inl (.inl rfl), .inl (.inl rfl), .inl (.inl rfl), .inl (.inl rfl), .inl (.inl rfl), .inl (.inl rfl), .inl (.inl rfl), .inl (.inl rfl), trivial⟩ ⟨.inl rfl, .inl rfl, .inl rfl, .inl rfl, .inl rfl, .inl rfl, trivial⟩ (Nat.le_refl _)) ?_
                refine AOps.step rfl rfl rfl (OpQ.spec (sp_eql rfl (.inl rfl) (.inl rfl)) _) ?_
                refine AOps.nil ?_
                refine hK37 _ ?_
                refine jb1k h28 fun p5 hp2 hk3 => ?_
                have J3 : ∀ (x6 : Axis_Writer) (i27 : Nat → Nat), p5 = x6 → K36 ⟨[(13, .ptr 13 n0 0 0), (14, .ptr 14 (n0 + 1) 0 0), (15, .ptr 47 (n0 + 2) 0 0), (16, .ptr 50 (n0 + 3) 0 0), (17, .r (.int .i64 (min r18 r19)))], [(13, some (.box n0 113 [.own 3130 (i27 0), .r (.int .i64 x6.add), .r (.int .i64 x6.cut)])), (14, some (.box (n0 + 1) 113 [.own 3140 (i3 1), .r (.int .i64 y2.add), .r (.int .i64 y2.cut)])), (47, some (.box (n0 + 2) 119 [.r (.sl (p2.steps.map GAxisStep.row)), .r (.int .i64 p2.used)])), (50, some (.box (n0 + 3) 119 [.r (.sl (q2.steps.map GAxisStep.row)), .r (.int .i64 q2.used)])), (3130, some (.arr (i27 0) 80 2 (x6.out.map GAxisStep.row))), (3140, some (.arr (i3 1) 80 2 (y2.out.map GAxisStep.row)))], (i27 1), 128⟩ := by
                  intro x6 i27 e
                  have h29 := hk3 _ e
                  refine hK36 _ ?_
                  refine AW.seq_w fun K38 hK38 wK38 => ?_
                  refine AW.seq_w fun K39 hK39 wK39 => ?_
                  refine AW.region ?_
                  refine AOps.step rfl rfl rfl (OpQ.spec (sp_move rfl (.inl rfl)) _) ?_
                  refine AOps.stepHI [47] (hc := [(1000, some (.box (n0 + 2) 119 [.r (.sl (p2.steps.map GAxisStep.row)), .r (.int .i64 p2.used)]))]) (bs := [.ptr 1000 (n0 + 2) 0 0]) (caps := []) rfl rfl rfl rfl (.inl rfl) rfl ⟨.inl ⟨(.inl rfl), rfl⟩, trivial⟩ ⟨rfl, rfl, rfl, trivial⟩ (by decide) (w_axis_reader_kind er9) ?_
                  intro i28 n21
                  refine AOps.weak (s' := ⟨[(13, .ptr 13 n0 0 0), (14, .ptr 14 (n0 + 1) 0 0), (15, .ptr 47 (n0 + 2) 0 0), (16, .ptr 50 (n0 + 3) 0 0), (17, .r (.int .i64 (min r18 r19))), (99, .ptr 47 (n0 + 2) 0 0), (100, .r (.int .i64 r9))], [(13, some (.box n0 113 [.own 3130 (i27 0), .r (.int .i64 x6.add), .r (.int .i64 x6.cut)])), (14, some (.box (n0 + 1) 113 [.own 3140 (i3 1), .r (.int .i64 y2.add), .r (.int .i64 y2.cut)])), (47, some (.box (n0 + 2) 119 [.r (.sl (p2.steps.map GAxisStep.row)), .r (.int .i64 p2.used)])), (50, some (.box (n0 + 3) 119 [.r (.sl (q2.steps.map GAxisStep.row)), .r (.int .i64 q2.used)])), (3130, some (.arr (i27 0) 80 2 (x6.out.map GAxisStep.row))), (3140, some (.arr (i3 1) 80 2 (y2.out.map GAxisStep.row)))], n21, 128⟩) (by exact Weak.cv ⟨.inl (.inl rfl), .inl (.inl rfl), .inl (.inl rfl), .inl (.inl rfl), .inl (.inl rfl), .inl (.inl rfl), .inl (.inl rfl), trivial⟩ ⟨.inl rfl, .inl rfl, .inl rfl, .inl rfl, .inl rfl, .inl rfl, trivial⟩ (Nat.le_refl _)) ?_
                  refine AOps.step rfl rfl rfl (OpQ.spec (sp_eql rfl (.inl rfl) (.inl rfl)) _) ?_
                  refine AOps.nil ?_
                  refine hK39 _ ?_
                  refine jb1k h29 fun p6 hp3 hk4 => ?_
                  have J4 : ∀ (y5 : Axis_Writer) (i29 : Nat → Nat), p6 = y5 → K38 ⟨[(13, .ptr 13 n0 0 0), (14, .ptr 14 (n0 + 1) 0 0), (15, .ptr 47 (n0 + 2) 0 0), (16, .ptr 50 (n0 + 3) 0 0), (17, .r (.int .i64 (min r18 r19)))], [(13, some (.box n0 113 [.own 3130 (i27 0), .r (.int .i64 x6.add), .r (.int .i64 x6.cut)])), (14, some (.box (n0 + 1) 113 [.own 3140 (i29 0), .r (.int .i64 y5.add), .r (.int .i64 y5.cut)])), (47, some (.box (n0 + 2) 119 [.r (.sl (p2.steps.map GAxisStep.row)), .r (.int .i64 p2.used)])), (50, some (.box (n0 + 3) 119 [.r (.sl (q2.steps.map GAxisStep.row)), .r (.int .i64 q2.used)])), (3130, some (.arr (i27 0) 80 2 (x6.out.map GAxisStep.row))), (3140, some (.arr (i29 0) 80 2 (y5.out.map GAxisStep.row)))], (i29 1), 128⟩ := by
                    intro y5 i29 e
                    have h30 := hk4 _ e
                    refine hK38 _ ?_
                    refine AW.seq_w fun K40 hK40 wK40 => ?_
                    refine AW.region ?_
                    refine AOps.step rfl rfl rfl (OpQ.spec (sp_move rfl (.inl rfl)) _) ?_
                    refine AOps.step rfl rfl rfl (OpQ.spec (sp_move rfl (.inl rfl)) _) ?_
                    refine ob1k h30 fun w9 ew9 h31 => ?_
                    refine AOps.stepHI [47] (hc := [(1000, some (.box (n0 + 2) 119 [.r (.sl (p2.steps.map GAxisStep.row)), .r (.int .i64 p2.used)]))]) (bs := [.ptr 1000 (n0 + 2) 0 0, .r (.int .i64 (min r18 r19))]) (caps := []) rfl rfl rfl rfl (.inl rfl) rfl ⟨.inl ⟨(.inl rfl), rfl⟩, .inl ⟨(.inl rfl), rfl⟩, trivial⟩ ⟨rfl, rfl, rfl, trivial⟩ (by decide) (w_axis_reader_take ew9) ?_
                    intro i30 n22
                    refine AOps.weak (s' := ⟨[(13, .ptr 13 n0 0 0), (14, .ptr 14 (n0 + 1) 0 0), (15, .ptr 47 (n0 + 2) 0 0), (16, .ptr 50 (n0 + 3) 0 0), (17, .r (.int .i64 (min r18 r19))), (106, .ptr 47 (n0 + 2) 0 0), (107, .r (.int .i64 (min r18 r19))), (108, .tup [])], [(13, some (.box n0 113 [.own 3130 (i27 0), .r (.int .i64 x6.add), .r (.int .i64 x6.cut)])), (14, some (.box (n0 + 1) 113 [.own 3140 (i29 0), .r (.int .i64 y5.add), .r (.int .i64 y5.cut)])), (47, some (.box (n0 + 2) 119 [.r (.sl (w9.steps.map GAxisStep.row)), .r (.int .i64 w9.used)])), (50, some (.box (n0 + 3) 119 [.r (.sl (q2.steps.map GAxisStep.row)), .r (.int .i64 q2.used)])), (3130, some (.arr (i27 0) 80 2 (x6.out.map GAxisStep.row))), (3140, some (.arr (i29 0) 80 2 (y5.out.map GAxisStep.row)))], n22, 128⟩) (by exact Weak.cv ⟨.inl (.inl rfl), .inl (.inl rfl), .inl (.inl rfl), .inl (.inl rfl), .inl (.inl rfl), .inl (.inl rfl), .inl (.inl rfl), .inl (.inl rfl), trivial⟩ ⟨.inl rfl, .inl rfl, .inl rfl, .inl rfl, .inl rfl, .inl rfl, trivial⟩ (Nat.le_refl _)) ?_
                    refine AOps.nil ?_
                    refine hK40 _ ?_
                    refine AW.region ?_
                    refine AOps.step rfl rfl rfl (OpQ.spec (sp_move rfl (.inl rfl)) _) ?_
                    refine AOps.step rfl rfl rfl (OpQ.spec (sp_move rfl (.inl rfl)) _) ?_
                    refine ob1k h31 fun w10 ew10 h32 => ?_
                    refine AOps.stepHI [50] (hc := [(1000, some (.box (n0 + 3) 119 [.r (.sl (q2.steps.map GAxisStep.row)), .r (.int .i64 q2.used)]))]) (bs := [.ptr 1000 (n0 + 3) 0 0, .r (.int .i64 (min r18 r19))]) (caps := []) rfl rfl rfl rfl (.inl rfl) rfl ⟨.inl ⟨(.inl rfl), rfl⟩, .inl ⟨(.inl rfl), rfl⟩, trivial⟩ ⟨rfl, rfl, rfl, trivial⟩ (by decide) (w_axis_reader_take ew10) ?_
                    intro i31 n23
                    refine AOps.weak (s' := ⟨[(13, .ptr 13 n0 0 0), (14, .ptr 14 (n0 + 1) 0 0), (15, .ptr 47 (n0 + 2) 0 0), (16, .ptr 50 (n0 + 3) 0 0), (17, .r (.int .i64 (min r18 r19))), (106, .ptr 47 (n0 + 2) 0 0), (107, .r (.int .i64 (min r18 r19))), (108, .tup []), (109, .ptr 50 (n0 + 3) 0 0), (110, .r (.int .i64 (min r18 r19))), (111, .tup [])], [(13, some (.box n0 113 [.own 3130 (i27 0), .r (.int .i64 x6.add), .r (.int .i64 x6.cut)])), (14, some (.box (n0 + 1) 113 [.own 3140 (i29 0), .r (.int .i64 y5.add), .r (.int .i64 y5.cut)])), (47, some (.box (n0 + 2) 119 [.r (.sl (w9.steps.map GAxisStep.row)), .r (.int .i64 w9.used)])), (50, some (.box (n0 + 3) 119 [.r (.sl (w10.steps.map GAxisStep.row)), .r (.int .i64 w10.used)])), (3130, some (.arr (i27 0) 80 2 (x6.out.map GAxisStep.row))), (3140, some (.arr (i29 0) 80 2 (y5.out.map GAxisStep.row)))], n23, 128⟩) (by exact Weak.cv ⟨.inl (.inl rfl), .inl (.inl rfl), .inl (.inl rfl), .inl (.inl rfl), .inl (.inl rfl), .inl (.inl rfl), .inl (.inl rfl), .inl (.inl rfl), .inl (.inl rfl), .inl (.inl rfl), .inl (.inl rfl), trivial⟩ ⟨.inl rfl, .inl rfl, .inl rfl, .inl rfl, .inl rfl, .inl rfl, trivial⟩ (Nat.le_refl _)) ?_
                    refine AOps.nil ?_
                    exact NextQ4.mk h32 (vec [(i27 0), (i29 0), n23]) ((by exact Weak.cv ⟨.inl (.inl rfl), .inl (.inl rfl), .inl (.inl rfl), .inl (.inl rfl), trivial⟩ ⟨.inl rfl, .inl rfl, .inl rfl, .inl rfl, .inl rfl, .inl rfl, trivial⟩ (Nat.le_refl _)))
                  refine AW.cond rfl (fun hc8 => ?_) (fun hc8 => ?_)
                  · have h33 := ite_t hc8 hp3
                    refine AW.region ?_
                    refine AOps.step rfl rfl rfl (OpQ.spec (sp_move rfl (.inl rfl)) _) ?_
                    refine AOps.stepHI [50] (hc := [(1000, some (.box (n0 + 3) 119 [.r (.sl (q2.steps.map GAxisStep.row)), .r (.int .i64 q2.used)]))]) (bs := [.ptr 1000 (n0 + 3) 0 0]) (caps := []) rfl rfl rfl rfl (.inl rfl) rfl ⟨.inl ⟨(.inl rfl), rfl⟩, trivial⟩ ⟨rfl, rfl, rfl, trivial⟩ (by decide) (w_axis_reader_kind er14) ?_
                    intro i32 n24
                    refine AOps.weak (s' := ⟨[(13, .ptr 13 n0 0 0), (14, .ptr 14 (n0 + 1) 0 0), (15, .ptr 47 (n0 + 2) 0 0), (16, .ptr 50 (n0 + 3) 0 0), (17, .r (.int .i64 (min r18 r19))), (99, .ptr 47 (n0 + 2) 0 0), (100, .r (.int .i64 r9)), (101, .r (.bool (decide (r9 = 0)))), (102, .ptr 50 (n0 + 3) 0 0), (103, .r (.int .i64 r14))], [(13, some (.box n0 113 [.own 3130 (i27 0), .r (.int .i64 x6.add), .r (.int .i64 x6.cut)])), (14, some (.box (n0 + 1) 113 [.own 3140 (i3 1), .r (.int .i64 y2.add), .r (.int .i64 y2.cut)])), (47, some (.box (n0 + 2) 119 [.r (.sl (p2.steps.map GAxisStep.row)), .r (.int .i64 p2.used)])), (50, some (.box (n0 + 3) 119 [.r (.sl (q2.steps.map GAxisStep.row)), .r (.int .i64 q2.used)])), (3130, some (.arr (i27 0) 80 2 (x6.out.map GAxisStep.row))), (3140, some (.arr (i3 1) 80 2 (y2.out.map GAxisStep.row)))], n24, 128⟩) (by exact Weak.cv ⟨.inl (.inl rfl), .inl (.inl rfl), .inl (.inl rfl), .inl (.inl rfl), .inl (.inl rfl), .inl (.inl rfl), .inl (.inl rfl), .inl (.inl rfl), .inl (.inl rfl), .inl (.inl rfl), trivial⟩ ⟨.inl rfl, .inl rfl, .inl rfl, .inl rfl, .inl rfl, .inl rfl, trivial⟩ (Nat.le_refl _)) ?_
                    refine AOps.step rfl rfl rfl (OpQ.spec (sp_move rfl (.inl rfl)) _) ?_
                    refine ob1k h33 fun w11 ew11 h34 => ?_
                    refine AOps.stepHI [14, 3140] (hc := [(1000, some (.box (n0 + 1) 113 [.own 1001 (i3 1), .r (.int .i64 y2.add), .r (.int .i64 y2.cut)])), (1001, some (.arr (i3 1) 80 2 (y2.out.map GAxisStep.row)))]) (bs := [.ptr 1000 (n0 + 1) 0 0, .r (.int .i64 r14), .r (.int .i64 (min r18 r19))]) (caps := []) rfl rfl rfl rfl (.inl rfl) rfl ⟨.inl ⟨(.inl rfl), rfl⟩, .inl ⟨(.inl rfl), rfl⟩, .inl ⟨(.inl rfl), rfl⟩, trivial⟩ ⟨rfl, rfl, rfl, rfl, rfl, rfl, trivial⟩ (by decide) (w_axis_writer_put ew11) ?_
                    intro i33 n25
                    refine AOps.weak (s' := ⟨[(13, .ptr 13 n0 0 0), (14, .ptr 14 (n0 + 1) 0 0), (15, .ptr 47 (n0 + 2) 0 0), (16, .ptr 50 (n0 + 3) 0 0), (17, .r (.int .i64 (min r18 r19))), (99, .ptr 47 (n0 + 2) 0 0), (100, .r (.int .i64 r9)), (101, .r (.bool (decide (r9 = 0)))), (102, .ptr 50 (n0 + 3) 0 0), (103, .r (.int .i64 r14)), (104, .r (.int .i64 (min r18 r19))), (105, .tup [])], [(13, some (.box n0 113 [.own 3130 (i27 0), .r (.int .i64 x6.add), .r (.int .i64 x6.cut)])), (14, some (.box (n0 + 1) 113 [.own 3140 (i33 0), .r (.int .i64 w11.add), .r (.int .i64 w11.cut)])), (47, some (.box (n0 + 2) 119 [.r (.sl (p2.steps.map GAxisStep.row)), .r (.int .i64 p2.used)])), (50, some (.box (n0 + 3) 119 [.r (.sl (q2.steps.map GAxisStep.row)), .r (.int .i64 q2.used)])), (3130, some (.arr (i27 0) 80 2 (x6.out.map GAxisStep.row))), (3140, some (.arr (i33 0) 80 2 (w11.out.map GAxisStep.row)))], n25, 128⟩) (by exact Weak.cv ⟨.inl (.inl rfl), .inl (.inl rfl), .inl (.inl rfl), .inl (.inl rfl), .inl (.inl rfl), .inl (.inl rfl), .inl (.inl rfl), .inl (.inl rfl), .inl (.inl rfl), .inl (.inl rfl), .inl (.inl rfl), .inl (.inl rfl), trivial⟩ ⟨.inl rfl, .inl rfl, .inl rfl, .inl rfl, .inl rfl, .inl rfl, trivial⟩ (Nat.le_refl _)) ?_
                    refine AOps.nil ?_
                    exact wK38 _ _ ((by exact Weak.cv ⟨.inl (.inl rfl), .inl (.inl rfl), .inl (.inl rfl), .inl (.inl rfl), .inl (.inl rfl), trivial⟩ ⟨.inl rfl, .inl rfl, .inl rfl, .inl rfl, .inl rfl, .inl rfl, trivial⟩ (Nat.le_refl _))) (J4 _ (vec [(i33 0), n25]) (Option.some.inj h34).symm)
                  · have h33 := ite_f hc8 hp3
                    refine AW.skip ?_
                    exact wK38 _ _ ((by exact Weak.cv ⟨.inl (.inl rfl), .inl (.inl rfl), .inl (.inl rfl), .inl (.inl rfl), .inl (.inl rfl), trivial⟩ ⟨.inl rfl, .inl rfl, .inl rfl, .inl rfl, .inl rfl, .inl rfl, trivial⟩ (Nat.le_refl _))) (J4 _ (vec [(i3 1), n21]) (Option.some.inj h33).symm)
                refine AW.cond rfl (fun hc9 => ?_) (fun hc9 => ?_)
                · have h35 := ite_t hc9 hp2
                  refine AW.region ?_
                  refine AOps.step rfl rfl rfl (OpQ.spec (sp_move rfl (.inl rfl)) _) ?_
                  refine AOps.stepHI [47] (hc := [(1000, some (.box (n0 + 2) 119 [.r (.sl (p2.steps.map GAxisStep.row)), .r (.int .i64 p2.used)]))]) (bs := [.ptr 1000 (n0 + 2) 0 0]) (caps := []) rfl rfl rfl rfl (.inl rfl) rfl ⟨.inl ⟨(.inl rfl), rfl⟩, trivial⟩ ⟨rfl, rfl, rfl, trivial⟩ (by decide) (w_axis_reader_kind er9) ?_
                  intro i34 n26
                  refine AOps.weak (s' := ⟨[(13, .ptr 13 n0 0 0), (14, .ptr 14 (n0 + 1) 0 0), (15, .ptr 47 (n0 + 2) 0 0), (16, .ptr 50 (n0 + 3) 0 0), (17, .r (.int .i64 (min r18 r19))), (87, .ptr 47 (n0 + 2) 0 0), (88, .r (.int .i64 r18)), (89, .ptr 50 (n0 + 3) 0 0), (90, .r (.int .i64 r19)), (91, .r (.int .i64 (min r18 r19))), (92, .ptr 50 (n0 + 3) 0 0), (93, .r (.int .i64 r14)), (94, .r (.bool (decide (r14 = 0)))), (95, .ptr 47 (n0 + 2) 0 0), (96, .r (.int .i64 r9))], [(13, some (.box n0 113 [.own 3130 (i3 0), .r (.int .i64 x2.add), .r (.int .i64 x2.cut)])), (14, some (.box (n0 + 1) 113 [.own 3140 (i3 1), .r (.int .i64 y2.add), .r (.int .i64 y2.cut)])), (47, some (.box (n0 + 2) 119 [.r (.sl (p2.steps.map GAxisStep.row)), .r (.int .i64 p2.used)])), (50, some (.box (n0 + 3) 119 [.r (.sl (q2.steps.map GAxisStep.row)), .r (.int .i64 q2.used)])), (3130, some (.arr (i3 0) 80 2 (x2.out.map GAxisStep.row))), (3140, some (.arr (i3 1) 80 2 (y2.out.map GAxisStep.row)))], n26, 128⟩) (by exact Weak.cv ⟨.inl (.inl rfl), .inl (.inl rfl), .inl (.inl rfl), .inl (.inl rfl), .inl (.inl rfl), .inl (.inl rfl), .inl (.inl rfl), .inl (.inl rfl), .inl (.inl rfl), .inl (.inl rfl), .inl (.inl rfl), .inl (.inl rfl), .inl (.inl rfl), .inl (.inl rfl), .inl (.inl rfl), trivial⟩ ⟨.inl rfl, .inl rfl, .inl rfl, .inl rfl, .inl rfl, .inl rfl, trivial⟩ (Nat.le_refl _)) ?_
                  refine AOps.step rfl rfl rfl (OpQ.spec (sp_move rfl (.inl rfl)) _) ?_
                  refine ob1k h35 fun w12 ew12 h36 => ?_
                  refine AOps.stepHI [13, 3130] (hc := [(1000, some (.box n0 113 [.own 1001 (i3 0), .r (.int .i64 x2.add), .r (.int .i64 x2.cut)])), (1001, some (.arr (i3 0) 80 2 (x2.out.map GAxisStep.row)))]) (bs := [.ptr 1000 n0 0 0, .r (.int .i64 r9), .r (.int .i64 (min r18 r19))]) (caps := []) rfl rfl rfl rfl (.inl rfl) rfl ⟨.inl ⟨(.inl rfl), rfl⟩, .inl ⟨(.inl rfl), rfl⟩, .inl ⟨(.inl rfl), rfl⟩, trivial⟩ ⟨rfl, rfl, rfl, rfl, rfl, rfl, trivial⟩ (by decide) (w_axis_writer_put ew12) ?_
                  intro i35 n27
                  refine AOps.weak (s' := ⟨[(13, .ptr 13 n0 0 0), (14, .ptr 14 (n0 + 1) 0 0), (15, .ptr 47 (n0 + 2) 0 0), (16, .ptr 50 (n0 + 3) 0 0), (17, .r (.int .i64 (min r18 r19))), (87, .ptr 47 (n0 + 2) 0 0), (88, .r (.int .i64 r18)), (89, .ptr 50 (n0 + 3) 0 0), (90, .r (.int .i64 r19)), (91, .r (.int .i64 (min r18 r19))), (92, .ptr 50 (n0 + 3) 0 0), (93, .r (.int .i64 r14)), (94, .r (.bool (decide (r14 = 0)))), (95, .ptr 47 (n0 + 2) 0 0), (96, .r (.int .i64 r9)), (97, .r (.int .i64 (min r18 r19))), (98, .tup [])], [(13, some (.box n0 113 [.own 3130 (i35 0), .r (.int .i64 w12.add), .r (.int .i64 w12.cut)])), (14, some (.box (n0 + 1) 113 [.own 3140 (i3 1), .r (.int .i64 y2.add), .r (.int .i64 y2.cut)])), (47, some (.box (n0 + 2) 119 [.r (.sl (p2.steps.map GAxisStep.row)), .r (.int .i64 p2.used)])), (50, some (.box (n0 + 3) 119 [.r (.sl (q2.steps.map GAxisStep.row)), .r (.int .i64 q2.used)])), (3130, some (.arr (i35 0) 80 2 (w12.out.map GAxisStep.row))), (3140, some (.arr (i3 1) 80 2 (y2.out.map GAxisStep.row)))], n27, 128⟩) (by exact Weak.cv ⟨.inl (.inl rfl), .inl (.inl rfl), .inl (.inl rfl), .inl (.inl rfl), .inl (.inl rfl), .inl (.inl rfl), .inl (.inl rfl), .inl (.inl rfl), .inl (.inl rfl), .inl (.inl rfl), .inl (.inl rfl), .inl (.inl rfl), .inl (.inl rfl), .inl (.inl rfl), .inl (.inl rfl), .inl (.inl rfl), .inl (.inl rfl), trivial⟩ ⟨.inl rfl, .inl rfl, .inl rfl, .inl rfl, .inl rfl, .inl rfl, trivial⟩ (Nat.le_refl _)) ?_
                  refine AOps.nil ?_
                  exact wK36 _ _ ((by exact Weak.cv ⟨.inl (.inl rfl), .inl (.inl rfl), .inl (.inl rfl), .inl (.inl rfl), .inl (.inl rfl), trivial⟩ ⟨.inl rfl, .inl rfl, .inl rfl, .inl rfl, .inl rfl, .inl rfl, trivial⟩ (Nat.le_refl _))) (J3 _ (vec [(i35 0), n27]) (Option.some.inj h36).symm)
                · have h35 := ite_f hc9 hp2
                  refine AW.skip ?_
                  exact wK36 _ _ ((by exact Weak.cv ⟨.inl (.inl rfl), .inl (.inl rfl), .inl (.inl rfl), .inl (.inl rfl), .inl (.inl rfl), trivial⟩ ⟨.inl rfl, .inl rfl, .inl rfl, .inl rfl, .inl rfl, .inl rfl, trivial⟩ (Nat.le_refl _))) (J3 _ (vec [(i3 0), n20]) (Option.some.inj h35).symm)
          · have h15 := ite_f hc5 h14
            refine AW.exit ?_
            exact wK17 _ _ ((by exact Weak.cv ⟨.inl (.inl rfl), .inl (.inl rfl), trivial⟩ ⟨.inl rfl, .inl rfl, .inl rfl, .inl rfl, trivial⟩ (Nat.le_refl _))) (J1 _ _ (vec [(i3 0), (i3 1), (i9 0)]) (hx1 _ (Option.some.inj h15).symm))
        refine AOps.split ((decide (0 ≤ r9)) == false) (fun hg1 => ?_) (fun hg1 => ?_)
        · have h37 := ite_t hg1 hp1
          refine AOps.weak (by exact Weak.unw (e' := [(13, .ptr 13 n0 0 0), (14, .ptr 14 (n0 + 1) 0 0), (15, .ptr 47 (n0 + 2) 0 0), (16, .ptr 50 (n0 + 3) 0 0), (51, .ptr 47 (n0 + 2) 0 0), (52, .r (.int .i64 r9)), (53, .r (.bool (decide (0 ≤ r9)))), (54, .r (.bool (decide (0 ≤ r9)))), (55, .ptr 50 (n0 + 3) 0 0)]) hg1 ⟨.inl rfl, .inl rfl, .inl rfl, .inl rfl, .inl rfl, .inl rfl, .inl rfl, .inl rfl, .inr rfl, trivial⟩) ?_
          refine ob1k h37 fun r24 er24 h38 => ?_
          refine AOps.stepHG (.one rfl rfl rfl) hg1 [50] (hc := [(1000, some (.box (n0 + 3) 119 [.r (.sl (q2.steps.map GAxisStep.row)), .r (.int .i64 q2.used)]))]) (bs := [.ptr 1000 (n0 + 3) 0 0]) (caps := []) rfl rfl rfl (.inl rfl) rfl ⟨.inl ⟨(.inl rfl), rfl⟩, trivial⟩ ⟨rfl, rfl, rfl, trivial⟩ (by decide) (w_axis_reader_kind er24) ?_
          intro i36 n28
          refine AOps.weak (s' := ⟨[(13, .ptr 13 n0 0 0), (14, .ptr 14 (n0 + 1) 0 0), (15, .ptr 47 (n0 + 2) 0 0), (16, .ptr 50 (n0 + 3) 0 0), (51, .ptr 47 (n0 + 2) 0 0), (52, .r (.int .i64 r9)), (53, .r (.bool (decide (0 ≤ r9)))), (54, .r (.bool (decide (0 ≤ r9)))), (55, .ptr 50 (n0 + 3) 0 0), (56, .r (.int .i64 r24))], [(13, some (.box n0 113 [.own 3130 (i3 0), .r (.int .i64 x2.add), .r (.int .i64 x2.cut)])), (14, some (.box (n0 + 1) 113 [.own 3140 (i3 1), .r (.int .i64 y2.add), .r (.int .i64 y2.cut)])), (47, some (.box (n0 + 2) 119 [.r (.sl (p2.steps.map GAxisStep.row)), .r (.int .i64 p2.used)])), (50, some (.box (n0 + 3) 119 [.r (.sl (q2.steps.map GAxisStep.row)), .r (.int .i64 q2.used)])), (3130, some (.arr (i3 0) 80 2 (x2.out.map GAxisStep.row))), (3140, some (.arr (i3 1) 80 2 (y2.out.map GAxisStep.row)))], n28, 128⟩) (by exact Weak.cv ⟨.inl (.inl rfl), .inl (.inl rfl), .inl (.inl rfl), .inl (.inl rfl), .inl (.inl rfl), .inl (.inl rfl), .inl (.inl rfl), .inl (.inl rfl), .inl (.inl rfl), .inl (.inl rfl), trivial⟩ ⟨.inl rfl, .inl rfl, .inl rfl, .inl rfl, .inl rfl, .inl rfl, trivial⟩ (Nat.le_refl _)) ?_
          refine AOps.stepGT (.one rfl rfl rfl) hg1 rfl rfl (OpQ.spec (sp_geq rfl (.inl rfl) (.inl rfl)) _) ?_
          refine AOps.step rfl rfl rfl (OpQ.spec (sp_or rfl (.inl rfl) (.inl rfl)) _) ?_
          refine AOps.nil ?_
          exact wK25 _ _ ((by exact Weak.cv ⟨.inl (.inl rfl), .inl (.inl rfl), .inl (.inl rfl), .inl (.inl rfl), .inl (.inl rfl), trivial⟩ ⟨.inl rfl, .inl rfl, .inl rfl, .inl rfl, .inl rfl, .inl rfl, trivial⟩ (Nat.le_refl _))) (J2 _ (vec [n28]) (Option.some.inj h38).symm)
        · have h37 := ite_f hg1 hp1
          refine AOps.stepGF2 (.one rfl rfl rfl) hg1 rfl rfl ?_
          refine AOps.stepGF2 (.one rfl rfl rfl) hg1 rfl rfl ?_
          refine AOps.step rfl rfl rfl (OpQ.spec (sp_or rfl (.inl rfl) (.inr ⟨_, (by exact id), rfl⟩)) _) ?_
          refine AOps.nil ?_
          exact wK25 _ _ ((by exact Weak.cv ⟨.inl (.inl rfl), .inl (.inl rfl), .inl (.inl rfl), .inl (.inl rfl), .inl (.inl rfl), trivial⟩ ⟨.inl rfl, .inl rfl, .inl rfl, .inl rfl, .inl rfl, .inl rfl, trivial⟩ (Nat.le_refl _))) (J2 _ (vec [n3]) (Option.some.inj h37).symm)

set_option maxHeartbeats 4000000 in
set_option maxRecDepth 20000 in
theorem w_ref_In {x1 : Int} {low1 : Int} {high1 : Int} {r : Bool} (h : ref_In x1 low1 high1 = some r) : ARO Try.prog 31 [.r (.int .i64 x1), .r (.int .i64 low1), .r (.int .i64 high1)] (.r (.bool r)) := by
  unfold ref_In at h
  refine ARO.mkF Try.func31 rfl rfl Try.ntmps31 rfl (Nat.le_of_ble_eq_true rfl) fun n0 => ?_
  refine AW.seq_w fun K1 hK1 wK1 => ?_
  refine AW.region ?_
  refine AOps.step rfl rfl rfl (OpQ.spec (sp_assign rfl (.inl rfl)) _) ?_
  refine AOps.nil ?_
  refine hK1 _ ?_
  refine AW.seq_w fun K2 hK2 wK2 => ?_
  refine AW.region ?_
  refine AOps.step rfl rfl rfl (OpQ.spec (sp_move rfl (.inl rfl)) _) ?_
  refine AOps.step rfl rfl rfl (OpQ.spec (sp_move rfl (.inl rfl)) _) ?_
  refine AOps.step rfl rfl rfl (OpQ.spec (sp_geq rfl (.inl rfl) (.inl rfl)) _) ?_
  refine AOps.step rfl rfl rfl (OpQ.spec (sp_move rfl (.inl rfl)) _) ?_
  refine AOps.stepW (.one rfl rfl rfl) rfl rfl (OpQ.spec (sp_move rfl (.inl rfl)) _) ?_
  refine AOps.stepW (.one rfl rfl rfl) rfl rfl (OpQ.spec (sp_move rfl (.inl rfl)) _) ?_
  refine AOps.stepW (.one rfl rfl rfl) rfl rfl (OpQ.spec (sp_leq rfl (.inr ⟨_, (by exact id), rfl⟩) (.inr ⟨_, (by exact id), rfl⟩)) _) ?_
  refine AOps.step rfl rfl rfl (OpQ.spec (sp_and rfl (.inl rfl) (.inr ⟨_, (by exact id), rfl⟩)) _) ?_
  refine AOps.step rfl rfl rfl (OpQ.spec (sp_assign rfl (.inl rfl)) _) ?_
  refine AOps.nil ?_
  refine hK2 _ ?_
  refine AW.ret ?_
  exact retf1 (P := Try.prog) (fun (r : Bool) => .r (.bool r)) h (.inl rfl) (.t (.d rfl))

set_option maxHeartbeats 4000000 in
set_option maxRecDepth 20000 in
theorem w_ref_AxisError {a1 : List GAxisStep} {r : Int} (h : ref_AxisError a1 = some r) : ARO Try.prog 28 [.r (.sl (a1.map GAxisStep.row))] (.r (.int .i64 r)) := by
  unfold ref_AxisError at h
  refine ARO.mkF Try.func28 rfl rfl Try.ntmps28 rfl (Nat.le_of_ble_eq_true rfl) fun n0 => ?_
  refine AW.seq_w fun K1 hK1 wK1 => ?_
  refine AW.region ?_
  refine AOps.step rfl rfl rfl (OpQ.spec (sp_assign rfl (.inl rfl)) _) ?_
  refine AOps.nil ?_
  refine hK1 _ ?_
  refine AW.seq_w fun K2 hK2 wK2 => ?_
  refine AW.region ?_
  refine AOps.step rfl rfl rfl (OpQ.spec (sp_assign rfl (.inl rfl)) _) ?_
  refine AOps.step rfl rfl rfl (OpQ.spec (sp_assign rfl (.inl rfl)) _) ?_
  refine AOps.nil ?_
  refine hK2 _ ?_
  refine AW.seq_w fun K3 hK3 wK3 => ?_
  refine AW.seq_w fun K4 hK4 wK4 => ?_
  refine AW.region ?_
  refine AOps.step rfl rfl rfl (OpQ.spec (sp_move rfl (.inl rfl)) _) ?_
  refine AOps.step rfl rfl rfl (OpQ.spec (ms_len rfl tg_44.slice (.inl rfl)) _) ?_
  refine AOps.step rfl rfl rfl (OpQ.spec (sp_move rfl (.inl rfl)) _) ?_
  refine AOps.nil ?_
  refine hK4 _ ?_
  refine AW.block ?_
  refine jc2k h fun o1 hit1 hk1 he1 => ?_
  have J1 : ∀ (old4 : Int) (now4 : Int) (i5 : Nat → Nat), o1 = .nrm (old4, now4) → K3 ⟨[(3, .r (.int .i64 old4)), (4, .r (.int .i64 now4))], [], (i5 0), 99⟩ := by
    intro old4 now4 i5 e
    have h1 := hk1 _ _ e
    refine hK3 _ ?_
    refine AW.seq_w fun K5 hK5 wK5 => ?_
    refine AW.seq_w fun K6 hK6 wK6 => ?_
    refine AW.region ?_
    refine AOps.step rfl rfl rfl (OpQ.spec (sp_move rfl (.inl rfl)) _) ?_
    refine AOps.step rfl rfl rfl (OpQ.spec (sp_gtr rfl (.inl rfl) (.inl rfl)) _) ?_
    refine AOps.step rfl rfl rfl (OpQ.spec (sp_move rfl (.inl rfl)) _) ?_
    refine AOps.stepW (.one rfl rfl rfl) rfl rfl (OpQ.spec (sp_move rfl (.inl rfl)) _) ?_
    refine AOps.stepW (.one rfl rfl rfl) rfl rfl (OpQ.spec (sp_gtr rfl (.inr ⟨_, (by exact id), rfl⟩) (.inl rfl)) _) ?_
    refine AOps.step rfl rfl rfl (OpQ.spec (sp_or rfl (.inl rfl) (.inr ⟨_, (by exact id), rfl⟩)) _) ?_
    refine AOps.nil ?_
    refine hK6 _ ?_
    refine AW.cond rfl (fun hc1 => ?_) (fun hc1 => ?_)
    · have h2 := ite_t hc1 h1
      refine AW.seq_w fun K7 hK7 wK7 => ?_
      refine AW.region ?_
      refine AOps.step rfl rfl rfl (OpQ.spec (sp_assign rfl (.inl rfl)) _) ?_
      refine AOps.nil ?_
      refine hK7 _ ?_
      refine AW.ret ?_
      exact retf1 (P := Try.prog) (fun (r : Int) => .r (.int .i64 r)) h2 (.inl rfl) (.t (.d rfl))
    · have h2 := ite_f hc1 h1
      refine AW.skip ?_
      refine hK5 _ ?_
      refine AW.seq_w fun K8 hK8 wK8 => ?_
      refine AW.region ?_
      refine AOps.step rfl rfl rfl (OpQ.spec (sp_assign rfl (.inl rfl)) _) ?_
      refine AOps.nil ?_
      refine hK8 _ ?_
      refine AW.ret ?_
      exact retf1 (P := Try.prog) (fun (r : Int) => .r (.int .i64 r)) h2 (.inl rfl) (.t (.d rfl))
  refine AW.iter3 (fun (old2 : Int) (now2 : Int) (x2 : Int) i3 => ⟨[(0, .r (.sl (a1.map GAxisStep.row))), (3, .r (.int .i64 old2)), (4, .r (.int .i64 now2)), (7, .r (.int .i64 (a1.length : Int))), (8, .r (.int .i64 x2))], [], (i3 0), 99⟩) (vec [n0]) hit1 ((by exact Weak.cv ⟨.inl (.inl rfl), .inl (.inl rfl), .inl (.inl rfl), .inl (.inl rfl), .inl (.inl rfl), trivial⟩ trivial (Nat.le_refl _))) ?_
  intro old2 now2 x2 i3 v1 hv1 hx1
  have h3 : ref_AxisError_L1 a1 old2 now2 x2 = some v1 := hv1; unfold ref_AxisError_L1 at h3
  refine AW.seq_w fun K9 hK9 wK9 => ?_
  refine AW.region ?_
  refine AOps.step rfl rfl rfl (OpQ.spec (sp_lss rfl (.inl rfl) (.inl rfl)) _) ?_
  refine AOps.nil ?_
  refine hK9 _ ?_
  refine AW.seq_w fun K10 hK10 wK10 => ?_
  refine AW.cond rfl (fun hc2 => ?_) (fun hc2 => ?_)
  · have h4 := ite_t hc2 h3
    refine AW.skip ?_
    refine hK10 _ ?_
    refine AW.seq_w fun K11 hK11 wK11 => ?_
    refine AW.block ?_
    refine jc2k h4 fun p1 hp1 hk2 he2 => ?_
    have J2 : ∀ (old5 : Int) (now5 : Int) (i6 : Nat → Nat), p1 = .nrm (old5, now5) → K11 ⟨[(0, .r (.sl (a1.map GAxisStep.row))), (3, .r (.int .i64 old5)), (4, .r (.int .i64 now5)), (7, .r (.int .i64 (a1.length : Int))), (8, .r (.int .i64 x2))], [], (i6 0), 99⟩ := by
      intro old5 now5 i6 e
      have h5 := hk2 _ _ e
      refine hK11 _ ?_
      refine AW.region ?_
      refine ob1k h5 fun x4 ex4 h6 => ?_
      refine AOps.step rfl rfl rfl (OpQ.spec (ms_add rfl (.inl rfl) (.inl rfl) (fun _ => ex4)) _) ?_
      refine AOps.step rfl rfl rfl (OpQ.spec (sp_move rfl (.inl rfl)) _) ?_
      refine AOps.nil ?_
      exact NextQ3.mk h6 (vec [(i6 0)]) ((by exact Weak.cv ⟨.inl (.inl rfl), .inl (.inl rfl), .inl (.inl rfl), .inl (.inl rfl), .inl (.inl rfl), trivial⟩ trivial (Nat.le_refl _)))
    refine AW.seq_w fun K12 hK12 wK12 => ?_
    refine AW.region ?_
    refine AOps.step rfl rfl rfl (OpQ.spec (sp_move rfl (.inl rfl)) _) ?_
    refine AOps.step rfl rfl rfl (OpQ.spec (sp_assign rfl (.inl rfl)) _) ?_
    refine AOps.nil ?_
    refine hK12 _ ?_
    refine AW.seq_w fun K13 hK13 wK13 => ?_
    refine AW.seq_w fun K14 hK14 wK14 => ?_
    refine AW.region ?_
    refine AOps.step rfl rfl rfl (OpQ.spec (sp_move rfl (.inl rfl)) _) ?_
    refine AOps.step rfl rfl rfl (OpQ.spec (sp_move rfl (.inl rfl)) _) ?_
    refine ob1k hp1 fun x5 ex5 h7 => ?_
    refine AOps.step rfl rfl rfl (OpQ.spec (ms_idx rfl tg_44.slice (.inl rfl) (.inl rfl) (fun _ => rfl) (fun _ => ex5)) _) ?_
    refine AOps.step rfl rfl rfl (OpQ.spec (sp_fieldAddr_ro rfl tf_80_0 (.inl rfl)) _) ?_
    refine AOps.step rfl rfl rfl (OpQ.spec (ms_load (d := .int .i64 x5.Kind) rfl ts_3 (.inl rfl) rfl) _) ?_
    refine ob1k h7 fun r1 er1 h8 => ?_
    refine AOps.step rfl rfl rfl (sp_call (r := .r (.bool r1)) (caps := []) (bs := [.r (.int .i64 x5.Kind), .r (.int .i64 0), .r (.int .i64 2)]) rfl (.inl rfl) rfl ⟨⟨_, (.inl rfl), .d rfl⟩, ⟨_, (.inl rfl), .d rfl⟩, ⟨_, (.inl rfl), .d rfl⟩, trivial⟩ (fun _ => w_ref_In (er1)) rfl) ?_
    refine AOps.step rfl rfl rfl (OpQ.spec (sp_not rfl (.inl rfl)) _) ?_
    refine AOps.nil ?_
    refine hK14 _ ?_
    refine AW.cond rfl (fun hc3 => ?_) (fun hc3 => ?_)
    · have h9 := ite_t hc3 h8
      refine AW.seq_w fun K15 hK15 wK15 => ?_
      refine AW.weak (s' := ⟨[], [], (i3 0), 99⟩) (by exact Weak.cv trivial trivial (Nat.le_refl _)) ?_
      refine AW.region ?_
      refine AOps.step rfl rfl rfl (OpQ.spec (sp_assign rfl (.inl rfl)) _) ?_
      refine AOps.nil ?_
      refine hK15 _ ?_
      refine AW.ret ?_
      exact retf1 (P := Try.prog) (fun (r : Int) => .r (.int .i64 r)) (he1 _ (hx1 _ (Option.some.inj (he2 _ (Option.some.inj h9).symm)).symm)) (.inl rfl) (.t (.d rfl))
    · have h9 := ite_f hc3 h8
      refine AW.skip ?_
      refine hK13 _ ?_
      refine AW.seq_w fun K16 hK16 wK16 => ?_
      refine AW.seq_w fun K17 hK17 wK17 => ?_
      refine AW.weak (s' := ⟨[(0, .r (.sl (a1.map GAxisStep.row))), (3, .r (.int .i64 old2)), (4, .r (.int .i64 now2)), (5, .r (.int .i64 x2)), (7, .r (.int .i64 (a1.length : Int))), (8, .r (.int .i64 x2))], [], (i3 0), 99⟩) (by exact Weak.cv ⟨.inl (.inl rfl), .inl (.inl rfl), .inl (.inl rfl), .inl (.inl rfl), .inl (.inl rfl), .inl (.inl rfl), trivial⟩ trivial (Nat.le_refl _)) ?_
      refine AW.region ?_
      refine AOps.step rfl rfl rfl (OpQ.spec (sp_move rfl (.inl rfl)) _) ?_
      refine AOps.step rfl rfl rfl (OpQ.spec (sp_move rfl (.inl rfl)) _) ?_
      refine AOps.step rfl rfl rfl (OpQ.spec (ms_idx rfl tg_44.slice (.inl rfl) (.inl rfl) (fun _ => rfl) (fun _ => ex5)) _) ?_
      refine AOps.step rfl rfl rfl (OpQ.spec (sp_fieldAddr_ro rfl tf_80_1 (.inl rfl)) _) ?_
      refine AOps.step rfl rfl rfl (OpQ.spec (ms_load (d := .int .i64 x5.N) rfl ts_3 (.inl rfl) rfl) _) ?_
      refine ob1k h9 fun r2 er2 h10 => ?_
      refine AOps.step rfl rfl rfl (sp_call (r := .r (.bool r2)) (caps := []) (bs := [.r (.int .i64 x5.N), .r (.int .i64 1), .r (.int .i64 2147483647)]) rfl (.inl rfl) rfl ⟨⟨_, (.inl rfl), .d rfl⟩, ⟨_, (.inl rfl), .d rfl⟩, ⟨_, (.inl rfl), .d rfl⟩, trivial⟩ (fun _ => w_ref_In (er2)) rfl) ?_
      refine AOps.step rfl rfl rfl (OpQ.spec (sp_not rfl (.inl rfl)) _) ?_
      refine AOps.nil ?_
      refine hK17 _ ?_
      refine AW.cond rfl (fun hc4 => ?_) (fun hc4 => ?_)
      · have h11 := ite_t hc4 h10
        refine AW.seq_w fun K18 hK18 wK18 => ?_
        refine AW.weak (s' := ⟨[], [], (i3 0), 99⟩) (by exact Weak.cv trivial trivial (Nat.le_refl _)) ?_
        refine AW.region ?_
        refine AOps.step rfl rfl rfl (OpQ.spec (sp_assign rfl (.inl rfl)) _) ?_
        refine AOps.nil ?_
        refine hK18 _ ?_
        refine AW.ret ?_
        exact retf1 (P := Try.prog) (fun (r : Int) => .r (.int .i64 r)) (he1 _ (hx1 _ (Option.some.inj (he2 _ (Option.some.inj h11).symm)).symm)) (.inl rfl) (.t (.d rfl))
      · have h11 := ite_f hc4 h10
        refine AW.skip ?_
        refine hK16 _ ?_
        refine AW.seq_w fun K19 hK19 wK19 => ?_
        refine AW.seq_w fun K20 hK20 wK20 => ?_
        refine AW.regionQ hmix (by kernel_rfl) ?_
        refine AQ.step rfl rfl rfl (sp_move rfl (.inl rfl)) ?_
        refine AQ.step rfl rfl rfl (sp_gtr rfl (.inl rfl) (.inl rfl)) ?_
        refine AQ.step rfl rfl rfl (sp_move rfl (.inl rfl)) ?_
        refine AQ.stepW (.one rfl rfl rfl) rfl rfl (sp_move rfl (.inl rfl)) ?_
        refine AQ.stepW (.one rfl rfl rfl) rfl rfl (sp_move rfl (.inl rfl)) ?_
        refine AQ.stepW (.one rfl rfl rfl) rfl rfl (ms_idx rfl tg_44.slice (.inr ⟨_, (by exact id), rfl⟩) (.inr ⟨_, (by exact id), rfl⟩) (fun _ => rfl) (fun _ => ex5)) ?_
        refine AQ.stepW (.one rfl rfl rfl) rfl rfl (sp_fieldAddr_ro rfl tf_80_0 (.inr ⟨_, (by exact id), rfl⟩)) ?_
        refine AQ.stepW (.one rfl rfl rfl) rfl rfl (ms_load (d := .int .i64 x5.Kind) rfl ts_3 (.inr ⟨_, (by exact id), rfl⟩) rfl) ?_
        refine AQ.stepW (.one rfl rfl rfl) rfl rfl (sp_move rfl (.inl rfl)) ?_
        refine AQ.stepW (.one rfl rfl rfl) rfl rfl (sp_move rfl (.inl rfl)) ?_
        refine ob1k h11 fun x6 ex6 h12 => ?_
        refine AQ.stepW (.one rfl rfl rfl) rfl rfl (ms_sub rfl (.inr ⟨_, (by exact id), rfl⟩) (.inl rfl) (gdt ex6)) ?_
        refine ob1k h12 fun x7 ex7 h13 => ?_
        refine AQ.stepW (.one rfl rfl rfl) rfl rfl (ms_idx rfl tg_44.slice (.inr ⟨_, (by exact id), rfl⟩) (.inr ⟨_, (by exact id), rfl⟩) (fun _ => rfl) (gdt ex7)) ?_
        refine AQ.stepW (.one rfl rfl rfl) rfl rfl (sp_fieldAddr_ro rfl tf_80_0 (.inr ⟨_, (by exact id), rfl⟩)) ?_
        refine AQ.stepW (.one rfl rfl rfl) rfl rfl (ms_load (d := .int .i64 x7.Kind) rfl ts_3 (.inr ⟨_, (by exact id), rfl⟩) rfl) ?_
        refine AQ.stepW (.one rfl rfl rfl) rfl rfl (sp_eql rfl (.inr ⟨_, (by exact id), rfl⟩) (.inr ⟨_, (by exact id), rfl⟩)) ?_
        refine AQ.stepW (.one rfl rfl rfl) rfl rfl (sp_move rfl (.inr ⟨_, (by exact id), rfl⟩)) ?_
        refine AQ.stepW (.two rfl rfl rfl) rfl rfl (sp_move rfl (.inl rfl)) ?_
        refine AQ.stepW (.two rfl rfl rfl) rfl rfl (sp_move rfl (.inl rfl)) ?_
        refine AQ.stepW (.two rfl rfl rfl) rfl rfl (ms_idx rfl tg_44.slice (.inr ⟨_, (by exact id), rfl⟩) (.inr ⟨_, (by exact id), rfl⟩) (fun _ => rfl) (fun _ => ex5)) ?_
        refine AQ.stepW (.two rfl rfl rfl) rfl rfl (sp_fieldAddr_ro rfl tf_80_0 (.inr ⟨_, (by exact id), rfl⟩)) ?_
        refine AQ.stepW (.two rfl rfl rfl) rfl rfl (ms_load (d := .int .i64 x5.Kind) rfl ts_3 (.inr ⟨_, (by exact id), rfl⟩) rfl) ?_
        refine AQ.stepW (.two rfl rfl rfl) rfl rfl (sp_eql rfl (.inr ⟨_, (by exact id), rfl⟩) (.inl rfl)) ?_
        refine AQ.stepW (.two rfl rfl rfl) rfl rfl (sp_move rfl (.inr ⟨_, (by exact id), rfl⟩)) ?_
        refine AQ.stepW (.two rfl rfl rfl) rfl rfl (sp_move rfl (.inl rfl)) ?_
        refine AQ.stepW (.two rfl rfl rfl) rfl rfl (sp_move rfl (.inl rfl)) ?_
        refine ob1k h13 fun x8 ex8 h14 => ?_
        refine AQ.stepW (.two rfl rfl rfl) rfl rfl (ms_sub rfl (.inr ⟨_, (by exact id), rfl⟩) (.inl rfl) (gdt ex8)) ?_
        refine ob1k h14 fun x9 ex9 h15 => ?_
        refine AQ.stepW (.two rfl rfl rfl) rfl rfl (ms_idx rfl tg_44.slice (.inr ⟨_, (by exact id), rfl⟩) (.inr ⟨_, (by exact id), rfl⟩) (fun _ => rfl) (gdt ex9)) ?_
        refine AQ.stepW (.two rfl rfl rfl) rfl rfl (sp_fieldAddr_ro rfl tf_80_0 (.inr ⟨_, (by exact id), rfl⟩)) ?_
        refine AQ.stepW (.two rfl rfl rfl) rfl rfl (ms_load (d := .int .i64 x9.Kind) rfl ts_3 (.inr ⟨_, (by exact id), rfl⟩) rfl) ?_
        refine AQ.stepW (.two rfl rfl rfl) rfl rfl (sp_eql rfl (.inr ⟨_, (by exact id), rfl⟩) (.inl rfl)) ?_
        refine AQ.stepW (.two rfl rfl rfl) rfl rfl (sp_and rfl (.inr ⟨_, (by exact id), rfl⟩) (.inr ⟨_, (by exact id), rfl⟩)) ?_
        refine AQ.stepW (.one rfl rfl rfl) rfl rfl (sp_or rfl (.inr ⟨_, (by exact id), rfl⟩) (.inr ⟨_, (by exact id), rfl⟩)) ?_
        refine AQ.step rfl rfl rfl (sp_and rfl (.inl rfl) (.inr ⟨_, (by exact id), rfl⟩)) ?_
        refine AQ.nil ?_
        refine hK20 _ ?_
        refine AW.cond rfl (fun hc5 => ?_) (fun hc5 => ?_)
        · have h16 := ite_t hc5 h15
          refine AW.seq_w fun K21 hK21 wK21 => ?_
          refine AW.weak (s' := ⟨[], [], (i3 0), 99⟩) (by exact Weak.cv trivial trivial (Nat.le_refl _)) ?_
          refine AW.region ?_
          refine AOps.step rfl rfl rfl (OpQ.spec (sp_assign rfl (.inl rfl)) _) ?_
          refine AOps.nil ?_
          refine hK21 _ ?_
          refine AW.ret ?_
          exact retf1 (P := Try.prog) (fun (r : Int) => .r (.int .i64 r)) (he1 _ (hx1 _ (Option.some.inj (he2 _ (Option.some.inj h16).symm)).symm)) (.inl rfl) (.t (.d rfl))
        · have h16 := ite_f hc5 h15
          refine AW.skip ?_
          refine hK19 _ ?_
          refine AW.seq_w fun K22 hK22 wK22 => ?_
          refine AW.seq_w fun K23 hK23 wK23 => ?_
          refine AW.weak (s' := ⟨[(0, .r (.sl (a1.map GAxisStep.row))), (3, .r (.int .i64 old2)), (4, .r (.int .i64 now2)), (5, .r (.int .i64 x2)), (7, .r (.int .i64 (a1.length : Int))), (8, .r (.int .i64 x2))], [], (i3 0), 99⟩) (by exact Weak.cv ⟨.inl (.inl rfl), .inl (.inl rfl), .inl (.inl rfl), .inl (.inl rfl), .inl (.inl rfl), .inl (.inl rfl), trivial⟩ trivial (Nat.le_refl _)) ?_
          refine AW.region ?_
          refine AOps.step rfl rfl rfl (OpQ.spec (sp_move rfl (.inl rfl)) _) ?_
          refine AOps.step rfl rfl rfl (OpQ.spec (sp_move rfl (.inl rfl)) _) ?_
          refine AOps.step rfl rfl rfl (OpQ.spec (ms_idx rfl tg_44.slice (.inl rfl) (.inl rfl) (fun _ => rfl) (fun _ => ex5)) _) ?_
          refine AOps.step rfl rfl rfl (OpQ.spec (sp_fieldAddr_ro rfl tf_80_0 (.inl rfl)) _) ?_
          refine AOps.step rfl rfl rfl (OpQ.spec (ms_load (d := .int .i64 x5.Kind) rfl ts_3 (.inl rfl) rfl) _) ?_
          refine AOps.step rfl rfl rfl (OpQ.spec (sp_neq rfl (.inl rfl) (.inl rfl)) _) ?_
          refine AOps.step rfl rfl rfl (OpQ.spec (sp_move rfl (.inl rfl)) _) ?_
          refine AOps.stepW (.one rfl rfl rfl) rfl rfl (OpQ.spec (sp_move rfl (.inl rfl)) _) ?_
          refine AOps.stepW (.one rfl rfl rfl) rfl rfl (OpQ.spec (sp_lss rfl (.inr ⟨_, (by exact id), rfl⟩) (.inl rfl)) _) ?_
          refine AOps.step rfl rfl rfl (OpQ.spec (sp_and rfl (.inl rfl) (.inr ⟨_, (by exact id), rfl⟩)) _) ?_
          refine AOps.nil ?_
          refine hK23 _ ?_
          refine jb1k h16 fun p2 hp2 hk3 => ?_
          have J3 : ∀ (old6 : Int) (i7 : Nat → Nat), p2 = old6 → K22 ⟨[(0, .r (.sl (a1.map GAxisStep.row))), (3, .r (.int .i64 old6)), (4, .r (.int .i64 now2)), (5, .r (.int .i64 x2)), (7, .r (.int .i64 (a1.length : Int))), (8, .r (.int .i64 x2))], [], (i7 0), 99⟩ := by
            intro old6 i7 e
            have h17 := hk3 _ e
            refine hK22 _ ?_
            refine AW.seq_w fun K24 hK24 wK24 => ?_
            refine AW.region ?_
            refine AOps.step rfl rfl rfl (OpQ.spec (sp_move rfl (.inl rfl)) _) ?_
            refine AOps.step rfl rfl rfl (OpQ.spec (sp_move rfl (.inl rfl)) _) ?_
            refine AOps.step rfl rfl rfl (OpQ.spec (ms_idx rfl tg_44.slice (.inl rfl) (.inl rfl) (fun _ => rfl) (fun _ => ex5)) _) ?_
            refine AOps.step rfl rfl rfl (OpQ.spec (sp_fieldAddr_ro rfl tf_80_0 (.inl rfl)) _) ?_
            refine AOps.step rfl rfl rfl (OpQ.spec (ms_load (d := .int .i64 x5.Kind) rfl ts_3 (.inl rfl) rfl) _) ?_
            refine AOps.step rfl rfl rfl (OpQ.spec (sp_neq rfl (.inl rfl) (.inl rfl)) _) ?_
            refine AOps.step rfl rfl rfl (OpQ.spec (sp_move rfl (.inl rfl)) _) ?_
            refine AOps.stepW (.one rfl rfl rfl) rfl rfl (OpQ.spec (sp_move rfl (.inl rfl)) _) ?_
            refine AOps.stepW (.one rfl rfl rfl) rfl rfl (OpQ.spec (sp_lss rfl (.inr ⟨_, (by exact id), rfl⟩) (.inl rfl)) _) ?_
            refine AOps.step rfl rfl rfl (OpQ.spec (sp_and rfl (.inl rfl) (.inr ⟨_, (by exact id), rfl⟩)) _) ?_
            refine AOps.nil ?_
            refine hK24 _ ?_
            refine AW.cond rfl (fun hc6 => ?_) (fun hc6 => ?_)
            · have h18 := ite_t hc6 h17
              refine AW.region ?_
              refine AOps.step rfl rfl rfl (OpQ.spec (sp_move rfl (.inl rfl)) _) ?_
              refine AOps.step rfl rfl rfl (OpQ.spec (sp_move rfl (.inl rfl)) _) ?_
              refine AOps.step rfl rfl rfl (OpQ.spec (sp_move rfl (.inl rfl)) _) ?_
              refine AOps.step rfl rfl rfl (OpQ.spec (ms_idx rfl tg_44.slice (.inl rfl) (.inl rfl) (fun _ => rfl) (fun _ => ex5)) _) ?_
              refine AOps.step rfl rfl rfl (OpQ.spec (sp_fieldAddr_ro rfl tf_80_1 (.inl rfl)) _) ?_
              refine AOps.step rfl rfl rfl (OpQ.spec (ms_load (d := .int .i64 x5.N) rfl ts_3 (.inl rfl) rfl) _) ?_
              refine ob1k h18 fun now6 enow6 h19 => ?_
              refine AOps.step rfl rfl rfl (OpQ.spec (ms_add rfl (.inl rfl) (.inl rfl) (fun _ => enow6)) _) ?_
              refine AOps.step rfl rfl rfl (OpQ.spec (sp_assign rfl (.inl rfl)) _) ?_
              refine AOps.nil ?_
              exact wK11 _ _ ((by exact Weak.cv ⟨.inl (.inl rfl), .inl (.inl rfl), .inl (.inl rfl), .inl (.inl rfl), .inl (.inl rfl), trivial⟩ trivial (Nat.le_refl _))) (J2 _ _ (vec [(i7 0)]) (Option.some.inj h19).symm)
            · have h18 := ite_f hc6 h17
              refine AW.skip ?_
              exact wK11 _ _ ((by exact Weak.cv ⟨.inl (.inl rfl), .inl (.inl rfl), .inl (.inl rfl), .inl (.inl rfl), .inl (.inl rfl), trivial⟩ trivial (Nat.le_refl _))) (J2 _ _ (vec [(i7 0)]) (Option.some.inj h18).symm)
          refine AW.cond rfl (fun hc7 => ?_) (fun hc7 => ?_)
          · have h20 := ite_t hc7 hp2
            refine AW.region ?_
            refine AOps.step rfl rfl rfl (OpQ.spec (sp_move rfl (.inl rfl)) _) ?_
            refine AOps.step rfl rfl rfl (OpQ.spec (sp_move rfl (.inl rfl)) _) ?_
            refine AOps.step rfl rfl rfl (OpQ.spec (sp_move rfl (.inl rfl)) _) ?_
            refine AOps.step rfl rfl rfl (OpQ.spec (ms_idx rfl tg_44.slice (.inl rfl) (.inl rfl) (fun _ => rfl) (fun _ => ex5)) _) ?_
            refine AOps.step rfl rfl rfl (OpQ.spec (sp_fieldAddr_ro rfl tf_80_1 (.inl rfl)) _) ?_
            refine AOps.step rfl rfl rfl (OpQ.spec (ms_load (d := .int .i64 x5.N) rfl ts_3 (.inl rfl) rfl) _) ?_
            refine ob1k h20 fun old7 eold7 h21 => ?_
            refine AOps.step rfl rfl rfl (OpQ.spec (ms_add rfl (.inl rfl) (.inl rfl) (fun _ => eold7)) _) ?_
            refine AOps.step rfl rfl rfl (OpQ.spec (sp_assign rfl (.inl rfl)) _) ?_
            refine AOps.nil ?_
            exact wK22 _ _ ((by exact Weak.cv ⟨.inl (.inl rfl), .inl (.inl rfl), .inl (.inl rfl), .inl (.inl rfl), .inl (.inl rfl), .inl (.inl rfl), trivial⟩ trivial (Nat.le_refl _))) (J3 _ (vec [(i3 0)]) (Option.some.inj h21).symm)
          · have h20 := ite_f hc7 hp2
            refine AW.skip ?_
            exact wK22 _ _ ((by exact Weak.cv ⟨.inl (.inl rfl), .inl (.inl rfl), .inl (.inl rfl), .inl (.inl rfl), .inl (.inl rfl), .inl (.inl rfl), trivial⟩ trivial (Nat.le_refl _))) (J3 _ (vec [(i3 0)]) (Option.some.inj h20).symm)
  · have h4 := ite_f hc2 h3
    refine AW.exit ?_
    exact wK3 _ _ ((by exact Weak.cv ⟨.inl (.inl rfl), .inl (.inl rfl), trivial⟩ trivial (Nat.le_refl _))) (J1 _ _ (vec [(i3 0)]) (hx1 _ (Option.some.inj h4).symm))

set_option maxHeartbeats 4000000 in
set_option maxRecDepth 20000 in
theorem w_ref_AxisSize {a1 : List GAxisStep} {r : Int} (h : ref_AxisSize a1 = some r) : ARO Try.prog 78 [.r (.sl (a1.map GAxisStep.row))] (.r (.int .i64 r)) := by
  unfold ref_AxisSize at h
  refine ARO.mkF Try.func78 rfl rfl Try.ntmps78 rfl (Nat.le_of_ble_eq_true rfl) fun n0 => ?_
  refine AW.seq_w fun K1 hK1 wK1 => ?_
  refine AW.region ?_
  refine AOps.step rfl rfl rfl (OpQ.spec (sp_assign rfl (.inl rfl)) _) ?_
  refine AOps.nil ?_
  refine hK1 _ ?_
  refine AW.seq_w fun K2 hK2 wK2 => ?_
  refine AW.region ?_
  refine AOps.step rfl rfl rfl (OpQ.spec (sp_assign rfl (.inl rfl)) _) ?_
  refine AOps.nil ?_
  refine hK2 _ ?_
  refine AW.seq_w fun K3 hK3 wK3 => ?_
  refine AW.seq_w fun K4 hK4 wK4 => ?_
  refine AW.region ?_
  refine AOps.step rfl rfl rfl (OpQ.spec (sp_move rfl (.inl rfl)) _) ?_
  refine AOps.step rfl rfl rfl (OpQ.spec (ms_len rfl tg_44.slice (.inl rfl)) _) ?_
  refine AOps.step rfl rfl rfl (OpQ.spec (sp_move rfl (.inl rfl)) _) ?_
  refine AOps.nil ?_
  refine hK4 _ ?_
  refine AW.block ?_
  refine jb1k h fun o1 hit1 hk1 => ?_
  have J1 : ∀ (n4 : Int) (i5 : Nat → Nat), o1 = n4 → K3 ⟨[(3, .r (.int .i64 n4))], [], (i5 0), 19⟩ := by
    intro n4 i5 e
    have h1 := hk1 _ e
    refine hK3 _ ?_
    refine AW.seq_w fun K5 hK5 wK5 => ?_
    refine AW.region ?_
    refine AOps.step rfl rfl rfl (OpQ.spec (sp_move rfl (.inl rfl)) _) ?_
    refine AOps.step rfl rfl rfl (OpQ.spec (sp_assign rfl (.inl rfl)) _) ?_
    refine AOps.nil ?_
    refine hK5 _ ?_
    refine AW.ret ?_
    exact retf1 (P := Try.prog) (fun (r : Int) => .r (.int .i64 r)) h1 (.inl rfl) (.t (.d rfl))
  refine AW.iter2 (fun (n2 : Int) (x2 : Int) i3 => ⟨[(0, .r (.sl (a1.map GAxisStep.row))), (3, .r (.int .i64 n2)), (6, .r (.int .i64 (a1.length : Int))), (7, .r (.int .i64 x2))], [], (i3 0), 19⟩) (vec [n0]) hit1 ((by exact Weak.cv ⟨.inl (.inl rfl), .inl (.inl rfl), .inl (.inl rfl), .inl (.inl rfl), trivial⟩ trivial (Nat.le_refl _))) ?_
  intro n2 x2 i3 v1 hv1 hx1
  have h2 : ref_AxisSize_L1 a1 n2 x2 = some v1 := hv1; unfold ref_AxisSize_L1 at h2
  refine AW.seq_w fun K6 hK6 wK6 => ?_
  refine AW.region ?_
  refine AOps.step rfl rfl rfl (OpQ.spec (sp_lss rfl (.inl rfl) (.inl rfl)) _) ?_
  refine AOps.nil ?_
  refine hK6 _ ?_
  refine AW.seq_w fun K7 hK7 wK7 => ?_
  refine AW.cond rfl (fun hc1 => ?_) (fun hc1 => ?_)
  · have h3 := ite_t hc1 h2
    refine AW.skip ?_
    refine hK7 _ ?_
    refine AW.seq_w fun K8 hK8 wK8 => ?_
    refine AW.block ?_
    refine AW.seq_w fun K9 hK9 wK9 => ?_
    refine AW.region ?_
    refine AOps.step rfl rfl rfl (OpQ.spec (sp_move rfl (.inl rfl)) _) ?_
    refine AOps.step rfl rfl rfl (OpQ.spec (sp_assign rfl (.inl rfl)) _) ?_
    refine AOps.nil ?_
    refine hK9 _ ?_
    refine AW.region ?_
    refine AOps.step rfl rfl rfl (OpQ.spec (sp_move rfl (.inl rfl)) _) ?_
    refine AOps.step rfl rfl rfl (OpQ.spec (sp_move rfl (.inl rfl)) _) ?_
    refine AOps.step rfl rfl rfl (OpQ.spec (sp_move rfl (.inl rfl)) _) ?_
    refine ob1k h3 fun x4 ex4 h4 => ?_
    refine AOps.step rfl rfl rfl (OpQ.spec (ms_idx rfl tg_44.slice (.inl rfl) (.inl rfl) (fun _ => rfl) (fun _ => ex4)) _) ?_
    refine AOps.step rfl rfl rfl (OpQ.spec (sp_fieldAddr_ro rfl tf_80_1 (.inl rfl)) _) ?_
    refine AOps.step rfl rfl rfl (OpQ.spec (ms_load (d := .int .i64 x4.N) rfl ts_3 (.inl rfl) rfl) _) ?_
    refine ob1k h4 fun n5 en5 h5 => ?_
    refine AOps.step rfl rfl rfl (OpQ.spec (ms_add rfl (.inl rfl) (.inl rfl) (fun _ => en5)) _) ?_
    refine AOps.step rfl rfl rfl (OpQ.spec (sp_assign rfl (.inl rfl)) _) ?_
    refine AOps.nil ?_
    refine hK8 _ ?_
    refine AW.weak (s' := ⟨[(0, .r (.sl (a1.map GAxisStep.row))), (3, .r (.int .i64 n5)), (6, .r (.int .i64 (a1.length : Int))), (7, .r (.int .i64 x2))], [], (i3 0), 19⟩) (by exact Weak.cv ⟨.inl (.inl rfl), .inl (.inl rfl), .inl (.inl rfl), .inl (.inl rfl), trivial⟩ trivial (Nat.le_refl _)) ?_
    refine AW.region ?_
    refine ob1k h5 fun x5 ex5 h6 => ?_
    refine AOps.step rfl rfl rfl (OpQ.spec (ms_add rfl (.inl rfl) (.inl rfl) (fun _ => ex5)) _) ?_
    refine AOps.step rfl rfl rfl (OpQ.spec (sp_move rfl (.inl rfl)) _) ?_
    refine AOps.nil ?_
    exact NextQ2.mk h6 (vec [(i3 0)]) ((by exact Weak.cv ⟨.inl (.inl rfl), .inl (.inl rfl), .inl (.inl rfl), .inl (.inl rfl), trivial⟩ trivial (Nat.le_refl _)))
  · have h3 := ite_f hc1 h2
    refine AW.exit ?_
    exact wK3 _ _ ((by exact Weak.cv ⟨.inl (.inl rfl), trivial⟩ trivial (Nat.le_refl _))) (J1 _ (vec [(i3 0)]) (hx1 _ (Option.some.inj h3).symm))

set_option maxHeartbeats 4000000 in
set_option maxRecDepth 20000 in
theorem w_law_few {a1 : List GAxisStep} {r : Bool} (h : law_few a1 = some r) : ARO Try.prog 29 [.r (.sl (a1.map GAxisStep.row))] (.r (.bool r)) := by
  unfold law_few at h
  refine ARO.mkF Try.func29 rfl rfl Try.ntmps29 rfl (Nat.le_of_ble_eq_true rfl) fun n0 => ?_
  refine AW.seq_w fun K1 hK1 wK1 => ?_
  refine AW.region ?_
  refine AOps.step rfl rfl rfl (OpQ.spec (sp_assign rfl (.inl rfl)) _) ?_
  refine AOps.nil ?_
  refine hK1 _ ?_
  refine AW.seq_w fun K2 hK2 wK2 => ?_
  refine AW.region ?_
  refine AOps.step rfl rfl rfl (OpQ.spec (sp_move rfl (.inl rfl)) _) ?_
  refine ob1k h fun r1 er1 h1 => ?_
  refine AOps.step rfl rfl rfl (sp_call (r := .r (.int .i64 r1)) (caps := []) (bs := [.r (.sl (a1.map GAxisStep.row))]) rfl (.inl rfl) rfl ⟨⟨_, (.inl rfl), .d rfl⟩, trivial⟩ (fun _ => w_ref_AxisSize (er1)) rfl) ?_
  refine AOps.step rfl rfl rfl (OpQ.spec (sp_leq rfl (.inl rfl) (.inl rfl)) _) ?_
  refine AOps.step rfl rfl rfl (OpQ.spec (sp_assign rfl (.inl rfl)) _) ?_
  refine AOps.nil ?_
  refine hK2 _ ?_
  refine AW.ret ?_
  exact retf1 (P := Try.prog) (fun (r : Bool) => .r (.bool r)) h1 (.inl rfl) (.t (.d rfl))

set_option maxHeartbeats 4000000 in
set_option maxRecDepth 20000 in
theorem w_ref_ActOf {d1 : List GStep} {r : Ref_Act} (h : ref_ActOf d1 = some r) : ARO Try.prog 98 [.r (.sl (d1.map GStep.row))] (.agg [.r (.sl (r.Adds.map (rSl GElem.row))), .r (.sl (r.Cuts.map rBool)), .r (.sl (r.Attrs.map (rSl GAttr.row)))]) := by
  unfold ref_ActOf at h
  refine ARO.mkF Try.func98 rfl rfl Try.ntmps98 rfl (Nat.le_of_ble_eq_true rfl) fun n0 => ?_
  refine AW.seq_w fun K1 hK1 wK1 => ?_
  refine AW.region ?_
  refine AOps.step rfl rfl rfl (ms_alloc (cs := [.cst (.slice none 0 0), .cst (.slice none 0 0), .cst (.slice none 0 0)]) 2 rfl t0_94 rfl rfl) ?_
  refine AOps.nil ?_
  refine hK1 _ ?_
  refine AW.seq_w fun K2 hK2 wK2 => ?_
  refine AW.region ?_
  refine AOps.step rfl rfl rfl (ms_lit 7 rfl tg_91 (f := (rSl GElem.row)) (l := ([[]] : List (List GElem))) ⟨rfl, ⟨_, (.inl rfl), rfl⟩, trivial⟩ rfl (fun _ => rfl) rfl) ?_
  refine AOps.step rfl rfl rfl (OpQ.spec (sp_build rfl tb_94 (q := [(0, _)]) (by exact ⟨rfl, rfl, rfl, (.inl rfl), trivial⟩) (cs := [.own 7 (n0 + 1), .cst (.slice none 0 0), .cst (.slice none 0 0)]) (by rfl)) _) ?_
  refine AOps.step rfl rfl rfl (ms_alloc (cs := [.cst (.slice none 0 0), .cst (.slice none 0 0), .cst (.slice none 0 0)]) 3 rfl t0_94 rfl rfl) ?_
  refine AOps.step0 rfl rfl (ms_store_box (ds := [.own 7 (n0 + 1), .cst (.slice none 0 0), .cst (.slice none 0 0)]) rfl tz_94 (.inl rfl) rfl (.inl rfl) rfl rfl rfl rfl) ?_
  refine AOps.nil ?_
  refine hK2 _ ?_
  refine AW.seq_w fun K3 hK3 wK3 => ?_
  refine AW.seq_w fun K4 hK4 wK4 => ?_
  refine AW.region ?_
  refine AOps.step rfl rfl rfl (OpQ.spec (sp_move rfl (.inl rfl)) _) ?_
  refine AOps.step rfl rfl rfl (OpQ.spec (ms_len rfl tg_122.slice (.inl rfl)) _) ?_
  refine AOps.step rfl rfl rfl (OpQ.spec (sp_move rfl (.inl rfl)) _) ?_
  refine AOps.nil ?_
  refine hK4 _ ?_
  refine AW.block ?_
  refine jb1k h fun o1 hit1 hk1 => ?_
  have J1 : ∀ (a4 : Ref_Act) (i5 : Nat → Nat), o1 = a4 → K3 ⟨[(2, .ptr 2 n0 0 0), (3, .ptr 3 (n0 + 2) 0 0)], [(2, some (.box n0 94 [.cst (.slice none 0 0), .cst (.slice none 0 0), .cst (.slice none 0 0)])), (3, some (.box (n0 + 2) 94 [.own 7 (i5 0), .own 54 (i5 1), .own 61 (i5 2)])), (7, some (.arr (i5 0) 65 1 (a4.Adds.map (rSl GElem.row)))), (54, some (.arr (i5 1) 4 1 (a4.Cuts.map rBool))), (61, some (.arr (i5 2) 55 1 (a4.Attrs.map (rSl GAttr.row))))], (i5 3), 66⟩ := by
    intro a4 i5 e
    have h1 := hk1 _ e
    refine hK3 _ ?_
    refine AW.seq_w fun K5 hK5 wK5 => ?_
    refine AW.region ?_
    refine AOps.step rfl rfl rfl (OpQ.spec (ms_loadA_box rfl ta_94 (.inl rfl) rfl rfl) _) ?_
    refine AOps.step0 rfl rfl (ms_store_box (ds := [.own 7 (i5 0), .own 54 (i5 1), .own 61 (i5 2)]) rfl tz_94 (.inl rfl) rfl (.inl rfl) rfl rfl rfl rfl) ?_
    refine AOps.nil ?_
    refine hK5 _ ?_
    refine AW.ret ?_
    exact retf1 (P := Try.prog) (fun (r : Ref_Act) => .agg [.r (.sl (r.Adds.map (rSl GElem.row))), .r (.sl (r.Cuts.map rBool)), .r (.sl (r.Attrs.map (rSl GAttr.row)))]) h1 (.inl rfl) (.a ta_94 rfl rfl rfl (.agg ⟨.own rfl, .own rfl, .own rfl, trivial⟩))
  refine AW.iter2 (fun (x2 : Int) (a2 : Ref_Act) i3 => ⟨[(0, .r (.sl (d1.map GStep.row))), (2, .ptr 2 n0 0 0), (3, .ptr 3 (n0 + 2) 0 0), (10, .r (.int .i64 (d1.length : Int))), (11, .r (.int .i64 x2))], [(2, some (.box n0 94 [.cst (.slice none 0 0), .cst (.slice none 0 0), .cst (.slice none 0 0)])), (3, some (.box (n0 + 2) 94 [.own 7 (i3 0), .own 54 (i3 1), .own 61 (i3 2)])), (7, some (.arr (i3 0) 65 1 (a2.Adds.map (rSl GElem.row)))), (54, some (.arr (i3 1) 4 1 (a2.Cuts.map rBool))), (61, some (.arr (i3 2) 55 1 (a2.Attrs.map (rSl GAttr.row))))], (i3 3), 66⟩) (vec [(n0 + 1), (n0 + 3), (n0 + 4), (n0 + 5)]) hit1 (Weak.trans (Weak.trans (Weak.adoptBox 3 1 54 4 1 (by decide) rfl rfl (by decide)) (by exact Weak.cv (e' := [(0, .r (.sl (d1.map GStep.row))), (2, .ptr 2 n0 0 0), (3, .ptr 3 (n0 + 2) 0 0), (7, .own 7 (n0 + 1)), (8, .agg [.own 7 (n0 + 1), .cst (.slice none 0 0), .cst (.slice none 0 0)]), (9, .r (.sl (d1.map GStep.row))), (10, .r (.int .i64 (d1.length : Int))), (11, .r (.int .i64 0))]) (h' := [(2, some (.box n0 94 [.cst (.slice none 0 0), .cst (.slice none 0 0), .cst (.slice none 0 0)])), (3, some (.box (n0 + 2) 94 [.own 7 (n0 + 1), .own 54 (n0 + 3), .cst (.slice none 0 0)])), (7, some (.arr (n0 + 1) 65 1 ([[]].map (rSl GElem.row)))), (54, some (.arr (n0 + 3) 4 1 (([] : List Bool).map rBool)))]) ⟨.inl (.inl rfl), .inl (.inl rfl), .inl (.inl rfl), .inl (.inl rfl), .inl (.inl rfl), .inl (.inl rfl), .inl (.inl rfl), .inl (.inl rfl), trivial⟩ ⟨.inl rfl, .inl rfl, .inl rfl, .inl rfl, trivial⟩ (Nat.le_refl _))) (Weak.trans (Weak.trans (Weak.adoptBox 3 2 61 55 1 (by decide) rfl rfl (by decide)) (by exact Weak.cv (e' := [(0, .r (.sl (d1.map GStep.row))), (2, .ptr 2 n0 0 0), (3, .ptr 3 (n0 + 2) 0 0), (7, .own 7 (n0 + 1)), (8, .agg [.own 7 (n0 + 1), .cst (.slice none 0 0), .cst (.slice none 0 0)]), (9, .r (.sl (d1.map GStep.row))), (10, .r (.int .i64 (d1.length : Int))), (11, .r (.int .i64 0))]) (h' := [(2, some (.box n0 94 [.cst (.slice none 0 0), .cst (.slice none 0 0), .cst (.slice none 0 0)])), (3, some (.box (n0 + 2) 94 [.own 7 (n0 + 1), .own 54 (n0 + 3), .own 61 (n0 + 4)])), (7, some (.arr (n0 + 1) 65 1 ([[]].map (rSl GElem.row)))), (54, some (.arr (n0 + 3) 4 1 (([] : List Bool).map rBool))), (61, some (.arr (n0 + 4) 55 1 (([] : List (List GAttr)).map (rSl GAttr.row))))]) ⟨.inl (.inl rfl), .inl (.inl rfl), .inl (.inl rfl), .inl (.inl rfl), .inl (.inl rfl), .inl (.inl rfl), .inl (.inl rfl), .inl (.inl rfl), trivial⟩ ⟨.inl rfl, .inl rfl, .inl rfl, .inl rfl, .inl rfl, trivial⟩ (Nat.le_refl _))) (by exact Weak.cv ⟨.inl (.inl rfl), .inl (.inl rfl), .inl (.inl rfl), .inl (.inl rfl), .inl (.inl rfl), trivial⟩ ⟨.inl rfl, .inl rfl, .inl rfl, .inl rfl, .inl rfl, trivial⟩ (Nat.le_refl _)))) ?_
  intro x2 a2 i3 v1 hv1 hx1
  have h2 : ref_ActOf_L1 d1 x2 a2 = some v1 := hv1; unfold ref_ActOf_L1 at h2
  refine AW.seq_w fun K6 hK6 wK6 => ?_
  refine AW.region ?_
  refine AOps.step rfl rfl rfl (OpQ.spec (sp_lss rfl (.inl rfl) (.inl rfl)) _) ?_
  refine AOps.nil ?_
  refine hK6 _ ?_
  refine AW.seq_w fun K7 hK7 wK7 => ?_
  refine AW.cond rfl (fun hc1 => ?_) (fun hc1 => ?_)
  · have h3 := ite_t hc1 h2
    refine AW.skip ?_
    refine hK7 _ ?_
    refine AW.seq_w fun K8 hK8 wK8 => ?_
    refine AW.block ?_
    refine jb1k h3 fun p1 hp1 hk2 => ?_
    have J2 : ∀ (a5 : Ref_Act) (i6 : Nat → Nat), p1 = a5 → K8 ⟨[(0, .r (.sl (d1.map GStep.row))), (2, .ptr 2 n0 0 0), (3, .ptr 3 (n0 + 2) 0 0), (10, .r (.int .i64 (d1.length : Int))), (11, .r (.int .i64 x2))], [(2, some (.box n0 94 [.cst (.slice none 0 0), .cst (.slice none 0 0), .cst (.slice none 0 0)])), (3, some (.box (n0 + 2) 94 [.own 7 (i6 0), .own 54 (i6 1), .own 61 (i6 2)])), (7, some (.arr (i6 0) 65 1 (a5.Adds.map (rSl GElem.row)))), (54, some (.arr (i6 1) 4 1 (a5.Cuts.map rBool))), (61, some (.arr (i6 2) 55 1 (a5.Attrs.map (rSl GAttr.row))))], (i6 3), 66⟩ := by
      intro a5 i6 e
      have h4 := hk2 _ e
      refine hK8 _ ?_
      refine AW.region ?_
      refine ob1k h4 fun x4 ex4 h5 => ?_
      refine AOps.step rfl rfl rfl (OpQ.spec (ms_add rfl (.inl rfl) (.inl rfl) (fun _ => ex4)) _) ?_
      refine AOps.step rfl rfl rfl (OpQ.spec (sp_move rfl (.inl rfl)) _) ?_
      refine AOps.nil ?_
      exact NextQ2.mk h5 (vec [(i6 0), (i6 1), (i6 2), (i6 3)]) ((by exact Weak.cv ⟨.inl (.inl rfl), .inl (.inl rfl), .inl (.inl rfl), .inl (.inl rfl), .inl (.inl rfl), trivial⟩ ⟨.inl rfl, .inl rfl, .inl rfl, .inl rfl, .inl rfl, trivial⟩ (Nat.le_refl _)))
    refine AW.seq_w fun K9 hK9 wK9 => ?_
    refine AW.region ?_
    refine AOps.step rfl rfl rfl (OpQ.spec (sp_move rfl (.inl rfl)) _) ?_
    refine AOps.step rfl rfl rfl (OpQ.spec (sp_assign rfl (.inl rfl)) _) ?_
    refine AOps.nil ?_
    refine hK9 _ ?_
    refine AW.seq_w fun K10 hK10 wK10 => ?_
    refine AW.region ?_
    refine AOps.step rfl rfl rfl (OpQ.spec (sp_move rfl (.inl rfl)) _) ?_
    refine AOps.step rfl rfl rfl (OpQ.spec (sp_move rfl (.inl rfl)) _) ?_
    refine ob1k hp1 fun x5 ex5 h6 => ?_
    refine AOps.step rfl rfl rfl (OpQ.spec (ms_idx rfl tg_122.slice (.inl rfl) (.inl rfl) (fun _ => rfl) (fun _ => ex5)) _) ?_
    refine AOps.step rfl rfl rfl (OpQ.spec (ms_loadA (cs := [.r (.int .i64 x5.Kind), .r (.int .i64 x5.N), .r (.sl (x5.Attrs.map GAttr.row)), .r (.sl (x5.Elems.map GElem.row))]) rfl ta_124 (.inl rfl) rfl rfl) _) ?_
    refine AOps.step rfl rfl rfl (ms_alloc (cs := [.r (.int .i64 0), .r (.int .i64 0), .cst (.slice none 0 0), .cst (.slice none 0 0)]) 5 rfl t0_124 rfl rfl) ?_
    refine AOps.step0 rfl rfl (ms_store_box (ds := [.r (.int .i64 x5.Kind), .r (.int .i64 x5.N), .r (.sl (x5.Attrs.map GAttr.row)), .r (.sl (x5.Elems.map GElem.row))]) rfl tz_124 (.inl rfl) rfl (.inl rfl) rfl rfl rfl rfl) ?_
    refine AOps.nil ?_
    refine hK10 _ ?_
    refine AW.seq_w fun K11 hK11 wK11 => ?_
    refine AW.seq_w fun K12 hK12 wK12 => ?_
    refine AW.region ?_
    refine AOps.step rfl rfl rfl (OpQ.spec (sp_fieldAddr_own (ob := .box _ _ _) rfl tf_124_0 (.inl rfl) (fun _ => rfl) rfl) _) ?_
    refine AOps.step rfl rfl rfl (OpQ.spec (ms_load_box (a := .r (.int .i64 x5.Kind)) rfl ts_3 (.inl rfl) rfl rfl) _) ?_
    refine AOps.step rfl rfl rfl (OpQ.spec (sp_eql rfl (.inl rfl) (.inl rfl)) _) ?_
    refine AOps.nil ?_
    refine hK12 _ ?_
    refine AW.cond rfl (fun hc2 => ?_) (fun hc2 => ?_)
    · have h7 := ite_t hc2 h6
      refine AW.seq_w fun K13 hK13 wK13 => ?_
      refine AW.weak (s' := ⟨[(0, .r (.sl (d1.map GStep.row))), (2, .ptr 2 n0 0 0), (3, .ptr 3 (n0 + 2) 0 0), (5, .ptr 5 (i3 3) 0 0), (10, .r (.int .i64 (d1.length : Int))), (11, .r (.int .i64 x2))], [(2, some (.box n0 94 [.cst (.slice none 0 0), .cst (.slice none 0 0), .cst (.slice none 0 0)])), (3, some (.box (n0 + 2) 94 [.own 7 (i3 0), .own 54 (i3 1), .own 61 (i3 2)])), (5, some (.box (i3 3) 124 [.r (.int .i64 x5.Kind), .r (.int .i64 x5.N), .r (.sl (x5.Attrs.map GAttr.row)), .r (.sl (x5.Elems.map GElem.row))])), (7, some (.arr (i3 0) 65 1 (a2.Adds.map (rSl GElem.row)))), (54, some (.arr (i3 1) 4 1 (a2.Cuts.map rBool))), (61, some (.arr (i3 2) 55 1 (a2.Attrs.map (rSl GAttr.row))))], ((i3 3) + 1), 66⟩) (by exact Weak.cv ⟨.inl (.inl rfl), .inl (.inl rfl), .inl (.inl rfl), .inl (.inl rfl), .inl (.inl rfl), .inl (.inl rfl), trivial⟩ ⟨.inl rfl, .inl rfl, .inl rfl, .inl rfl, .inl rfl, .inl rfl, trivial⟩ (Nat.le_refl _)) ?_
      refine AW.region ?_
      refine AOps.step rfl rfl rfl (OpQ.spec (sp_fieldAddr_own (ob := .box _ _ _) rfl tf_94_0 (.inl rfl) (fun _ => rfl) rfl) _) ?_
      refine AOps.step rfl rfl rfl (OpQ.spec (ms_load_box (a := .own 7 (i3 0)) rfl ts_91 (.inl rfl) rfl rfl) _) ?_
      refine AOps.step rfl rfl rfl (OpQ.spec (ms_len_own rfl tg_91.slice (.inl rfl) rfl) _) ?_
      refine ob1k h7 fun k1 ek1 h8 => ?_
      refine AOps.step rfl rfl rfl (OpQ.spec (ms_sub rfl (.inl rfl) (.inl rfl) (fun _ => ek1)) _) ?_
      refine AOps.step rfl rfl rfl (OpQ.spec (sp_assign rfl (.inl rfl)) _) ?_
      refine AOps.nil ?_
      refine hK13 _ ?_
      refine AW.seq_w fun K14 hK14 wK14 => ?_
      refine ob1k h8 fun x6 ex6 h9 => ?_
      refine ob1k h9 fun l1 el1 h10 => ?_
      refine ob1k h10 fun l2 el2 h11 => ?_
      refine AW.regionP 13 [⟨some 25, (fun _ => .ptr 3 (n0 + 2) 0 0), none, []⟩, ⟨some 26, (fun _ => .own 7 (i3 0)), none, []⟩, ⟨some 27, (fun _ => .r (.int .i64 k1)), none, []⟩, ⟨some 28, (fun G1 => .own 28 (G1 3)), some (28, (fun G1 => .arr (G1 3) 70 3 (([] : List GElem).map GElem.row))), [3]⟩, ⟨some 29, (fun _ => .ptr 3 (n0 + 2) 0 0), none, []⟩, ⟨some 30, (fun _ => .own 7 (i3 0)), none, []⟩, ⟨some 31, (fun _ => .r (.int .i64 k1)), none, []⟩, ⟨some 32, (fun _ => .ptr 7 (i3 0) k1.toNat 0), none, []⟩, ⟨some 33, (fun _ => .r (.sl (x6.map GElem.row))), none, []⟩, ⟨some 34, (fun G1 => .own 28 (G1 9)), some (28, (fun G1 => .arr (G1 9) 70 3 (l1.map GElem.row))), [9]⟩, ⟨some 35, (fun _ => .ptr 5 (i3 3) 0 3), none, []⟩, ⟨some 36, (fun _ => .r (.sl (x5.Elems.map GElem.row))), none, []⟩, ⟨some 37, (fun G1 => .own 28 (G1 12)), some (28, (fun G1 => .arr (G1 12) 70 3 (l2.map GElem.row))), [12]⟩] hmix (by kernel_rfl) (by exact ⟨fun _ _ h => ⟨rfl, fun _ _ e => by cases e⟩, fun _ _ h => ⟨rfl, fun _ _ e => by cases e⟩, fun _ _ h => ⟨rfl, fun _ _ e => by cases e⟩, fun _ _ h => ⟨by simp only [h 3 rfl], fun _ _ e => by cases e; simp only [h 3 rfl]⟩, fun _ _ h => ⟨rfl, fun _ _ e => by cases e⟩, fun _ _ h => ⟨rfl, fun _ _ e => by cases e⟩, fun _ _ h => ⟨rfl, fun _ _ e => by cases e⟩, fun _ _ h => ⟨rfl, fun _ _ e => by cases e⟩, fun _ _ h => ⟨rfl, fun _ _ e => by cases e⟩, fun _ _ h => ⟨by simp only [h 9 rfl], fun _ _ e => by cases e; simp only [h 9 rfl]⟩, fun _ _ h => ⟨rfl, fun _ _ e => by cases e⟩, fun _ _ h => ⟨rfl, fun _ _ e => by cases e⟩, fun _ _ h => ⟨by simp only [h 12 rfl], fun _ _ e => by cases e; simp only [h 12 rfl]⟩, trivial⟩) rfl (by exact ⟨Ob.quiet (n1 := fun n => n) rfl rfl (by intro d h; cases h; rfl) rfl (fun _ => [(3, .ptr 3 (n0 + 2) 0 0)]) (fun _ => [(3, some (.box (n0 + 2) 94 [.own 7 (i3 0), .own 54 (i3 1), .own 61 (i3 2)]))]) (fun D G1 hr => ⟨inE_base rfl rfl, trivial⟩) (fun D G1 hr => ⟨inH_base rfl rfl, trivial⟩) (fun _ _ => rfl) (fun G1 e h' n => OpQ.spec (v := .ptr 3 (n0 + 2) 0 0) (sp_fieldAddr_own (ob := .box _ _ _) rfl tf_94_0 (.inl rfl) (fun _ => rfl) rfl) _),
          Ob.quiet (n1 := fun n => n) rfl rfl (by intro d h; cases h; rfl) rfl (fun _ => [(25, .ptr 3 (n0 + 2) 0 0)]) (fun _ => [(3, some (.box (n0 + 2) 94 [.own 7 (i3 0), .own 54 (i3 1), .own 61 (i3 2)]))]) (fun D G1 hr => ⟨inE_op hr 0 rfl rfl (by kernel_rfl) rfl rfl, trivial⟩) (fun D G1 hr => ⟨inH_base rfl rfl, trivial⟩) (fun _ _ => rfl) (fun G1 e h' n => OpQ.spec (v := .own 7 (i3 0)) (ms_load_box (a := .own 7 (i3 0)) rfl ts_91 (.inl rfl) rfl rfl) _),
          Ob.quiet (n1 := fun n => n) rfl rfl (by intro d h; cases h; rfl) rfl (fun _ => [(6, .r (.int .i64 k1))]) (fun _ => []) (fun D G1 hr => ⟨inE_base rfl rfl, trivial⟩) (fun D G1 hr => trivial) (fun _ _ => rfl) (fun G1 e h' n => OpQ.spec (v := .r (.int .i64 k1)) (sp_move rfl (.inl rfl)) _),
          Ob.make (n1 := fun n => n + 1) rfl rfl (by intro d h; cases h; rfl) rfl (fun _ => []) (fun _ => []) (fun D G1 hr => trivial) (fun D G1 hr => trivial) (fun G1 e h' n => ms_lit 28 rfl tg_65 (f := GElem.row) (l := ([] : List GElem)) trivial rfl (fun _ => rfl) rfl),
          Ob.quiet (n1 := fun n => n) rfl rfl (by intro d h; cases h; rfl) rfl (fun _ => [(3, .ptr 3 (n0 + 2) 0 0)]) (fun _ => [(3, some (.box (n0 + 2) 94 [.own 7 (i3 0), .own 54 (i3 1), .own 61 (i3 2)]))]) (fun D G1 hr => ⟨inE_base rfl rfl, trivial⟩) (fun D G1 hr => ⟨inH_base rfl rfl, trivial⟩) (fun _ _ => rfl) (fun G1 e h' n => OpQ.spec (v := .ptr 3 (n0 + 2) 0 0) (sp_fieldAddr_own (ob := .box _ _ _) rfl tf_94_0 (.inl rfl) (fun _ => rfl) rfl) _),
          Ob.quiet (n1 := fun n => n) rfl rfl (by intro d h; cases h; rfl) rfl (fun _ => [(29, .ptr 3 (n0 + 2) 0 0)]) (fun _ => [(3, some (.box (n0 + 2) 94 [.own 7 (i3 0), .own 54 (i3 1), .own 61 (i3 2)]))]) (fun D G1 hr => ⟨inE_op hr 4 rfl rfl (by kernel_rfl) rfl rfl, trivial⟩) (fun D G1 hr => ⟨inH_base rfl rfl, trivial⟩) (fun _ _ => rfl) (fun G1 e h' n => OpQ.spec (v := .own 7 (i3 0)) (ms_load_box (a := .own 7 (i3 0)) rfl ts_91 (.inl rfl) rfl rfl) _),
          Ob.quiet (n1 := fun n => n) rfl rfl (by intro d h; cases h; rfl) rfl (fun _ => [(6, .r (.int .i64 k1))]) (fun _ => []) (fun D G1 hr => ⟨inE_base rfl rfl, trivial⟩) (fun D G1 hr => trivial) (fun _ _ => rfl) (fun G1 e h' n => OpQ.spec (v := .r (.int .i64 k1)) (sp_move rfl (.inl rfl)) _),
          Ob.quiet (n1 := fun n => n) rfl rfl (by intro d h; cases h; rfl) rfl (fun _ => [(30, .own 7 (i3 0)), (31, .r (.int .i64 k1))]) (fun _ => [(7, some (.arr (i3 0) 65 1 (a2.Adds.map (rSl GElem.row))))]) (fun D G1 hr => ⟨inE_op hr 5 rfl rfl (by kernel_rfl) rfl rfl, inE_op hr 6 rfl rfl (by kernel_rfl) rfl rfl, trivial⟩) (fun D G1 hr => ⟨inH_base rfl rfl, trivial⟩) (fun _ _ => rfl) (fun G1 e h' n => OpQ.spec (v := .ptr 7 (i3 0) k1.toNat 0) (ms_idx_own rfl tg_91.slice (.inl rfl) rfl (.inl rfl) (fun _ => ex6)) _),
          Ob.quiet (n1 := fun n => n) rfl rfl (by intro d h; cases h; rfl) rfl (fun _ => [(32, .ptr 7 (i3 0) k1.toNat 0)]) (fun _ => [(7, some (.arr (i3 0) 65 1 (a2.Adds.map (rSl GElem.row))))]) (fun D G1 hr => ⟨inE_op hr 7 rfl rfl (by kernel_rfl) rfl rfl, trivial⟩) (fun D G1 hr => ⟨inH_base rfl rfl, trivial⟩) (fun _ _ => rfl) (fun G1 e h' n => OpQ.spec (v := .r (.sl (x6.map GElem.row))) (ms_load_own (d := .sl (x6.map GElem.row)) rfl ts_65 (.inl rfl) (fun _ => rfl) (fun _ => ex6) rfl) _),
          Ob.make (n1 := fun n => n + 1) rfl rfl (by intro d h; cases h; rfl) rfl (fun G1 => [(28, .own 28 (G1 3)), (33, .r (.sl (x6.map GElem.row)))]) (fun G1 => [(28, some (.arr (G1 3) 70 3 (([] : List GElem).map GElem.row)))]) (fun D G1 hr => ⟨inE_op hr 3 rfl rfl (by kernel_rfl) rfl rfl, inE_op hr 8 rfl rfl (by kernel_rfl) rfl rfl, trivial⟩) (fun D G1 hr => ⟨inH_op hr 3 rfl rfl (by kernel_rfl) (by kernel_rfl) rfl, trivial⟩) (fun G1 e h' n => ms_app rfl tg_65 (.inl rfl) rfl (.inl ⟨(.inl rfl), fun _ => rfl⟩) el1),
          Ob.quiet (n1 := fun n => n) rfl rfl (by intro d h; cases h; rfl) rfl (fun _ => [(5, .ptr 5 (i3 3) 0 0)]) (fun _ => [(5, some (.box (i3 3) 124 [.r (.int .i64 x5.Kind), .r (.int .i64 x5.N), .r (.sl (x5.Attrs.map GAttr.row)), .r (.sl (x5.Elems.map GElem.row))]))]) (fun D G1 hr => ⟨inE_base rfl rfl, trivial⟩) (fun D G1 hr => ⟨inH_base rfl rfl, trivial⟩) (fun _ _ => rfl) (fun G1 e h' n => OpQ.spec (v := .ptr 5 (i3 3) 0 3) (sp_fieldAddr_own (ob := .box _ _ _) rfl tf_124_3 (.inl rfl) (fun _ => rfl) rfl) _),
          Ob.quiet (n1 := fun n => n) rfl rfl (by intro d h; cases h; rfl) rfl (fun _ => [(35, .ptr 5 (i3 3) 0 3)]) (fun _ => [(5, some (.box (i3 3) 124 [.r (.int .i64 x5.Kind), .r (.int .i64 x5.N), .r (.sl (x5.Attrs.map GAttr.row)), .r (.sl (x5.Elems.map GElem.row))]))]) (fun D G1 hr => ⟨inE_op hr 10 rfl rfl (by kernel_rfl) rfl rfl, trivial⟩) (fun D G1 hr => ⟨inH_base rfl rfl, trivial⟩) (fun _ _ => rfl) (fun G1 e h' n => OpQ.spec (v := .r (.sl (x5.Elems.map GElem.row))) (ms_load_box (a := .r (.sl (x5.Elems.map GElem.row))) rfl ts_65 (.inl rfl) rfl rfl) _),
          Ob.make (n1 := fun n => n + 1) rfl rfl (by intro d h; cases h; rfl) rfl (fun G1 => [(34, .own 28 (G1 9)), (36, .r (.sl (x5.Elems.map GElem.row)))]) (fun G1 => [(28, some (.arr (G1 9) 70 3 (l1.map GElem.row)))]) (fun D G1 hr => ⟨inE_op hr 9 rfl rfl (by kernel_rfl) rfl rfl, inE_op hr 11 rfl rfl (by kernel_rfl) rfl rfl, trivial⟩) (fun D G1 hr => ⟨inH_op hr 9 rfl rfl (by kernel_rfl) (by kernel_rfl) rfl, trivial⟩) (fun G1 e h' n => ms_app rfl tg_65 (.inl rfl) rfl (.inl ⟨(.inl rfl), fun _ => rfl⟩) el2),
          trivial⟩) fun G1 n1 => ?_
      refine AOps.weak (s' := ⟨[(0, .r (.sl (d1.map GStep.row))), (2, .ptr 2 n0 0 0), (3, .ptr 3 (n0 + 2) 0 0), (5, .ptr 5 (i3 3) 0 0), (6, .r (.int .i64 k1)), (10, .r (.int .i64 (d1.length : Int))), (11, .r (.int .i64 x2)), (21, .ptr 3 (n0 + 2) 0 0), (22, .own 7 (i3 0)), (23, .r (.int .i64 (a2.Adds.length : Int))), (24, .r (.int .i64 k1)), (25, .ptr 3 (n0 + 2) 0 0), (26, .own 7 (i3 0)), (27, .r (.int .i64 k1)), (29, .ptr 3 (n0 + 2) 0 0), (30, .own 7 (i3 0)), (31, .r (.int .i64 k1)), (32, .ptr 7 (i3 0) k1.toNat 0), (33, .r (.sl (x6.map GElem.row))), (35, .ptr 5 (i3 3) 0 3), (36, .r (.sl (x5.Elems.map GElem.row))), (37, .own 28 (G1 12))], [(2, some (.box n0 94 [.cst (.slice none 0 0), .cst (.slice none 0 0), .cst (.slice none 0 0)])), (3, some (.box (n0 + 2) 94 [.own 7 (i3 0), .own 54 (i3 1), .own 61 (i3 2)])), (5, some (.box (i3 3) 124 [.r (.int .i64 x5.Kind), .r (.int .i64 x5.N), .r (.sl (x5.Attrs.map GAttr.row)), .r (.sl (x5.Elems.map GElem.row))])), (7, some (.arr (i3 0) 65 1 (a2.Adds.map (rSl GElem.row)))), (28, some (.arr (G1 12) 70 3 (l2.map GElem.row))), (54, some (.arr (i3 1) 4 1 (a2.Cuts.map rBool))), (61, some (.arr (i3 2) 55 1 (a2.Attrs.map (rSl GAttr.row))))], n1, 66⟩) (by exact Weak.cv ⟨.inl (.inl rfl), .inl (.inl rfl), .inl (.inl rfl), .inl (.inl rfl), .inl (.inl rfl), .inl (.inl rfl), .inl (.inl rfl), .inl (.inl rfl), .inl (.inl rfl), .inl (.inl rfl), .inl (.inl rfl), .inl (.inl rfl), .inl (.inl rfl), .inl (.inl rfl), .inl (.inl rfl), .inl (.inl rfl), .inl (.inl rfl), .inl (.inl rfl), .inl (.inl rfl), .inl (.inl rfl), .inl (.inl rfl), .inl (.inl rfl), trivial⟩ ⟨.inl rfl, .inl rfl, .inl rfl, .inl rfl, .inl rfl, .inl rfl, .inl rfl, trivial⟩ (Nat.le_refl _)) ?_
      refine AOps.step rfl rfl rfl (OpQ.spec (ms_idx_own rfl tg_91.slice (.inl rfl) rfl (.inl rfl) (fun _ => ex6)) _) ?_
      refine AOps.weak (by exact Weak.frz (e' := [(0, .r (.sl (d1.map GStep.row))), (2, .ptr 2 n0 0 0), (3, .ptr 3 (n0 + 2) 0 0), (5, .ptr 5 (i3 3) 0 0), (6, .r (.int .i64 k1)), (10, .r (.int .i64 (d1.length : Int))), (11, .r (.int .i64 x2)), (21, .ptr 3 (n0 + 2) 0 0), (22, .own 7 (i3 0)), (23, .r (.int .i64 (a2.Adds.length : Int))), (24, .r (.int .i64 k1)), (25, .ptr 3 (n0 + 2) 0 0), (26, .own 7 (i3 0)), (27, .r (.int .i64 k1)), (29, .ptr 3 (n0 + 2) 0 0), (30, .own 7 (i3 0)), (31, .r (.int .i64 k1)), (32, .ptr 7 (i3 0) k1.toNat 0), (33, .r (.sl (x6.map GElem.row))), (35, .ptr 5 (i3 3) 0 3), (36, .r (.sl (x5.Elems.map GElem.row))), (37, .r (.sl (l2.map GElem.row))), (38, .ptr 7 (i3 0) k1.toNat 0)]) (h' := [(2, some (.box n0 94 [.cst (.slice none 0 0), .cst (.slice none 0 0), .cst (.slice none 0 0)])), (3, some (.box (n0 + 2) 94 [.own 7 (i3 0), .own 54 (i3 1), .own 61 (i3 2)])), (5, some (.box (i3 3) 124 [.r (.int .i64 x5.Kind), .r (.int .i64 x5.N), .r (.sl (x5.Attrs.map GAttr.row)), .r (.sl (x5.Elems.map GElem.row))])), (7, some (.arr (i3 0) 65 1 (a2.Adds.map (rSl GElem.row)))), (54, some (.arr (i3 1) 4 1 (a2.Cuts.map rBool))), (61, some (.arr (i3 2) 55 1 (a2.Attrs.map (rSl GAttr.row))))]) 28 rfl ⟨.inl (.inl rfl), .inl (.inl rfl), .inl (.inl rfl), .inl (.inl rfl), .inl (.inl rfl), .inl (.inl rfl), .inl (.inl rfl), .inl (.inl rfl), .inl (.inl rfl), .inl (.inl rfl), .inl (.inl rfl), .inl (.inl rfl), .inl (.inl rfl), .inl (.inl rfl), .inl (.inl rfl), .inl (.inl rfl), .inl (.inl rfl), .inl (.inl rfl), .inl (.inl rfl), .inl (.inl rfl), .inl (.inl rfl), .inl (.inr (.inr ⟨rfl, rfl⟩)), .inl (.inl rfl), trivial⟩ ⟨rfl, .inl rfl, rfl, .inl rfl, rfl, .inl rfl, rfl, .inl rfl, rfl, .inl rfl, rfl, .inl rfl, trivial⟩) ?_
      refine AOps.step0 rfl rfl (ms_store (v := l2) rfl tz_65 (.inl rfl) rfl ex6 (.inl rfl) rfl rfl rfl rfl) ?_
      refine AOps.nil ?_
      refine hK14 _ ?_
      refine AW.exit ?_
      exact wK8 _ _ ((by exact Weak.cv ⟨.inl (.inl rfl), .inl (.inl rfl), .inl (.inl rfl), .inl (.inl rfl), .inl (.inl rfl), trivial⟩ ⟨.inl rfl, .inl rfl, .inl rfl, .inl rfl, .inl rfl, trivial⟩ (Nat.le_refl _))) (J2 _ (vec [(i3 0), (i3 1), (i3 2), n1]) (Option.some.inj h11).symm)
    · have h7 := ite_f hc2 h6
      refine AW.skip ?_
      refine hK11 _ ?_
      refine AW.seq_w fun K15 hK15 wK15 => ?_
      refine AW.weak (s' := ⟨[(0, .r (.sl (d1.map GStep.row))), (2, .ptr 2 n0 0 0), (3, .ptr 3 (n0 + 2) 0 0), (5, .ptr 5 (i3 3) 0 0), (10, .r (.int .i64 (d1.length : Int))), (11, .r (.int .i64 x2))], [(2, some (.box n0 94 [.cst (.slice none 0 0), .cst (.slice none 0 0), .cst (.slice none 0 0)])), (3, some (.box (n0 + 2) 94 [.own 7 (i3 0), .own 54 (i3 1), .own 61 (i3 2)])), (5, some (.box (i3 3) 124 [.r (.int .i64 x5.Kind), .r (.int .i64 x5.N), .r (.sl (x5.Attrs.map GAttr.row)), .r (.sl (x5.Elems.map GElem.row))])), (7, some (.arr (i3 0) 65 1 (a2.Adds.map (rSl GElem.row)))), (54, some (.arr (i3 1) 4 1 (a2.Cuts.map rBool))), (61, some (.arr (i3 2) 55 1 (a2.Attrs.map (rSl GAttr.row))))], ((i3 3) + 1), 66⟩) (by exact Weak.cv ⟨.inl (.inl rfl), .inl (.inl rfl), .inl (.inl rfl), .inl (.inl rfl), .inl (.inl rfl), .inl (.inl rfl), trivial⟩ ⟨.inl rfl, .inl rfl, .inl rfl, .inl rfl, .inl rfl, .inl rfl, trivial⟩ (Nat.le_refl _)) ?_
      refine AW.region ?_
      refine AOps.step rfl rfl rfl (OpQ.spec (sp_fieldAddr_own (ob := .box _ _ _) rfl tf_124_1 (.inl rfl) (fun _ => rfl) rfl) _) ?_
      refine AOps.step rfl rfl rfl (OpQ.spec (ms_load_box (a := .r (.int .i64 x5.N)) rfl ts_3 (.inl rfl) rfl rfl) _) ?_
      refine AOps.step rfl rfl rfl (OpQ.spec (sp_move rfl (.inl rfl)) _) ?_
      refine AOps.nil ?_
      refine hK15 _ ?_
      refine AW.block ?_
      refine jc1k h7 fun o2 hit2 hk3 he3 => ?_
      refine AW.iter2 (fun (x8 : Int) (a7 : Ref_Act) i9 => ⟨[(0, .r (.sl (d1.map GStep.row))), (2, .ptr 2 n0 0 0), (3, .ptr 3 (n0 + 2) 0 0), (5, .ptr 5 (i3 3) 0 0), (10, .r (.int .i64 (d1.length : Int))), (11, .r (.int .i64 x2)), (40, .r (.int .i64 x5.N)), (41, .r (.int .i64 x8))], [(2, some (.box n0 94 [.cst (.slice none 0 0), .cst (.slice none 0 0), .cst (.slice none 0 0)])), (3, some (.box (n0 + 2) 94 [.own 7 (i9 0), .own 54 (i9 1), .own 61 (i9 2)])), (5, some (.box (i3 3) 124 [.r (.int .i64 x5.Kind), .r (.int .i64 x5.N), .r (.sl (x5.Attrs.map GAttr.row)), .r (.sl (x5.Elems.map GElem.row))])), (7, some (.arr (i9 0) 65 1 (a7.Adds.map (rSl GElem.row)))), (54, some (.arr (i9 1) 4 1 (a7.Cuts.map rBool))), (61, some (.arr (i9 2) 55 1 (a7.Attrs.map (rSl GAttr.row))))], (i9 3), 66⟩) (vec [(i3 0), (i3 1), (i3 2), ((i3 3) + 1)]) hit2 ((by exact Weak.cv ⟨.inl (.inl rfl), .inl (.inl rfl), .inl (.inl rfl), .inl (.inl rfl), .inl (.inl rfl), .inl (.inl rfl), .inl (.inl rfl), .inl (.inl rfl), trivial⟩ ⟨.inl rfl, .inl rfl, .inl rfl, .inl rfl, .inl rfl, .inl rfl, trivial⟩ (Nat.le_refl _))) ?_
      intro x8 a7 i9 v2 hv2 hx2
      have h12 : ref_ActOf_L2 x5 x8 a7 = some v2 := hv2; unfold ref_ActOf_L2 at h12
      refine AW.seq_w fun K16 hK16 wK16 => ?_
      refine AW.region ?_
      refine AOps.step rfl rfl rfl (OpQ.spec (sp_lss rfl (.inl rfl) (.inl rfl)) _) ?_
      refine AOps.nil ?_
      refine hK16 _ ?_
      refine AW.seq_w fun K17 hK17 wK17 => ?_
      refine AW.cond rfl (fun hc3 => ?_) (fun hc3 => ?_)
      · have h13 := ite_t hc3 h12
        refine AW.skip ?_
        refine hK17 _ ?_
        refine AW.seq_w fun K18 hK18 wK18 => ?_
        refine AW.block ?_
        refine AW.seq_w fun K19 hK19 wK19 => ?_
        refine AW.region ?_
        refine AOps.step rfl rfl rfl (OpQ.spec (sp_fieldAddr_own (ob := .box _ _ _) rfl tf_94_0 (.inl rfl) (fun _ => rfl) rfl) _) ?_
        refine AOps.step rfl rfl rfl (OpQ.spec (ms_load_box (a := .own 7 (i9 0)) rfl ts_91 (.inl rfl) rfl rfl) _) ?_
        refine AOps.step rfl rfl rfl (ms_lit 45 rfl tg_91 (f := (rSl GElem.row)) (l := ([[]] : List (List GElem))) ⟨rfl, ⟨_, (.inl rfl), rfl⟩, trivial⟩ rfl (fun _ => rfl) rfl) ?_
        refine ob1k h13 fun l3 el3 h14 => ?_
        refine AOps.step rfl rfl rfl (ms_app rfl tg_91 (.inl rfl) rfl (.inr (.inl ⟨_, _, (.inl rfl), rfl⟩)) el3) ?_
        refine AOps.step rfl rfl rfl (OpQ.spec (sp_fieldAddr_own (ob := .box _ _ _) rfl tf_94_0 (.inl rfl) (fun _ => rfl) rfl) _) ?_
        refine AOps.step0 rfl rfl (ms_store_box (ds := [.own 7 ((i9 3) + 1), .own 54 (i9 1), .own 61 (i9 2)]) rfl tz_91 (.inl rfl) rfl (.inl rfl) rfl rfl rfl rfl) ?_
        refine AOps.nil ?_
        refine hK19 _ ?_
        refine AW.seq_w fun K20 hK20 wK20 => ?_
        refine AW.region ?_
        refine AOps.step rfl rfl rfl (OpQ.spec (sp_fieldAddr_own (ob := .box _ _ _) rfl tf_94_1 (.inl rfl) (fun _ => rfl) rfl) _) ?_
        refine AOps.step rfl rfl rfl (OpQ.spec (ms_load_box (a := .own 54 (i9 1)) rfl ts_27 (.inl rfl) rfl rfl) _) ?_
        refine AOps.step rfl rfl rfl (OpQ.spec (sp_fieldAddr_own (ob := .box _ _ _) rfl tf_124_0 (.inl rfl) (fun _ => rfl) rfl) _) ?_
        refine AOps.step rfl rfl rfl (OpQ.spec (ms_load_box (a := .r (.int .i64 x5.Kind)) rfl ts_3 (.inl rfl) rfl rfl) _) ?_
        refine AOps.step rfl rfl rfl (OpQ.spec (sp_eql rfl (.inl rfl) (.inl rfl)) _) ?_
        refine AOps.step rfl rfl rfl (ms_lit 53 rfl tg_27 (f := rBool) (l := ([(decide (x5.Kind = 2))] : List Bool)) ⟨rfl, ⟨_, (.inl rfl), rfl⟩, trivial⟩ rfl (fun _ => rfl) rfl) ?_
        refine ob1k h14 fun l4 el4 h15 => ?_
        refine AOps.step rfl rfl rfl (ms_app rfl tg_27 (.inl rfl) rfl (.inr (.inl ⟨_, _, (.inl rfl), rfl⟩)) el4) ?_
        refine AOps.step rfl rfl rfl (OpQ.spec (sp_fieldAddr_own (ob := .box _ _ _) rfl tf_94_1 (.inl rfl) (fun _ => rfl) rfl) _) ?_
        refine AOps.step0 rfl rfl (ms_store_box (ds := [.own 7 ((i9 3) + 1), .own 54 ((i9 3) + 3), .own 61 (i9 2)]) rfl tz_27 (.inl rfl) rfl (.inl rfl) rfl rfl rfl rfl) ?_
        refine AOps.nil ?_
        refine hK20 _ ?_
        refine AW.weak (s' := ⟨[(0, .r (.sl (d1.map GStep.row))), (2, .ptr 2 n0 0 0), (3, .ptr 3 (n0 + 2) 0 0), (5, .ptr 5 (i3 3) 0 0), (10, .r (.int .i64 (d1.length : Int))), (11, .r (.int .i64 x2)), (40, .r (.int .i64 x5.N)), (41, .r (.int .i64 x8))], [(2, some (.box n0 94 [.cst (.slice none 0 0), .cst (.slice none 0 0), .cst (.slice none 0 0)])), (3, some (.box (n0 + 2) 94 [.own 7 ((i9 3) + 1), .own 54 ((i9 3) + 3), .own 61 (i9 2)])), (5, some (.box (i3 3) 124 [.r (.int .i64 x5.Kind), .r (.int .i64 x5.N), .r (.sl (x5.Attrs.map GAttr.row)), .r (.sl (x5.Elems.map GElem.row))])), (7, some (.arr ((i9 3) + 1) 65 1 (l3.map (rSl GElem.row)))), (54, some (.arr ((i9 3) + 3) 4 1 (l4.map rBool))), (61, some (.arr (i9 2) 55 1 (a7.Attrs.map (rSl GAttr.row))))], ((i9 3) + 4), 66⟩) (by exact Weak.cv ⟨.inl (.inl rfl), .inl (.inl rfl), .inl (.inl rfl), .inl (.inl rfl), .inl (.inl rfl), .inl (.inl rfl), .inl (.inl rfl), .inl (.inl rfl), trivial⟩ ⟨.inl rfl, .inl rfl, .inl rfl, .inl rfl, .inl rfl, .inl rfl, trivial⟩ (Nat.le_refl _)) ?_
        refine AW.region ?_
        refine AOps.step rfl rfl rfl (OpQ.spec (sp_fieldAddr_own (ob := .box _ _ _) rfl tf_94_2 (.inl rfl) (fun _ => rfl) rfl) _) ?_
        refine AOps.step rfl rfl rfl (OpQ.spec (ms_load_box (a := .own 61 (i9 2)) rfl ts_92 (.inl rfl) rfl rfl) _) ?_
        refine AOps.step rfl rfl rfl (OpQ.spec (sp_fieldAddr_own (ob := .box _ _ _) rfl tf_124_2 (.inl rfl) (fun _ => rfl) rfl) _) ?_
        refine AOps.step rfl rfl rfl (OpQ.spec (ms_load_box (a := .r (.sl (x5.Attrs.map GAttr.row))) rfl ts_55 (.inl rfl) rfl rfl) _) ?_
        refine AOps.step rfl rfl rfl (ms_lit 60 rfl tg_92 (f := (rSl GAttr.row)) (l := ([x5.Attrs] : List (List GAttr))) ⟨rfl, ⟨_, (.inl rfl), rfl⟩, trivial⟩ rfl (fun _ => rfl) rfl) ?_
        refine ob1k h15 fun l5 el5 h16 => ?_
        refine AOps.step rfl rfl rfl (ms_app rfl tg_92 (.inl rfl) rfl (.inr (.inl ⟨_, _, (.inl rfl), rfl⟩)) el5) ?_
        refine AOps.step rfl rfl rfl (OpQ.spec (sp_fieldAddr_own (ob := .box _ _ _) rfl tf_94_2 (.inl rfl) (fun _ => rfl) rfl) _) ?_
        refine AOps.step0 rfl rfl (ms_store_box (ds := [.own 7 ((i9 3) + 1), .own 54 ((i9 3) + 3), .own 61 ((i9 3) + 5)]) rfl tz_92 (.inl rfl) rfl (.inl rfl) rfl rfl rfl rfl) ?_
        refine AOps.nil ?_
        refine hK18 _ ?_
        refine AW.region ?_
        refine ob1k h16 fun x10 ex10 h17 => ?_
        refine AOps.step rfl rfl rfl (OpQ.spec (ms_add rfl (.inl rfl) (.inl rfl) (fun _ => ex10)) _) ?_
        refine AOps.step rfl rfl rfl (OpQ.spec (sp_move rfl (.inl rfl)) _) ?_
        refine AOps.nil ?_
        exact NextQ2.mk h17 (vec [((i9 3) + 1), ((i9 3) + 3), ((i9 3) + 5), ((i9 3) + 6)]) ((by exact Weak.cv ⟨.inl (.inl rfl), .inl (.inl rfl), .inl (.inl rfl), .inl (.inl rfl), .inl (.inl rfl), .inl (.inl rfl), .inl (.inl rfl), .inl (.inl rfl), trivial⟩ ⟨.inl rfl, .inl rfl, .inl rfl, .inl rfl, .inl rfl, .inl rfl, trivial⟩ (Nat.le_refl _)))
      · have h13 := ite_f hc3 h12
        refine AW.exit ?_
        exact wK8 _ _ ((by exact Weak.cv ⟨.inl (.inl rfl), .inl (.inl rfl), .inl (.inl rfl), .inl (.inl rfl), .inl (.inl rfl), trivial⟩ ⟨.inl rfl, .inl rfl, .inl rfl, .inl rfl, .inl rfl, trivial⟩ (Nat.le_refl _))) (J2 _ (vec [(i9 0), (i9 1), (i9 2), (i9 3)]) (Option.some.inj (he3 _ (hx2 _ (Option.some.inj h13).symm))).symm)
  · have h3 := ite_f hc1 h2
    refine AW.exit ?_
    exact wK3 _ _ ((by exact Weak.cv ⟨.inl (.inl rfl), .inl (.inl rfl), trivial⟩ ⟨.inl rfl, .inl rfl, .inl rfl, .inl rfl, .inl rfl, trivial⟩ (Nat.le_refl _))) (J1 _ (vec [(i3 0), (i3 1), (i3 2), (i3 3)]) (hx1 _ (Option.some.inj h3).symm))

set_option maxHeartbeats 4000000 in
set_option maxRecDepth 20000 in
theorem w_law_act {a1 : List GAxisStep} {r : Ref_Act} (h : law_act a1 = some r) : ARO Try.prog 66 [.r (.sl (a1.map GAxisStep.row))] (.agg [.r (.sl (r.Adds.map (rSl GElem.row))), .r (.sl (r.Cuts.map rBool)), .r (.sl (r.Attrs.map (rSl GAttr.row)))]) := by
  unfold law_act at h
  refine ARO.mkF Try.func66 rfl rfl Try.ntmps66 rfl (Nat.le_of_ble_eq_true rfl) fun n0 => ?_
  refine AW.seq_w fun K1 hK1 wK1 => ?_
  refine AW.region ?_
  refine AOps.step rfl rfl rfl (ms_alloc (cs := [.cst (.slice none 0 0), .cst (.slice none 0 0), .cst (.slice none 0 0)]) 2 rfl t0_94 rfl rfl) ?_
  refine AOps.nil ?_
  refine hK1 _ ?_
  refine AW.seq_w fun K2 hK2 wK2 => ?_
  refine AW.region ?_
  refine AOps.step rfl rfl rfl (OpQ.spec (sp_assign rfl (.inl rfl)) _) ?_
  refine AOps.nil ?_
  refine hK2 _ ?_
  refine AW.seq_w fun K3 hK3 wK3 => ?_
  refine AW.seq_w fun K4 hK4 wK4 => ?_
  refine AW.region ?_
  refine AOps.step rfl rfl rfl (OpQ.spec (sp_move rfl (.inl rfl)) _) ?_
  refine AOps.step rfl rfl rfl (OpQ.spec (ms_len rfl tg_44.slice (.inl rfl)) _) ?_
  refine AOps.step rfl rfl rfl (OpQ.spec (sp_move rfl (.inl rfl)) _) ?_
  refine AOps.nil ?_
  refine hK4 _ ?_
  refine AW.block ?_
  refine jb1k h fun o1 hit1 hk1 => ?_
  have J1 : ∀ (d4 : List GStep) (i5 : Nat → Nat), o1 = d4 → K3 ⟨[(2, .ptr 2 n0 0 0), (3, .own 5003 (i5 0))], [(2, some (.box n0 94 [.cst (.slice none 0 0), .cst (.slice none 0 0), .cst (.slice none 0 0)])), (5003, some (.arr (i5 0) 124 4 (d4.map GStep.row)))], (i5 1), 47⟩ := by
    intro d4 i5 e
    have h1 := hk1 _ e
    refine hK3 _ ?_
    refine AW.seq_w fun K5 hK5 wK5 => ?_
    refine AW.region ?_
    refine AOps.step rfl rfl rfl (OpQ.spec (sp_move rfl (.inl rfl)) _) ?_
    refine AOps.weak (by exact Weak.frz (e' := [(2, .ptr 2 n0 0 0), (3, .r (.sl (d4.map GStep.row))), (45, .r (.sl (d4.map GStep.row)))]) (h' := [(2, some (.box n0 94 [.cst (.slice none 0 0), .cst (.slice none 0 0), .cst (.slice none 0 0)]))]) 5003 rfl ⟨.inl (.inl rfl), .inl (.inr (.inr ⟨rfl, rfl⟩)), .inl (.inr (.inr ⟨rfl, rfl⟩)), trivial⟩ ⟨rfl, .inl rfl, trivial⟩) ?_
    refine ob1k h1 fun r1 er1 h2 => ?_
    refine AOps.step rfl rfl rfl (sp_callS (r := .agg [.r (.sl (r1.Adds.map (rSl GElem.row))), .r (.sl (r1.Cuts.map rBool)), .r (.sl (r1.Attrs.map (rSl GAttr.row)))]) (caps := []) (bs := [.r (.sl (d4.map GStep.row))]) rfl (.inl rfl) rfl ⟨.inl ⟨(.inl rfl), rfl⟩, trivial⟩ (fun _ => w_ref_ActOf (er1))) ?_
    refine AOps.step0 rfl rfl (ms_store_box (ds := [.r (.sl (r1.Adds.map (rSl GElem.row))), .r (.sl (r1.Cuts.map rBool)), .r (.sl (r1.Attrs.map (rSl GAttr.row)))]) rfl tz_94 (.inl rfl) rfl (.inl rfl) rfl rfl rfl rfl) ?_
    refine AOps.nil ?_
    refine hK5 _ ?_
    refine AW.ret ?_
    exact retf1 (P := Try.prog) (fun (r : Ref_Act) => .agg [.r (.sl (r.Adds.map (rSl GElem.row))), .r (.sl (r.Cuts.map rBool)), .r (.sl (r.Attrs.map (rSl GAttr.row)))]) h2 (.inl rfl) (.a ta_94 rfl rfl rfl (.g (cs := [.sl (r1.Adds.map (rSl GElem.row)), .sl (r1.Cuts.map rBool), .sl (r1.Attrs.map (rSl GAttr.row))]) rfl rfl))
  refine AW.iter2 (fun (x2 : Int) (d2 : List GStep) i3 => ⟨[(0, .r (.sl (a1.map GAxisStep.row))), (2, .ptr 2 n0 0 0), (3, .own 5003 (i3 0)), (7, .r (.int .i64 (a1.length : Int))), (8, .r (.int .i64 x2))], [(2, some (.box n0 94 [.cst (.slice none 0 0), .cst (.slice none 0 0), .cst (.slice none 0 0)])), (5003, some (.arr (i3 0) 124 4 (d2.map GStep.row)))], (i3 1), 47⟩) (vec [(n0 + 1), (n0 + 2)]) hit1 (Weak.trans (Weak.trans (Weak.adopt 3 5003 124 4 (by decide) rfl) (by exact Weak.cv (e' := [(0, .r (.sl (a1.map GAxisStep.row))), (2, .ptr 2 n0 0 0), (3, .own 5003 (n0 + 1)), (6, .r (.sl (a1.map GAxisStep.row))), (7, .r (.int .i64 (a1.length : Int))), (8, .r (.int .i64 0))]) (h' := [(2, some (.box n0 94 [.cst (.slice none 0 0), .cst (.slice none 0 0), .cst (.slice none 0 0)])), (5003, some (.arr (n0 + 1) 124 4 (([] : List GStep).map GStep.row)))]) ⟨.inl (.inl rfl), .inl (.inl rfl), .inl (.inl rfl), .inl (.inl rfl), .inl (.inl rfl), .inl (.inl rfl), trivial⟩ ⟨.inl rfl, .inl rfl, trivial⟩ (Nat.le_refl _))) (by exact Weak.cv ⟨.inl (.inl rfl), .inl (.inl rfl), .inl (.inl rfl), .inl (.inl rfl), .inl (.inl rfl), trivial⟩ ⟨.inl rfl, .inl rfl, trivial⟩ (Nat.le_refl _))) ?_
  intro x2 d2 i3 v1 hv1 hx1
  have h3 : law_act_L1 a1 x2 d2 = some v1 := hv1; unfold law_act_L1 at h3
  refine AW.seq_w fun K6 hK6 wK6 => ?_
  refine AW.region ?_
  refine AOps.step rfl rfl rfl (OpQ.spec (sp_lss rfl (.inl rfl) (.inl rfl)) _) ?_
  refine AOps.nil ?_
  refine hK6 _ ?_
  refine AW.seq_w fun K7 hK7 wK7 => ?_
  refine AW.cond rfl (fun hc1 => ?_) (fun hc1 => ?_)
  · have h4 := ite_t hc1 h3
    refine AW.skip ?_
    refine hK7 _ ?_
    refine AW.seq_w fun K8 hK8 wK8 => ?_
    refine AW.block ?_
    refine AW.seq_w fun K9 hK9 wK9 => ?_
    refine AW.region ?_
    refine AOps.step rfl rfl rfl (OpQ.spec (sp_move rfl (.inl rfl)) _) ?_
    refine AOps.step rfl rfl rfl (OpQ.spec (sp_assign rfl (.inl rfl)) _) ?_
    refine AOps.nil ?_
    refine hK9 _ ?_
    refine AW.seq_w fun K10 hK10 wK10 => ?_
    refine AW.regionF' [] [0, 1, 2, 3, 4, 5, 6, 7, 8, 9, 10] [11] 12 hmix (by kernel_rfl) rfl rfl rfl rfl rfl ?_
    refine AFl.nil ?_
    refine AF.step rfl rfl rfl (sp_move rfl (.inl rfl)) ?_
    refine AF.step rfl rfl rfl (sp_move rfl (.inl rfl)) ?_
    refine ob1k h4 fun x4 ex4 h5 => ?_
    refine AF.step rfl rfl rfl (ms_idx rfl tg_44.slice (.inl rfl) (.inl rfl) (fun _ => rfl) (fun _ => ex4)) ?_
    refine AF.step rfl rfl rfl (sp_fieldAddr_ro rfl tf_80_0 (.inl rfl)) ?_
    refine AF.step rfl rfl rfl (ms_load (d := .int .i64 x4.Kind) rfl ts_3 (.inl rfl) rfl) ?_
    refine AF.step rfl rfl rfl (sp_move rfl (.inl rfl)) ?_
    refine AF.step rfl rfl rfl (sp_move rfl (.inl rfl)) ?_
    refine AF.step rfl rfl rfl (ms_idx rfl tg_44.slice (.inl rfl) (.inl rfl) (fun _ => rfl) (fun _ => ex4)) ?_
    refine AF.step rfl rfl rfl (sp_fieldAddr_ro rfl tf_80_1 (.inl rfl)) ?_
    refine AF.step rfl rfl rfl (ms_load (d := .int .i64 x4.N) rfl ts_3 (.inl rfl) rfl) ?_
    refine AF.step rfl rfl rfl (sp_build rfl tb_124 (q := [(0, _), (1, _)]) (by exact ⟨rfl, rfl, rfl, (.inl rfl), rfl, rfl, rfl, (.inl rfl), trivial⟩) (cs := [.r (.int .i64 x4.Kind), .r (.int .i64 x4.N), .cst (.slice none 0 0), .cst (.slice none 0 0)]) (by rfl)) ?_
    refine AF.nil ?_
    refine AA.step rfl rfl rfl (msA_alloc (cs := [.r (.int .i64 0), .r (.int .i64 0), .cst (.slice none 0 0), .cst (.slice none 0 0)]) 5 rfl t0_124 rfl rfl) ?_
    refine AA.nil ?_
    refine AOps.step0 rfl rfl (ms_store_box (ds := [.r (.int .i64 x4.Kind), .r (.int .i64 x4.N), .cst (.slice none 0 0), .cst (.slice none 0 0)]) rfl tz_124 (.inl rfl) rfl (.inl rfl) rfl rfl rfl rfl) ?_
    refine AOps.nil ?_
    refine hK10 _ ?_
    refine AW.seq_w fun K11 hK11 wK11 => ?_
    refine AW.seq_w fun K12 hK12 wK12 => ?_
    refine AW.weak (s' := ⟨[(0, .r (.sl (a1.map GAxisStep.row))), (2, .ptr 2 n0 0 0), (3, .own 5003 (i3 0)), (4, .r (.int .i64 x2)), (5, .ptr 5 (i3 1) 0 0), (7, .r (.int .i64 (a1.length : Int))), (8, .r (.int .i64 x2))], [(2, some (.box n0 94 [.cst (.slice none 0 0), .cst (.slice none 0 0), .cst (.slice none 0 0)])), (5, some (.box (i3 1) 124 [.r (.int .i64 x4.Kind), .r (.int .i64 x4.N), .cst (.slice none 0 0), .cst (.slice none 0 0)])), (5003, some (.arr (i3 0) 124 4 (d2.map GStep.row)))], ((i3 1) + 1), 47⟩) (by exact Weak.cv ⟨.inl (.inl rfl), .inl (.inl rfl), .inl (.inl rfl), .inl (.inl rfl), .inl (.inl rfl), .inl (.inl rfl), .inl (.inl rfl), trivial⟩ ⟨.inl rfl, .inl rfl, .inl rfl, trivial⟩ (Nat.le_refl _)) ?_
    refine AW.region ?_
    refine AOps.step rfl rfl rfl (OpQ.spec (sp_fieldAddr_own (ob := .box _ _ _) rfl tf_124_0 (.inl rfl) (fun _ => rfl) rfl) _) ?_
    refine AOps.step rfl rfl rfl (OpQ.spec (ms_load_box (a := .r (.int .i64 x4.Kind)) rfl ts_3 (.inl rfl) rfl rfl) _) ?_
    refine AOps.step rfl rfl rfl (OpQ.spec (sp_eql rfl (.inl rfl) (.inl rfl)) _) ?_
    refine AOps.nil ?_
    refine hK12 _ ?_
    refine jb1k h5 fun p1 hp1 hk2 => ?_
    have J2 : ∀ (s1 : GStep) (i6 : Nat → Nat), p1 = s1 → K11 ⟨[(0, .r (.sl (a1.map GAxisStep.row))), (2, .ptr 2 n0 0 0), (3, .own 5003 (i3 0)), (5, .ptr 5 (i3 1) 0 0), (7, .r (.int .i64 (a1.length : Int))), (8, .r (.int .i64 x2))], [(2, some (.box n0 94 [.cst (.slice none 0 0), .cst (.slice none 0 0), .cst (.slice none 0 0)])), (5, some (.box (i3 1) 124 [.r (.int .i64 s1.Kind), .r (.int .i64 s1.N), .cst (.slice none 0 0), .own 37 (i6 0)])), (37, some (.arr (i6 0) 70 3 (s1.Elems.map GElem.row))), (5003, some (.arr (i3 0) 124 4 (d2.map GStep.row)))], (i6 1), 47⟩ := by
      intro s1 i6 e
      have h6 := hk2 _ e
      refine hK11 _ ?_
      refine AW.region ?_
      refine AOps.step rfl rfl rfl (OpQ.spec (sp_move rfl (.inl rfl)) _) ?_
      refine AOps.step rfl rfl rfl (OpQ.spec (ms_loadA_box rfl ta_124 (.inl rfl) rfl rfl) _) ?_
      refine AOps.weak (by exact Weak.frz (e' := [(0, .r (.sl (a1.map GAxisStep.row))), (2, .ptr 2 n0 0 0), (3, .own 5003 (i3 0)), (5, .ptr 5 (i3 1) 0 0), (7, .r (.int .i64 (a1.length : Int))), (8, .r (.int .i64 x2)), (40, .own 5003 (i3 0)), (41, .agg [.r (.int .i64 s1.Kind), .r (.int .i64 s1.N), .cst (.slice none 0 0), .r (.sl (s1.Elems.map GElem.row))])]) (h' := [(2, some (.box n0 94 [.cst (.slice none 0 0), .cst (.slice none 0 0), .cst (.slice none 0 0)])), (5, some (.box (i3 1) 124 [.r (.int .i64 s1.Kind), .r (.int .i64 s1.N), .cst (.slice none 0 0), .r (.sl (s1.Elems.map GElem.row))])), (5003, some (.arr (i3 0) 124 4 (d2.map GStep.row)))]) 37 rfl ⟨.inl (.inl rfl), .inl (.inl rfl), .inl (.inl rfl), .inl (.inl rfl), .inl (.inl rfl), .inl (.inl rfl), .inl (.inl rfl), .inr ⟨_, _, rfl, rfl, ⟨.inl rfl, .inl rfl, .inl rfl, .inr (.inr ⟨rfl, rfl⟩), trivial⟩⟩, trivial⟩ ⟨rfl, .inl rfl, rfl, .inr (.inr ⟨_, _, _, _, rfl, rfl, ⟨.inl rfl, .inl rfl, .inl rfl, .inr (.inr ⟨rfl, rfl⟩), trivial⟩⟩), rfl, .inl rfl, trivial⟩) ?_
      refine AOps.step rfl rfl rfl (ms_lit 42 rfl tg_122 (f := GStep.row) (l := ([(GStep.mk s1.Kind s1.N [] s1.Elems)] : List GStep)) ⟨rfl, ⟨_, (.inl rfl), rfl⟩, trivial⟩ rfl (fun _ => rfl) rfl) ?_
      refine ob1k h6 fun d5 ed5 h7 => ?_
      refine AOps.step rfl rfl rfl (ms_app rfl tg_122 (.inl rfl) rfl (.inr (.inl ⟨_, _, (.inl rfl), rfl⟩)) ed5) ?_
      refine AOps.step rfl rfl rfl (OpQ.spec (sp_assign rfl (.inl rfl)) _) ?_
      refine AOps.nil ?_
      refine hK8 _ ?_
      refine AW.region ?_
      refine ob1k h7 fun x5 ex5 h8 => ?_
      refine AOps.step rfl rfl rfl (OpQ.spec (ms_add rfl (.inl rfl) (.inl rfl) (fun _ => ex5)) _) ?_
      refine AOps.step rfl rfl rfl (OpQ.spec (sp_move rfl (.inl rfl)) _) ?_
      refine AOps.nil ?_
      exact NextQ2.mk h8 (vec [((i6 1) + 1), ((i6 1) + 2)]) ((by exact Weak.cv ⟨.inl (.inl rfl), .inl (.inl rfl), .inl (.inl rfl), .inl (.inl rfl), .inl (.inl rfl), trivial⟩ ⟨.inl rfl, .inl rfl, trivial⟩ (Nat.le_refl _)))
    refine AW.cond rfl (fun hc2 => ?_) (fun hc2 => ?_)
    · have h9 := ite_t hc2 hp1
      refine AW.seq_w fun K13 hK13 wK13 => ?_
      refine AW.region ?_
      refine AOps.step rfl rfl rfl (OpQ.spec (sp_fieldAddr_own (ob := .box _ _ _) rfl tf_124_1 (.inl rfl) (fun _ => rfl) rfl) _) ?_
      refine AOps.step0 rfl rfl (ms_store_box (ds := [.r (.int .i64 x4.Kind), .r (.int .i64 0), .cst (.slice none 0 0), .cst (.slice none 0 0)]) rfl tz_3 (.inl rfl) rfl (.inl rfl) rfl rfl rfl rfl) ?_
      refine AOps.nil ?_
      refine hK13 _ ?_
      refine AW.seq_w fun K14 hK14 wK14 => ?_
      refine AW.region ?_
      refine AOps.step rfl rfl rfl (OpQ.spec (sp_move rfl (.inl rfl)) _) ?_
      refine AOps.step rfl rfl rfl (OpQ.spec (sp_move rfl (.inl rfl)) _) ?_
      refine AOps.step rfl rfl rfl (OpQ.spec (ms_idx rfl tg_44.slice (.inl rfl) (.inl rfl) (fun _ => rfl) (fun _ => ex4)) _) ?_
      refine AOps.step rfl rfl rfl (OpQ.spec (sp_fieldAddr_ro rfl tf_80_1 (.inl rfl)) _) ?_
      refine AOps.step rfl rfl rfl (OpQ.spec (ms_load (d := .int .i64 x4.N) rfl ts_3 (.inl rfl) rfl) _) ?_
      refine AOps.step rfl rfl rfl (OpQ.spec (sp_move rfl (.inl rfl)) _) ?_
      refine AOps.nil ?_
      refine hK14 _ ?_
      refine AW.block ?_
      refine jc1k h9 fun o2 hit2 hk3 he3 => ?_
      refine AW.iter2 (fun (x7 : Int) (s3 : GStep) i9 => ⟨[(0, .r (.sl (a1.map GAxisStep.row))), (2, .ptr 2 n0 0 0), (3, .own 5003 (i3 0)), (5, .ptr 5 (i3 1) 0 0), (7, .r (.int .i64 (a1.length : Int))), (8, .r (.int .i64 x2)), (30, .r (.int .i64 x4.N)), (31, .r (.int .i64 x7))], [(2, some (.box n0 94 [.cst (.slice none 0 0), .cst (.slice none 0 0), .cst (.slice none 0 0)])), (5, some (.box (i3 1) 124 [.r (.int .i64 s3.Kind), .r (.int .i64 s3.N), .cst (.slice none 0 0), .own 37 (i9 0)])), (37, some (.arr (i9 0) 70 3 (s3.Elems.map GElem.row))), (5003, some (.arr (i3 0) 124 4 (d2.map GStep.row)))], (i9 1), 47⟩) (vec [((i3 1) + 1), ((i3 1) + 2)]) hit2 (Weak.trans (Weak.trans (Weak.adoptBox 5 3 37 70 3 (by decide) rfl rfl (by decide)) (by exact Weak.cv (e' := [(0, .r (.sl (a1.map GAxisStep.row))), (2, .ptr 2 n0 0 0), (3, .own 5003 (i3 0)), (4, .r (.int .i64 x2)), (5, .ptr 5 (i3 1) 0 0), (7, .r (.int .i64 (a1.length : Int))), (8, .r (.int .i64 x2)), (22, .ptr 5 (i3 1) 0 0), (23, .r (.int .i64 x4.Kind)), (24, .r (.bool (decide (x4.Kind = 1)))), (25, .ptr 5 (i3 1) 0 1), (26, .r (.sl (a1.map GAxisStep.row))), (27, .r (.int .i64 x2)), (28, .rop (GAxisStep.row x4) 0), (29, .rop (GAxisStep.row x4) 1), (30, .r (.int .i64 x4.N)), (31, .r (.int .i64 0))]) (h' := [(2, some (.box n0 94 [.cst (.slice none 0 0), .cst (.slice none 0 0), .cst (.slice none 0 0)])), (5, some (.box (i3 1) 124 [.r (.int .i64 x4.Kind), .r (.int .i64 0), .cst (.slice none 0 0), .own 37 ((i3 1) + 1)])), (37, some (.arr ((i3 1) + 1) 70 3 (([] : List GElem).map GElem.row))), (5003, some (.arr (i3 0) 124 4 (d2.map GStep.row)))]) ⟨.inl (.inl rfl), .inl (.inl rfl), .inl (.inl rfl), .inl (.inl rfl), .inl (.inl rfl), .inl (.inl rfl), .inl (.inl rfl), .inl (.inl rfl), .inl (.inl rfl), .inl (.inl rfl), .inl (.inl rfl), .inl (.inl rfl), .inl (.inl rfl), .inl (.inl rfl), .inl (.inl rfl), .inl (.inl rfl), .inl (.inl rfl), trivial⟩ ⟨.inl rfl, .inl rfl, .inl rfl, .inl rfl, trivial⟩ (Nat.le_refl _))) (by exact Weak.cv ⟨.inl (.inl rfl), .inl (.inl rfl), .inl (.inl rfl), .inl (.inl rfl), .inl (.inl rfl), .inl (.inl rfl), .inl (.inl rfl), .inl (.inl rfl), trivial⟩ ⟨.inl rfl, .inl rfl, .inl rfl, .inl rfl, trivial⟩ (Nat.le_refl _))) ?_
      intro x7 s3 i9 v2 hv2 hx2
      have h10 : law_act_L2 x4 x7 s3 = some v2 := hv2; unfold law_act_L2 at h10
      refine AW.seq_w fun K15 hK15 wK15 => ?_
      refine AW.region ?_
      refine AOps.step rfl rfl rfl (OpQ.spec (sp_lss rfl (.inl rfl) (.inl rfl)) _) ?_
      refine AOps.nil ?_
      refine hK15 _ ?_
      refine AW.seq_w fun K16 hK16 wK16 => ?_
      refine AW.cond rfl (fun hc3 => ?_) (fun hc3 => ?_)
      · have h11 := ite_t hc3 h10
        refine AW.skip ?_
        refine hK16 _ ?_
        refine AW.seq_w fun K17 hK17 wK17 => ?_
        refine AW.block ?_
        refine AW.region ?_
        refine AOps.step rfl rfl rfl (OpQ.spec (sp_fieldAddr_own (ob := .box _ _ _) rfl tf_124_3 (.inl rfl) (fun _ => rfl) rfl) _) ?_
        refine AOps.step rfl rfl rfl (OpQ.spec (ms_load_box (a := .own 37 (i9 0)) rfl ts_65 (.inl rfl) rfl rfl) _) ?_
        refine AOps.step rfl rfl rfl (OpQ.spec (sp_build rfl tb_70 (q := [(0, _)]) (by exact ⟨rfl, rfl, rfl, (.inl rfl), trivial⟩) (cs := [.r (.int .i64 120), .r (.int .i64 0), .cst (.slice none 0 0)]) (by rfl)) _) ?_
        refine AOps.step rfl rfl rfl (ms_lit 36 rfl tg_65 (f := GElem.row) (l := ([(GElem.mk 120 0 [])] : List GElem)) ⟨rfl, ⟨_, (.inl rfl), rfl⟩, trivial⟩ rfl (fun _ => rfl) rfl) ?_
        refine ob1k h11 fun l1 el1 h12 => ?_
        refine AOps.step rfl rfl rfl (ms_app rfl tg_65 (.inl rfl) rfl (.inr (.inl ⟨_, _, (.inl rfl), rfl⟩)) el1) ?_
        refine AOps.step rfl rfl rfl (OpQ.spec (sp_fieldAddr_own (ob := .box _ _ _) rfl tf_124_3 (.inl rfl) (fun _ => rfl) rfl) _) ?_
        refine AOps.step0 rfl rfl (ms_store_box (ds := [.r (.int .i64 s3.Kind), .r (.int .i64 s3.N), .cst (.slice none 0 0), .own 37 ((i9 1) + 1)]) rfl tz_65 (.inl rfl) rfl (.inl rfl) rfl rfl rfl rfl) ?_
        refine AOps.nil ?_
        refine hK17 _ ?_
        refine AW.region ?_
        refine ob1k h12 fun x9 ex9 h13 => ?_
        refine AOps.step rfl rfl rfl (OpQ.spec (ms_add rfl (.inl rfl) (.inl rfl) (fun _ => ex9)) _) ?_
        refine AOps.step rfl rfl rfl (OpQ.spec (sp_move rfl (.inl rfl)) _) ?_
        refine AOps.nil ?_
        exact NextQ2.mk h13 (vec [((i9 1) + 1), ((i9 1) + 2)]) ((by exact Weak.cv ⟨.inl (.inl rfl), .inl (.inl rfl), .inl (.inl rfl), .inl (.inl rfl), .inl (.inl rfl), .inl (.inl rfl), .inl (.inl rfl), .inl (.inl rfl), trivial⟩ ⟨.inl rfl, .inl rfl, .inl rfl, .inl rfl, trivial⟩ (Nat.le_refl _)))
      · have h11 := ite_f hc3 h10
        refine AW.exit ?_
        exact wK11 _ _ ((by exact Weak.cv ⟨.inl (.inl rfl), .inl (.inl rfl), .inl (.inl rfl), .inl (.inl rfl), .inl (.inl rfl), .inl (.inl rfl), trivial⟩ ⟨.inl rfl, .inl rfl, .inl rfl, .inl rfl, trivial⟩ (Nat.le_refl _))) (J2 _ (vec [(i9 0), (i9 1)]) (Option.some.inj (he3 _ (hx2 _ (Option.some.inj h11).symm))).symm)
    · have h9 := ite_f hc2 hp1
      refine AW.skip ?_
      exact wK11 _ _ (Weak.trans (Weak.trans (Weak.adoptBox 5 3 37 70 3 (by decide) rfl rfl (by decide)) (by exact Weak.cv (e' := [(0, .r (.sl (a1.map GAxisStep.row))), (2, .ptr 2 n0 0 0), (3, .own 5003 (i3 0)), (4, .r (.int .i64 x2)), (5, .ptr 5 (i3 1) 0 0), (7, .r (.int .i64 (a1.length : Int))), (8, .r (.int .i64 x2)), (22, .ptr 5 (i3 1) 0 0), (23, .r (.int .i64 x4.Kind)), (24, .r (.bool (decide (x4.Kind = 1))))]) (h' := [(2, some (.box n0 94 [.cst (.slice none 0 0), .cst (.slice none 0 0), .cst (.slice none 0 0)])), (5, some (.box (i3 1) 124 [.r (.int .i64 x4.Kind), .r (.int .i64 x4.N), .cst (.slice none 0 0), .own 37 ((i3 1) + 1)])), (37, some (.arr ((i3 1) + 1) 70 3 (([] : List GElem).map GElem.row))), (5003, some (.arr (i3 0) 124 4 (d2.map GStep.row)))]) ⟨.inl (.inl rfl), .inl (.inl rfl), .inl (.inl rfl), .inl (.inl rfl), .inl (.inl rfl), .inl (.inl rfl), .inl (.inl rfl), .inl (.inl rfl), .inl (.inl rfl), .inl (.inl rfl), trivial⟩ ⟨.inl rfl, .inl rfl, .inl rfl, .inl rfl, trivial⟩ (Nat.le_refl _))) (by exact Weak.cv ⟨.inl (.inl rfl), .inl (.inl rfl), .inl (.inl rfl), .inl (.inl rfl), .inl (.inl rfl), .inl (.inl rfl), trivial⟩ ⟨.inl rfl, .inl rfl, .inl rfl, .inl rfl, trivial⟩ (Nat.le_refl _))) (J2 _ (vec [((i3 1) + 1), ((i3 1) + 2)]) (Option.some.inj h9).symm)
  · have h4 := ite_f hc1 h3
    refine AW.exit ?_
    exact wK3 _ _ ((by exact Weak.cv ⟨.inl (.inl rfl), .inl (.inl rfl), trivial⟩ ⟨.inl rfl, .inl rfl, trivial⟩ (Nat.le_refl _))) (J1 _ (vec [(i3 0), (i3 1)]) (hx1 _ (Option.some.inj h4).symm))

end Go.Proofs.Ythhodpedkdapcaa.Al
