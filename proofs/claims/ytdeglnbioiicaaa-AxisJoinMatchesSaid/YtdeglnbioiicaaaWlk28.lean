/- Walks, as printed. -/
import Derived.Test.YtdeglnbioiicaaaPL1
import Derived.Test.YtdeglnbioiicaaaProg
set_option linter.unusedVariables false
namespace Go.Proofs.Ytdeglnbioiicaaa.Al
open Go.Proofs
theorem hmix : Try.prog.follows .mixedOrders = true := by kernel_rfl
theorem i_103 : (Try.prog.info? 103).map (fun i => (i.zero, i.size, i.bytes)) = some (some (.agg #[.slice none 0 0, .int .i64 0, .int .i64 0]), 3, 40) := by kernel_rfl
theorem i_106 : (Try.prog.info? 106).map (fun i => (i.zero, i.size, i.bytes)) = some (some (.agg #[.slice none 0 0, .int .i64 0]), 2, 32) := by kernel_rfl
theorem i_113 : (Try.prog.info? 113).map (fun i => (i.zero, i.size, i.bytes)) = some (some (.agg #[.int .i64 0, .int .i64 0, .slice none 0 0]), 3, 40) := by kernel_rfl
theorem i_128 : (Try.prog.info? 128).map (fun i => (i.zero, i.size, i.bytes)) = some (some (.agg #[.string ⟨#[]⟩, .string ⟨#[]⟩]), 2, 32) := by kernel_rfl
theorem i_22 : (Try.prog.info? 22).map (fun i => (i.zero, i.size, i.bytes)) = some (some (.slice none 0 0), 1, 24) := by kernel_rfl
theorem i_3 : (Try.prog.info? 3).map (fun i => (i.zero, i.size, i.bytes)) = some (some (.int .i64 0), 1, 8) := by kernel_rfl
theorem i_30 : (Try.prog.info? 30).map (fun i => (i.zero, i.size, i.bytes)) = some (some (.slice none 0 0), 1, 24) := by kernel_rfl
theorem i_31 : (Try.prog.info? 31).map (fun i => (i.zero, i.size, i.bytes)) = some (some (.slice none 0 0), 1, 24) := by kernel_rfl
theorem i_32 : (Try.prog.info? 32).map (fun i => (i.zero, i.size, i.bytes)) = some (some (.slice none 0 0), 1, 24) := by kernel_rfl
theorem i_34 : (Try.prog.info? 34).map (fun i => (i.zero, i.size, i.bytes)) = some (some (.agg #[.slice none 0 0, .slice none 0 0, .slice none 0 0]), 3, 72) := by kernel_rfl
theorem i_39 : (Try.prog.info? 39).map (fun i => (i.zero, i.size, i.bytes)) = some (some (.slice none 0 0), 1, 24) := by kernel_rfl
theorem i_4 : (Try.prog.info? 4).map (fun i => (i.zero, i.size, i.bytes)) = some (some (.bool false), 1, 1) := by kernel_rfl
theorem i_47 : (Try.prog.info? 47).map (fun i => (i.zero, i.size, i.bytes)) = some (some (.slice none 0 0), 1, 24) := by kernel_rfl
theorem i_49 : (Try.prog.info? 49).map (fun i => (i.zero, i.size, i.bytes)) = some (some (.agg #[.int .i64 0, .int .i64 0, .slice none 0 0, .slice none 0 0]), 4, 64) := by kernel_rfl
theorem i_9 : (Try.prog.info? 9).map (fun i => (i.zero, i.size, i.bytes)) = some (some (.string ⟨#[]⟩), 1, 16) := by kernel_rfl
theorem i_99 : (Try.prog.info? 99).map (fun i => (i.zero, i.size, i.bytes)) = some (some (.agg #[.int .i64 0, .int .i64 0]), 2, 16) := by kernel_rfl
theorem t0_103 : ZeroTy Try.prog 103 (.agg #[.slice none 0 0, .int .i64 0, .int .i64 0]) := ZeroTy.of i_103
theorem t0_113 : ZeroTy Try.prog 113 (.agg #[.int .i64 0, .int .i64 0, .slice none 0 0]) := ZeroTy.of i_113
theorem t0_34 : ZeroTy Try.prog 34 (.agg #[.slice none 0 0, .slice none 0 0, .slice none 0 0]) := ZeroTy.of i_34
theorem t0_49 : ZeroTy Try.prog 49 (.agg #[.int .i64 0, .int .i64 0, .slice none 0 0, .slice none 0 0]) := ZeroTy.of i_49
theorem t0_99 : ZeroTy Try.prog 99 (.agg #[.int .i64 0, .int .i64 0]) := ZeroTy.of i_99
theorem ta_113 : AggTy Try.prog 113 3 := AggTy.of Try.underlying113 rfl i_113
theorem ta_128 : AggTy Try.prog 128 2 := AggTy.of Try.underlying128 rfl i_128
theorem ta_34 : AggTy Try.prog 34 3 := AggTy.of Try.underlying34 rfl i_34
theorem ta_49 : AggTy Try.prog 49 4 := AggTy.of Try.underlying49 rfl i_49
theorem ta_99 : AggTy Try.prog 99 2 := AggTy.of Try.underlying99 rfl i_99
theorem tb_106 : BuildTy Try.prog 106 [(0, 1), (1, 1)] [.slice none 0 0, .int .i64 0] := BuildTy.of Try.underlying106 (fun w => by kernel_rfl) i_106
theorem tb_113 : BuildTy Try.prog 113 [(0, 1), (1, 1), (2, 1)] [.int .i64 0, .int .i64 0, .slice none 0 0] := BuildTy.of Try.underlying113 (fun w => by kernel_rfl) i_113
theorem tb_128 : BuildTy Try.prog 128 [(0, 1), (1, 1)] [.string ⟨#[]⟩, .string ⟨#[]⟩] := BuildTy.of Try.underlying128 (fun w => by kernel_rfl) i_128
theorem tb_34 : BuildTy Try.prog 34 [(0, 1), (1, 1), (2, 1)] [.slice none 0 0, .slice none 0 0, .slice none 0 0] := BuildTy.of Try.underlying34 (fun w => by kernel_rfl) i_34
theorem tb_49 : BuildTy Try.prog 49 [(0, 1), (1, 1), (2, 1), (3, 1)] [.int .i64 0, .int .i64 0, .slice none 0 0, .slice none 0 0] := BuildTy.of Try.underlying49 (fun w => by kernel_rfl) i_49
theorem tb_99 : BuildTy Try.prog 99 [(0, 1), (1, 1)] [.int .i64 0, .int .i64 0] := BuildTy.of Try.underlying99 (fun w => by kernel_rfl) i_99
theorem te_128 : EqTy Try.prog 128 [some .string, some .string] := EqTy.of Try.underlying128 (by kernel_rfl) (by kernel_rfl) (by exact ⟨rfl, rfl, Try.underlying9, rfl, rfl, Try.underlying9, trivial⟩)
theorem te_99 : EqTy Try.prog 99 [some (.int .i64), some (.int .i64)] := EqTy.of Try.underlying99 (by kernel_rfl) (by kernel_rfl) (by exact ⟨rfl, rfl, Try.underlying3, rfl, rfl, Try.underlying3, trivial⟩)
theorem tf_103_0 : FieldTy Try.prog 103 0 0 := FieldTy.of Try.underlying103 rfl rfl i_22 (by decide)
theorem tf_103_1 : FieldTy Try.prog 103 1 1 := FieldTy.of Try.underlying103 rfl rfl i_3 (by decide)
theorem tf_103_2 : FieldTy Try.prog 103 2 2 := FieldTy.of Try.underlying103 rfl rfl i_3 (by decide)
theorem tf_106_0 : FieldTy Try.prog 106 0 0 := FieldTy.of Try.underlying106 rfl rfl i_22 (by decide)
theorem tf_106_1 : FieldTy Try.prog 106 1 1 := FieldTy.of Try.underlying106 rfl rfl i_3 (by decide)
theorem tf_113_2 : FieldTy Try.prog 113 2 2 := FieldTy.of Try.underlying113 rfl rfl i_47 (by decide)
theorem tf_128_0 : FieldTy Try.prog 128 0 0 := FieldTy.of Try.underlying128 rfl rfl i_9 (by decide)
theorem tf_128_1 : FieldTy Try.prog 128 1 1 := FieldTy.of Try.underlying128 rfl rfl i_9 (by decide)
theorem tf_34_0 : FieldTy Try.prog 34 0 0 := FieldTy.of Try.underlying34 rfl rfl i_30 (by decide)
theorem tf_34_1 : FieldTy Try.prog 34 1 1 := FieldTy.of Try.underlying34 rfl rfl i_31 (by decide)
theorem tf_34_2 : FieldTy Try.prog 34 2 2 := FieldTy.of Try.underlying34 rfl rfl i_32 (by decide)
theorem tf_49_0 : FieldTy Try.prog 49 0 0 := FieldTy.of Try.underlying49 rfl rfl i_3 (by decide)
theorem tf_49_1 : FieldTy Try.prog 49 1 1 := FieldTy.of Try.underlying49 rfl rfl i_3 (by decide)
theorem tf_49_2 : FieldTy Try.prog 49 2 2 := FieldTy.of Try.underlying49 rfl rfl i_47 (by decide)
theorem tf_49_3 : FieldTy Try.prog 49 3 3 := FieldTy.of Try.underlying49 rfl rfl i_39 (by decide)
theorem tf_99_0 : FieldTy Try.prog 99 0 0 := FieldTy.of Try.underlying99 rfl rfl i_3 (by decide)
theorem tf_99_1 : FieldTy Try.prog 99 1 1 := FieldTy.of Try.underlying99 rfl rfl i_3 (by decide)
theorem tg_22 : GrowTy Try.prog 22 99 2 16 := GrowTy.of Try.underlying22 i_99 rfl rfl (by decide)
theorem tg_30 : GrowTy Try.prog 30 39 1 24 := GrowTy.of Try.underlying30 i_39 rfl rfl (by decide)
theorem tg_31 : GrowTy Try.prog 31 4 1 1 := GrowTy.of Try.underlying31 i_4 rfl rfl (by decide)
theorem tg_32 : GrowTy Try.prog 32 47 1 24 := GrowTy.of Try.underlying32 i_47 rfl rfl (by decide)
theorem tg_39 : GrowTy Try.prog 39 113 3 40 := GrowTy.of Try.underlying39 i_113 rfl rfl (by decide)
theorem tg_42 : GrowTy Try.prog 42 49 4 64 := GrowTy.of Try.underlying42 i_49 rfl rfl (by decide)
theorem tg_47 : GrowTy Try.prog 47 128 2 32 := GrowTy.of Try.underlying47 i_128 rfl rfl (by decide)
theorem tg_84 : GrowTy Try.prog 84 3 1 8 := GrowTy.of Try.underlying84 i_3 rfl rfl (by decide)
theorem tr_113 : ZRow Try.prog 113 [.int .i64 0, .int .i64 0, .sl []] := ZRow.of i_113 rfl
theorem ts_22 : ScalTy Try.prog 22 := ScalTy.of Try.underlying22 rfl i_22
theorem ts_3 : ScalTy Try.prog 3 := ScalTy.of Try.underlying3 rfl i_3
theorem ts_30 : ScalTy Try.prog 30 := ScalTy.of Try.underlying30 rfl i_30
theorem ts_31 : ScalTy Try.prog 31 := ScalTy.of Try.underlying31 rfl i_31
theorem ts_32 : ScalTy Try.prog 32 := ScalTy.of Try.underlying32 rfl i_32
theorem ts_39 : ScalTy Try.prog 39 := ScalTy.of Try.underlying39 rfl i_39
theorem ts_4 : ScalTy Try.prog 4 := ScalTy.of Try.underlying4 rfl i_4
theorem ts_47 : ScalTy Try.prog 47 := ScalTy.of Try.underlying47 rfl i_47
theorem ts_9 : ScalTy Try.prog 9 := ScalTy.of Try.underlying9 rfl i_9
theorem tz_113 : ∃ i, Try.prog.info? 113 = some i ∧ i.size = 3 := size_of i_113
theorem tz_22 : ∃ i, Try.prog.info? 22 = some i ∧ i.size = 1 := size_of i_22
theorem tz_3 : ∃ i, Try.prog.info? 3 = some i ∧ i.size = 1 := size_of i_3
theorem tz_30 : ∃ i, Try.prog.info? 30 = some i ∧ i.size = 1 := size_of i_30
theorem tz_31 : ∃ i, Try.prog.info? 31 = some i ∧ i.size = 1 := size_of i_31
theorem tz_32 : ∃ i, Try.prog.info? 32 = some i ∧ i.size = 1 := size_of i_32
theorem tz_34 : ∃ i, Try.prog.info? 34 = some i ∧ i.size = 3 := size_of i_34
theorem tz_39 : ∃ i, Try.prog.info? 39 = some i ∧ i.size = 1 := size_of i_39
theorem tz_47 : ∃ i, Try.prog.info? 47 = some i ∧ i.size = 1 := size_of i_47
theorem tz_49 : ∃ i, Try.prog.info? 49 = some i ∧ i.size = 4 := size_of i_49
theorem tz_99 : ∃ i, Try.prog.info? 99 = some i ∧ i.size = 2 := size_of i_99
set_option maxHeartbeats 4000000 in
set_option maxRecDepth 20000 in
theorem w_axis_Check {a1 : List GAxisStep} {r : Int} (h : axis_Check a1 = some r) : ARO Try.prog 65 [.r (.sl (a1.map GAxisStep.row))] (.r (.int .i64 r)) := by
  unfold axis_Check at h
  refine ARO.mkF Try.func65 rfl rfl Try.ntmps65 rfl (Nat.le_of_ble_eq_true rfl) fun n0 => ?_
  refine AW.seq_w fun K1 hK1 wK1 => ?_
  refine AW.region ?_
  refine AOps.step rfl rfl rfl (OpQ.spec (sp_assign rfl (.inl rfl)) _) ?_
  refine AOps.nil ?_
  refine hK1 _ ?_
  refine AW.seq_w fun K2 hK2 wK2 => ?_
  refine AW.region ?_
  refine AOps.step rfl rfl rfl (OpQ.spec (sp_assign rfl (.inl rfl)) _) ?_
  refine AOps.step rfl rfl rfl (OpQ.spec (sp_assign rfl (.inl rfl)) _) ?_
  refine AOps.nil ?_
  refine hK2 _ ?_
  refine AW.seq_w fun K3 hK3 wK3 => ?_
  refine AW.seq_w fun K4 hK4 wK4 => ?_
  refine AW.region ?_
  refine AOps.step rfl rfl rfl (OpQ.spec (sp_move rfl (.inl rfl)) _) ?_
  refine AOps.step rfl rfl rfl (OpQ.spec (ms_len rfl tg_22.slice (.inl rfl)) _) ?_
  refine AOps.step rfl rfl rfl (OpQ.spec (sp_move rfl (.inl rfl)) _) ?_
  refine AOps.nil ?_
  refine hK4 _ ?_
  refine AW.block ?_
  refine jc2k h fun o1 hit1 hk1 he1 => ?_
  have J1 : ∀ (before4 : Int) (after4 : Int) (i5 : Nat → Nat), o1 = .nrm (before4, after4) → K3 ⟨[(3, .r (.int .i64 before4)), (4, .r (.int .i64 after4))], [], (i5 0), 83⟩ := by
    intro before4 after4 i5 e
    have h1 := hk1 _ _ e
    refine hK3 _ ?_
    refine AW.seq_w fun K5 hK5 wK5 => ?_
    refine AW.seq_w fun K6 hK6 wK6 => ?_
    refine AW.region ?_
    refine AOps.step rfl rfl rfl (OpQ.spec (sp_move rfl (.inl rfl)) _) ?_
    refine AOps.step rfl rfl rfl (OpQ.spec (sp_gtr rfl (.inl rfl) (.inl rfl)) _) ?_
    refine AOps.step rfl rfl rfl (OpQ.spec (sp_move rfl (.inl rfl)) _) ?_
    refine AOps.stepW (.one rfl rfl rfl) rfl rfl (OpQ.spec (sp_move rfl (.inl rfl)) _) ?_
    refine AOps.stepW (.one rfl rfl rfl) rfl rfl (OpQ.spec (sp_gtr rfl (.inr ⟨_, (by exact id), rfl⟩) (.inl rfl)) _) ?_
    refine AOps.step rfl rfl rfl (OpQ.spec (sp_or rfl (.inl rfl) (.inr ⟨_, (by exact id), rfl⟩)) _) ?_
    refine AOps.nil ?_
    refine hK6 _ ?_
    refine AW.cond rfl (fun hc1 => ?_) (fun hc1 => ?_)
    · have h2 := ite_t hc1 h1
      refine AW.seq_w fun K7 hK7 wK7 => ?_
      refine AW.region ?_
      refine AOps.step rfl rfl rfl (OpQ.spec (sp_assign rfl (.inl rfl)) _) ?_
      refine AOps.nil ?_
      refine hK7 _ ?_
      refine AW.ret ?_
      exact retf1 (P := Try.prog) (fun (r : Int) => .r (.int .i64 r)) h2 (.inl rfl) (.t (.d rfl))
    · have h2 := ite_f hc1 h1
      refine AW.skip ?_
      refine hK5 _ ?_
      refine AW.seq_w fun K8 hK8 wK8 => ?_
      refine AW.region ?_
      refine AOps.step rfl rfl rfl (OpQ.spec (sp_assign rfl (.inl rfl)) _) ?_
      refine AOps.nil ?_
      refine hK8 _ ?_
      refine AW.ret ?_
      exact retf1 (P := Try.prog) (fun (r : Int) => .r (.int .i64 r)) h2 (.inl rfl) (.t (.d rfl))
  refine AW.iter3 (fun (before2 : Int) (after2 : Int) (x2 : Int) i3 => ⟨[(0, .r (.sl (a1.map GAxisStep.row))), (3, .r (.int .i64 before2)), (4, .r (.int .i64 after2)), (7, .r (.sl (a1.map GAxisStep.row))), (8, .r (.int .i64 (a1.length : Int))), (9, .r (.int .i64 x2))], [], (i3 0), 83⟩) (vec [n0]) hit1 ((by exact Weak.cv ⟨.inl (.inl rfl), .inl (.inl rfl), .inl (.inl rfl), .inl (.inl rfl), .inl (.inl rfl), .inl (.inl rfl), trivial⟩ trivial (Nat.le_refl _))) ?_
  intro before2 after2 x2 i3 v1 hv1 hx1
  have h3 : axis_Check_L1 a1 before2 after2 x2 = some v1 := hv1; unfold axis_Check_L1 at h3
  refine AW.seq_w fun K9 hK9 wK9 => ?_
  refine AW.region ?_
  refine AOps.step rfl rfl rfl (OpQ.spec (sp_lss rfl (.inl rfl) (.inl rfl)) _) ?_
  refine AOps.nil ?_
  refine hK9 _ ?_
  refine AW.seq_w fun K10 hK10 wK10 => ?_
  refine AW.cond rfl (fun hc2 => ?_) (fun hc2 => ?_)
  · have h4 := ite_t hc2 h3
    refine AW.skip ?_
    refine hK10 _ ?_
    refine AW.seq_w fun K11 hK11 wK11 => ?_
    refine AW.block ?_
    refine jc2k h4 fun p1 hp1 hk2 he2 => ?_
    have J2 : ∀ (before5 : Int) (after5 : Int) (i6 : Nat → Nat), p1 = .nrm (before5, after5) → K11 ⟨[(0, .r (.sl (a1.map GAxisStep.row))), (3, .r (.int .i64 before5)), (4, .r (.int .i64 after5)), (7, .r (.sl (a1.map GAxisStep.row))), (8, .r (.int .i64 (a1.length : Int))), (9, .r (.int .i64 x2))], [], (i6 0), 83⟩ := by
      intro before5 after5 i6 e
      have h5 := hk2 _ _ e
      refine hK11 _ ?_
      refine AW.region ?_
      refine ob1k h5 fun x4 ex4 h6 => ?_
      refine AOps.step rfl rfl rfl (OpQ.spec (ms_add rfl (.inl rfl) (.inl rfl) (fun _ => ex4)) _) ?_
      refine AOps.step rfl rfl rfl (OpQ.spec (sp_move rfl (.inl rfl)) _) ?_
      refine AOps.nil ?_
      exact NextQ3.mk h6 (vec [(i6 0)]) ((by exact Weak.cv ⟨.inl (.inl rfl), .inl (.inl rfl), .inl (.inl rfl), .inl (.inl rfl), .inl (.inl rfl), .inl (.inl rfl), trivial⟩ trivial (Nat.le_refl _)))
    refine AW.seq_w fun K12 hK12 wK12 => ?_
    refine AW.region ?_
    refine AOps.step rfl rfl rfl (OpQ.spec (sp_move rfl (.inl rfl)) _) ?_
    refine ob1k hp1 fun x5 ex5 h7 => ?_
    refine AOps.step rfl rfl rfl (OpQ.spec (ms_idx rfl tg_22.slice (.inl rfl) (.inl rfl) (fun _ => rfl) (fun _ => ex5)) _) ?_
    refine AOps.step rfl rfl rfl (OpQ.spec (ms_loadA (cs := [.r (.int .i64 x5.Kind), .r (.int .i64 x5.N)]) rfl ta_99 (.inl rfl) rfl rfl) _) ?_
    refine AOps.step rfl rfl rfl (ms_alloc (cs := [.r (.int .i64 0), .r (.int .i64 0)]) 6 rfl t0_99 rfl rfl) ?_
    refine AOps.step rfl rfl rfl (OpQ.spec (sp_assign rfl (.inl rfl)) _) ?_
    refine AOps.step0 rfl rfl (ms_store_box (ds := [.r (.int .i64 x5.Kind), .r (.int .i64 x5.N)]) rfl tz_99 (.inl rfl) rfl (.inl rfl) rfl rfl rfl rfl) ?_
    refine AOps.nil ?_
    refine hK12 _ ?_
    refine AW.seq_w fun K13 hK13 wK13 => ?_
    refine AW.block ?_
    refine AW.seq_w fun K14 hK14 wK14 => ?_
    refine AW.region ?_
    refine AOps.step rfl rfl rfl (OpQ.spec (sp_fieldAddr_own (ob := .box _ _ _) rfl tf_99_0 (.inl rfl) (fun _ => rfl) rfl) _) ?_
    refine AOps.step rfl rfl rfl (OpQ.spec (ms_load_box (a := .r (.int .i64 x5.Kind)) rfl ts_3 (.inl rfl) rfl rfl) _) ?_
    refine AOps.step rfl rfl rfl (OpQ.spec (sp_lss rfl (.inl rfl) (.inl rfl)) _) ?_
    refine AOps.step rfl rfl rfl (OpQ.spec (sp_move rfl (.inl rfl)) _) ?_
    refine AOps.stepW (.one rfl rfl rfl) rfl rfl (OpQ.spec (sp_fieldAddr_own (ob := .box _ _ _) rfl tf_99_0 (.inl rfl) (fun _ => rfl) rfl) _) ?_
    refine AOps.stepW (.one rfl rfl rfl) rfl rfl (OpQ.spec (ms_load_box (a := .r (.int .i64 x5.Kind)) rfl ts_3 (.inr ⟨_, (by exact id), rfl⟩) rfl rfl) _) ?_
    refine AOps.stepW (.one rfl rfl rfl) rfl rfl (OpQ.spec (sp_gtr rfl (.inr ⟨_, (by exact id), rfl⟩) (.inl rfl)) _) ?_
    refine AOps.step rfl rfl rfl (OpQ.spec (sp_or rfl (.inl rfl) (.inr ⟨_, (by exact id), rfl⟩)) _) ?_
    refine AOps.step rfl rfl rfl (OpQ.spec (sp_assign rfl (.inl rfl)) _) ?_
    refine AOps.nil ?_
    refine hK14 _ ?_
    refine AW.cond rfl (fun hc3 => ?_) (fun hc3 => ?_)
    · have h8 := ite_t hc3 h7
      refine AW.seq_w fun K15 hK15 wK15 => ?_
      refine AW.weak (s' := ⟨[], [], ((i3 0) + 1), 83⟩) (by exact Weak.cv trivial trivial (Nat.le_refl _)) ?_
      refine AW.region ?_
      refine AOps.step rfl rfl rfl (OpQ.spec (sp_assign rfl (.inl rfl)) _) ?_
      refine AOps.nil ?_
      refine hK15 _ ?_
      refine AW.ret ?_
      exact retf1 (P := Try.prog) (fun (r : Int) => .r (.int .i64 r)) (he1 _ (hx1 _ (Option.some.inj (he2 _ (Option.some.inj h8).symm)).symm)) (.inl rfl) (.t (.d rfl))
    · have h8 := ite_f hc3 h7
      refine AW.seq_w fun K16 hK16 wK16 => ?_
      refine AW.weak (s' := ⟨[(0, .r (.sl (a1.map GAxisStep.row))), (3, .r (.int .i64 before2)), (4, .r (.int .i64 after2)), (5, .r (.int .i64 x2)), (6, .ptr 6 (i3 0) 0 0), (7, .r (.sl (a1.map GAxisStep.row))), (8, .r (.int .i64 (a1.length : Int))), (9, .r (.int .i64 x2))], [(6, some (.box (i3 0) 99 [.r (.int .i64 x5.Kind), .r (.int .i64 x5.N)]))], ((i3 0) + 1), 83⟩) (by exact Weak.cv ⟨.inl (.inl rfl), .inl (.inl rfl), .inl (.inl rfl), .inl (.inl rfl), .inl (.inl rfl), .inl (.inl rfl), .inl (.inl rfl), .inl (.inl rfl), trivial⟩ ⟨.inl rfl, trivial⟩ (Nat.le_refl _)) ?_
      refine AW.region ?_
      refine AOps.step rfl rfl rfl (OpQ.spec (sp_fieldAddr_own (ob := .box _ _ _) rfl tf_99_1 (.inl rfl) (fun _ => rfl) rfl) _) ?_
      refine AOps.step rfl rfl rfl (OpQ.spec (ms_load_box (a := .r (.int .i64 x5.N)) rfl ts_3 (.inl rfl) rfl rfl) _) ?_
      refine AOps.step rfl rfl rfl (OpQ.spec (sp_lss rfl (.inl rfl) (.inl rfl)) _) ?_
      refine AOps.step rfl rfl rfl (OpQ.spec (sp_move rfl (.inl rfl)) _) ?_
      refine AOps.stepW (.one rfl rfl rfl) rfl rfl (OpQ.spec (sp_fieldAddr_own (ob := .box _ _ _) rfl tf_99_1 (.inl rfl) (fun _ => rfl) rfl) _) ?_
      refine AOps.stepW (.one rfl rfl rfl) rfl rfl (OpQ.spec (ms_load_box (a := .r (.int .i64 x5.N)) rfl ts_3 (.inr ⟨_, (by exact id), rfl⟩) rfl rfl) _) ?_
      refine AOps.stepW (.one rfl rfl rfl) rfl rfl (OpQ.spec (sp_gtr rfl (.inr ⟨_, (by exact id), rfl⟩) (.inl rfl)) _) ?_
      refine AOps.step rfl rfl rfl (OpQ.spec (sp_or rfl (.inl rfl) (.inr ⟨_, (by exact id), rfl⟩)) _) ?_
      refine AOps.step rfl rfl rfl (OpQ.spec (sp_assign rfl (.inl rfl)) _) ?_
      refine AOps.nil ?_
      refine hK16 _ ?_
      refine AW.cond rfl (fun hc4 => ?_) (fun hc4 => ?_)
      · have h9 := ite_t hc4 h8
        refine AW.seq_w fun K17 hK17 wK17 => ?_
        refine AW.weak (s' := ⟨[], [], ((i3 0) + 1), 83⟩) (by exact Weak.cv trivial trivial (Nat.le_refl _)) ?_
        refine AW.region ?_
        refine AOps.step rfl rfl rfl (OpQ.spec (sp_assign rfl (.inl rfl)) _) ?_
        refine AOps.nil ?_
        refine hK17 _ ?_
        refine AW.ret ?_
        exact retf1 (P := Try.prog) (fun (r : Int) => .r (.int .i64 r)) (he1 _ (hx1 _ (Option.some.inj (he2 _ (Option.some.inj h9).symm)).symm)) (.inl rfl) (.t (.d rfl))
      · have h9 := ite_f hc4 h8
        refine AW.seq_w fun K18 hK18 wK18 => ?_
        refine AW.regionQ hmix (by kernel_rfl) ?_
        refine AQ.step rfl rfl rfl (sp_move rfl (.inl rfl)) ?_
        refine AQ.step rfl rfl rfl (sp_gtr rfl (.inl rfl) (.inl rfl)) ?_
        refine AQ.step rfl rfl rfl (sp_move rfl (.inl rfl)) ?_
        refine AQ.stepW (.one rfl rfl rfl) rfl rfl (sp_move rfl (.inl rfl)) ?_
        refine AQ.stepW (.one rfl rfl rfl) rfl rfl (sp_move rfl (.inl rfl)) ?_
        refine ob1k h9 fun x6 ex6 h10 => ?_
        refine AQ.stepW (.one rfl rfl rfl) rfl rfl (ms_sub rfl (.inr ⟨_, (by exact id), rfl⟩) (.inl rfl) (gdt ex6)) ?_
        refine ob1k h10 fun x7 ex7 h11 => ?_
        refine AQ.stepW (.one rfl rfl rfl) rfl rfl (ms_idx rfl tg_22.slice (.inr ⟨_, (by exact id), rfl⟩) (.inr ⟨_, (by exact id), rfl⟩) (fun _ => rfl) (gdt ex7)) ?_
        refine AQ.stepW (.one rfl rfl rfl) rfl rfl (sp_fieldAddr_ro rfl tf_99_0 (.inr ⟨_, (by exact id), rfl⟩)) ?_
        refine AQ.stepW (.one rfl rfl rfl) rfl rfl (ms_load (d := .int .i64 x7.Kind) rfl ts_3 (.inr ⟨_, (by exact id), rfl⟩) rfl) ?_
        refine AQ.stepW (.one rfl rfl rfl) rfl rfl (sp_fieldAddr_own (ob := .box _ _ _) rfl tf_99_0 (.inl rfl) (fun _ => rfl) rfl) ?_
        refine AQ.stepW (.one rfl rfl rfl) rfl rfl (ms_load_box (a := .r (.int .i64 x5.Kind)) rfl ts_3 (.inr ⟨_, (by exact id), rfl⟩) rfl rfl) ?_
        refine AQ.stepW (.one rfl rfl rfl) rfl rfl (sp_eql rfl (.inr ⟨_, (by exact id), rfl⟩) (.inr ⟨_, (by exact id), rfl⟩)) ?_
        refine AQ.stepW (.one rfl rfl rfl) rfl rfl (sp_move rfl (.inr ⟨_, (by exact id), rfl⟩)) ?_
        refine AQ.stepW (.two rfl rfl rfl) rfl rfl (sp_move rfl (.inl rfl)) ?_
        refine AQ.stepW (.two rfl rfl rfl) rfl rfl (sp_move rfl (.inl rfl)) ?_
        refine AQ.stepW (.two rfl rfl rfl) rfl rfl (ms_sub rfl (.inr ⟨_, (by exact id), rfl⟩) (.inl rfl) (fun h => gdt ex6 (Bool.and_eq_true_iff.1 h).1)) ?_
        refine AQ.stepW (.two rfl rfl rfl) rfl rfl (ms_idx rfl tg_22.slice (.inr ⟨_, (by exact id), rfl⟩) (.inr ⟨_, (by exact id), rfl⟩) (fun _ => rfl) (fun h => gdt ex7 (Bool.and_eq_true_iff.1 h).1)) ?_
        refine AQ.stepW (.two rfl rfl rfl) rfl rfl (sp_fieldAddr_ro rfl tf_99_0 (.inr ⟨_, (by exact id), rfl⟩)) ?_
        refine AQ.stepW (.two rfl rfl rfl) rfl rfl (ms_load (d := .int .i64 x7.Kind) rfl ts_3 (.inr ⟨_, (by exact id), rfl⟩) rfl) ?_
        refine AQ.stepW (.two rfl rfl rfl) rfl rfl (sp_eql rfl (.inr ⟨_, (by exact id), rfl⟩) (.inl rfl)) ?_
        refine AQ.stepW (.two rfl rfl rfl) rfl rfl (sp_move rfl (.inr ⟨_, (by exact id), rfl⟩)) ?_
        refine AQ.stepW (.two rfl rfl rfl) rfl rfl (sp_fieldAddr_own (ob := .box _ _ _) rfl tf_99_0 (.inl rfl) (fun _ => rfl) rfl) ?_
        refine AQ.stepW (.two rfl rfl rfl) rfl rfl (ms_load_box (a := .r (.int .i64 x5.Kind)) rfl ts_3 (.inr ⟨_, (by exact id), rfl⟩) rfl rfl) ?_
        refine AQ.stepW (.two rfl rfl rfl) rfl rfl (sp_eql rfl (.inr ⟨_, (by exact id), rfl⟩) (.inl rfl)) ?_
        refine AQ.stepW (.two rfl rfl rfl) rfl rfl (sp_and rfl (.inr ⟨_, (by exact id), rfl⟩) (.inr ⟨_, (by exact id), rfl⟩)) ?_
        refine AQ.stepW (.one rfl rfl rfl) rfl rfl (sp_or rfl (.inr ⟨_, (by exact id), rfl⟩) (.inr ⟨_, (by exact id), rfl⟩)) ?_
        refine AQ.step rfl rfl rfl (sp_and rfl (.inl rfl) (.inr ⟨_, (by exact id), rfl⟩)) ?_
        refine AQ.step rfl rfl rfl (sp_assign rfl (.inl rfl)) ?_
        refine AQ.nil ?_
        refine hK18 _ ?_
        refine AW.cond rfl (fun hc5 => ?_) (fun hc5 => ?_)
        · have h12 := ite_t hc5 h11
          refine AW.seq_w fun K19 hK19 wK19 => ?_
          refine AW.weak (s' := ⟨[], [], ((i3 0) + 1), 83⟩) (by exact Weak.cv trivial trivial (Nat.le_refl _)) ?_
          refine AW.region ?_
          refine AOps.step rfl rfl rfl (OpQ.spec (sp_assign rfl (.inl rfl)) _) ?_
          refine AOps.nil ?_
          refine hK19 _ ?_
          refine AW.ret ?_
          exact retf1 (P := Try.prog) (fun (r : Int) => .r (.int .i64 r)) (he1 _ (hx1 _ (Option.some.inj (he2 _ (Option.some.inj h12).symm)).symm)) (.inl rfl) (.t (.d rfl))
        · have h12 := ite_f hc5 h11
          refine AW.skip ?_
          refine hK13 _ ?_
          refine AW.seq_w fun K20 hK20 wK20 => ?_
          refine AW.seq_w fun K21 hK21 wK21 => ?_
          refine AW.weak (s' := ⟨[(0, .r (.sl (a1.map GAxisStep.row))), (3, .r (.int .i64 before2)), (4, .r (.int .i64 after2)), (6, .ptr 6 (i3 0) 0 0), (7, .r (.sl (a1.map GAxisStep.row))), (8, .r (.int .i64 (a1.length : Int))), (9, .r (.int .i64 x2))], [(6, some (.box (i3 0) 99 [.r (.int .i64 x5.Kind), .r (.int .i64 x5.N)]))], ((i3 0) + 1), 83⟩) (by exact Weak.cv ⟨.inl (.inl rfl), .inl (.inl rfl), .inl (.inl rfl), .inl (.inl rfl), .inl (.inl rfl), .inl (.inl rfl), .inl (.inl rfl), trivial⟩ ⟨.inl rfl, trivial⟩ (Nat.le_refl _)) ?_
          refine AW.region ?_
          refine AOps.step rfl rfl rfl (OpQ.spec (sp_fieldAddr_own (ob := .box _ _ _) rfl tf_99_0 (.inl rfl) (fun _ => rfl) rfl) _) ?_
          refine AOps.step rfl rfl rfl (OpQ.spec (ms_load_box (a := .r (.int .i64 x5.Kind)) rfl ts_3 (.inl rfl) rfl rfl) _) ?_
          refine AOps.step rfl rfl rfl (OpQ.spec (sp_neq rfl (.inl rfl) (.inl rfl)) _) ?_
          refine AOps.nil ?_
          refine hK21 _ ?_
          refine jb1k h12 fun p2 hp2 hk3 => ?_
          have J3 : ∀ (before6 : Int) (i7 : Nat → Nat), p2 = before6 → K20 ⟨[(0, .r (.sl (a1.map GAxisStep.row))), (3, .r (.int .i64 before6)), (4, .r (.int .i64 after2)), (6, .ptr 6 (i3 0) 0 0), (7, .r (.sl (a1.map GAxisStep.row))), (8, .r (.int .i64 (a1.length : Int))), (9, .r (.int .i64 x2))], [(6, some (.box (i3 0) 99 [.r (.int .i64 x5.Kind), .r (.int .i64 x5.N)]))], (i7 0), 83⟩ := by
            intro before6 i7 e
            have h13 := hk3 _ e
            refine hK20 _ ?_
            refine AW.seq_w fun K22 hK22 wK22 => ?_
            refine AW.region ?_
            refine AOps.step rfl rfl rfl (OpQ.spec (sp_fieldAddr_own (ob := .box _ _ _) rfl tf_99_0 (.inl rfl) (fun _ => rfl) rfl) _) ?_
            refine AOps.step rfl rfl rfl (OpQ.spec (ms_load_box (a := .r (.int .i64 x5.Kind)) rfl ts_3 (.inl rfl) rfl rfl) _) ?_
            refine AOps.step rfl rfl rfl (OpQ.spec (sp_neq rfl (.inl rfl) (.inl rfl)) _) ?_
            refine AOps.nil ?_
            refine hK22 _ ?_
            refine AW.cond rfl (fun hc6 => ?_) (fun hc6 => ?_)
            · have h14 := ite_t hc6 h13
              refine AW.region ?_
              refine AOps.step rfl rfl rfl (OpQ.spec (sp_move rfl (.inl rfl)) _) ?_
              refine AOps.step rfl rfl rfl (OpQ.spec (sp_fieldAddr_own (ob := .box _ _ _) rfl tf_99_1 (.inl rfl) (fun _ => rfl) rfl) _) ?_
              refine AOps.step rfl rfl rfl (OpQ.spec (ms_load_box (a := .r (.int .i64 x5.N)) rfl ts_3 (.inl rfl) rfl rfl) _) ?_
              refine ob1k h14 fun x8 ex8 h15 => ?_
              refine AOps.step rfl rfl rfl (OpQ.spec (ms_add rfl (.inl rfl) (.inl rfl) (fun _ => ex8)) _) ?_
              refine AOps.step rfl rfl rfl (OpQ.spec (sp_min rfl (.inl rfl) (.inl rfl)) _) ?_
              refine AOps.step rfl rfl rfl (OpQ.spec (sp_assign rfl (.inl rfl)) _) ?_
              refine AOps.nil ?_
              exact wK11 _ _ ((by exact Weak.cv ⟨.inl (.inl rfl), .inl (.inl rfl), .inl (.inl rfl), .inl (.inl rfl), .inl (.inl rfl), .inl (.inl rfl), trivial⟩ trivial (Nat.le_refl _))) (J2 _ _ (vec [(i7 0)]) (Option.some.inj h15).symm)
            · have h14 := ite_f hc6 h13
              refine AW.skip ?_
              exact wK11 _ _ ((by exact Weak.cv ⟨.inl (.inl rfl), .inl (.inl rfl), .inl (.inl rfl), .inl (.inl rfl), .inl (.inl rfl), .inl (.inl rfl), trivial⟩ trivial (Nat.le_refl _))) (J2 _ _ (vec [(i7 0)]) (Option.some.inj h14).symm)
          refine AW.cond rfl (fun hc7 => ?_) (fun hc7 => ?_)
          · have h16 := ite_t hc7 hp2
            refine AW.region ?_
            refine AOps.step rfl rfl rfl (OpQ.spec (sp_move rfl (.inl rfl)) _) ?_
            refine AOps.step rfl rfl rfl (OpQ.spec (sp_fieldAddr_own (ob := .box _ _ _) rfl tf_99_1 (.inl rfl) (fun _ => rfl) rfl) _) ?_
            refine AOps.step rfl rfl rfl (OpQ.spec (ms_load_box (a := .r (.int .i64 x5.N)) rfl ts_3 (.inl rfl) rfl rfl) _) ?_
            refine ob1k h16 fun x9 ex9 h17 => ?_
            refine AOps.step rfl rfl rfl (OpQ.spec (ms_add rfl (.inl rfl) (.inl rfl) (fun _ => ex9)) _) ?_
            refine AOps.step rfl rfl rfl (OpQ.spec (sp_min rfl (.inl rfl) (.inl rfl)) _) ?_
            refine AOps.step rfl rfl rfl (OpQ.spec (sp_assign rfl (.inl rfl)) _) ?_
            refine AOps.nil ?_
            exact wK20 _ _ ((by exact Weak.cv ⟨.inl (.inl rfl), .inl (.inl rfl), .inl (.inl rfl), .inl (.inl rfl), .inl (.inl rfl), .inl (.inl rfl), .inl (.inl rfl), trivial⟩ ⟨.inl rfl, trivial⟩ (Nat.le_refl _))) (J3 _ (vec [((i3 0) + 1)]) (Option.some.inj h17).symm)
          · have h16 := ite_f hc7 hp2
            refine AW.skip ?_
            exact wK20 _ _ ((by exact Weak.cv ⟨.inl (.inl rfl), .inl (.inl rfl), .inl (.inl rfl), .inl (.inl rfl), .inl (.inl rfl), .inl (.inl rfl), .inl (.inl rfl), trivial⟩ ⟨.inl rfl, trivial⟩ (Nat.le_refl _))) (J3 _ (vec [((i3 0) + 1)]) (Option.some.inj h16).symm)
  · have h4 := ite_f hc2 h3
    refine AW.exit ?_
    exact wK3 _ _ ((by exact Weak.cv ⟨.inl (.inl rfl), .inl (.inl rfl), trivial⟩ trivial (Nat.le_refl _))) (J1 _ _ (vec [(i3 0)]) (hx1 _ (Option.some.inj h4).symm))
set_option maxHeartbeats 4000000 in
set_option maxRecDepth 20000 in
theorem w_axis_lengths {a1 : List GAxisStep} {r : Int × Int} (h : axis_lengths a1 = some r) : ARO Try.prog 66 [.r (.sl (a1.map GAxisStep.row))] (.tup [.r (.int .i64 r.1), .r (.int .i64 r.2)]) := by
  unfold axis_lengths at h
  refine ARO.mkF Try.func66 rfl rfl Try.ntmps66 rfl (Nat.le_of_ble_eq_true rfl) fun n0 => ?_
  refine AW.seq_w fun K1 hK1 wK1 => ?_
  refine AW.region ?_
  refine AOps.step rfl rfl rfl (OpQ.spec (sp_assign rfl (.inl rfl)) _) ?_
  refine AOps.step rfl rfl rfl (OpQ.spec (sp_assign rfl (.inl rfl)) _) ?_
  refine AOps.nil ?_
  refine hK1 _ ?_
  refine AW.seq_w fun K2 hK2 wK2 => ?_
  refine AW.region ?_
  refine AOps.step rfl rfl rfl (OpQ.spec (sp_assign rfl (.inl rfl)) _) ?_
  refine AOps.step rfl rfl rfl (OpQ.spec (sp_assign rfl (.inl rfl)) _) ?_
  refine AOps.nil ?_
  refine hK2 _ ?_
  refine AW.seq_w fun K3 hK3 wK3 => ?_
  refine AW.seq_w fun K4 hK4 wK4 => ?_
  refine AW.region ?_
  refine AOps.step rfl rfl rfl (OpQ.spec (sp_move rfl (.inl rfl)) _) ?_
  refine AOps.step rfl rfl rfl (OpQ.spec (ms_len rfl tg_22.slice (.inl rfl)) _) ?_
  refine AOps.step rfl rfl rfl (OpQ.spec (sp_move rfl (.inl rfl)) _) ?_
  refine AOps.nil ?_
  refine hK4 _ ?_
  refine AW.block ?_
  refine jb2k h fun o1 hit1 hk1 => ?_
  have J1 : ∀ (before4 : Int) (after4 : Int) (i5 : Nat → Nat), o1 = (before4, after4) → K3 ⟨[(4, .r (.int .i64 before4)), (5, .r (.int .i64 after4))], [], (i5 0), 31⟩ := by
    intro before4 after4 i5 e
    have h1 := hk1 _ _ e
    refine hK3 _ ?_
    refine AW.seq_w fun K5 hK5 wK5 => ?_
    refine AW.region ?_
    refine AOps.step rfl rfl rfl (OpQ.spec (sp_move rfl (.inl rfl)) _) ?_
    refine AOps.step rfl rfl rfl (OpQ.spec (sp_move rfl (.inl rfl)) _) ?_
    refine AOps.step rfl rfl rfl (OpQ.spec (sp_assign rfl (.inl rfl)) _) ?_
    refine AOps.step rfl rfl rfl (OpQ.spec (sp_assign rfl (.inl rfl)) _) ?_
    refine AOps.nil ?_
    refine hK5 _ ?_
    refine AW.ret ?_
    exact retf2 (P := Try.prog) (fun (r : Int × Int) => .r (.int .i64 r.1)) (fun (r : Int × Int) => .r (.int .i64 r.2)) h1 (.inl rfl) (.t (.d rfl)) (.t (.d rfl))
  refine AW.iter3 (fun (before2 : Int) (after2 : Int) (x2 : Int) i3 => ⟨[(4, .r (.int .i64 before2)), (5, .r (.int .i64 after2)), (8, .r (.sl (a1.map GAxisStep.row))), (9, .r (.int .i64 (a1.length : Int))), (10, .r (.int .i64 x2))], [], (i3 0), 31⟩) (vec [n0]) hit1 ((by exact Weak.cv ⟨.inl (.inl rfl), .inl (.inl rfl), .inl (.inl rfl), .inl (.inl rfl), .inl (.inl rfl), trivial⟩ trivial (Nat.le_refl _))) ?_
  intro before2 after2 x2 i3 v1 hv1 hx1
  have h2 : axis_lengths_L1 a1 before2 after2 x2 = some v1 := hv1; unfold axis_lengths_L1 at h2
  refine AW.seq_w fun K6 hK6 wK6 => ?_
  refine AW.region ?_
  refine AOps.step rfl rfl rfl (OpQ.spec (sp_lss rfl (.inl rfl) (.inl rfl)) _) ?_
  refine AOps.nil ?_
  refine hK6 _ ?_
  refine AW.seq_w fun K7 hK7 wK7 => ?_
  refine AW.cond rfl (fun hc1 => ?_) (fun hc1 => ?_)
  · have h3 := ite_t hc1 h2
    refine AW.skip ?_
    refine hK7 _ ?_
    refine AW.seq_w fun K8 hK8 wK8 => ?_
    refine AW.block ?_
    refine jb2k h3 fun p1 hp1 hk2 => ?_
    have J2 : ∀ (before5 : Int) (after5 : Int) (i6 : Nat → Nat), p1 = (before5, after5) → K8 ⟨[(4, .r (.int .i64 before5)), (5, .r (.int .i64 after5)), (8, .r (.sl (a1.map GAxisStep.row))), (9, .r (.int .i64 (a1.length : Int))), (10, .r (.int .i64 x2))], [], (i6 0), 31⟩ := by
      intro before5 after5 i6 e
      have h4 := hk2 _ _ e
      refine hK8 _ ?_
      refine AW.region ?_
      refine ob1k h4 fun x4 ex4 h5 => ?_
      refine AOps.step rfl rfl rfl (OpQ.spec (ms_add rfl (.inl rfl) (.inl rfl) (fun _ => ex4)) _) ?_
      refine AOps.step rfl rfl rfl (OpQ.spec (sp_move rfl (.inl rfl)) _) ?_
      refine AOps.nil ?_
      exact NextQ3.mk h5 (vec [(i6 0)]) ((by exact Weak.cv ⟨.inl (.inl rfl), .inl (.inl rfl), .inl (.inl rfl), .inl (.inl rfl), .inl (.inl rfl), trivial⟩ trivial (Nat.le_refl _)))
    refine AW.seq_w fun K9 hK9 wK9 => ?_
    refine AW.region ?_
    refine ob1k hp1 fun x5 ex5 h6 => ?_
    refine AOps.step rfl rfl rfl (OpQ.spec (ms_idx rfl tg_22.slice (.inl rfl) (.inl rfl) (fun _ => rfl) (fun _ => ex5)) _) ?_
    refine AOps.step rfl rfl rfl (OpQ.spec (ms_loadA (cs := [.r (.int .i64 x5.Kind), .r (.int .i64 x5.N)]) rfl ta_99 (.inl rfl) rfl rfl) _) ?_
    refine AOps.step rfl rfl rfl (ms_alloc (cs := [.r (.int .i64 0), .r (.int .i64 0)]) 7 rfl t0_99 rfl rfl) ?_
    refine AOps.step0 rfl rfl (ms_store_box (ds := [.r (.int .i64 x5.Kind), .r (.int .i64 x5.N)]) rfl tz_99 (.inl rfl) rfl (.inl rfl) rfl rfl rfl rfl) ?_
    refine AOps.nil ?_
    refine hK9 _ ?_
    refine AW.seq_w fun K10 hK10 wK10 => ?_
    refine AW.seq_w fun K11 hK11 wK11 => ?_
    refine AW.region ?_
    refine AOps.step rfl rfl rfl (OpQ.spec (sp_fieldAddr_own (ob := .box _ _ _) rfl tf_99_0 (.inl rfl) (fun _ => rfl) rfl) _) ?_
    refine AOps.step rfl rfl rfl (OpQ.spec (ms_load_box (a := .r (.int .i64 x5.Kind)) rfl ts_3 (.inl rfl) rfl rfl) _) ?_
    refine AOps.step rfl rfl rfl (OpQ.spec (sp_neq rfl (.inl rfl) (.inl rfl)) _) ?_
    refine AOps.nil ?_
    refine hK11 _ ?_
    refine jb1k h6 fun p2 hp2 hk3 => ?_
    have J3 : ∀ (before6 : Int) (i7 : Nat → Nat), p2 = before6 → K10 ⟨[(4, .r (.int .i64 before6)), (5, .r (.int .i64 after2)), (7, .ptr 7 (i3 0) 0 0), (8, .r (.sl (a1.map GAxisStep.row))), (9, .r (.int .i64 (a1.length : Int))), (10, .r (.int .i64 x2))], [(7, some (.box (i3 0) 99 [.r (.int .i64 x5.Kind), .r (.int .i64 x5.N)]))], (i7 0), 31⟩ := by
      intro before6 i7 e
      have h7 := hk3 _ e
      refine hK10 _ ?_
      refine AW.seq_w fun K12 hK12 wK12 => ?_
      refine AW.region ?_
      refine AOps.step rfl rfl rfl (OpQ.spec (sp_fieldAddr_own (ob := .box _ _ _) rfl tf_99_0 (.inl rfl) (fun _ => rfl) rfl) _) ?_
      refine AOps.step rfl rfl rfl (OpQ.spec (ms_load_box (a := .r (.int .i64 x5.Kind)) rfl ts_3 (.inl rfl) rfl rfl) _) ?_
      refine AOps.step rfl rfl rfl (OpQ.spec (sp_neq rfl (.inl rfl) (.inl rfl)) _) ?_
      refine AOps.nil ?_
      refine hK12 _ ?_
      refine AW.cond rfl (fun hc2 => ?_) (fun hc2 => ?_)
      · have h8 := ite_t hc2 h7
        refine AW.region ?_
        refine AOps.step rfl rfl rfl (OpQ.spec (sp_move rfl (.inl rfl)) _) ?_
        refine AOps.step rfl rfl rfl (OpQ.spec (sp_fieldAddr_own (ob := .box _ _ _) rfl tf_99_1 (.inl rfl) (fun _ => rfl) rfl) _) ?_
        refine AOps.step rfl rfl rfl (OpQ.spec (ms_load_box (a := .r (.int .i64 x5.N)) rfl ts_3 (.inl rfl) rfl rfl) _) ?_
        refine ob1k h8 fun after6 eafter6 h9 => ?_
        refine AOps.step rfl rfl rfl (OpQ.spec (ms_add rfl (.inl rfl) (.inl rfl) (fun _ => eafter6)) _) ?_
        refine AOps.step rfl rfl rfl (OpQ.spec (sp_assign rfl (.inl rfl)) _) ?_
        refine AOps.nil ?_
        exact wK8 _ _ ((by exact Weak.cv ⟨.inl (.inl rfl), .inl (.inl rfl), .inl (.inl rfl), .inl (.inl rfl), .inl (.inl rfl), trivial⟩ trivial (Nat.le_refl _))) (J2 _ _ (vec [(i7 0)]) (Option.some.inj h9).symm)
      · have h8 := ite_f hc2 h7
        refine AW.skip ?_
        exact wK8 _ _ ((by exact Weak.cv ⟨.inl (.inl rfl), .inl (.inl rfl), .inl (.inl rfl), .inl (.inl rfl), .inl (.inl rfl), trivial⟩ trivial (Nat.le_refl _))) (J2 _ _ (vec [(i7 0)]) (Option.some.inj h8).symm)
    refine AW.cond rfl (fun hc3 => ?_) (fun hc3 => ?_)
    · have h10 := ite_t hc3 hp2
      refine AW.region ?_
      refine AOps.step rfl rfl rfl (OpQ.spec (sp_move rfl (.inl rfl)) _) ?_
      refine AOps.step rfl rfl rfl (OpQ.spec (sp_fieldAddr_own (ob := .box _ _ _) rfl tf_99_1 (.inl rfl) (fun _ => rfl) rfl) _) ?_
      refine AOps.step rfl rfl rfl (OpQ.spec (ms_load_box (a := .r (.int .i64 x5.N)) rfl ts_3 (.inl rfl) rfl rfl) _) ?_
      refine ob1k h10 fun before7 ebefore7 h11 => ?_
      refine AOps.step rfl rfl rfl (OpQ.spec (ms_add rfl (.inl rfl) (.inl rfl) (fun _ => ebefore7)) _) ?_
      refine AOps.step rfl rfl rfl (OpQ.spec (sp_assign rfl (.inl rfl)) _) ?_
      refine AOps.nil ?_
      exact wK10 _ _ ((by exact Weak.cv ⟨.inl (.inl rfl), .inl (.inl rfl), .inl (.inl rfl), .inl (.inl rfl), .inl (.inl rfl), .inl (.inl rfl), trivial⟩ ⟨.inl rfl, trivial⟩ (Nat.le_refl _))) (J3 _ (vec [((i3 0) + 1)]) (Option.some.inj h11).symm)
    · have h10 := ite_f hc3 hp2
      refine AW.skip ?_
      exact wK10 _ _ ((by exact Weak.cv ⟨.inl (.inl rfl), .inl (.inl rfl), .inl (.inl rfl), .inl (.inl rfl), .inl (.inl rfl), .inl (.inl rfl), trivial⟩ ⟨.inl rfl, trivial⟩ (Nat.le_refl _))) (J3 _ (vec [((i3 0) + 1)]) (Option.some.inj h10).symm)
  · have h3 := ite_f hc1 h2
    refine AW.exit ?_
    exact wK3 _ _ ((by exact Weak.cv ⟨.inl (.inl rfl), .inl (.inl rfl), trivial⟩ trivial (Nat.le_refl _))) (J1 _ _ (vec [(i3 0)]) (hx1 _ (Option.some.inj h3).symm))
set_option maxHeartbeats 4000000 in
set_option maxRecDepth 20000 in
theorem w_axis_place {a1 : List GAxisStep} {p1 : Int} {r : Int} (h : axis_place a1 p1 = some r) : ARO Try.prog 117 [.r (.sl (a1.map GAxisStep.row)), .r (.int .i64 p1)] (.r (.int .i64 r)) := by
  unfold axis_place at h
  refine ARO.mkF Try.func117 rfl rfl Try.ntmps117 rfl (Nat.le_of_ble_eq_true rfl) fun n0 => ?_
  refine AW.seq_w fun K1 hK1 wK1 => ?_
  refine AW.region ?_
  refine AOps.step rfl rfl rfl (OpQ.spec (sp_assign rfl (.inl rfl)) _) ?_
  refine AOps.nil ?_
  refine hK1 _ ?_
  refine AW.seq_w fun K2 hK2 wK2 => ?_
  refine AW.region ?_
  refine AOps.step rfl rfl rfl (OpQ.spec (sp_assign rfl (.inl rfl)) _) ?_
  refine AOps.step rfl rfl rfl (OpQ.spec (sp_assign rfl (.inl rfl)) _) ?_
  refine AOps.nil ?_
  refine hK2 _ ?_
  refine AW.seq_w fun K3 hK3 wK3 => ?_
  refine AW.seq_w fun K4 hK4 wK4 => ?_
  refine AW.region ?_
  refine AOps.step rfl rfl rfl (OpQ.spec (sp_move rfl (.inl rfl)) _) ?_
  refine AOps.step rfl rfl rfl (OpQ.spec (ms_len rfl tg_22.slice (.inl rfl)) _) ?_
  refine AOps.step rfl rfl rfl (OpQ.spec (sp_move rfl (.inl rfl)) _) ?_
  refine AOps.nil ?_
  refine hK4 _ ?_
  refine AW.block ?_
  refine jc1k h fun o1 hit1 hk1 he1 => ?_
  have J1 : ∀ (u2 : Unit) (i5 : Nat → Nat), o1 = .nrm u2 → K3 ⟨[], [], (i5 0), 51⟩ := by
    intro u2 i5 e
    have h1 := hk1 _ e
    refine hK3 _ ?_
    refine AW.seq_w fun K5 hK5 wK5 => ?_
    refine AW.region ?_
    refine AOps.step rfl rfl rfl (OpQ.spec (sp_assign rfl (.inl rfl)) _) ?_
    refine AOps.nil ?_
    refine hK5 _ ?_
    refine AW.ret ?_
    exact retf1 (P := Try.prog) (fun (r : Int) => .r (.int .i64 r)) h1 (.inl rfl) (.t (.d rfl))
  refine AW.iter3 (fun (from2 : Int) (to2 : Int) (x2 : Int) i3 => ⟨[(1, .r (.int .i64 p1)), (5, .r (.int .i64 from2)), (6, .r (.int .i64 to2)), (9, .r (.sl (a1.map GAxisStep.row))), (10, .r (.int .i64 (a1.length : Int))), (11, .r (.int .i64 x2))], [], (i3 0), 51⟩) (vec [n0]) hit1 ((by exact Weak.cv ⟨.inl (.inl rfl), .inl (.inl rfl), .inl (.inl rfl), .inl (.inl rfl), .inl (.inl rfl), .inl (.inl rfl), trivial⟩ trivial (Nat.le_refl _))) ?_
  intro from2 to2 x2 i3 v1 hv1 hx1
  have h2 : axis_place_L1 a1 p1 from2 to2 x2 = some v1 := hv1; unfold axis_place_L1 at h2
  refine AW.seq_w fun K6 hK6 wK6 => ?_
  refine AW.region ?_
  refine AOps.step rfl rfl rfl (OpQ.spec (sp_lss rfl (.inl rfl) (.inl rfl)) _) ?_
  refine AOps.nil ?_
  refine hK6 _ ?_
  refine AW.seq_w fun K7 hK7 wK7 => ?_
  refine AW.cond rfl (fun hc1 => ?_) (fun hc1 => ?_)
  · have h3 := ite_t hc1 h2
    refine AW.skip ?_
    refine hK7 _ ?_
    refine AW.seq_w fun K8 hK8 wK8 => ?_
    refine AW.block ?_
    refine jc2k h3 fun p2 hp1 hk2 he2 => ?_
    have J2 : ∀ (from4 : Int) (to4 : Int) (i6 : Nat → Nat), p2 = .nrm (from4, to4) → K8 ⟨[(1, .r (.int .i64 p1)), (5, .r (.int .i64 from4)), (6, .r (.int .i64 to4)), (9, .r (.sl (a1.map GAxisStep.row))), (10, .r (.int .i64 (a1.length : Int))), (11, .r (.int .i64 x2))], [], (i6 0), 51⟩ := by
      intro from4 to4 i6 e
      have h4 := hk2 _ _ e
      refine hK8 _ ?_
      refine AW.region ?_
      refine ob1k h4 fun x4 ex4 h5 => ?_
      refine AOps.step rfl rfl rfl (OpQ.spec (ms_add rfl (.inl rfl) (.inl rfl) (fun _ => ex4)) _) ?_
      refine AOps.step rfl rfl rfl (OpQ.spec (sp_move rfl (.inl rfl)) _) ?_
      refine AOps.nil ?_
      exact NextQ3.mk h5 (vec [(i6 0)]) ((by exact Weak.cv ⟨.inl (.inl rfl), .inl (.inl rfl), .inl (.inl rfl), .inl (.inl rfl), .inl (.inl rfl), .inl (.inl rfl), trivial⟩ trivial (Nat.le_refl _)))
    refine AW.seq_w fun K9 hK9 wK9 => ?_
    refine AW.region ?_
    refine ob1k hp1 fun x5 ex5 h6 => ?_
    refine AOps.step rfl rfl rfl (OpQ.spec (ms_idx rfl tg_22.slice (.inl rfl) (.inl rfl) (fun _ => rfl) (fun _ => ex5)) _) ?_
    refine AOps.step rfl rfl rfl (OpQ.spec (ms_loadA (cs := [.r (.int .i64 x5.Kind), .r (.int .i64 x5.N)]) rfl ta_99 (.inl rfl) rfl rfl) _) ?_
    refine AOps.step rfl rfl rfl (ms_alloc (cs := [.r (.int .i64 0), .r (.int .i64 0)]) 8 rfl t0_99 rfl rfl) ?_
    refine AOps.step0 rfl rfl (ms_store_box (ds := [.r (.int .i64 x5.Kind), .r (.int .i64 x5.N)]) rfl tz_99 (.inl rfl) rfl (.inl rfl) rfl rfl rfl rfl) ?_
    refine AOps.nil ?_
    refine hK9 _ ?_
    refine AW.seq_w fun K10 hK10 wK10 => ?_
    refine AW.seq_w fun K11 hK11 wK11 => ?_
    refine AW.region ?_
    refine AOps.step rfl rfl rfl (OpQ.spec (sp_fieldAddr_own (ob := .box _ _ _) rfl tf_99_0 (.inl rfl) (fun _ => rfl) rfl) _) ?_
    refine AOps.step rfl rfl rfl (OpQ.spec (ms_load_box (a := .r (.int .i64 x5.Kind)) rfl ts_3 (.inl rfl) rfl rfl) _) ?_
    refine AOps.nil ?_
    refine hK11 _ ?_
    refine AW.block ?_
    refine jc1k h6 fun p3 hp2 hk3 he3 => ?_
    have J3 : ∀ (to5 : Int) (i7 : Nat → Nat), p3 = .nrm to5 → K10 ⟨[(1, .r (.int .i64 p1)), (5, .r (.int .i64 from2)), (6, .r (.int .i64 to5)), (8, .ptr 8 (i3 0) 0 0), (9, .r (.sl (a1.map GAxisStep.row))), (10, .r (.int .i64 (a1.length : Int))), (11, .r (.int .i64 x2))], [(8, some (.box (i3 0) 99 [.r (.int .i64 x5.Kind), .r (.int .i64 x5.N)]))], (i7 0), 51⟩ := by
      intro to5 i7 e
      have h7 := hk3 _ e
      refine hK10 _ ?_
      refine AW.region ?_
      refine AOps.step rfl rfl rfl (OpQ.spec (sp_move rfl (.inl rfl)) _) ?_
      refine AOps.step rfl rfl rfl (OpQ.spec (sp_fieldAddr_own (ob := .box _ _ _) rfl tf_99_1 (.inl rfl) (fun _ => rfl) rfl) _) ?_
      refine AOps.step rfl rfl rfl (OpQ.spec (ms_load_box (a := .r (.int .i64 x5.N)) rfl ts_3 (.inl rfl) rfl rfl) _) ?_
      refine ob1k h7 fun from5 efrom5 h8 => ?_
      refine AOps.step rfl rfl rfl (OpQ.spec (ms_add rfl (.inl rfl) (.inl rfl) (fun _ => efrom5)) _) ?_
      refine AOps.step rfl rfl rfl (OpQ.spec (sp_assign rfl (.inl rfl)) _) ?_
      refine AOps.nil ?_
      exact wK8 _ _ ((by exact Weak.cv ⟨.inl (.inl rfl), .inl (.inl rfl), .inl (.inl rfl), .inl (.inl rfl), .inl (.inl rfl), .inl (.inl rfl), trivial⟩ trivial (Nat.le_refl _))) (J2 _ _ (vec [(i7 0)]) (Option.some.inj h8).symm)
    refine AW.seq_w fun K12 hK12 wK12 => ?_
    refine AW.region ?_
    refine AOps.step rfl rfl rfl (OpQ.spec (sp_eql rfl (.inl rfl) (.inl rfl)) _) ?_
    refine AOps.step rfl rfl rfl (OpQ.spec (sp_assign rfl (.inl rfl)) _) ?_
    refine AOps.nil ?_
    refine hK12 _ ?_
    refine AW.cond rfl (fun hc2 => ?_) (fun hc2 => ?_)
    · have h9 := ite_t hc2 hp2
      refine AW.seq_w fun K13 hK13 wK13 => ?_
      refine AW.region ?_
      refine AOps.step rfl rfl rfl (OpQ.spec (sp_move rfl (.inl rfl)) _) ?_
      refine AOps.step rfl rfl rfl (OpQ.spec (sp_fieldAddr_own (ob := .box _ _ _) rfl tf_99_1 (.inl rfl) (fun _ => rfl) rfl) _) ?_
      refine AOps.step rfl rfl rfl (OpQ.spec (ms_load_box (a := .r (.int .i64 x5.N)) rfl ts_3 (.inl rfl) rfl rfl) _) ?_
      refine ob1k h9 fun to6 eto6 h10 => ?_
      refine AOps.step rfl rfl rfl (OpQ.spec (ms_add rfl (.inl rfl) (.inl rfl) (fun _ => eto6)) _) ?_
      refine AOps.step rfl rfl rfl (OpQ.spec (sp_assign rfl (.inl rfl)) _) ?_
      refine AOps.nil ?_
      refine hK13 _ ?_
      refine AW.exit ?_
      exact wK8 _ _ ((by exact Weak.cv ⟨.inl (.inl rfl), .inl (.inl rfl), .inl (.inl rfl), .inl (.inl rfl), .inl (.inl rfl), .inl (.inl rfl), trivial⟩ trivial (Nat.le_refl _))) (J2 _ _ (vec [((i3 0) + 1)]) (Option.some.inj (he3 _ (Option.some.inj h10).symm)).symm)
    · have h9 := ite_f hc2 hp2
      refine AW.seq_w fun K14 hK14 wK14 => ?_
      refine AW.region ?_
      refine AOps.step rfl rfl rfl (OpQ.spec (sp_eql rfl (.inl rfl) (.inl rfl)) _) ?_
      refine AOps.step rfl rfl rfl (OpQ.spec (sp_assign rfl (.inl rfl)) _) ?_
      refine AOps.nil ?_
      refine hK14 _ ?_
      refine AW.cond rfl (fun hc3 => ?_) (fun hc3 => ?_)
      · have h11 := ite_t hc3 h9
        refine AW.seq_w fun K15 hK15 wK15 => ?_
        refine AW.seq_w fun K16 hK16 wK16 => ?_
        refine AW.weak (s' := ⟨[(1, .r (.int .i64 p1)), (5, .r (.int .i64 from2)), (6, .r (.int .i64 to2)), (8, .ptr 8 (i3 0) 0 0), (9, .r (.sl (a1.map GAxisStep.row))), (10, .r (.int .i64 (a1.length : Int))), (11, .r (.int .i64 x2))], [(8, some (.box (i3 0) 99 [.r (.int .i64 x5.Kind), .r (.int .i64 x5.N)]))], ((i3 0) + 1), 51⟩) (by exact Weak.cv ⟨.inl (.inl rfl), .inl (.inl rfl), .inl (.inl rfl), .inl (.inl rfl), .inl (.inl rfl), .inl (.inl rfl), .inl (.inl rfl), trivial⟩ ⟨.inl rfl, trivial⟩ (Nat.le_refl _)) ?_
        refine AW.region ?_
        refine AOps.step rfl rfl rfl (OpQ.spec (sp_move rfl (.inl rfl)) _) ?_
        refine AOps.step rfl rfl rfl (OpQ.spec (sp_move rfl (.inl rfl)) _) ?_
        refine AOps.step rfl rfl rfl (OpQ.spec (sp_fieldAddr_own (ob := .box _ _ _) rfl tf_99_1 (.inl rfl) (fun _ => rfl) rfl) _) ?_
        refine AOps.step rfl rfl rfl (OpQ.spec (ms_load_box (a := .r (.int .i64 x5.N)) rfl ts_3 (.inl rfl) rfl rfl) _) ?_
        refine ob1k h11 fun x6 ex6 h12 => ?_
        refine AOps.step rfl rfl rfl (OpQ.spec (ms_add rfl (.inl rfl) (.inl rfl) (fun _ => ex6)) _) ?_
        refine AOps.step rfl rfl rfl (OpQ.spec (sp_lss rfl (.inl rfl) (.inl rfl)) _) ?_
        refine AOps.nil ?_
        refine hK16 _ ?_
        refine AW.cond rfl (fun hc4 => ?_) (fun hc4 => ?_)
        · have h13 := ite_t hc4 h12
          refine AW.seq_w fun K17 hK17 wK17 => ?_
          refine AW.weak (s' := ⟨[(1, .r (.int .i64 p1)), (5, .r (.int .i64 from2)), (6, .r (.int .i64 to2))], [], ((i3 0) + 1), 51⟩) (by exact Weak.cv ⟨.inl (.inl rfl), .inl (.inl rfl), .inl (.inl rfl), trivial⟩ trivial (Nat.le_refl _)) ?_
          refine AW.region ?_
          refine AOps.step rfl rfl rfl (OpQ.spec (sp_move rfl (.inl rfl)) _) ?_
          refine AOps.step rfl rfl rfl (OpQ.spec (sp_move rfl (.inl rfl)) _) ?_
          refine ob1k h13 fun x7 ex7 h14 => ?_
          refine AOps.step rfl rfl rfl (OpQ.spec (ms_add rfl (.inl rfl) (.inl rfl) (fun _ => ex7)) _) ?_
          refine AOps.step rfl rfl rfl (OpQ.spec (sp_move rfl (.inl rfl)) _) ?_
          refine ob1k h14 fun x8 ex8 h15 => ?_
          refine AOps.step rfl rfl rfl (OpQ.spec (ms_sub rfl (.inl rfl) (.inl rfl) (fun _ => ex8)) _) ?_
          refine AOps.step rfl rfl rfl (OpQ.spec (sp_assign rfl (.inl rfl)) _) ?_
          refine AOps.nil ?_
          refine hK17 _ ?_
          refine AW.ret ?_
          exact retf1 (P := Try.prog) (fun (r : Int) => .r (.int .i64 r)) (he1 _ (hx1 _ (Option.some.inj (he2 _ (Option.some.inj (he3 _ (Option.some.inj h15).symm)).symm)).symm)) (.inl rfl) (.t (.d rfl))
        · have h13 := ite_f hc4 h12
          refine AW.skip ?_
          refine hK15 _ ?_
          refine AW.region ?_
          refine AOps.step rfl rfl rfl (OpQ.spec (sp_move rfl (.inl rfl)) _) ?_
          refine AOps.step rfl rfl rfl (OpQ.spec (sp_fieldAddr_own (ob := .box _ _ _) rfl tf_99_1 (.inl rfl) (fun _ => rfl) rfl) _) ?_
          refine AOps.step rfl rfl rfl (OpQ.spec (ms_load_box (a := .r (.int .i64 x5.N)) rfl ts_3 (.inl rfl) rfl rfl) _) ?_
          refine ob1k h13 fun to7 eto7 h16 => ?_
          refine AOps.step rfl rfl rfl (OpQ.spec (ms_add rfl (.inl rfl) (.inl rfl) (fun _ => eto7)) _) ?_
          refine AOps.step rfl rfl rfl (OpQ.spec (sp_assign rfl (.inl rfl)) _) ?_
          refine AOps.nil ?_
          exact wK10 _ _ ((by exact Weak.cv ⟨.inl (.inl rfl), .inl (.inl rfl), .inl (.inl rfl), .inl (.inl rfl), .inl (.inl rfl), .inl (.inl rfl), .inl (.inl rfl), trivial⟩ ⟨.inl rfl, trivial⟩ (Nat.le_refl _))) (J3 _ (vec [((i3 0) + 1)]) (Option.some.inj h16).symm)
      · have h11 := ite_f hc3 h9
        refine AW.seq_w fun K18 hK18 wK18 => ?_
        refine AW.weak (s' := ⟨[(1, .r (.int .i64 p1)), (5, .r (.int .i64 from2)), (6, .r (.int .i64 to2)), (8, .ptr 8 (i3 0) 0 0), (9, .r (.sl (a1.map GAxisStep.row))), (10, .r (.int .i64 (a1.length : Int))), (11, .r (.int .i64 x2))], [(8, some (.box (i3 0) 99 [.r (.int .i64 x5.Kind), .r (.int .i64 x5.N)]))], ((i3 0) + 1), 51⟩) (by exact Weak.cv ⟨.inl (.inl rfl), .inl (.inl rfl), .inl (.inl rfl), .inl (.inl rfl), .inl (.inl rfl), .inl (.inl rfl), .inl (.inl rfl), trivial⟩ ⟨.inl rfl, trivial⟩ (Nat.le_refl _)) ?_
        refine AW.region ?_
        refine AOps.step rfl rfl rfl (OpQ.spec (sp_move rfl (.inl rfl)) _) ?_
        refine AOps.step rfl rfl rfl (OpQ.spec (sp_move rfl (.inl rfl)) _) ?_
        refine AOps.step rfl rfl rfl (OpQ.spec (sp_fieldAddr_own (ob := .box _ _ _) rfl tf_99_1 (.inl rfl) (fun _ => rfl) rfl) _) ?_
        refine AOps.step rfl rfl rfl (OpQ.spec (ms_load_box (a := .r (.int .i64 x5.N)) rfl ts_3 (.inl rfl) rfl rfl) _) ?_
        refine ob1k h11 fun x9 ex9 h17 => ?_
        refine AOps.step rfl rfl rfl (OpQ.spec (ms_add rfl (.inl rfl) (.inl rfl) (fun _ => ex9)) _) ?_
        refine AOps.step rfl rfl rfl (OpQ.spec (sp_lss rfl (.inl rfl) (.inl rfl)) _) ?_
        refine AOps.nil ?_
        refine hK18 _ ?_
        refine AW.cond rfl (fun hc5 => ?_) (fun hc5 => ?_)
        · have h18 := ite_t hc5 h17
          refine AW.seq_w fun K19 hK19 wK19 => ?_
          refine AW.weak (s' := ⟨[], [], ((i3 0) + 1), 51⟩) (by exact Weak.cv trivial trivial (Nat.le_refl _)) ?_
          refine AW.region ?_
          refine AOps.step rfl rfl rfl (OpQ.spec (sp_assign rfl (.inl rfl)) _) ?_
          refine AOps.nil ?_
          refine hK19 _ ?_
          refine AW.ret ?_
          exact retf1 (P := Try.prog) (fun (r : Int) => .r (.int .i64 r)) (he1 _ (hx1 _ (Option.some.inj (he2 _ (Option.some.inj (he3 _ (Option.some.inj h18).symm)).symm)).symm)) (.inl rfl) (.t (.d rfl))
        · have h18 := ite_f hc5 h17
          refine AW.skip ?_
          exact wK10 _ _ ((by exact Weak.cv ⟨.inl (.inl rfl), .inl (.inl rfl), .inl (.inl rfl), .inl (.inl rfl), .inl (.inl rfl), .inl (.inl rfl), .inl (.inl rfl), trivial⟩ ⟨.inl rfl, trivial⟩ (Nat.le_refl _))) (J3 _ (vec [((i3 0) + 1)]) (Option.some.inj h18).symm)
  · have h3 := ite_f hc1 h2
    refine AW.exit ?_
    exact wK3 _ _ ((by exact Weak.cv trivial trivial (Nat.le_refl _))) (J1 _ (vec [(i3 0)]) (hx1 _ (Option.some.inj h3).symm))
set_option maxHeartbeats 4000000 in
set_option maxRecDepth 20000 in
theorem w_axis_Apply {a1 : List GAxisStep} {places1 : List Int} {r : (List Int) × Int} (h : axis_Apply a1 places1 = some r) : ARO Try.prog 63 [.r (.sl (a1.map GAxisStep.row)), .r (.sl (places1.map (rInt .i64)))] (.tup [.r (.sl (r.1.map (rInt .i64))), .r (.int .i64 r.2)]) := by
  unfold axis_Apply at h
  refine ARO.mkF Try.func63 rfl rfl Try.ntmps63 rfl (Nat.le_of_ble_eq_true rfl) fun n0 => ?_
  refine AW.seq_w fun K1 hK1 wK1 => ?_
  refine AW.region ?_
  refine AOps.step rfl rfl rfl (OpQ.spec (sp_assign rfl (.inl rfl)) _) ?_
  refine AOps.step rfl rfl rfl (OpQ.spec (sp_assign rfl (.inl rfl)) _) ?_
  refine AOps.nil ?_
  refine hK1 _ ?_
  refine AW.seq_w fun K2 hK2 wK2 => ?_
  refine AW.seq_w fun K3 hK3 wK3 => ?_
  refine AW.region ?_
  refine AOps.step rfl rfl rfl (OpQ.spec (sp_move rfl (.inl rfl)) _) ?_
  refine ob1k h fun e1 ee1 h1 => ?_
  refine AOps.step rfl rfl rfl (sp_call (r := .r (.int .i64 e1)) (caps := []) (bs := [.r (.sl (a1.map GAxisStep.row))]) rfl (.inl rfl) rfl ⟨⟨_, (.inl rfl), .d rfl⟩, trivial⟩ (fun _ => w_axis_Check (ee1)) rfl) ?_
  refine AOps.step rfl rfl rfl (OpQ.spec (sp_assign rfl (.inl rfl)) _) ?_
  refine AOps.nil ?_
  refine hK3 _ ?_
  refine AW.seq_w fun K4 hK4 wK4 => ?_
  refine AW.region ?_
  refine AOps.step rfl rfl rfl (OpQ.spec (sp_move rfl (.inl rfl)) _) ?_
  refine AOps.step rfl rfl rfl (OpQ.spec (sp_neq rfl (.inl rfl) (.inl rfl)) _) ?_
  refine AOps.nil ?_
  refine hK4 _ ?_
  refine AW.cond rfl (fun hc1 => ?_) (fun hc1 => ?_)
  · have h2 := ite_t hc1 h1
    refine AW.seq_w fun K5 hK5 wK5 => ?_
    refine AW.region ?_
    refine AOps.step rfl rfl rfl (OpQ.spec (sp_move rfl (.inl rfl)) _) ?_
    refine AOps.step rfl rfl rfl (OpQ.spec (sp_assign rfl (.inl rfl)) _) ?_
    refine AOps.step rfl rfl rfl (OpQ.spec (sp_assign rfl (.inl rfl)) _) ?_
    refine AOps.nil ?_
    refine hK5 _ ?_
    refine AW.ret ?_
    exact retf2 (P := Try.prog) (fun (r : (List Int) × Int) => .r (.sl (r.1.map (rInt .i64)))) (fun (r : (List Int) × Int) => .r (.int .i64 r.2)) h2 (.inl rfl) (.t (.one (.nil))) (.t (.d rfl))
  · have h2 := ite_f hc1 h1
    refine AW.skip ?_
    refine hK2 _ ?_
    refine AW.seq_w fun K6 hK6 wK6 => ?_
    refine AW.region ?_
    refine AOps.step rfl rfl rfl (OpQ.spec (sp_move rfl (.inl rfl)) _) ?_
    refine ob2k h2 fun r1 r2 er1 h3 => ?_
    refine AOps.step rfl rfl rfl (sp_call (r := .tup [.r (.int .i64 r1), .r (.int .i64 r2)]) (caps := []) (bs := [.r (.sl (a1.map GAxisStep.row))]) rfl (.inl rfl) rfl ⟨⟨_, (.inl rfl), .d rfl⟩, trivial⟩ (fun _ => w_axis_lengths (er1)) rfl) ?_
    refine AOps.step rfl rfl rfl (OpQ.spec (sp_move rfl (.inl rfl)) _) ?_
    refine AOps.step rfl rfl rfl (OpQ.spec (sp_extract (a := .r (.int .i64 r1)) rfl (.inl rfl) rfl) _) ?_
    refine AOps.step rfl rfl rfl (OpQ.spec (sp_extract (a := .r (.int .i64 r2)) rfl (.inl rfl) rfl) _) ?_
    refine AOps.step rfl rfl rfl (OpQ.spec (sp_assign rfl (.inl rfl)) _) ?_
    refine AOps.step rfl rfl rfl (OpQ.spec (sp_assign rfl (.inl rfl)) _) ?_
    refine AOps.nil ?_
    refine hK6 _ ?_
    refine AW.seq_w fun K7 hK7 wK7 => ?_
    refine AW.weak (s' := ⟨[(0, .r (.sl (a1.map GAxisStep.row))), (1, .r (.sl (places1.map (rInt .i64)))), (7, .r (.int .i64 r1))], [], n0, 43⟩) (by exact Weak.cv ⟨.inl (.inl rfl), .inl (.inl rfl), .inl (.inl rfl), trivial⟩ trivial (Nat.le_refl _)) ?_
    refine AW.region ?_
    refine AOps.step rfl rfl rfl (OpQ.spec (sp_assign rfl (.inl rfl)) _) ?_
    refine AOps.nil ?_
    refine hK7 _ ?_
    refine AW.seq_w fun K8 hK8 wK8 => ?_
    refine AW.seq_w fun K9 hK9 wK9 => ?_
    refine AW.region ?_
    refine AOps.step rfl rfl rfl (OpQ.spec (sp_move rfl (.inl rfl)) _) ?_
    refine AOps.step rfl rfl rfl (OpQ.spec (ms_len rfl tg_84.slice (.inl rfl)) _) ?_
    refine AOps.step rfl rfl rfl (OpQ.spec (sp_move rfl (.inl rfl)) _) ?_
    refine AOps.nil ?_
    refine hK9 _ ?_
    refine AW.block ?_
    refine jc1k h3 fun o1 hit1 hk1 he1 => ?_
    have J1 : ∀ (out4 : List Int) (i5 : Nat → Nat), o1 = .nrm out4 → K8 ⟨[(9, .own 5009 (i5 0))], [(5009, some (.arr (i5 0) 3 1 (out4.map (rInt .i64))))], (i5 1), 43⟩ := by
      intro out4 i5 e
      have h4 := hk1 _ e
      refine hK8 _ ?_
      refine AW.seq_w fun K10 hK10 wK10 => ?_
      refine AW.region ?_
      refine AOps.step rfl rfl rfl (OpQ.spec (sp_move rfl (.inl rfl)) _) ?_
      refine AOps.step rfl rfl rfl (OpQ.spec (sp_assign rfl (.inl rfl)) _) ?_
      refine AOps.step rfl rfl rfl (OpQ.spec (sp_assign rfl (.inl rfl)) _) ?_
      refine AOps.nil ?_
      refine hK10 _ ?_
      refine AW.ret ?_
      exact retf2 (P := Try.prog) (fun (r : (List Int) × Int) => .r (.sl (r.1.map (rInt .i64)))) (fun (r : (List Int) × Int) => .r (.int .i64 r.2)) h4 (.inl rfl) (.t (.one (.own rfl))) (.t (.d rfl))
    refine AW.iter2 (fun (x2 : Int) (out2 : List Int) i3 => ⟨[(0, .r (.sl (a1.map GAxisStep.row))), (7, .r (.int .i64 r1)), (9, .own 5009 (i3 0)), (22, .r (.sl (places1.map (rInt .i64)))), (23, .r (.int .i64 (places1.length : Int))), (24, .r (.int .i64 x2))], [(5009, some (.arr (i3 0) 3 1 (out2.map (rInt .i64))))], (i3 1), 43⟩) (vec [n0, (n0 + 1)]) hit1 (Weak.trans (Weak.trans (Weak.adopt 9 5009 3 1 (by decide) rfl) (by exact Weak.cv (e' := [(0, .r (.sl (a1.map GAxisStep.row))), (1, .r (.sl (places1.map (rInt .i64)))), (7, .r (.int .i64 r1)), (9, .own 5009 n0), (22, .r (.sl (places1.map (rInt .i64)))), (23, .r (.int .i64 (places1.length : Int))), (24, .r (.int .i64 0))]) (h' := [(5009, some (.arr n0 3 1 (([] : List Int).map (rInt .i64))))]) ⟨.inl (.inl rfl), .inl (.inl rfl), .inl (.inl rfl), .inl (.inl rfl), .inl (.inl rfl), .inl (.inl rfl), .inl (.inl rfl), trivial⟩ ⟨.inl rfl, trivial⟩ (Nat.le_refl _))) (by exact Weak.cv ⟨.inl (.inl rfl), .inl (.inl rfl), .inl (.inl rfl), .inl (.inl rfl), .inl (.inl rfl), .inl (.inl rfl), trivial⟩ ⟨.inl rfl, trivial⟩ (Nat.le_refl _))) ?_
    intro x2 out2 i3 v1 hv1 hx1
    have h5 : axis_Apply_L1 a1 places1 r1 x2 out2 = some v1 := hv1; unfold axis_Apply_L1 at h5
    refine AW.seq_w fun K11 hK11 wK11 => ?_
    refine AW.region ?_
    refine AOps.step rfl rfl rfl (OpQ.spec (sp_lss rfl (.inl rfl) (.inl rfl)) _) ?_
    refine AOps.nil ?_
    refine hK11 _ ?_
    refine AW.seq_w fun K12 hK12 wK12 => ?_
    refine AW.cond rfl (fun hc2 => ?_) (fun hc2 => ?_)
    · have h6 := ite_t hc2 h5
      refine AW.skip ?_
      refine hK12 _ ?_
      refine AW.seq_w fun K13 hK13 wK13 => ?_
      refine AW.block ?_
      refine AW.seq_w fun K14 hK14 wK14 => ?_
      refine AW.region ?_
      refine ob1k h6 fun x4 ex4 h7 => ?_
      refine AOps.step rfl rfl rfl (OpQ.spec (ms_idx rfl tg_84.slice (.inl rfl) (.inl rfl) (fun _ => rfl) (fun _ => ex4)) _) ?_
      refine AOps.step rfl rfl rfl (OpQ.spec (ms_load (d := .int .i64 x4) rfl ts_3 (.inl rfl) rfl) _) ?_
      refine AOps.step rfl rfl rfl (OpQ.spec (sp_assign rfl (.inl rfl)) _) ?_
      refine AOps.nil ?_
      refine hK14 _ ?_
      refine AW.seq_w fun K15 hK15 wK15 => ?_
      refine AW.seq_w fun K16 hK16 wK16 => ?_
      refine AW.region ?_
      refine AOps.step rfl rfl rfl (OpQ.spec (sp_move rfl (.inl rfl)) _) ?_
      refine AOps.step rfl rfl rfl (OpQ.spec (sp_lss rfl (.inl rfl) (.inl rfl)) _) ?_
      refine AOps.step rfl rfl rfl (OpQ.spec (sp_move rfl (.inl rfl)) _) ?_
      refine AOps.stepW (.one rfl rfl rfl) rfl rfl (OpQ.spec (sp_move rfl (.inl rfl)) _) ?_
      refine AOps.stepW (.one rfl rfl rfl) rfl rfl (OpQ.spec (sp_move rfl (.inl rfl)) _) ?_
      refine AOps.stepW (.one rfl rfl rfl) rfl rfl (OpQ.spec (sp_geq rfl (.inr ⟨_, (by exact id), rfl⟩) (.inr ⟨_, (by exact id), rfl⟩)) _) ?_
      refine AOps.step rfl rfl rfl (OpQ.spec (sp_or rfl (.inl rfl) (.inr ⟨_, (by exact id), rfl⟩)) _) ?_
      refine AOps.nil ?_
      refine hK16 _ ?_
      refine AW.cond rfl (fun hc3 => ?_) (fun hc3 => ?_)
      · have h8 := ite_t hc3 h7
        refine AW.seq_w fun K17 hK17 wK17 => ?_
        refine AW.weak (s' := ⟨[], [], (i3 1), 43⟩) (by exact Weak.cv trivial trivial (Nat.le_refl _)) ?_
        refine AW.region ?_
        refine AOps.step rfl rfl rfl (OpQ.spec (sp_assign rfl (.inl rfl)) _) ?_
        refine AOps.step rfl rfl rfl (OpQ.spec (sp_assign rfl (.inl rfl)) _) ?_
        refine AOps.nil ?_
        refine hK17 _ ?_
        refine AW.ret ?_
        exact retf2 (P := Try.prog) (fun (r : (List Int) × Int) => .r (.sl (r.1.map (rInt .i64)))) (fun (r : (List Int) × Int) => .r (.int .i64 r.2)) (he1 _ (hx1 _ (Option.some.inj h8).symm)) (.inl rfl) (.t (.one (.nil))) (.t (.d rfl))
      · have h8 := ite_f hc3 h7
        refine AW.skip ?_
        refine hK15 _ ?_
        refine AW.region ?_
        refine AOps.step rfl rfl rfl (OpQ.spec (sp_move rfl (.inl rfl)) _) ?_
        refine AOps.step rfl rfl rfl (OpQ.spec (sp_move rfl (.inl rfl)) _) ?_
        refine AOps.step rfl rfl rfl (OpQ.spec (sp_move rfl (.inl rfl)) _) ?_
        refine ob1k h8 fun r3 er3 h9 => ?_
        refine AOps.step rfl rfl rfl (sp_call (r := .r (.int .i64 r3)) (caps := []) (bs := [.r (.sl (a1.map GAxisStep.row)), .r (.int .i64 x4)]) rfl (.inl rfl) rfl ⟨⟨_, (.inl rfl), .d rfl⟩, ⟨_, (.inl rfl), .d rfl⟩, trivial⟩ (fun _ => w_axis_place (er3)) rfl) ?_
        refine AOps.step rfl rfl rfl (ms_lit 39 rfl tg_84 (f := (rInt .i64)) (l := ([r3] : List Int)) ⟨rfl, ⟨_, (.inl rfl), rfl⟩, trivial⟩ rfl (fun _ => rfl) rfl) ?_
        refine ob1k h9 fun out5 eout5 h10 => ?_
        refine AOps.step rfl rfl rfl (ms_app rfl tg_84 (.inl rfl) rfl (.inr (.inl ⟨_, _, (.inl rfl), rfl⟩)) eout5) ?_
        refine AOps.step rfl rfl rfl (OpQ.spec (sp_assign rfl (.inl rfl)) _) ?_
        refine AOps.nil ?_
        refine hK13 _ ?_
        refine AW.weak (s' := ⟨[(0, .r (.sl (a1.map GAxisStep.row))), (7, .r (.int .i64 r1)), (9, .own 5009 ((i3 1) + 1)), (22, .r (.sl (places1.map (rInt .i64)))), (23, .r (.int .i64 (places1.length : Int))), (24, .r (.int .i64 x2))], [(5009, some (.arr ((i3 1) + 1) 3 1 (out5.map (rInt .i64))))], ((i3 1) + 2), 43⟩) (by exact Weak.cv ⟨.inl (.inl rfl), .inl (.inl rfl), .inl (.inl rfl), .inl (.inl rfl), .inl (.inl rfl), .inl (.inl rfl), trivial⟩ ⟨.inl rfl, trivial⟩ (Nat.le_refl _)) ?_
        refine AW.region ?_
        refine ob1k h10 fun x5 ex5 h11 => ?_
        refine AOps.step rfl rfl rfl (OpQ.spec (ms_add rfl (.inl rfl) (.inl rfl) (fun _ => ex5)) _) ?_
        refine AOps.step rfl rfl rfl (OpQ.spec (sp_move rfl (.inl rfl)) _) ?_
        refine AOps.nil ?_
        exact NextQ2.mk h11 (vec [((i3 1) + 1), ((i3 1) + 2)]) ((by exact Weak.cv ⟨.inl (.inl rfl), .inl (.inl rfl), .inl (.inl rfl), .inl (.inl rfl), .inl (.inl rfl), .inl (.inl rfl), trivial⟩ ⟨.inl rfl, trivial⟩ (Nat.le_refl _)))
    · have h6 := ite_f hc2 h5
      refine AW.exit ?_
      exact wK8 _ _ ((by exact Weak.cv ⟨.inl (.inl rfl), trivial⟩ ⟨.inl rfl, trivial⟩ (Nat.le_refl _))) (J1 _ (vec [(i3 0), (i3 1)]) (hx1 _ (Option.some.inj h6).symm))
set_option maxHeartbeats 4000000 in
set_option maxRecDepth 20000 in
theorem w_ref_SameInts {a1 : List Int} {b1 : List Int} {r : Bool} (h : ref_SameInts a1 b1 = some r) : ARO Try.prog 64 [.r (.sl (a1.map (rInt .i64))), .r (.sl (b1.map (rInt .i64)))] (.r (.bool r)) := by
  unfold ref_SameInts at h
  refine ARO.mkF Try.func64 rfl rfl Try.ntmps64 rfl (Nat.le_of_ble_eq_true rfl) fun n0 => ?_
  refine AW.seq_w fun K1 hK1 wK1 => ?_
  refine AW.region ?_
  refine AOps.step rfl rfl rfl (OpQ.spec (sp_assign rfl (.inl rfl)) _) ?_
  refine AOps.nil ?_
  refine hK1 _ ?_
  refine AW.seq_w fun K2 hK2 wK2 => ?_
  refine AW.seq_w fun K3 hK3 wK3 => ?_
  refine AW.region ?_
  refine AOps.step rfl rfl rfl (OpQ.spec (sp_move rfl (.inl rfl)) _) ?_
  refine AOps.step rfl rfl rfl (OpQ.spec (ms_len rfl tg_84.slice (.inl rfl)) _) ?_
  refine AOps.step rfl rfl rfl (OpQ.spec (sp_move rfl (.inl rfl)) _) ?_
  refine AOps.step rfl rfl rfl (OpQ.spec (ms_len rfl tg_84.slice (.inl rfl)) _) ?_
  refine AOps.step rfl rfl rfl (OpQ.spec (sp_neq rfl (.inl rfl) (.inl rfl)) _) ?_
  refine AOps.nil ?_
  refine hK3 _ ?_
  refine AW.cond rfl (fun hc1 => ?_) (fun hc1 => ?_)
  · have h1 := ite_t hc1 h
    refine AW.seq_w fun K4 hK4 wK4 => ?_
    refine AW.region ?_
    refine AOps.step rfl rfl rfl (OpQ.spec (sp_assign rfl (.inl rfl)) _) ?_
    refine AOps.nil ?_
    refine hK4 _ ?_
    refine AW.ret ?_
    exact retf1 (P := Try.prog) (fun (r : Bool) => .r (.bool r)) h1 (.inl rfl) (.t (.d rfl))
  · have h1 := ite_f hc1 h
    refine AW.skip ?_
    refine hK2 _ ?_
    refine AW.seq_w fun K5 hK5 wK5 => ?_
    refine AW.seq_w fun K6 hK6 wK6 => ?_
    refine AW.region ?_
    refine AOps.step rfl rfl rfl (OpQ.spec (sp_move rfl (.inl rfl)) _) ?_
    refine AOps.step rfl rfl rfl (OpQ.spec (ms_len rfl tg_84.slice (.inl rfl)) _) ?_
    refine AOps.step rfl rfl rfl (OpQ.spec (sp_move rfl (.inl rfl)) _) ?_
    refine AOps.nil ?_
    refine hK6 _ ?_
    refine AW.block ?_
    refine jc1k h1 fun o1 hit1 hk1 he1 => ?_
    have J1 : ∀ (u2 : Unit) (i5 : Nat → Nat), o1 = .nrm u2 → K5 ⟨[], [], (i5 0), 26⟩ := by
      intro u2 i5 e
      have h2 := hk1 _ e
      refine hK5 _ ?_
      refine AW.seq_w fun K7 hK7 wK7 => ?_
      refine AW.region ?_
      refine AOps.step rfl rfl rfl (OpQ.spec (sp_assign rfl (.inl rfl)) _) ?_
      refine AOps.nil ?_
      refine hK7 _ ?_
      refine AW.ret ?_
      exact retf1 (P := Try.prog) (fun (r : Bool) => .r (.bool r)) h2 (.inl rfl) (.t (.d rfl))
    refine AW.iter1 (fun (x2 : Int) i3 => ⟨[(0, .r (.sl (a1.map (rInt .i64)))), (1, .r (.sl (b1.map (rInt .i64)))), (12, .r (.int .i64 (a1.length : Int))), (13, .r (.int .i64 x2))], [], (i3 0), 26⟩) (vec [n0]) hit1 ((by exact Weak.cv ⟨.inl (.inl rfl), .inl (.inl rfl), .inl (.inl rfl), .inl (.inl rfl), trivial⟩ trivial (Nat.le_refl _))) ?_
    intro x2 i3 v1 hv1 hx1
    have h3 : ref_SameInts_L1 a1 b1 x2 = some v1 := hv1; unfold ref_SameInts_L1 at h3
    refine AW.seq_w fun K8 hK8 wK8 => ?_
    refine AW.region ?_
    refine AOps.step rfl rfl rfl (OpQ.spec (sp_lss rfl (.inl rfl) (.inl rfl)) _) ?_
    refine AOps.nil ?_
    refine hK8 _ ?_
    refine AW.seq_w fun K9 hK9 wK9 => ?_
    refine AW.cond rfl (fun hc2 => ?_) (fun hc2 => ?_)
    · have h4 := ite_t hc2 h3
      refine AW.skip ?_
      refine hK9 _ ?_
      refine AW.seq_w fun K10 hK10 wK10 => ?_
      refine AW.block ?_
      refine AW.seq_w fun K11 hK11 wK11 => ?_
      refine AW.region ?_
      refine AOps.step rfl rfl rfl (OpQ.spec (sp_move rfl (.inl rfl)) _) ?_
      refine AOps.step rfl rfl rfl (OpQ.spec (sp_assign rfl (.inl rfl)) _) ?_
      refine AOps.nil ?_
      refine hK11 _ ?_
      refine AW.seq_w fun K12 hK12 wK12 => ?_
      refine AW.regionQ hmix (by kernel_rfl) ?_
      refine AQ.step rfl rfl rfl (sp_move rfl (.inl rfl)) ?_
      refine AQ.step rfl rfl rfl (sp_move rfl (.inl rfl)) ?_
      refine ob1k h4 fun x4 ex4 h5 => ?_
      refine AQ.step rfl rfl rfl (ms_idx rfl tg_84.slice (.inl rfl) (.inl rfl) (fun _ => rfl) (fun _ => ex4)) ?_
      refine AQ.step rfl rfl rfl (ms_load (d := .int .i64 x4) rfl ts_3 (.inl rfl) rfl) ?_
      refine AQ.step rfl rfl rfl (sp_move rfl (.inl rfl)) ?_
      refine AQ.step rfl rfl rfl (sp_move rfl (.inl rfl)) ?_
      refine ob1k h5 fun x5 ex5 h6 => ?_
      refine AQ.step rfl rfl rfl (ms_idx rfl tg_84.slice (.inl rfl) (.inl rfl) (fun _ => rfl) (fun _ => ex5)) ?_
      refine AQ.step rfl rfl rfl (ms_load (d := .int .i64 x5) rfl ts_3 (.inl rfl) rfl) ?_
      refine AQ.step rfl rfl rfl (sp_neq rfl (.inl rfl) (.inl rfl)) ?_
      refine AQ.nil ?_
      refine hK12 _ ?_
      refine AW.cond rfl (fun hc3 => ?_) (fun hc3 => ?_)
      · have h7 := ite_t hc3 h6
        refine AW.seq_w fun K13 hK13 wK13 => ?_
        refine AW.weak (s' := ⟨[], [], (i3 0), 26⟩) (by exact Weak.cv trivial trivial (Nat.le_refl _)) ?_
        refine AW.region ?_
        refine AOps.step rfl rfl rfl (OpQ.spec (sp_assign rfl (.inl rfl)) _) ?_
        refine AOps.nil ?_
        refine hK13 _ ?_
        refine AW.ret ?_
        exact retf1 (P := Try.prog) (fun (r : Bool) => .r (.bool r)) (he1 _ (hx1 _ (Option.some.inj h7).symm)) (.inl rfl) (.t (.d rfl))
      · have h7 := ite_f hc3 h6
        refine AW.skip ?_
        refine hK10 _ ?_
        refine AW.weak (s' := ⟨[(0, .r (.sl (a1.map (rInt .i64)))), (1, .r (.sl (b1.map (rInt .i64)))), (12, .r (.int .i64 (a1.length : Int))), (13, .r (.int .i64 x2))], [], (i3 0), 26⟩) (by exact Weak.cv ⟨.inl (.inl rfl), .inl (.inl rfl), .inl (.inl rfl), .inl (.inl rfl), trivial⟩ trivial (Nat.le_refl _)) ?_
        refine AW.region ?_
        refine ob1k h7 fun x6 ex6 h8 => ?_
        refine AOps.step rfl rfl rfl (OpQ.spec (ms_add rfl (.inl rfl) (.inl rfl) (fun _ => ex6)) _) ?_
        refine AOps.step rfl rfl rfl (OpQ.spec (sp_move rfl (.inl rfl)) _) ?_
        refine AOps.nil ?_
        exact NextQ1.mk h8 (vec [(i3 0)]) ((by exact Weak.cv ⟨.inl (.inl rfl), .inl (.inl rfl), .inl (.inl rfl), .inl (.inl rfl), trivial⟩ trivial (Nat.le_refl _)))
    · have h4 := ite_f hc2 h3
      refine AW.exit ?_
      exact wK5 _ _ ((by exact Weak.cv trivial trivial (Nat.le_refl _))) (J1 _ (vec [(i3 0)]) (hx1 _ (Option.some.inj h4).symm))
set_option maxHeartbeats 4000000 in
set_option maxRecDepth 20000 in
theorem w_law_axes {r : Bool} (h : law_axes = some r) : ARO Try.prog 12 [] (.r (.bool r)) := by
  unfold law_axes at h
  refine ARO.mkF Try.func12 rfl rfl Try.ntmps12 rfl (Nat.le_of_ble_eq_true rfl) fun n0 => ?_
  refine AW.seq_w fun K1 hK1 wK1 => ?_
  refine AW.region ?_
  refine AOps.step rfl rfl rfl (OpQ.spec (sp_assign rfl (.inl rfl)) _) ?_
  refine AOps.nil ?_
  refine hK1 _ ?_
  refine AW.seq_w fun K2 hK2 wK2 => ?_
  refine AW.region ?_
  refine AOps.step rfl rfl rfl (OpQ.spec (sp_build rfl tb_99 (q := [(0, _), (1, _)]) (by exact ⟨rfl, rfl, rfl, (.inl rfl), rfl, rfl, rfl, (.inl rfl), trivial⟩) (cs := [.r (.int .i64 0), .r (.int .i64 2)]) (by rfl)) _) ?_
  refine AOps.step rfl rfl rfl (OpQ.spec (sp_build rfl tb_99 (q := [(0, _), (1, _)]) (by exact ⟨rfl, rfl, rfl, (.inl rfl), rfl, rfl, rfl, (.inl rfl), trivial⟩) (cs := [.r (.int .i64 1), .r (.int .i64 3)]) (by rfl)) _) ?_
  refine AOps.step rfl rfl rfl (OpQ.spec (sp_build rfl tb_99 (q := [(0, _), (1, _)]) (by exact ⟨rfl, rfl, rfl, (.inl rfl), rfl, rfl, rfl, (.inl rfl), trivial⟩) (cs := [.r (.int .i64 0), .r (.int .i64 1)]) (by rfl)) _) ?_
  refine AOps.step rfl rfl rfl (ms_lit 7 rfl tg_22 (f := GAxisStep.row) (l := ([(GAxisStep.mk 0 2), (GAxisStep.mk 1 3), (GAxisStep.mk 0 1)] : List GAxisStep)) ⟨rfl, ⟨_, (.inl rfl), rfl⟩, rfl, ⟨_, (.inl rfl), rfl⟩, rfl, ⟨_, (.inl rfl), rfl⟩, trivial⟩ rfl (fun _ => rfl) rfl) ?_
  refine AOps.step rfl rfl rfl (ms_lit 8 rfl tg_84 (f := (rInt .i64)) (l := ([1, 2] : List Int)) ⟨rfl, ⟨_, (.inl rfl), rfl⟩, rfl, ⟨_, (.inl rfl), rfl⟩, trivial⟩ rfl (fun _ => rfl) rfl) ?_
  refine AOps.weak (by exact Weak.frz (e' := [(0, .r (.bool false)), (4, .agg [.r (.int .i64 0), .r (.int .i64 2)]), (5, .agg [.r (.int .i64 1), .r (.int .i64 3)]), (6, .agg [.r (.int .i64 0), .r (.int .i64 1)]), (7, .r (.sl ([(GAxisStep.mk 0 2), (GAxisStep.mk 1 3), (GAxisStep.mk 0 1)].map GAxisStep.row))), (8, .own 8 (n0 + 1))]) (h' := [(8, some (.arr (n0 + 1) 3 1 ([1, 2].map (rInt .i64))))]) 7 rfl ⟨.inl (.inl rfl), .inl (.inl rfl), .inl (.inl rfl), .inl (.inl rfl), .inl (.inr (.inr ⟨rfl, rfl⟩)), .inl (.inl rfl), trivial⟩ ⟨rfl, .inl rfl, trivial⟩) ?_
  refine AOps.weak (by exact Weak.frz (e' := [(0, .r (.bool false)), (4, .agg [.r (.int .i64 0), .r (.int .i64 2)]), (5, .agg [.r (.int .i64 1), .r (.int .i64 3)]), (6, .agg [.r (.int .i64 0), .r (.int .i64 1)]), (7, .r (.sl ([(GAxisStep.mk 0 2), (GAxisStep.mk 1 3), (GAxisStep.mk 0 1)].map GAxisStep.row))), (8, .r (.sl ([1, 2].map (rInt .i64))))]) (h' := []) 8 rfl ⟨.inl (.inl rfl), .inl (.inl rfl), .inl (.inl rfl), .inl (.inl rfl), .inl (.inl rfl), .inl (.inr (.inr ⟨rfl, rfl⟩)), trivial⟩ trivial) ?_
  refine ob2k h fun r1 r2 er1 h1 => ?_
  refine AOps.step rfl rfl rfl (sp_callS (r := .tup [.r (.sl (r1.map (rInt .i64))), .r (.int .i64 r2)]) (caps := []) (bs := [.r (.sl ([(GAxisStep.mk 0 2), (GAxisStep.mk 1 3), (GAxisStep.mk 0 1)].map GAxisStep.row)), .r (.sl ([1, 2].map (rInt .i64)))]) rfl (.inl rfl) rfl ⟨.inl ⟨(.inl rfl), rfl⟩, .inl ⟨(.inl rfl), rfl⟩, trivial⟩ (fun _ => w_axis_Apply (er1))) ?_
  refine AOps.step rfl rfl rfl (OpQ.spec (sp_move rfl (.inl rfl)) _) ?_
  refine AOps.step rfl rfl rfl (OpQ.spec (sp_extract (a := .r (.sl (r1.map (rInt .i64)))) rfl (.inl rfl) rfl) _) ?_
  refine AOps.step rfl rfl rfl (OpQ.spec (sp_extract (a := .r (.int .i64 r2)) rfl (.inl rfl) rfl) _) ?_
  refine AOps.step rfl rfl rfl (OpQ.spec (sp_assign rfl (.inl rfl)) _) ?_
  refine AOps.step rfl rfl rfl (OpQ.spec (sp_assign rfl (.inl rfl)) _) ?_
  refine AOps.nil ?_
  refine hK2 _ ?_
  refine AW.seq_w fun K3 hK3 wK3 => ?_
  refine AW.weak (s' := ⟨[(1, .r (.sl (r1.map (rInt .i64)))), (2, .r (.int .i64 r2))], [], (n0 + 2), 19⟩) (by exact Weak.cv ⟨.inl (.inl rfl), .inl (.inl rfl), trivial⟩ trivial (Nat.le_refl _)) ?_
  refine AW.region ?_
  refine AOps.step rfl rfl rfl (OpQ.spec (sp_move rfl (.inl rfl)) _) ?_
  refine AOps.step rfl rfl rfl (OpQ.spec (sp_eql rfl (.inl rfl) (.inl rfl)) _) ?_
  refine AOps.step rfl rfl rfl (OpQ.spec (sp_move rfl (.inl rfl)) _) ?_
  refine AOps.stepW (.one rfl rfl rfl) rfl rfl (OpQ.spec (sp_move rfl (.inl rfl)) _) ?_
  refine jb1k h1 fun p1 hp1 hk1 => ?_
  have J1 : ∀ (x1 : Bool) (i1 : Nat → Nat), p1 = x1 → K3 ⟨[(0, .r (.bool x1))], [], (i1 0), 19⟩ := by
    intro x1 i1 e
    have h2 := hk1 _ e
    refine hK3 _ ?_
    refine AW.ret ?_
    exact retf1 (P := Try.prog) (fun (r : Bool) => .r (.bool r)) h2 (.inl rfl) (.t (.d rfl))
  refine AOps.split ((decide (r2 = 0)) == true) (fun hg1 => ?_) (fun hg1 => ?_)
  · have h3 := ite_t hg1 hp1
    refine AOps.weak (by exact Weak.unw2 (e' := [(1, .r (.sl (r1.map (rInt .i64)))), (2, .r (.int .i64 r2)), (12, .r (.int .i64 r2)), (13, .r (.bool (decide (r2 = 0)))), (14, .r (.bool (decide (r2 = 0)))), (15, .r (.sl (r1.map (rInt .i64))))]) hg1 ⟨.inl rfl, .inl rfl, .inl rfl, .inl rfl, .inl rfl, .inr (.inl rfl), trivial⟩) ?_
    refine AOps.stepGT (.one rfl rfl rfl) hg1 rfl rfl (ms_lit 16 rfl tg_84 (f := (rInt .i64)) (l := ([1, 5] : List Int)) ⟨rfl, ⟨_, (.inl rfl), rfl⟩, rfl, ⟨_, (.inl rfl), rfl⟩, trivial⟩ rfl (fun _ => rfl) rfl) ?_
    refine ob1k h3 fun r3 er3 h4 => ?_
    refine AOps.stepGT (.one rfl rfl rfl) hg1 rfl rfl (sp_call (r := .r (.bool r3)) (caps := []) (bs := [.r (.sl (r1.map (rInt .i64))), .r (.sl ([1, 5].map (rInt .i64)))]) rfl (.inl rfl) rfl ⟨⟨_, (.inl rfl), .d rfl⟩, ⟨_, (.inl rfl), .one (.own rfl)⟩, trivial⟩ (fun _ => w_ref_SameInts (er3)) rfl) ?_
    refine AOps.step rfl rfl rfl (OpQ.spec (sp_and rfl (.inl rfl) (.inl rfl)) _) ?_
    refine AOps.step rfl rfl rfl (OpQ.spec (sp_assign rfl (.inl rfl)) _) ?_
    refine AOps.nil ?_
    exact wK3 _ _ ((by exact Weak.cv ⟨.inl (.inl rfl), trivial⟩ trivial (Nat.le_refl _))) (J1 _ (vec [(n0 + 3)]) (Option.some.inj h4).symm)
  · have h3 := ite_f hg1 hp1
    refine AOps.stepGF2 (.one rfl rfl rfl) hg1 rfl rfl ?_
    refine AOps.stepGF2 (.one rfl rfl rfl) hg1 rfl rfl ?_
    refine AOps.step rfl rfl rfl (OpQ.spec (sp_and rfl (.inl rfl) (.inr ⟨_, (by exact id), rfl⟩)) _) ?_
    refine AOps.step rfl rfl rfl (OpQ.spec (sp_assign rfl (.inl rfl)) _) ?_
    refine AOps.nil ?_
    exact wK3 _ _ ((by exact Weak.cv ⟨.inl (.inl rfl), trivial⟩ trivial (Nat.le_refl _))) (J1 _ (vec [(n0 + 2)]) (Option.some.inj h3).symm)
set_option maxHeartbeats 4000000 in
set_option maxRecDepth 20000 in
theorem w_axis_reader_kind {w1 : Axis_Reader} {r : Int} {gb1000 : Nat} (h : axis_reader_kind w1 = some r) : AHC Try.prog 67 1 [.ptr 1000 gb1000 0 0] [(1000, some (.box gb1000 106 [.r (.sl (w1.steps.map GAxisStep.row)), .r (.int .i64 w1.used)]))] (fun rr h' => ∃ (i : Nat → Nat), rr = .r (.int .i64 r) ∧ h' = [(1000, some (.box gb1000 106 [.r (.sl (w1.steps.map GAxisStep.row)), .r (.int .i64 w1.used)]))]) := by
  unfold axis_reader_kind at h
  refine AHC.mkw Try.func67 rfl rfl Try.ntmps67 (Nat.le_of_ble_eq_true rfl) fun n0 => ?_
  refine AW.seq_w fun K1 hK1 wK1 => ?_
  refine AW.region ?_
  refine AOps.step rfl rfl rfl (OpQ.spec (sp_assign rfl (.inl rfl)) _) ?_
  refine AOps.nil ?_
  refine hK1 _ ?_
  refine AW.seq_w fun K2 hK2 wK2 => ?_
  refine AW.seq_w fun K3 hK3 wK3 => ?_
  refine AW.region ?_
  refine AOps.step rfl rfl rfl (OpQ.spec (sp_move rfl (.inl rfl)) _) ?_
  refine AOps.step rfl rfl rfl (OpQ.spec (sp_nilCheck_own (ob := .box _ _ _) rfl (.inl rfl) (fun _ => rfl) rfl) _) ?_
  refine AOps.step rfl rfl rfl (OpQ.spec (sp_fieldAddr_own (ob := .box _ _ _) rfl tf_106_0 (.inl rfl) (fun _ => rfl) rfl) _) ?_
  refine AOps.step rfl rfl rfl (OpQ.spec (ms_load_box (a := .r (.sl (w1.steps.map GAxisStep.row))) rfl ts_22 (.inl rfl) rfl rfl) _) ?_
  refine AOps.step rfl rfl rfl (OpQ.spec (ms_len rfl tg_22.slice (.inl rfl)) _) ?_
  refine AOps.step rfl rfl rfl (OpQ.spec (sp_eql rfl (.inl rfl) (.inl rfl)) _) ?_
  refine AOps.nil ?_
  refine hK3 _ ?_
  refine AW.cond rfl (fun hc1 => ?_) (fun hc1 => ?_)
  · have h1 := ite_t hc1 h
    refine AW.seq_w fun K4 hK4 wK4 => ?_
    refine AW.region ?_
    refine AOps.step rfl rfl rfl (OpQ.spec (sp_assign rfl (.inl rfl)) _) ?_
    refine AOps.nil ?_
    refine hK4 _ ?_
    refine AW.ret ?_
    exact RetW.mk (s' := ⟨[(2, .r (.int .i64 (-1)))], [(1000, some (.box gb1000 106 [.r (.sl (w1.steps.map GAxisStep.row)), .r (.int .i64 w1.used)]))], n0, 16⟩) ((by exact Weak.cv ⟨.inl (.inl rfl), trivial⟩ ⟨.inl rfl, trivial⟩ (Nat.le_refl _))) (reth_cast (fun (r : Int) rr h' => ∃ (i : Nat → Nat), rr = .r (.int .i64 r) ∧ h' = [(1000, some (.box gb1000 106 [.r (.sl (w1.steps.map GAxisStep.row)), .r (.int .i64 w1.used)]))]) h1 (by exact ⟨.r (.int .i64 (-1)), [(1000, some (.box gb1000 106 [.r (.sl (w1.steps.map GAxisStep.row)), .r (.int .i64 w1.used)]))], rfl, ⟨.inr rfl, trivial⟩, rfl, rfl, vec [], rfl, rfl⟩))
  · have h1 := ite_f hc1 h
    refine AW.skip ?_
    refine hK2 _ ?_
    refine AW.seq_w fun K5 hK5 wK5 => ?_
    refine AW.region ?_
    refine AOps.step rfl rfl rfl (OpQ.spec (sp_move rfl (.inl rfl)) _) ?_
    refine AOps.step rfl rfl rfl (OpQ.spec (sp_nilCheck_own (ob := .box _ _ _) rfl (.inl rfl) (fun _ => rfl) rfl) _) ?_
    refine AOps.step rfl rfl rfl (OpQ.spec (sp_fieldAddr_own (ob := .box _ _ _) rfl tf_106_0 (.inl rfl) (fun _ => rfl) rfl) _) ?_
    refine AOps.step rfl rfl rfl (OpQ.spec (ms_load_box (a := .r (.sl (w1.steps.map GAxisStep.row))) rfl ts_22 (.inl rfl) rfl rfl) _) ?_
    refine ob1k h1 fun x1 ex1 h2 => ?_
    refine AOps.step rfl rfl rfl (OpQ.spec (ms_idx rfl tg_22.slice (.inl rfl) (.inl rfl) (fun _ => rfl) (fun _ => ex1)) _) ?_
    refine AOps.step rfl rfl rfl (OpQ.spec (sp_fieldAddr_ro rfl tf_99_0 (.inl rfl)) _) ?_
    refine AOps.step rfl rfl rfl (OpQ.spec (ms_load (d := .int .i64 x1.Kind) rfl ts_3 (.inl rfl) rfl) _) ?_
    refine AOps.step rfl rfl rfl (OpQ.spec (sp_assign rfl (.inl rfl)) _) ?_
    refine AOps.nil ?_
    refine hK5 _ ?_
    refine AW.ret ?_
    exact RetW.mk (s' := ⟨[(2, .r (.int .i64 x1.Kind))], [(1000, some (.box gb1000 106 [.r (.sl (w1.steps.map GAxisStep.row)), .r (.int .i64 w1.used)]))], n0, 16⟩) ((by exact Weak.cv ⟨.inl (.inl rfl), trivial⟩ ⟨.inl rfl, trivial⟩ (Nat.le_refl _))) (reth_cast (fun (r : Int) rr h' => ∃ (i : Nat → Nat), rr = .r (.int .i64 r) ∧ h' = [(1000, some (.box gb1000 106 [.r (.sl (w1.steps.map GAxisStep.row)), .r (.int .i64 w1.used)]))]) h2 (by exact ⟨.r (.int .i64 x1.Kind), [(1000, some (.box gb1000 106 [.r (.sl (w1.steps.map GAxisStep.row)), .r (.int .i64 w1.used)]))], rfl, ⟨.inr rfl, trivial⟩, rfl, rfl, vec [], rfl, rfl⟩))
set_option maxHeartbeats 4000000 in
set_option maxRecDepth 20000 in
theorem w_axis_reader_left {w1 : Axis_Reader} {r : Int} {gb1000 : Nat} (h : axis_reader_left w1 = some r) : AHC Try.prog 69 1 [.ptr 1000 gb1000 0 0] [(1000, some (.box gb1000 106 [.r (.sl (w1.steps.map GAxisStep.row)), .r (.int .i64 w1.used)]))] (fun rr h' => ∃ (i : Nat → Nat), rr = .r (.int .i64 r) ∧ h' = [(1000, some (.box gb1000 106 [.r (.sl (w1.steps.map GAxisStep.row)), .r (.int .i64 w1.used)]))]) := by
  unfold axis_reader_left at h
  refine AHC.mkw Try.func69 rfl rfl Try.ntmps69 (Nat.le_of_ble_eq_true rfl) fun n0 => ?_
  refine AW.seq_w fun K1 hK1 wK1 => ?_
  refine AW.region ?_
  refine AOps.step rfl rfl rfl (OpQ.spec (sp_assign rfl (.inl rfl)) _) ?_
  refine AOps.nil ?_
  refine hK1 _ ?_
  refine AW.seq_w fun K2 hK2 wK2 => ?_
  refine AW.regionQ hmix (by kernel_rfl) ?_
  refine AQ.step rfl rfl rfl (sp_move rfl (.inl rfl)) ?_
  refine AQ.step rfl rfl rfl (sp_nilCheck_own (ob := .box _ _ _) rfl (.inl rfl) (fun _ => rfl) rfl) ?_
  refine AQ.step rfl rfl rfl (sp_fieldAddr_own (ob := .box _ _ _) rfl tf_106_0 (.inl rfl) (fun _ => rfl) rfl) ?_
  refine AQ.step rfl rfl rfl (ms_load_box (a := .r (.sl (w1.steps.map GAxisStep.row))) rfl ts_22 (.inl rfl) rfl rfl) ?_
  refine ob1k h fun x1 ex1 h1 => ?_
  refine AQ.step rfl rfl rfl (ms_idx rfl tg_22.slice (.inl rfl) (.inl rfl) (fun _ => rfl) (fun _ => ex1)) ?_
  refine AQ.step rfl rfl rfl (sp_fieldAddr_ro rfl tf_99_1 (.inl rfl)) ?_
  refine AQ.step rfl rfl rfl (ms_load (d := .int .i64 x1.N) rfl ts_3 (.inl rfl) rfl) ?_
  refine AQ.step rfl rfl rfl (sp_move rfl (.inl rfl)) ?_
  refine AQ.step rfl rfl rfl (sp_nilCheck_own (ob := .box _ _ _) rfl (.inl rfl) (fun _ => rfl) rfl) ?_
  refine AQ.step rfl rfl rfl (sp_fieldAddr_own (ob := .box _ _ _) rfl tf_106_1 (.inl rfl) (fun _ => rfl) rfl) ?_
  refine AQ.step rfl rfl rfl (ms_load_box (a := .r (.int .i64 w1.used)) rfl ts_3 (.inl rfl) rfl rfl) ?_
  refine ob1k h1 fun x2 ex2 h2 => ?_
  refine AQ.step rfl rfl rfl (ms_sub rfl (.inl rfl) (.inl rfl) (fun _ => ex2)) ?_
  refine AQ.step rfl rfl rfl (sp_assign rfl (.inl rfl)) ?_
  refine AQ.nil ?_
  refine hK2 _ ?_
  refine AW.ret ?_
  exact RetW.mk (s' := ⟨[(2, .r (.int .i64 x2))], [(1000, some (.box gb1000 106 [.r (.sl (w1.steps.map GAxisStep.row)), .r (.int .i64 w1.used)]))], n0, 15⟩) ((by exact Weak.cv ⟨.inl (.inl rfl), trivial⟩ ⟨.inl rfl, trivial⟩ (Nat.le_refl _))) (reth_cast (fun (r : Int) rr h' => ∃ (i : Nat → Nat), rr = .r (.int .i64 r) ∧ h' = [(1000, some (.box gb1000 106 [.r (.sl (w1.steps.map GAxisStep.row)), .r (.int .i64 w1.used)]))]) h2 (by exact ⟨.r (.int .i64 x2), [(1000, some (.box gb1000 106 [.r (.sl (w1.steps.map GAxisStep.row)), .r (.int .i64 w1.used)]))], rfl, ⟨.inr rfl, trivial⟩, rfl, rfl, vec [], rfl, rfl⟩))
set_option maxHeartbeats 4000000 in
set_option maxRecDepth 20000 in
theorem w_axis_writer_flush {w1 : Axis_Writer} {r : Axis_Writer} {gb1000 : Nat} {ga1001 : Nat} (h : axis_writer_flush w1 = some r) : AHC Try.prog 118 2 [.ptr 1000 gb1000 0 0] [(1000, some (.box gb1000 103 [.own 1001 ga1001, .r (.int .i64 w1.add), .r (.int .i64 w1.cut)])), (1001, some (.arr ga1001 99 2 (w1.out.map GAxisStep.row)))] (fun rr h' => ∃ (i : Nat → Nat), rr = .tup [] ∧ h' = [(1000, some (.box gb1000 103 [.own 1001 (i 0), .r (.int .i64 r.add), .r (.int .i64 r.cut)])), (1001, some (.arr (i 0) 99 2 (r.out.map GAxisStep.row)))]) := by
  unfold axis_writer_flush at h
  refine AHC.mkw Try.func118 rfl rfl Try.ntmps118 (Nat.le_of_ble_eq_true rfl) fun n0 => ?_
  refine AW.seq_w fun K1 hK1 wK1 => ?_
  refine AW.seq_w fun K2 hK2 wK2 => ?_
  refine AW.region ?_
  refine AOps.step rfl rfl rfl (OpQ.spec (sp_move rfl (.inl rfl)) _) ?_
  refine AOps.step rfl rfl rfl (OpQ.spec (sp_nilCheck_own (ob := .box _ _ _) rfl (.inl rfl) (fun _ => rfl) rfl) _) ?_
  refine AOps.step rfl rfl rfl (OpQ.spec (sp_fieldAddr_own (ob := .box _ _ _) rfl tf_103_1 (.inl rfl) (fun _ => rfl) rfl) _) ?_
  refine AOps.step rfl rfl rfl (OpQ.spec (ms_load_box (a := .r (.int .i64 w1.add)) rfl ts_3 (.inl rfl) rfl rfl) _) ?_
  refine AOps.step rfl rfl rfl (OpQ.spec (sp_gtr rfl (.inl rfl) (.inl rfl)) _) ?_
  refine AOps.nil ?_
  refine hK2 _ ?_
  refine jb1k h fun p1 hp1 hk1 => ?_
  have J1 : ∀ (w2 : Axis_Writer) (i1 : Nat → Nat), p1 = w2 → K1 ⟨[(0, .ptr 1000 gb1000 0 0)], [(1000, some (.box gb1000 103 [.own 1001 (i1 0), .r (.int .i64 w2.add), .r (.int .i64 w2.cut)])), (1001, some (.arr (i1 0) 99 2 (w2.out.map GAxisStep.row)))], (i1 1), 46⟩ := by
    intro w2 i1 e
    have h1 := hk1 _ e
    refine hK1 _ ?_
    refine AW.seq_w fun K3 hK3 wK3 => ?_
    refine AW.seq_w fun K4 hK4 wK4 => ?_
    refine AW.region ?_
    refine AOps.step rfl rfl rfl (OpQ.spec (sp_move rfl (.inl rfl)) _) ?_
    refine AOps.step rfl rfl rfl (OpQ.spec (sp_nilCheck_own (ob := .box _ _ _) rfl (.inl rfl) (fun _ => rfl) rfl) _) ?_
    refine AOps.step rfl rfl rfl (OpQ.spec (sp_fieldAddr_own (ob := .box _ _ _) rfl tf_103_2 (.inl rfl) (fun _ => rfl) rfl) _) ?_
    refine AOps.step rfl rfl rfl (OpQ.spec (ms_load_box (a := .r (.int .i64 w2.cut)) rfl ts_3 (.inl rfl) rfl rfl) _) ?_
    refine AOps.step rfl rfl rfl (OpQ.spec (sp_gtr rfl (.inl rfl) (.inl rfl)) _) ?_
    refine AOps.nil ?_
    refine hK4 _ ?_
    refine jb1k h1 fun p2 hp2 hk2 => ?_
    have J2 : ∀ (w3 : Axis_Writer) (i2 : Nat → Nat), p2 = w3 → K3 ⟨[(0, .ptr 1000 gb1000 0 0)], [(1000, some (.box gb1000 103 [.own 1001 (i2 0), .r (.int .i64 w3.add), .r (.int .i64 w3.cut)])), (1001, some (.arr (i2 0) 99 2 (w3.out.map GAxisStep.row)))], (i2 1), 46⟩ := by
      intro w3 i2 e
      have h2 := hk2 _ e
      refine hK3 _ ?_
      refine AW.region ?_
      refine AOps.step rfl rfl rfl (OpQ.spec (sp_move rfl (.inl rfl)) _) ?_
      refine AOps.step rfl rfl rfl (OpQ.spec (sp_move rfl (.inl rfl)) _) ?_
      refine AOps.step rfl rfl rfl (OpQ.spec (sp_nilCheck_own (ob := .box _ _ _) rfl (.inl rfl) (fun _ => rfl) rfl) _) ?_
      refine AOps.step rfl rfl rfl (OpQ.spec (sp_fieldAddr_own (ob := .box _ _ _) rfl tf_103_1 (.inl rfl) (fun _ => rfl) rfl) _) ?_
      refine AOps.step0 rfl rfl (ms_store_box (ds := [.own 1001 (i2 0), .r (.int .i64 0), .r (.int .i64 w3.cut)]) rfl tz_3 (.inl rfl) rfl (.inl rfl) rfl rfl rfl rfl) ?_
      refine AOps.step rfl rfl rfl (OpQ.spec (sp_nilCheck_own (ob := .box _ _ _) rfl (.inl rfl) (fun _ => rfl) rfl) _) ?_
      refine AOps.step rfl rfl rfl (OpQ.spec (sp_fieldAddr_own (ob := .box _ _ _) rfl tf_103_2 (.inl rfl) (fun _ => rfl) rfl) _) ?_
      refine AOps.step0 rfl rfl (ms_store_box (ds := [.own 1001 (i2 0), .r (.int .i64 0), .r (.int .i64 0)]) rfl tz_3 (.inl rfl) rfl (.inl rfl) rfl rfl rfl rfl) ?_
      refine AOps.nil ?_
      exact RetW.mk (s' := ⟨[], [(1000, some (.box gb1000 103 [.own 1001 (i2 0), .r (.int .i64 0), .r (.int .i64 0)])), (1001, some (.arr (i2 0) 99 2 (w3.out.map GAxisStep.row)))], (i2 1), 46⟩) ((by exact Weak.cv trivial ⟨.inl rfl, .inl rfl, trivial⟩ (Nat.le_refl _))) (reth_cast (fun (r : Axis_Writer) rr h' => ∃ (i : Nat → Nat), rr = .tup [] ∧ h' = [(1000, some (.box gb1000 103 [.own 1001 (i 0), .r (.int .i64 r.add), .r (.int .i64 r.cut)])), (1001, some (.arr (i 0) 99 2 (r.out.map GAxisStep.row)))]) h2 (by exact ⟨.tup [], [(1000, some (.box gb1000 103 [.own 1001 (i2 0), .r (.int .i64 0), .r (.int .i64 0)])), (1001, some (.arr (i2 0) 99 2 (w3.out.map GAxisStep.row)))], ⟨_, rfl, trivial⟩, ⟨.inr rfl, .inr rfl, trivial⟩, rfl, rfl, vec [(i2 0)], rfl, rfl⟩))
    refine AW.cond rfl (fun hc1 => ?_) (fun hc1 => ?_)
    · have h3 := ite_t hc1 hp2
      refine AW.regionF' [0] [1, 2, 3, 4, 5, 6, 7, 8, 9] [10] 11 hmix (by kernel_rfl) rfl rfl rfl rfl rfl ?_
      refine AFl.move rfl rfl rfl rfl ?_
      refine AFl.nil ?_
      refine AF.step rfl rfl rfl (sp_move rfl (.inl rfl)) ?_
      refine AF.step rfl rfl rfl (sp_nilCheck_own (ob := .box _ _ _) rfl (.inl rfl) (fun _ => rfl) rfl) ?_
      refine AF.step rfl rfl rfl (sp_fieldAddr_own (ob := .box _ _ _) rfl tf_103_0 (.inl rfl) (fun _ => rfl) rfl) ?_
      refine AF.step rfl rfl rfl (ms_load_box (a := .own 1001 (i1 0)) rfl ts_22 (.inl rfl) rfl rfl) ?_
      refine AF.step rfl rfl rfl (sp_move rfl (.inl rfl)) ?_
      refine AF.step rfl rfl rfl (sp_nilCheck_own (ob := .box _ _ _) rfl (.inl rfl) (fun _ => rfl) rfl) ?_
      refine AF.step rfl rfl rfl (sp_fieldAddr_own (ob := .box _ _ _) rfl tf_103_2 (.inl rfl) (fun _ => rfl) rfl) ?_
      refine AF.step rfl rfl rfl (ms_load_box (a := .r (.int .i64 w2.cut)) rfl ts_3 (.inl rfl) rfl rfl) ?_
      refine AF.step rfl rfl rfl (sp_build rfl tb_99 (q := [(0, _), (1, _)]) (by exact ⟨rfl, rfl, rfl, (.inl rfl), rfl, rfl, rfl, (.inl rfl), trivial⟩) (cs := [.r (.int .i64 2), .r (.int .i64 w2.cut)]) (by rfl)) ?_
      refine AF.nil ?_
      refine AA.step rfl rfl rfl (msA_lit 36 rfl tg_22 (f := GAxisStep.row) (l := ([(GAxisStep.mk 2 w2.cut)] : List GAxisStep)) ⟨rfl, ⟨_, (.inl rfl), rfl⟩, trivial⟩ rfl (fun _ => rfl) rfl) ?_
      refine AA.nil ?_
      refine ob1k h3 fun l1 el1 h4 => ?_
      refine AOps.step rfl rfl rfl (ms_app rfl tg_22 (.inl rfl) rfl (.inr (.inl ⟨_, _, (.inl rfl), rfl⟩)) el1) ?_
      refine AOps.step rfl rfl rfl (OpQ.spec (sp_nilCheck_own (ob := .box _ _ _) rfl (.inl rfl) (fun _ => rfl) rfl) _) ?_
      refine AOps.step rfl rfl rfl (OpQ.spec (sp_fieldAddr_own (ob := .box _ _ _) rfl tf_103_0 (.inl rfl) (fun _ => rfl) rfl) _) ?_
      refine AOps.step0 rfl rfl (ms_store_box (ds := [.own 1001 ((i1 1) + 1), .r (.int .i64 w2.add), .r (.int .i64 w2.cut)]) rfl tz_22 (.inl rfl) rfl (.inl rfl) rfl rfl rfl rfl) ?_
      refine AOps.nil ?_
      exact wK3 _ _ ((by exact Weak.cv ⟨.inl (.inl rfl), trivial⟩ ⟨.inl rfl, .inl rfl, trivial⟩ (Nat.le_refl _))) (J2 _ (vec [((i1 1) + 1), ((i1 1) + 2)]) (Option.some.inj h4).symm)
    · have h3 := ite_f hc1 hp2
      refine AW.skip ?_
      exact wK3 _ _ ((by exact Weak.cv ⟨.inl (.inl rfl), trivial⟩ ⟨.inl rfl, .inl rfl, trivial⟩ (Nat.le_refl _))) (J2 _ (vec [(i1 0), (i1 1)]) (Option.some.inj h3).symm)
  refine AW.cond rfl (fun hc2 => ?_) (fun hc2 => ?_)
  · have h5 := ite_t hc2 hp1
    refine AW.regionF' [0] [1, 2, 3, 4, 5, 6, 7, 8, 9] [10] 11 hmix (by kernel_rfl) rfl rfl rfl rfl rfl ?_
    refine AFl.move rfl rfl rfl rfl ?_
    refine AFl.nil ?_
    refine AF.step rfl rfl rfl (sp_move rfl (.inl rfl)) ?_
    refine AF.step rfl rfl rfl (sp_nilCheck_own (ob := .box _ _ _) rfl (.inl rfl) (fun _ => rfl) rfl) ?_
    refine AF.step rfl rfl rfl (sp_fieldAddr_own (ob := .box _ _ _) rfl tf_103_0 (.inl rfl) (fun _ => rfl) rfl) ?_
    refine AF.step rfl rfl rfl (ms_load_box (a := .own 1001 ga1001) rfl ts_22 (.inl rfl) rfl rfl) ?_
    refine AF.step rfl rfl rfl (sp_move rfl (.inl rfl)) ?_
    refine AF.step rfl rfl rfl (sp_nilCheck_own (ob := .box _ _ _) rfl (.inl rfl) (fun _ => rfl) rfl) ?_
    refine AF.step rfl rfl rfl (sp_fieldAddr_own (ob := .box _ _ _) rfl tf_103_1 (.inl rfl) (fun _ => rfl) rfl) ?_
    refine AF.step rfl rfl rfl (ms_load_box (a := .r (.int .i64 w1.add)) rfl ts_3 (.inl rfl) rfl rfl) ?_
    refine AF.step rfl rfl rfl (sp_build rfl tb_99 (q := [(0, _), (1, _)]) (by exact ⟨rfl, rfl, rfl, (.inl rfl), rfl, rfl, rfl, (.inl rfl), trivial⟩) (cs := [.r (.int .i64 1), .r (.int .i64 w1.add)]) (by rfl)) ?_
    refine AF.nil ?_
    refine AA.step rfl rfl rfl (msA_lit 17 rfl tg_22 (f := GAxisStep.row) (l := ([(GAxisStep.mk 1 w1.add)] : List GAxisStep)) ⟨rfl, ⟨_, (.inl rfl), rfl⟩, trivial⟩ rfl (fun _ => rfl) rfl) ?_
    refine AA.nil ?_
    refine ob1k h5 fun l2 el2 h6 => ?_
    refine AOps.step rfl rfl rfl (ms_app rfl tg_22 (.inl rfl) rfl (.inr (.inl ⟨_, _, (.inl rfl), rfl⟩)) el2) ?_
    refine AOps.step rfl rfl rfl (OpQ.spec (sp_nilCheck_own (ob := .box _ _ _) rfl (.inl rfl) (fun _ => rfl) rfl) _) ?_
    refine AOps.step rfl rfl rfl (OpQ.spec (sp_fieldAddr_own (ob := .box _ _ _) rfl tf_103_0 (.inl rfl) (fun _ => rfl) rfl) _) ?_
    refine AOps.step0 rfl rfl (ms_store_box (ds := [.own 1001 (n0 + 1), .r (.int .i64 w1.add), .r (.int .i64 w1.cut)]) rfl tz_22 (.inl rfl) rfl (.inl rfl) rfl rfl rfl rfl) ?_
    refine AOps.nil ?_
    exact wK1 _ _ ((by exact Weak.cv ⟨.inl (.inl rfl), trivial⟩ ⟨.inl rfl, .inl rfl, trivial⟩ (Nat.le_refl _))) (J1 _ (vec [(n0 + 1), (n0 + 2)]) (Option.some.inj h6).symm)
  · have h5 := ite_f hc2 hp1
    refine AW.skip ?_
    exact wK1 _ _ ((by exact Weak.cv ⟨.inl (.inl rfl), trivial⟩ ⟨.inl rfl, .inl rfl, trivial⟩ (Nat.le_refl _))) (J1 _ (vec [ga1001, n0]) (Option.some.inj h5).symm)
set_option maxHeartbeats 4000000 in
set_option maxRecDepth 20000 in
theorem w_axis_writer_put {w1 : Axis_Writer} {kind1 : Int} {n1 : Int} {r : Axis_Writer} {gb1000 : Nat} {ga1001 : Nat} (h : axis_writer_put w1 kind1 n1 = some r) : AHC Try.prog 68 2 [.ptr 1000 gb1000 0 0, .r (.int .i64 kind1), .r (.int .i64 n1)] [(1000, some (.box gb1000 103 [.own 1001 ga1001, .r (.int .i64 w1.add), .r (.int .i64 w1.cut)])), (1001, some (.arr ga1001 99 2 (w1.out.map GAxisStep.row)))] (fun rr h' => ∃ (i : Nat → Nat), rr = .tup [] ∧ h' = [(1000, some (.box gb1000 103 [.own 1001 (i 0), .r (.int .i64 r.add), .r (.int .i64 r.cut)])), (1001, some (.arr (i 0) 99 2 (r.out.map GAxisStep.row)))]) := by
  unfold axis_writer_put at h
  refine AHC.mkw Try.func68 rfl rfl Try.ntmps68 (Nat.le_of_ble_eq_true rfl) fun n0 => ?_
  refine AW.block ?_
  refine AW.seq_w fun K1 hK1 wK1 => ?_
  refine AW.region ?_
  refine AOps.step rfl rfl rfl (OpQ.spec (sp_move rfl (.inl rfl)) _) ?_
  refine AOps.step rfl rfl rfl (OpQ.spec (sp_eql rfl (.inl rfl) (.inl rfl)) _) ?_
  refine AOps.step rfl rfl rfl (OpQ.spec (sp_assign rfl (.inl rfl)) _) ?_
  refine AOps.nil ?_
  refine hK1 _ ?_
  refine AW.cond rfl (fun hc1 => ?_) (fun hc1 => ?_)
  · have h1 := ite_t hc1 h
    refine AW.skip ?_
    exact RetW.mk (s' := ⟨[], [(1000, some (.box gb1000 103 [.own 1001 ga1001, .r (.int .i64 w1.add), .r (.int .i64 w1.cut)])), (1001, some (.arr ga1001 99 2 (w1.out.map GAxisStep.row)))], n0, 76⟩) ((by exact Weak.cv trivial ⟨.inl rfl, .inl rfl, trivial⟩ (Nat.le_refl _))) (reth_cast (fun (r : Axis_Writer) rr h' => ∃ (i : Nat → Nat), rr = .tup [] ∧ h' = [(1000, some (.box gb1000 103 [.own 1001 (i 0), .r (.int .i64 r.add), .r (.int .i64 r.cut)])), (1001, some (.arr (i 0) 99 2 (r.out.map GAxisStep.row)))]) h1 (by exact ⟨.tup [], [(1000, some (.box gb1000 103 [.own 1001 ga1001, .r (.int .i64 w1.add), .r (.int .i64 w1.cut)])), (1001, some (.arr ga1001 99 2 (w1.out.map GAxisStep.row)))], ⟨_, rfl, trivial⟩, ⟨.inr rfl, .inr rfl, trivial⟩, rfl, rfl, vec [ga1001], rfl, rfl⟩))
  · have h1 := ite_f hc1 h
    refine AW.seq_w fun K2 hK2 wK2 => ?_
    refine AW.region ?_
    refine AOps.step rfl rfl rfl (OpQ.spec (sp_move rfl (.inl rfl)) _) ?_
    refine AOps.step rfl rfl rfl (OpQ.spec (sp_eql rfl (.inl rfl) (.inl rfl)) _) ?_
    refine AOps.step rfl rfl rfl (OpQ.spec (sp_assign rfl (.inl rfl)) _) ?_
    refine AOps.nil ?_
    refine hK2 _ ?_
    refine AW.cond rfl (fun hc2 => ?_) (fun hc2 => ?_)
    · have h2 := ite_t hc2 h1
      refine AW.region ?_
      refine AOps.step rfl rfl rfl (OpQ.spec (sp_move rfl (.inl rfl)) _) ?_
      refine AOps.step rfl rfl rfl (OpQ.spec (sp_nilCheck_own (ob := .box _ _ _) rfl (.inl rfl) (fun _ => rfl) rfl) _) ?_
      refine AOps.step rfl rfl rfl (OpQ.spec (sp_fieldAddr_own (ob := .box _ _ _) rfl tf_103_1 (.inl rfl) (fun _ => rfl) rfl) _) ?_
      refine AOps.step rfl rfl rfl (OpQ.spec (ms_load_box (a := .r (.int .i64 w1.add)) rfl ts_3 (.inl rfl) rfl rfl) _) ?_
      refine AOps.step rfl rfl rfl (OpQ.spec (sp_move rfl (.inl rfl)) _) ?_
      refine ob1k h2 fun x1 ex1 h3 => ?_
      refine AOps.step rfl rfl rfl (OpQ.spec (ms_add rfl (.inl rfl) (.inl rfl) (fun _ => ex1)) _) ?_
      refine AOps.step rfl rfl rfl (OpQ.spec (sp_nilCheck_own (ob := .box _ _ _) rfl (.inl rfl) (fun _ => rfl) rfl) _) ?_
      refine AOps.step rfl rfl rfl (OpQ.spec (sp_fieldAddr_own (ob := .box _ _ _) rfl tf_103_1 (.inl rfl) (fun _ => rfl) rfl) _) ?_
      refine AOps.step0 rfl rfl (ms_store_box (ds := [.own 1001 ga1001, .r (.int .i64 x1), .r (.int .i64 w1.cut)]) rfl tz_3 (.inl rfl) rfl (.inl rfl) rfl rfl rfl rfl) ?_
      refine AOps.nil ?_
      exact RetW.mk (s' := ⟨[], [(1000, some (.box gb1000 103 [.own 1001 ga1001, .r (.int .i64 x1), .r (.int .i64 w1.cut)])), (1001, some (.arr ga1001 99 2 (w1.out.map GAxisStep.row)))], n0, 76⟩) ((by exact Weak.cv trivial ⟨.inl rfl, .inl rfl, trivial⟩ (Nat.le_refl _))) (reth_cast (fun (r : Axis_Writer) rr h' => ∃ (i : Nat → Nat), rr = .tup [] ∧ h' = [(1000, some (.box gb1000 103 [.own 1001 (i 0), .r (.int .i64 r.add), .r (.int .i64 r.cut)])), (1001, some (.arr (i 0) 99 2 (r.out.map GAxisStep.row)))]) h3 (by exact ⟨.tup [], [(1000, some (.box gb1000 103 [.own 1001 ga1001, .r (.int .i64 x1), .r (.int .i64 w1.cut)])), (1001, some (.arr ga1001 99 2 (w1.out.map GAxisStep.row)))], ⟨_, rfl, trivial⟩, ⟨.inr rfl, .inr rfl, trivial⟩, rfl, rfl, vec [ga1001], rfl, rfl⟩))
    · have h2 := ite_f hc2 h1
      refine AW.seq_w fun K3 hK3 wK3 => ?_
      refine AW.region ?_
      refine AOps.step rfl rfl rfl (OpQ.spec (sp_move rfl (.inl rfl)) _) ?_
      refine AOps.step rfl rfl rfl (OpQ.spec (sp_eql rfl (.inl rfl) (.inl rfl)) _) ?_
      refine AOps.step rfl rfl rfl (OpQ.spec (sp_assign rfl (.inl rfl)) _) ?_
      refine AOps.nil ?_
      refine hK3 _ ?_
      refine AW.cond rfl (fun hc3 => ?_) (fun hc3 => ?_)
      · have h4 := ite_t hc3 h2
        refine AW.weak (s' := ⟨[(0, .ptr 1000 gb1000 0 0), (2, .r (.int .i64 n1))], [(1000, some (.box gb1000 103 [.own 1001 ga1001, .r (.int .i64 w1.add), .r (.int .i64 w1.cut)])), (1001, some (.arr ga1001 99 2 (w1.out.map GAxisStep.row)))], n0, 76⟩) (by exact Weak.cv ⟨.inl (.inl rfl), .inl (.inl rfl), trivial⟩ ⟨.inl rfl, .inl rfl, trivial⟩ (Nat.le_refl _)) ?_
        refine AW.region ?_
        refine AOps.step rfl rfl rfl (OpQ.spec (sp_move rfl (.inl rfl)) _) ?_
        refine AOps.step rfl rfl rfl (OpQ.spec (sp_nilCheck_own (ob := .box _ _ _) rfl (.inl rfl) (fun _ => rfl) rfl) _) ?_
        refine AOps.step rfl rfl rfl (OpQ.spec (sp_fieldAddr_own (ob := .box _ _ _) rfl tf_103_2 (.inl rfl) (fun _ => rfl) rfl) _) ?_
        refine AOps.step rfl rfl rfl (OpQ.spec (ms_load_box (a := .r (.int .i64 w1.cut)) rfl ts_3 (.inl rfl) rfl rfl) _) ?_
        refine AOps.step rfl rfl rfl (OpQ.spec (sp_move rfl (.inl rfl)) _) ?_
        refine ob1k h4 fun x2 ex2 h5 => ?_
        refine AOps.step rfl rfl rfl (OpQ.spec (ms_add rfl (.inl rfl) (.inl rfl) (fun _ => ex2)) _) ?_
        refine AOps.step rfl rfl rfl (OpQ.spec (sp_nilCheck_own (ob := .box _ _ _) rfl (.inl rfl) (fun _ => rfl) rfl) _) ?_
        refine AOps.step rfl rfl rfl (OpQ.spec (sp_fieldAddr_own (ob := .box _ _ _) rfl tf_103_2 (.inl rfl) (fun _ => rfl) rfl) _) ?_
        refine AOps.step0 rfl rfl (ms_store_box (ds := [.own 1001 ga1001, .r (.int .i64 w1.add), .r (.int .i64 x2)]) rfl tz_3 (.inl rfl) rfl (.inl rfl) rfl rfl rfl rfl) ?_
        refine AOps.nil ?_
        exact RetW.mk (s' := ⟨[], [(1000, some (.box gb1000 103 [.own 1001 ga1001, .r (.int .i64 w1.add), .r (.int .i64 x2)])), (1001, some (.arr ga1001 99 2 (w1.out.map GAxisStep.row)))], n0, 76⟩) ((by exact Weak.cv trivial ⟨.inl rfl, .inl rfl, trivial⟩ (Nat.le_refl _))) (reth_cast (fun (r : Axis_Writer) rr h' => ∃ (i : Nat → Nat), rr = .tup [] ∧ h' = [(1000, some (.box gb1000 103 [.own 1001 (i 0), .r (.int .i64 r.add), .r (.int .i64 r.cut)])), (1001, some (.arr (i 0) 99 2 (r.out.map GAxisStep.row)))]) h5 (by exact ⟨.tup [], [(1000, some (.box gb1000 103 [.own 1001 ga1001, .r (.int .i64 w1.add), .r (.int .i64 x2)])), (1001, some (.arr ga1001 99 2 (w1.out.map GAxisStep.row)))], ⟨_, rfl, trivial⟩, ⟨.inr rfl, .inr rfl, trivial⟩, rfl, rfl, vec [ga1001], rfl, rfl⟩))
      · have h4 := ite_f hc3 h2
        refine AW.seq_w fun K4 hK4 wK4 => ?_
        refine AW.weak (s' := ⟨[(0, .ptr 1000 gb1000 0 0), (2, .r (.int .i64 n1))], [(1000, some (.box gb1000 103 [.own 1001 ga1001, .r (.int .i64 w1.add), .r (.int .i64 w1.cut)])), (1001, some (.arr ga1001 99 2 (w1.out.map GAxisStep.row)))], n0, 76⟩) (by exact Weak.cv ⟨.inl (.inl rfl), .inl (.inl rfl), trivial⟩ ⟨.inl rfl, .inl rfl, trivial⟩ (Nat.le_refl _)) ?_
        refine AW.region ?_
        refine AOps.step rfl rfl rfl (OpQ.spec (sp_move rfl (.inl rfl)) _) ?_
        refine ob1k h4 fun w2 ew2 h6 => ?_
        refine AOps.stepHI [1000, 1001] (hc := [(1000, some (.box gb1000 103 [.own 1001 ga1001, .r (.int .i64 w1.add), .r (.int .i64 w1.cut)])), (1001, some (.arr ga1001 99 2 (w1.out.map GAxisStep.row)))]) (bs := [.ptr 1000 gb1000 0 0]) (caps := []) rfl rfl rfl rfl (.inl rfl) rfl ⟨.inl ⟨(.inl rfl), rfl⟩, trivial⟩ ⟨rfl, rfl, rfl, rfl, rfl, rfl, trivial⟩ (by decide) (w_axis_writer_flush ew2) ?_
        intro i1 n2
        refine AOps.weak (s' := ⟨[(0, .ptr 1000 gb1000 0 0), (2, .r (.int .i64 n1)), (7, .ptr 1000 gb1000 0 0), (8, .tup [])], [(1000, some (.box gb1000 103 [.own 1001 (i1 0), .r (.int .i64 w2.add), .r (.int .i64 w2.cut)])), (1001, some (.arr (i1 0) 99 2 (w2.out.map GAxisStep.row)))], n2, 76⟩) (by exact Weak.cv ⟨.inl (.inl rfl), .inl (.inl rfl), .inl (.inl rfl), .inl (.inl rfl), trivial⟩ ⟨.inl rfl, .inl rfl, trivial⟩ (Nat.le_refl _)) ?_
        refine AOps.nil ?_
        refine hK4 _ ?_
        refine AW.seq_w fun K5 hK5 wK5 => ?_
        refine AW.seq_w fun K6 hK6 wK6 => ?_
        refine AW.region ?_
        refine AOps.step rfl rfl rfl (OpQ.spec (sp_move rfl (.inl rfl)) _) ?_
        refine AOps.step rfl rfl rfl (OpQ.spec (sp_nilCheck_own (ob := .box _ _ _) rfl (.inl rfl) (fun _ => rfl) rfl) _) ?_
        refine AOps.step rfl rfl rfl (OpQ.spec (sp_fieldAddr_own (ob := .box _ _ _) rfl tf_103_0 (.inl rfl) (fun _ => rfl) rfl) _) ?_
        refine AOps.step rfl rfl rfl (OpQ.spec (ms_load_box (a := .own 1001 (i1 0)) rfl ts_22 (.inl rfl) rfl rfl) _) ?_
        refine AOps.step rfl rfl rfl (OpQ.spec (ms_len_own rfl tg_22.slice (.inl rfl) rfl) _) ?_
        refine ob1k h6 fun k1 ek1 h7 => ?_
        refine AOps.step rfl rfl rfl (OpQ.spec (ms_sub rfl (.inl rfl) (.inl rfl) (fun _ => ek1)) _) ?_
        refine AOps.step rfl rfl rfl (OpQ.spec (sp_assign rfl (.inl rfl)) _) ?_
        refine AOps.nil ?_
        refine hK6 _ ?_
        refine AW.seq_w fun K7 hK7 wK7 => ?_
        refine AW.region ?_
        refine AOps.step rfl rfl rfl (OpQ.spec (sp_move rfl (.inl rfl)) _) ?_
        refine AOps.step rfl rfl rfl (OpQ.spec (sp_geq rfl (.inl rfl) (.inl rfl)) _) ?_
        refine AOps.step rfl rfl rfl (OpQ.spec (sp_move rfl (.inl rfl)) _) ?_
        refine AOps.stepW (.one rfl rfl rfl) rfl rfl (OpQ.spec (sp_move rfl (.inl rfl)) _) ?_
        refine AOps.stepW (.one rfl rfl rfl) rfl rfl (OpQ.spec (sp_nilCheck_own (ob := .box _ _ _) rfl (.inr ⟨_, (by exact id), rfl⟩) (fun _ => rfl) rfl) _) ?_
        refine AOps.stepW (.one rfl rfl rfl) rfl rfl (OpQ.spec (sp_fieldAddr_own (ob := .box _ _ _) rfl tf_103_0 (.inr ⟨_, (by exact id), rfl⟩) (fun _ => rfl) rfl) _) ?_
        refine AOps.stepW (.one rfl rfl rfl) rfl rfl (OpQ.spec (ms_load_box (a := .own 1001 (i1 0)) rfl ts_22 (.inr ⟨_, (by exact id), rfl⟩) rfl rfl) _) ?_
        refine AOps.stepW (.one rfl rfl rfl) rfl rfl (OpQ.spec (sp_move rfl (.inl rfl)) _) ?_
        refine ob1k h7 fun x3 ex3 h8 => ?_
        refine AOps.stepW (.one rfl rfl rfl) rfl rfl (OpQ.spec (ms_idx_own rfl tg_22.slice (.inr ⟨_, (by exact id), rfl⟩) rfl (.inr ⟨_, (by exact id), rfl⟩) (gdt ex3)) _) ?_
        refine AOps.stepW (.one rfl rfl rfl) rfl rfl (OpQ.spec (sp_fieldAddr_own (ob := .arr _ _ _ _) rfl tf_99_0 (.inr ⟨_, (by exact id), rfl⟩) (fun _ => rfl) rfl) _) ?_
        refine AOps.stepW (.one rfl rfl rfl) rfl rfl (OpQ.spec (ms_load_own (d := .int .i64 x3.Kind) rfl ts_3 (.inr ⟨_, (by exact id), rfl⟩) (fun _ => rfl) (gdt ex3) rfl) _) ?_
        refine AOps.stepW (.one rfl rfl rfl) rfl rfl (OpQ.spec (sp_eql rfl (.inr ⟨_, (by exact id), rfl⟩) (.inl rfl)) _) ?_
        refine AOps.step rfl rfl rfl (OpQ.spec (sp_and rfl (.inl rfl) (.inr ⟨_, (by exact id), rfl⟩)) _) ?_
        refine AOps.nil ?_
        refine hK7 _ ?_
        refine AW.cond rfl (fun hc4 => ?_) (fun hc4 => ?_)
        · have h9 := ite_t hc4 h8
          refine AW.seq_w fun K8 hK8 wK8 => ?_
          refine AW.weak (s' := ⟨[(0, .ptr 1000 gb1000 0 0), (2, .r (.int .i64 n1)), (6, .r (.int .i64 k1))], [(1000, some (.box gb1000 103 [.own 1001 (i1 0), .r (.int .i64 w2.add), .r (.int .i64 w2.cut)])), (1001, some (.arr (i1 0) 99 2 (w2.out.map GAxisStep.row)))], n2, 76⟩) (by exact Weak.cv ⟨.inl (.inl rfl), .inl (.inl rfl), .inl (.inl rfl), trivial⟩ ⟨.inl rfl, .inl rfl, trivial⟩ (Nat.le_refl _)) ?_
          refine AW.region ?_
          refine AOps.step rfl rfl rfl (OpQ.spec (sp_move rfl (.inl rfl)) _) ?_
          refine AOps.step rfl rfl rfl (OpQ.spec (sp_nilCheck_own (ob := .box _ _ _) rfl (.inl rfl) (fun _ => rfl) rfl) _) ?_
          refine AOps.step rfl rfl rfl (OpQ.spec (sp_fieldAddr_own (ob := .box _ _ _) rfl tf_103_0 (.inl rfl) (fun _ => rfl) rfl) _) ?_
          refine AOps.step rfl rfl rfl (OpQ.spec (ms_load_box (a := .own 1001 (i1 0)) rfl ts_22 (.inl rfl) rfl rfl) _) ?_
          refine AOps.step rfl rfl rfl (OpQ.spec (sp_move rfl (.inl rfl)) _) ?_
          refine ob1k h9 fun x4 ex4 h10 => ?_
          refine AOps.step rfl rfl rfl (OpQ.spec (ms_idx_own rfl tg_22.slice (.inl rfl) rfl (.inl rfl) (fun _ => ex4)) _) ?_
          refine AOps.step rfl rfl rfl (OpQ.spec (sp_fieldAddr_own (ob := .arr _ _ _ _) rfl tf_99_1 (.inl rfl) (fun _ => rfl) rfl) _) ?_
          refine AOps.step rfl rfl rfl (OpQ.spec (ms_load_own (d := .int .i64 x4.N) rfl ts_3 (.inl rfl) (fun _ => rfl) (fun _ => ex4) rfl) _) ?_
          refine AOps.step rfl rfl rfl (OpQ.spec (sp_move rfl (.inl rfl)) _) ?_
          refine ob1k h10 fun x5 ex5 h11 => ?_
          refine AOps.step rfl rfl rfl (OpQ.spec (ms_add rfl (.inl rfl) (.inl rfl) (fun _ => ex5)) _) ?_
          refine AOps.step rfl rfl rfl (OpQ.spec (ms_idx_own rfl tg_22.slice (.inl rfl) rfl (.inl rfl) (fun _ => ex4)) _) ?_
          refine AOps.step rfl rfl rfl (OpQ.spec (sp_fieldAddr_own (ob := .arr _ _ _ _) rfl tf_99_1 (.inl rfl) (fun _ => rfl) rfl) _) ?_
          refine AOps.step0 rfl rfl (ms_store (v := (GAxisStep.mk x4.Kind x5)) rfl tz_3 (.inl rfl) rfl ex4 (.inl rfl) rfl rfl rfl rfl) ?_
          refine AOps.nil ?_
          refine hK8 _ ?_
          refine AW.ret ?_
          exact RetW.mk (s' := ⟨[], [(1000, some (.box gb1000 103 [.own 1001 (i1 0), .r (.int .i64 w2.add), .r (.int .i64 w2.cut)])), (1001, some (.arr (i1 0) 99 2 ((w2.out.set k1.toNat (GAxisStep.mk x4.Kind x5)).map GAxisStep.row)))], n2, 76⟩) ((by exact Weak.cv trivial ⟨.inl rfl, .inl rfl, trivial⟩ (Nat.le_refl _))) (reth_cast (fun (r : Axis_Writer) rr h' => ∃ (i : Nat → Nat), rr = .tup [] ∧ h' = [(1000, some (.box gb1000 103 [.own 1001 (i 0), .r (.int .i64 r.add), .r (.int .i64 r.cut)])), (1001, some (.arr (i 0) 99 2 (r.out.map GAxisStep.row)))]) h11 (by exact ⟨.tup [], [(1000, some (.box gb1000 103 [.own 1001 (i1 0), .r (.int .i64 w2.add), .r (.int .i64 w2.cut)])), (1001, some (.arr (i1 0) 99 2 ((w2.out.set k1.toNat (GAxisStep.mk x4.Kind x5)).map GAxisStep.row)))], ⟨_, rfl, trivial⟩, ⟨.inr rfl, .inr rfl, trivial⟩, rfl, rfl, vec [(i1 0)], rfl, rfl⟩))
        · have h9 := ite_f hc4 h8
          refine AW.skip ?_
          refine hK5 _ ?_
          refine AW.weak (s' := ⟨[(0, .ptr 1000 gb1000 0 0), (2, .r (.int .i64 n1))], [(1000, some (.box gb1000 103 [.own 1001 (i1 0), .r (.int .i64 w2.add), .r (.int .i64 w2.cut)])), (1001, some (.arr (i1 0) 99 2 (w2.out.map GAxisStep.row)))], n2, 76⟩) (by exact Weak.cv ⟨.inl (.inl rfl), .inl (.inl rfl), trivial⟩ ⟨.inl rfl, .inl rfl, trivial⟩ (Nat.le_refl _)) ?_
          refine AW.region ?_
          refine AOps.step rfl rfl rfl (OpQ.spec (sp_move rfl (.inl rfl)) _) ?_
          refine AOps.step rfl rfl rfl (OpQ.spec (sp_move rfl (.inl rfl)) _) ?_
          refine AOps.step rfl rfl rfl (OpQ.spec (sp_nilCheck_own (ob := .box _ _ _) rfl (.inl rfl) (fun _ => rfl) rfl) _) ?_
          refine AOps.step rfl rfl rfl (OpQ.spec (sp_fieldAddr_own (ob := .box _ _ _) rfl tf_103_0 (.inl rfl) (fun _ => rfl) rfl) _) ?_
          refine AOps.step rfl rfl rfl (OpQ.spec (ms_load_box (a := .own 1001 (i1 0)) rfl ts_22 (.inl rfl) rfl rfl) _) ?_
          refine AOps.step rfl rfl rfl (OpQ.spec (sp_move rfl (.inl rfl)) _) ?_
          refine AOps.step rfl rfl rfl (OpQ.spec (sp_build rfl tb_99 (q := [(0, _), (1, _)]) (by exact ⟨rfl, rfl, rfl, (.inl rfl), rfl, rfl, rfl, (.inl rfl), trivial⟩) (cs := [.r (.int .i64 0), .r (.int .i64 n1)]) (by rfl)) _) ?_
          refine AOps.step rfl rfl rfl (ms_lit 47 rfl tg_22 (f := GAxisStep.row) (l := ([(GAxisStep.mk 0 n1)] : List GAxisStep)) ⟨rfl, ⟨_, (.inl rfl), rfl⟩, trivial⟩ rfl (fun _ => rfl) rfl) ?_
          refine ob1k h9 fun l1 el1 h12 => ?_
          refine AOps.step rfl rfl rfl (ms_app rfl tg_22 (.inl rfl) rfl (.inr (.inl ⟨_, _, (.inl rfl), rfl⟩)) el1) ?_
          refine AOps.step rfl rfl rfl (OpQ.spec (sp_nilCheck_own (ob := .box _ _ _) rfl (.inl rfl) (fun _ => rfl) rfl) _) ?_
          refine AOps.step rfl rfl rfl (OpQ.spec (sp_fieldAddr_own (ob := .box _ _ _) rfl tf_103_0 (.inl rfl) (fun _ => rfl) rfl) _) ?_
          refine AOps.step0 rfl rfl (ms_store_box (ds := [.own 1001 (n2 + 1), .r (.int .i64 w2.add), .r (.int .i64 w2.cut)]) rfl tz_22 (.inl rfl) rfl (.inl rfl) rfl rfl rfl rfl) ?_
          refine AOps.nil ?_
          exact RetW.mk (s' := ⟨[], [(1000, some (.box gb1000 103 [.own 1001 (n2 + 1), .r (.int .i64 w2.add), .r (.int .i64 w2.cut)])), (1001, some (.arr (n2 + 1) 99 2 (l1.map GAxisStep.row)))], (n2 + 2), 76⟩) ((by exact Weak.cv trivial ⟨.inl rfl, .inl rfl, trivial⟩ (Nat.le_refl _))) (reth_cast (fun (r : Axis_Writer) rr h' => ∃ (i : Nat → Nat), rr = .tup [] ∧ h' = [(1000, some (.box gb1000 103 [.own 1001 (i 0), .r (.int .i64 r.add), .r (.int .i64 r.cut)])), (1001, some (.arr (i 0) 99 2 (r.out.map GAxisStep.row)))]) h12 (by exact ⟨.tup [], [(1000, some (.box gb1000 103 [.own 1001 (n2 + 1), .r (.int .i64 w2.add), .r (.int .i64 w2.cut)])), (1001, some (.arr (n2 + 1) 99 2 (l1.map GAxisStep.row)))], ⟨_, rfl, trivial⟩, ⟨.inr rfl, .inr rfl, trivial⟩, rfl, rfl, vec [(n2 + 1)], rfl, rfl⟩))
set_option maxHeartbeats 4000000 in
set_option maxRecDepth 20000 in
theorem w_axis_reader_take {w1 : Axis_Reader} {n1 : Int} {r : Axis_Reader} {gb1000 : Nat} (h : axis_reader_take w1 n1 = some r) : AHC Try.prog 70 1 [.ptr 1000 gb1000 0 0, .r (.int .i64 n1)] [(1000, some (.box gb1000 106 [.r (.sl (w1.steps.map GAxisStep.row)), .r (.int .i64 w1.used)]))] (fun rr h' => ∃ (i : Nat → Nat), rr = .tup [] ∧ h' = [(1000, some (.box gb1000 106 [.r (.sl (r.steps.map GAxisStep.row)), .r (.int .i64 r.used)]))]) := by
  unfold axis_reader_take at h
  refine AHC.mkw Try.func70 rfl rfl Try.ntmps70 (Nat.le_of_ble_eq_true rfl) fun n0 => ?_
  refine AW.seq_w fun K1 hK1 wK1 => ?_
  refine AW.region ?_
  refine AOps.step rfl rfl rfl (OpQ.spec (sp_move rfl (.inl rfl)) _) ?_
  refine AOps.step rfl rfl rfl (OpQ.spec (sp_nilCheck_own (ob := .box _ _ _) rfl (.inl rfl) (fun _ => rfl) rfl) _) ?_
  refine AOps.step rfl rfl rfl (OpQ.spec (sp_fieldAddr_own (ob := .box _ _ _) rfl tf_106_1 (.inl rfl) (fun _ => rfl) rfl) _) ?_
  refine AOps.step rfl rfl rfl (OpQ.spec (ms_load_box (a := .r (.int .i64 w1.used)) rfl ts_3 (.inl rfl) rfl rfl) _) ?_
  refine AOps.step rfl rfl rfl (OpQ.spec (sp_move rfl (.inl rfl)) _) ?_
  refine ob1k h fun x1 ex1 h1 => ?_
  refine AOps.step rfl rfl rfl (OpQ.spec (ms_add rfl (.inl rfl) (.inl rfl) (fun _ => ex1)) _) ?_
  refine AOps.step rfl rfl rfl (OpQ.spec (sp_nilCheck_own (ob := .box _ _ _) rfl (.inl rfl) (fun _ => rfl) rfl) _) ?_
  refine AOps.step rfl rfl rfl (OpQ.spec (sp_fieldAddr_own (ob := .box _ _ _) rfl tf_106_1 (.inl rfl) (fun _ => rfl) rfl) _) ?_
  refine AOps.step0 rfl rfl (ms_store_box (ds := [.r (.sl (w1.steps.map GAxisStep.row)), .r (.int .i64 x1)]) rfl tz_3 (.inl rfl) rfl (.inl rfl) rfl rfl rfl rfl) ?_
  refine AOps.nil ?_
  refine hK1 _ ?_
  refine AW.seq_w fun K2 hK2 wK2 => ?_
  refine AW.weak (s' := ⟨[(0, .ptr 1000 gb1000 0 0)], [(1000, some (.box gb1000 106 [.r (.sl (w1.steps.map GAxisStep.row)), .r (.int .i64 x1)]))], n0, 35⟩) (by exact Weak.cv ⟨.inl (.inl rfl), trivial⟩ ⟨.inl rfl, trivial⟩ (Nat.le_refl _)) ?_
  refine AW.regionQ hmix (by kernel_rfl) ?_
  refine AQ.step rfl rfl rfl (sp_move rfl (.inl rfl)) ?_
  refine AQ.step rfl rfl rfl (sp_nilCheck_own (ob := .box _ _ _) rfl (.inl rfl) (fun _ => rfl) rfl) ?_
  refine AQ.step rfl rfl rfl (sp_fieldAddr_own (ob := .box _ _ _) rfl tf_106_1 (.inl rfl) (fun _ => rfl) rfl) ?_
  refine AQ.step rfl rfl rfl (ms_load_box (a := .r (.int .i64 x1)) rfl ts_3 (.inl rfl) rfl rfl) ?_
  refine AQ.step rfl rfl rfl (sp_move rfl (.inl rfl)) ?_
  refine AQ.step rfl rfl rfl (sp_nilCheck_own (ob := .box _ _ _) rfl (.inl rfl) (fun _ => rfl) rfl) ?_
  refine AQ.step rfl rfl rfl (sp_fieldAddr_own (ob := .box _ _ _) rfl tf_106_0 (.inl rfl) (fun _ => rfl) rfl) ?_
  refine AQ.step rfl rfl rfl (ms_load_box (a := .r (.sl (w1.steps.map GAxisStep.row))) rfl ts_22 (.inl rfl) rfl rfl) ?_
  refine ob1k h1 fun x2 ex2 h2 => ?_
  refine AQ.step rfl rfl rfl (ms_idx rfl tg_22.slice (.inl rfl) (.inl rfl) (fun _ => rfl) (fun _ => ex2)) ?_
  refine AQ.step rfl rfl rfl (sp_fieldAddr_ro rfl tf_99_1 (.inl rfl)) ?_
  refine AQ.step rfl rfl rfl (ms_load (d := .int .i64 x2.N) rfl ts_3 (.inl rfl) rfl) ?_
  refine AQ.step rfl rfl rfl (sp_eql rfl (.inl rfl) (.inl rfl)) ?_
  refine AQ.nil ?_
  refine hK2 _ ?_
  refine AW.cond rfl (fun hc1 => ?_) (fun hc1 => ?_)
  · have h3 := ite_t hc1 h2
    refine AW.weak (s' := ⟨[(0, .ptr 1000 gb1000 0 0)], [(1000, some (.box gb1000 106 [.r (.sl (w1.steps.map GAxisStep.row)), .r (.int .i64 x1)]))], n0, 35⟩) (by exact Weak.cv ⟨.inl (.inl rfl), trivial⟩ ⟨.inl rfl, trivial⟩ (Nat.le_refl _)) ?_
    refine AW.region ?_
    refine AOps.step rfl rfl rfl (OpQ.spec (sp_move rfl (.inl rfl)) _) ?_
    refine AOps.step rfl rfl rfl (OpQ.spec (sp_move rfl (.inl rfl)) _) ?_
    refine AOps.step rfl rfl rfl (OpQ.spec (sp_move rfl (.inl rfl)) _) ?_
    refine AOps.step rfl rfl rfl (OpQ.spec (sp_nilCheck_own (ob := .box _ _ _) rfl (.inl rfl) (fun _ => rfl) rfl) _) ?_
    refine AOps.step rfl rfl rfl (OpQ.spec (sp_fieldAddr_own (ob := .box _ _ _) rfl tf_106_0 (.inl rfl) (fun _ => rfl) rfl) _) ?_
    refine AOps.step rfl rfl rfl (OpQ.spec (ms_load_box (a := .r (.sl (w1.steps.map GAxisStep.row))) rfl ts_22 (.inl rfl) rfl rfl) _) ?_
    refine ob1k h3 fun l1 el1 h4 => ?_
    refine AOps.step rfl rfl rfl (OpQ.spec (ms_slice rfl tg_22.slice (.inl rfl) (by exact ⟨_, (.inl rfl)⟩) (by exact rfl) (fun _ => rfl) (fun _ => el1)) _) ?_
    refine AOps.step rfl rfl rfl (OpQ.spec (sp_nilCheck_own (ob := .box _ _ _) rfl (.inl rfl) (fun _ => rfl) rfl) _) ?_
    refine AOps.step rfl rfl rfl (OpQ.spec (sp_fieldAddr_own (ob := .box _ _ _) rfl tf_106_0 (.inl rfl) (fun _ => rfl) rfl) _) ?_
    refine AOps.step0 rfl rfl (ms_store_box (ds := [.r (.sl (l1.map GAxisStep.row)), .r (.int .i64 x1)]) rfl tz_22 (.inl rfl) rfl (.inl rfl) rfl rfl rfl rfl) ?_
    refine AOps.step rfl rfl rfl (OpQ.spec (sp_nilCheck_own (ob := .box _ _ _) rfl (.inl rfl) (fun _ => rfl) rfl) _) ?_
    refine AOps.step rfl rfl rfl (OpQ.spec (sp_fieldAddr_own (ob := .box _ _ _) rfl tf_106_1 (.inl rfl) (fun _ => rfl) rfl) _) ?_
    refine AOps.step0 rfl rfl (ms_store_box (ds := [.r (.sl (l1.map GAxisStep.row)), .r (.int .i64 0)]) rfl tz_3 (.inl rfl) rfl (.inl rfl) rfl rfl rfl rfl) ?_
    refine AOps.nil ?_
    exact RetW.mk (s' := ⟨[], [(1000, some (.box gb1000 106 [.r (.sl (l1.map GAxisStep.row)), .r (.int .i64 0)]))], n0, 35⟩) ((by exact Weak.cv trivial ⟨.inl rfl, trivial⟩ (Nat.le_refl _))) (reth_cast (fun (r : Axis_Reader) rr h' => ∃ (i : Nat → Nat), rr = .tup [] ∧ h' = [(1000, some (.box gb1000 106 [.r (.sl (r.steps.map GAxisStep.row)), .r (.int .i64 r.used)]))]) h4 (by exact ⟨.tup [], [(1000, some (.box gb1000 106 [.r (.sl (l1.map GAxisStep.row)), .r (.int .i64 0)]))], ⟨_, rfl, trivial⟩, ⟨.inr rfl, trivial⟩, rfl, rfl, vec [], rfl, rfl⟩))
  · have h3 := ite_f hc1 h2
    refine AW.skip ?_
    exact RetW.mk (s' := ⟨[], [(1000, some (.box gb1000 106 [.r (.sl (w1.steps.map GAxisStep.row)), .r (.int .i64 x1)]))], n0, 35⟩) ((by exact Weak.cv trivial ⟨.inl rfl, trivial⟩ (Nat.le_refl _))) (reth_cast (fun (r : Axis_Reader) rr h' => ∃ (i : Nat → Nat), rr = .tup [] ∧ h' = [(1000, some (.box gb1000 106 [.r (.sl (r.steps.map GAxisStep.row)), .r (.int .i64 r.used)]))]) h3 (by exact ⟨.tup [], [(1000, some (.box gb1000 106 [.r (.sl (w1.steps.map GAxisStep.row)), .r (.int .i64 x1)]))], ⟨_, rfl, trivial⟩, ⟨.inr rfl, trivial⟩, rfl, rfl, vec [], rfl, rfl⟩))
set_option maxHeartbeats 4000000 in
set_option maxRecDepth 20000 in
theorem w_axis_writer_done {w1 : Axis_Writer} {r : (List GAxisStep) × Int × Axis_Writer} {gb1000 : Nat} {ga1001 : Nat} (h : axis_writer_done w1 = some r) : AHC Try.prog 71 2 [.ptr 1000 gb1000 0 0] [(1000, some (.box gb1000 103 [.own 1001 ga1001, .r (.int .i64 w1.add), .r (.int .i64 w1.cut)])), (1001, some (.arr ga1001 99 2 (w1.out.map GAxisStep.row)))] (fun rr h' => ∃ (i : Nat → Nat), rr = .tup [.r (.sl (r.1.map GAxisStep.row)), .r (.int .i64 r.2.1)] ∧ h' = [(1000, some (.box gb1000 103 [.r (.sl (r.2.2.out.map GAxisStep.row)), .r (.int .i64 r.2.2.add), .r (.int .i64 r.2.2.cut)]))]) := by
  unfold axis_writer_done at h
  refine AHC.mkw Try.func71 rfl rfl Try.ntmps71 (Nat.le_of_ble_eq_true rfl) fun n0 => ?_
  refine AW.seq_w fun K1 hK1 wK1 => ?_
  refine AW.region ?_
  refine AOps.step rfl rfl rfl (OpQ.spec (sp_assign rfl (.inl rfl)) _) ?_
  refine AOps.step rfl rfl rfl (OpQ.spec (sp_assign rfl (.inl rfl)) _) ?_
  refine AOps.nil ?_
  refine hK1 _ ?_
  refine AW.seq_w fun K2 hK2 wK2 => ?_
  refine AW.region ?_
  refine AOps.step rfl rfl rfl (OpQ.spec (sp_move rfl (.inl rfl)) _) ?_
  refine ob1k h fun w2 ew2 h1 => ?_
  refine AOps.stepHI [1000, 1001] (hc := [(1000, some (.box gb1000 103 [.own 1001 ga1001, .r (.int .i64 w1.add), .r (.int .i64 w1.cut)])), (1001, some (.arr ga1001 99 2 (w1.out.map GAxisStep.row)))]) (bs := [.ptr 1000 gb1000 0 0]) (caps := []) rfl rfl rfl rfl (.inl rfl) rfl ⟨.inl ⟨(.inl rfl), rfl⟩, trivial⟩ ⟨rfl, rfl, rfl, rfl, rfl, rfl, trivial⟩ (by decide) (w_axis_writer_flush ew2) ?_
  intro i1 n1
  refine AOps.weak (s' := ⟨[(0, .ptr 1000 gb1000 0 0), (2, .cst (.slice none 0 0)), (3, .r (.int .i64 0)), (4, .ptr 1000 gb1000 0 0), (5, .tup [])], [(1000, some (.box gb1000 103 [.own 1001 (i1 0), .r (.int .i64 w2.add), .r (.int .i64 w2.cut)])), (1001, some (.arr (i1 0) 99 2 (w2.out.map GAxisStep.row)))], n1, 16⟩) (by exact Weak.cv ⟨.inl (.inl rfl), .inl (.inl rfl), .inl (.inl rfl), .inl (.inl rfl), .inl (.inl rfl), trivial⟩ ⟨.inl rfl, .inl rfl, trivial⟩ (Nat.le_refl _)) ?_
  refine AOps.nil ?_
  refine hK2 _ ?_
  refine AW.seq_w fun K3 hK3 wK3 => ?_
  refine AW.seq_w fun K4 hK4 wK4 => ?_
  refine AW.region ?_
  refine AOps.step rfl rfl rfl (OpQ.spec (sp_move rfl (.inl rfl)) _) ?_
  refine AOps.step rfl rfl rfl (OpQ.spec (sp_nilCheck_own (ob := .box _ _ _) rfl (.inl rfl) (fun _ => rfl) rfl) _) ?_
  refine AOps.step rfl rfl rfl (OpQ.spec (sp_fieldAddr_own (ob := .box _ _ _) rfl tf_103_0 (.inl rfl) (fun _ => rfl) rfl) _) ?_
  refine AOps.step rfl rfl rfl (OpQ.spec (ms_load_box (a := .own 1001 (i1 0)) rfl ts_22 (.inl rfl) rfl rfl) _) ?_
  refine ob1k h1 fun r1 er1 h2 => ?_
  refine AOps.step rfl rfl rfl (sp_call (r := .r (.int .i64 r1)) (caps := []) (bs := [.r (.sl (w2.out.map GAxisStep.row))]) rfl (.inl rfl) rfl ⟨⟨_, (.inl rfl), .one (.own rfl)⟩, trivial⟩ (fun _ => w_axis_Check (er1)) rfl) ?_
  refine AOps.step rfl rfl rfl (OpQ.spec (sp_neq rfl (.inl rfl) (.inl rfl)) _) ?_
  refine AOps.nil ?_
  refine hK4 _ ?_
  refine AW.cond rfl (fun hc1 => ?_) (fun hc1 => ?_)
  · have h3 := ite_t hc1 h2
    refine AW.seq_w fun K5 hK5 wK5 => ?_
    refine AW.weak (s' := ⟨[], [(1000, some (.box gb1000 103 [.own 1001 (i1 0), .r (.int .i64 w2.add), .r (.int .i64 w2.cut)])), (1001, some (.arr (i1 0) 99 2 (w2.out.map GAxisStep.row)))], n1, 16⟩) (by exact Weak.cv trivial ⟨.inl rfl, .inl rfl, trivial⟩ (Nat.le_refl _)) ?_
    refine AW.region ?_
    refine AOps.step rfl rfl rfl (OpQ.spec (sp_assign rfl (.inl rfl)) _) ?_
    refine AOps.step rfl rfl rfl (OpQ.spec (sp_assign rfl (.inl rfl)) _) ?_
    refine AOps.nil ?_
    refine hK5 _ ?_
    refine AW.ret ?_
    exact RetW.mk (s' := ⟨[(2, .r (.sl [])), (3, .r (.int .i64 3))], [(1000, some (.box gb1000 103 [.r (.sl (w2.out.map GAxisStep.row)), .r (.int .i64 w2.add), .r (.int .i64 w2.cut)]))], n1, 16⟩) (Weak.trans (by exact Weak.frz (e' := [(2, .cst (.slice none 0 0)), (3, .r (.int .i64 3))]) (h' := [(1000, some (.box gb1000 103 [.r (.sl (w2.out.map GAxisStep.row)), .r (.int .i64 w2.add), .r (.int .i64 w2.cut)]))]) 1001 rfl ⟨.inl (.inl rfl), .inl (.inl rfl), trivial⟩ ⟨rfl, .inr (.inr (.inl ⟨_, _, _, _, rfl, rfl, ⟨.inr (.inr ⟨rfl, rfl⟩), .inl rfl, .inl rfl, trivial⟩⟩)), trivial⟩) (by exact Weak.cv ⟨.inl (.inr (.inr ⟨rfl, rfl⟩)), .inl (.inl rfl), trivial⟩ ⟨.inl rfl, trivial⟩ (Nat.le_refl _))) (reth_cast (fun (r : (List GAxisStep) × Int × Axis_Writer) rr h' => ∃ (i : Nat → Nat), rr = .tup [.r (.sl (r.1.map GAxisStep.row)), .r (.int .i64 r.2.1)] ∧ h' = [(1000, some (.box gb1000 103 [.r (.sl (r.2.2.out.map GAxisStep.row)), .r (.int .i64 r.2.2.add), .r (.int .i64 r.2.2.cut)]))]) h3 (by exact ⟨.tup [.r (.sl []), .r (.int .i64 3)], [(1000, some (.box gb1000 103 [.r (.sl (w2.out.map GAxisStep.row)), .r (.int .i64 w2.add), .r (.int .i64 w2.cut)]))], ⟨_, rfl, ⟨rfl, rfl, trivial⟩⟩, ⟨.inr rfl, trivial⟩, rfl, rfl, vec [], rfl, rfl⟩))
  · have h3 := ite_f hc1 h2
    refine AW.skip ?_
    refine hK3 _ ?_
    refine AW.seq_w fun K6 hK6 wK6 => ?_
    refine AW.weak (s' := ⟨[(0, .ptr 1000 gb1000 0 0)], [(1000, some (.box gb1000 103 [.own 1001 (i1 0), .r (.int .i64 w2.add), .r (.int .i64 w2.cut)])), (1001, some (.arr (i1 0) 99 2 (w2.out.map GAxisStep.row)))], n1, 16⟩) (by exact Weak.cv ⟨.inl (.inl rfl), trivial⟩ ⟨.inl rfl, .inl rfl, trivial⟩ (Nat.le_refl _)) ?_
    refine AW.region ?_
    refine AOps.step rfl rfl rfl (OpQ.spec (sp_move rfl (.inl rfl)) _) ?_
    refine AOps.step rfl rfl rfl (OpQ.spec (sp_nilCheck_own (ob := .box _ _ _) rfl (.inl rfl) (fun _ => rfl) rfl) _) ?_
    refine AOps.step rfl rfl rfl (OpQ.spec (sp_fieldAddr_own (ob := .box _ _ _) rfl tf_103_0 (.inl rfl) (fun _ => rfl) rfl) _) ?_
    refine AOps.step rfl rfl rfl (OpQ.spec (ms_load_box (a := .own 1001 (i1 0)) rfl ts_22 (.inl rfl) rfl rfl) _) ?_
    refine AOps.step rfl rfl rfl (OpQ.spec (sp_assign rfl (.inl rfl)) _) ?_
    refine AOps.step rfl rfl rfl (OpQ.spec (sp_assign rfl (.inl rfl)) _) ?_
    refine AOps.nil ?_
    refine hK6 _ ?_
    refine AW.ret ?_
    exact RetW.mk (s' := ⟨[(2, .r (.sl (w2.out.map GAxisStep.row))), (3, .r (.int .i64 0))], [(1000, some (.box gb1000 103 [.r (.sl (w2.out.map GAxisStep.row)), .r (.int .i64 w2.add), .r (.int .i64 w2.cut)]))], n1, 16⟩) (Weak.trans (by exact Weak.frz (e' := [(0, .ptr 1000 gb1000 0 0), (2, .r (.sl (w2.out.map GAxisStep.row))), (3, .r (.int .i64 0)), (12, .ptr 1000 gb1000 0 0), (13, .ptr 1000 gb1000 0 0), (14, .ptr 1000 gb1000 0 0), (15, .r (.sl (w2.out.map GAxisStep.row)))]) (h' := [(1000, some (.box gb1000 103 [.r (.sl (w2.out.map GAxisStep.row)), .r (.int .i64 w2.add), .r (.int .i64 w2.cut)]))]) 1001 rfl ⟨.inl (.inl rfl), .inl (.inr (.inr ⟨rfl, rfl⟩)), .inl (.inl rfl), .inl (.inl rfl), .inl (.inl rfl), .inl (.inl rfl), .inl (.inr (.inr ⟨rfl, rfl⟩)), trivial⟩ ⟨rfl, .inr (.inr (.inl ⟨_, _, _, _, rfl, rfl, ⟨.inr (.inr ⟨rfl, rfl⟩), .inl rfl, .inl rfl, trivial⟩⟩)), trivial⟩) (by exact Weak.cv ⟨.inl (.inl rfl), .inl (.inl rfl), trivial⟩ ⟨.inl rfl, trivial⟩ (Nat.le_refl _))) (reth_cast (fun (r : (List GAxisStep) × Int × Axis_Writer) rr h' => ∃ (i : Nat → Nat), rr = .tup [.r (.sl (r.1.map GAxisStep.row)), .r (.int .i64 r.2.1)] ∧ h' = [(1000, some (.box gb1000 103 [.r (.sl (r.2.2.out.map GAxisStep.row)), .r (.int .i64 r.2.2.add), .r (.int .i64 r.2.2.cut)]))]) h3 (by exact ⟨.tup [.r (.sl (w2.out.map GAxisStep.row)), .r (.int .i64 0)], [(1000, some (.box gb1000 103 [.r (.sl (w2.out.map GAxisStep.row)), .r (.int .i64 w2.add), .r (.int .i64 w2.cut)]))], ⟨_, rfl, ⟨rfl, rfl, trivial⟩⟩, ⟨.inr rfl, trivial⟩, rfl, rfl, vec [], rfl, rfl⟩))
set_option maxHeartbeats 4000000 in
set_option maxRecDepth 20000 in
theorem w_axis_Join {a1 : List GAxisStep} {b1 : List GAxisStep} {r : (List GAxisStep) × Int} (h : axis_Join a1 b1 = some r) : ARO Try.prog 13 [.r (.sl (a1.map GAxisStep.row)), .r (.sl (b1.map GAxisStep.row))] (.tup [.r (.sl (r.1.map GAxisStep.row)), .r (.int .i64 r.2)]) := by
  unfold axis_Join at h
  refine ARO.mkF Try.func13 rfl rfl Try.ntmps13 rfl (Nat.le_of_ble_eq_true rfl) fun n0 => ?_
  refine AW.seq_w fun K1 hK1 wK1 => ?_
  refine AW.region ?_
  refine AOps.step rfl rfl rfl (OpQ.spec (sp_assign rfl (.inl rfl)) _) ?_
  refine AOps.step rfl rfl rfl (OpQ.spec (sp_assign rfl (.inl rfl)) _) ?_
  refine AOps.nil ?_
  refine hK1 _ ?_
  refine AW.seq_w fun K2 hK2 wK2 => ?_
  refine AW.seq_w fun K3 hK3 wK3 => ?_
  refine AW.region ?_
  refine AOps.step rfl rfl rfl (OpQ.spec (sp_move rfl (.inl rfl)) _) ?_
  refine ob1k h fun e1 ee1 h1 => ?_
  refine AOps.step rfl rfl rfl (sp_call (r := .r (.int .i64 e1)) (caps := []) (bs := [.r (.sl (a1.map GAxisStep.row))]) rfl (.inl rfl) rfl ⟨⟨_, (.inl rfl), .d rfl⟩, trivial⟩ (fun _ => w_axis_Check (ee1)) rfl) ?_
  refine AOps.step rfl rfl rfl (OpQ.spec (sp_assign rfl (.inl rfl)) _) ?_
  refine AOps.nil ?_
  refine hK3 _ ?_
  refine AW.seq_w fun K4 hK4 wK4 => ?_
  refine AW.region ?_
  refine AOps.step rfl rfl rfl (OpQ.spec (sp_move rfl (.inl rfl)) _) ?_
  refine AOps.step rfl rfl rfl (OpQ.spec (sp_neq rfl (.inl rfl) (.inl rfl)) _) ?_
  refine AOps.nil ?_
  refine hK4 _ ?_
  refine AW.cond rfl (fun hc1 => ?_) (fun hc1 => ?_)
  · have h2 := ite_t hc1 h1
    refine AW.seq_w fun K5 hK5 wK5 => ?_
    refine AW.region ?_
    refine AOps.step rfl rfl rfl (OpQ.spec (sp_move rfl (.inl rfl)) _) ?_
    refine AOps.step rfl rfl rfl (OpQ.spec (sp_assign rfl (.inl rfl)) _) ?_
    refine AOps.step rfl rfl rfl (OpQ.spec (sp_assign rfl (.inl rfl)) _) ?_
    refine AOps.nil ?_
    refine hK5 _ ?_
    refine AW.ret ?_
    exact retf2 (P := Try.prog) (fun (r : (List GAxisStep) × Int) => .r (.sl (r.1.map GAxisStep.row))) (fun (r : (List GAxisStep) × Int) => .r (.int .i64 r.2)) h2 (.inl rfl) (.t (.one (.nil))) (.t (.d rfl))
  · have h2 := ite_f hc1 h1
    refine AW.skip ?_
    refine hK2 _ ?_
    refine AW.seq_w fun K6 hK6 wK6 => ?_
    refine AW.seq_w fun K7 hK7 wK7 => ?_
    refine AW.region ?_
    refine AOps.step rfl rfl rfl (OpQ.spec (sp_move rfl (.inl rfl)) _) ?_
    refine ob1k h2 fun e2 ee2 h3 => ?_
    refine AOps.step rfl rfl rfl (sp_call (r := .r (.int .i64 e2)) (caps := []) (bs := [.r (.sl (b1.map GAxisStep.row))]) rfl (.inl rfl) rfl ⟨⟨_, (.inl rfl), .d rfl⟩, trivial⟩ (fun _ => w_axis_Check (ee2)) rfl) ?_
    refine AOps.step rfl rfl rfl (OpQ.spec (sp_assign rfl (.inl rfl)) _) ?_
    refine AOps.nil ?_
    refine hK7 _ ?_
    refine AW.seq_w fun K8 hK8 wK8 => ?_
    refine AW.weak (s' := ⟨[(0, .r (.sl (a1.map GAxisStep.row))), (1, .r (.sl (b1.map GAxisStep.row))), (7, .r (.int .i64 e2))], [], n0, 103⟩) (by exact Weak.cv ⟨.inl (.inl rfl), .inl (.inl rfl), .inl (.inl rfl), trivial⟩ trivial (Nat.le_refl _)) ?_
    refine AW.region ?_
    refine AOps.step rfl rfl rfl (OpQ.spec (sp_move rfl (.inl rfl)) _) ?_
    refine AOps.step rfl rfl rfl (OpQ.spec (sp_neq rfl (.inl rfl) (.inl rfl)) _) ?_
    refine AOps.nil ?_
    refine hK8 _ ?_
    refine AW.cond rfl (fun hc2 => ?_) (fun hc2 => ?_)
    · have h4 := ite_t hc2 h3
      refine AW.seq_w fun K9 hK9 wK9 => ?_
      refine AW.region ?_
      refine AOps.step rfl rfl rfl (OpQ.spec (sp_move rfl (.inl rfl)) _) ?_
      refine AOps.step rfl rfl rfl (OpQ.spec (sp_assign rfl (.inl rfl)) _) ?_
      refine AOps.step rfl rfl rfl (OpQ.spec (sp_assign rfl (.inl rfl)) _) ?_
      refine AOps.nil ?_
      refine hK9 _ ?_
      refine AW.ret ?_
      exact retf2 (P := Try.prog) (fun (r : (List GAxisStep) × Int) => .r (.sl (r.1.map GAxisStep.row))) (fun (r : (List GAxisStep) × Int) => .r (.int .i64 r.2)) h4 (.inl rfl) (.t (.one (.nil))) (.t (.d rfl))
    · have h4 := ite_f hc2 h3
      refine AW.skip ?_
      refine hK6 _ ?_
      refine AW.seq_w fun K10 hK10 wK10 => ?_
      refine AW.region ?_
      refine AOps.step rfl rfl rfl (OpQ.spec (sp_move rfl (.inl rfl)) _) ?_
      refine ob2k h4 fun r1 r2 er1 h5 => ?_
      refine AOps.step rfl rfl rfl (sp_call (r := .tup [.r (.int .i64 r1), .r (.int .i64 r2)]) (caps := []) (bs := [.r (.sl (a1.map GAxisStep.row))]) rfl (.inl rfl) rfl ⟨⟨_, (.inl rfl), .d rfl⟩, trivial⟩ (fun _ => w_axis_lengths (er1)) rfl) ?_
      refine AOps.step rfl rfl rfl (OpQ.spec (sp_move rfl (.inl rfl)) _) ?_
      refine AOps.step rfl rfl rfl (OpQ.spec (sp_extract (a := .r (.int .i64 r1)) rfl (.inl rfl) rfl) _) ?_
      refine AOps.step rfl rfl rfl (OpQ.spec (sp_extract (a := .r (.int .i64 r2)) rfl (.inl rfl) rfl) _) ?_
      refine AOps.step rfl rfl rfl (OpQ.spec (sp_assign rfl (.inl rfl)) _) ?_
      refine AOps.step rfl rfl rfl (OpQ.spec (sp_assign rfl (.inl rfl)) _) ?_
      refine AOps.nil ?_
      refine hK10 _ ?_
      refine AW.seq_w fun K11 hK11 wK11 => ?_
      refine AW.seq_w fun K12 hK12 wK12 => ?_
      refine AW.weak (s' := ⟨[(0, .r (.sl (a1.map GAxisStep.row))), (1, .r (.sl (b1.map GAxisStep.row))), (9, .r (.int .i64 r2))], [], n0, 103⟩) (by exact Weak.cv ⟨.inl (.inl rfl), .inl (.inl rfl), .inl (.inl rfl), trivial⟩ trivial (Nat.le_refl _)) ?_
      refine AW.region ?_
      refine AOps.step rfl rfl rfl (OpQ.spec (sp_move rfl (.inl rfl)) _) ?_
      refine ob2k h5 fun r3 r4 er3 h6 => ?_
      refine AOps.step rfl rfl rfl (sp_call (r := .tup [.r (.int .i64 r3), .r (.int .i64 r4)]) (caps := []) (bs := [.r (.sl (b1.map GAxisStep.row))]) rfl (.inl rfl) rfl ⟨⟨_, (.inl rfl), .d rfl⟩, trivial⟩ (fun _ => w_axis_lengths (er3)) rfl) ?_
      refine AOps.step rfl rfl rfl (OpQ.spec (sp_move rfl (.inl rfl)) _) ?_
      refine AOps.step rfl rfl rfl (OpQ.spec (sp_extract (a := .r (.int .i64 r3)) rfl (.inl rfl) rfl) _) ?_
      refine AOps.step rfl rfl rfl (OpQ.spec (sp_extract (a := .r (.int .i64 r4)) rfl (.inl rfl) rfl) _) ?_
      refine AOps.step rfl rfl rfl (OpQ.spec (sp_assign rfl (.inl rfl)) _) ?_
      refine AOps.step rfl rfl rfl (OpQ.spec (sp_assign rfl (.inl rfl)) _) ?_
      refine AOps.nil ?_
      refine hK12 _ ?_
      refine AW.seq_w fun K13 hK13 wK13 => ?_
      refine AW.region ?_
      refine AOps.step rfl rfl rfl (OpQ.spec (sp_move rfl (.inl rfl)) _) ?_
      refine AOps.step rfl rfl rfl (OpQ.spec (sp_move rfl (.inl rfl)) _) ?_
      refine AOps.step rfl rfl rfl (OpQ.spec (sp_neq rfl (.inl rfl) (.inl rfl)) _) ?_
      refine AOps.nil ?_
      refine hK13 _ ?_
      refine AW.cond rfl (fun hc3 => ?_) (fun hc3 => ?_)
      · have h7 := ite_t hc3 h6
        refine AW.seq_w fun K14 hK14 wK14 => ?_
        refine AW.weak (s' := ⟨[], [], n0, 103⟩) (by exact Weak.cv trivial trivial (Nat.le_refl _)) ?_
        refine AW.region ?_
        refine AOps.step rfl rfl rfl (OpQ.spec (sp_assign rfl (.inl rfl)) _) ?_
        refine AOps.step rfl rfl rfl (OpQ.spec (sp_assign rfl (.inl rfl)) _) ?_
        refine AOps.nil ?_
        refine hK14 _ ?_
        refine AW.ret ?_
        exact retf2 (P := Try.prog) (fun (r : (List GAxisStep) × Int) => .r (.sl (r.1.map GAxisStep.row))) (fun (r : (List GAxisStep) × Int) => .r (.int .i64 r.2)) h7 (.inl rfl) (.t (.one (.nil))) (.t (.d rfl))
      · have h7 := ite_f hc3 h6
        refine AW.skip ?_
        refine hK11 _ ?_
        refine AW.seq_w fun K15 hK15 wK15 => ?_
        refine AW.weak (s' := ⟨[(0, .r (.sl (a1.map GAxisStep.row))), (1, .r (.sl (b1.map GAxisStep.row)))], [], n0, 103⟩) (by exact Weak.cv ⟨.inl (.inl rfl), .inl (.inl rfl), trivial⟩ trivial (Nat.le_refl _)) ?_
        refine AW.region ?_
        refine AOps.step rfl rfl rfl (ms_alloc (cs := [.cst (.slice none 0 0), .r (.int .i64 0), .r (.int .i64 0)]) 12 rfl t0_103 rfl rfl) ?_
        refine AOps.nil ?_
        refine hK15 _ ?_
        refine AW.seq_w fun K16 hK16 wK16 => ?_
        refine AW.region ?_
        refine AOps.step rfl rfl rfl (OpQ.spec (sp_move rfl (.inl rfl)) _) ?_
        refine AOps.step rfl rfl rfl (OpQ.spec (sp_build rfl tb_106 (q := [(0, _)]) (by exact ⟨rfl, rfl, rfl, (.inl rfl), trivial⟩) (cs := [.r (.sl (a1.map GAxisStep.row)), .r (.int .i64 0)]) (by rfl)) _) ?_
        refine AOps.step rfl rfl rfl (ms_box (cs := [.r (.sl (a1.map GAxisStep.row)), .r (.int .i64 0)]) 41 rfl (.inl rfl) rfl rfl) ?_
        refine AOps.step rfl rfl rfl (OpQ.spec (sp_move rfl (.inl rfl)) _) ?_
        refine AOps.step rfl rfl rfl (OpQ.spec (sp_build rfl tb_106 (q := [(0, _)]) (by exact ⟨rfl, rfl, rfl, (.inl rfl), trivial⟩) (cs := [.r (.sl (b1.map GAxisStep.row)), .r (.int .i64 0)]) (by rfl)) _) ?_
        refine AOps.step rfl rfl rfl (ms_box (cs := [.r (.sl (b1.map GAxisStep.row)), .r (.int .i64 0)]) 44 rfl (.inl rfl) rfl rfl) ?_
        refine AOps.step rfl rfl rfl (OpQ.spec (sp_assign rfl (.inl rfl)) _) ?_
        refine AOps.step rfl rfl rfl (OpQ.spec (sp_assign rfl (.inl rfl)) _) ?_
        refine AOps.nil ?_
        refine hK16 _ ?_
        refine AW.seq_w fun K17 hK17 wK17 => ?_
        refine AW.block ?_
        refine jb1k h7 fun o1 hit1 hk1 => ?_
        have J1 : ∀ (w4 : Axis_Writer) (i5 : Nat → Nat), o1 = w4 → K17 ⟨[(12, .ptr 12 n0 0 0)], [(12, some (.box n0 103 [.own 3120 (i5 0), .r (.int .i64 w4.add), .r (.int .i64 w4.cut)])), (3120, some (.arr (i5 0) 99 2 (w4.out.map GAxisStep.row)))], (i5 1), 103⟩ := by
          intro w4 i5 e
          have h8 := hk1 _ e
          refine hK17 _ ?_
          refine AW.seq_w fun K18 hK18 wK18 => ?_
          refine AW.region ?_
          refine ob3k h8 fun r5 r6 w5 er5 h9 => ?_
          refine AOps.stepHI [12, 3120] (hc := [(1000, some (.box n0 103 [.own 1001 (i5 0), .r (.int .i64 w4.add), .r (.int .i64 w4.cut)])), (1001, some (.arr (i5 0) 99 2 (w4.out.map GAxisStep.row)))]) (bs := [.ptr 1000 n0 0 0]) (caps := []) rfl rfl rfl rfl (.inl rfl) rfl ⟨.inl ⟨(.inl rfl), rfl⟩, trivial⟩ ⟨rfl, rfl, rfl, rfl, rfl, rfl, trivial⟩ (by decide) (w_axis_writer_done er5) ?_
          intro i6 n1
          refine AOps.weak (s' := ⟨[(12, .ptr 12 n0 0 0), (100, .tup [.r (.sl (r5.map GAxisStep.row)), .r (.int .i64 r6)])], [(12, some (.box n0 103 [.r (.sl (w5.out.map GAxisStep.row)), .r (.int .i64 w5.add), .r (.int .i64 w5.cut)]))], n1, 103⟩) (by exact Weak.cv ⟨.inl (.inl rfl), .inl (.inl rfl), trivial⟩ ⟨.inl rfl, trivial⟩ (Nat.le_refl _)) ?_
          refine AOps.step rfl rfl rfl (OpQ.spec (sp_extract (a := .r (.sl (r5.map GAxisStep.row))) rfl (.inl rfl) rfl) _) ?_
          refine AOps.step rfl rfl rfl (OpQ.spec (sp_extract (a := .r (.int .i64 r6)) rfl (.inl rfl) rfl) _) ?_
          refine AOps.step rfl rfl rfl (OpQ.spec (sp_assign rfl (.inl rfl)) _) ?_
          refine AOps.step rfl rfl rfl (OpQ.spec (sp_assign rfl (.inl rfl)) _) ?_
          refine AOps.nil ?_
          refine hK18 _ ?_
          refine AW.ret ?_
          exact retf2 (P := Try.prog) (fun (r : (List GAxisStep) × Int) => .r (.sl (r.1.map GAxisStep.row))) (fun (r : (List GAxisStep) × Int) => .r (.int .i64 r.2)) h9 (.inl rfl) (.t (.d rfl)) (.t (.d rfl))
        refine AW.iter3 (fun (w2 : Axis_Writer) (p2 : Axis_Reader) (q2 : Axis_Reader) i3 => ⟨[(12, .ptr 12 n0 0 0), (13, .ptr 41 (n0 + 1) 0 0), (14, .ptr 44 (n0 + 2) 0 0)], [(12, some (.box n0 103 [.own 3120 (i3 0), .r (.int .i64 w2.add), .r (.int .i64 w2.cut)])), (41, some (.box (n0 + 1) 106 [.r (.sl (p2.steps.map GAxisStep.row)), .r (.int .i64 p2.used)])), (44, some (.box (n0 + 2) 106 [.r (.sl (q2.steps.map GAxisStep.row)), .r (.int .i64 q2.used)])), (3120, some (.arr (i3 0) 99 2 (w2.out.map GAxisStep.row)))], (i3 1), 103⟩) (vec [(n0 + 3), (n0 + 4)]) hit1 (Weak.trans (Weak.trans (Weak.adoptBox 12 0 3120 99 2 (by decide) rfl rfl (by decide)) (by exact Weak.cv (e' := [(0, .r (.sl (a1.map GAxisStep.row))), (1, .r (.sl (b1.map GAxisStep.row))), (12, .ptr 12 n0 0 0), (13, .ptr 41 (n0 + 1) 0 0), (14, .ptr 44 (n0 + 2) 0 0), (39, .r (.sl (a1.map GAxisStep.row))), (40, .agg [.r (.sl (a1.map GAxisStep.row)), .r (.int .i64 0)]), (41, .ptr 41 (n0 + 1) 0 0), (42, .r (.sl (b1.map GAxisStep.row))), (43, .agg [.r (.sl (b1.map GAxisStep.row)), .r (.int .i64 0)]), (44, .ptr 44 (n0 + 2) 0 0)]) (h' := [(12, some (.box n0 103 [.own 3120 (n0 + 3), .r (.int .i64 0), .r (.int .i64 0)])), (41, some (.box (n0 + 1) 106 [.r (.sl (a1.map GAxisStep.row)), .r (.int .i64 0)])), (44, some (.box (n0 + 2) 106 [.r (.sl (b1.map GAxisStep.row)), .r (.int .i64 0)])), (3120, some (.arr (n0 + 3) 99 2 (([] : List GAxisStep).map GAxisStep.row)))]) ⟨.inl (.inl rfl), .inl (.inl rfl), .inl (.inl rfl), .inl (.inl rfl), .inl (.inl rfl), .inl (.inl rfl), .inl (.inl rfl), .inl (.inl rfl), .inl (.inl rfl), .inl (.inl rfl), .inl (.inl rfl), trivial⟩ ⟨.inl rfl, .inl rfl, .inl rfl, .inl rfl, trivial⟩ (Nat.le_refl _))) (by exact Weak.cv ⟨.inl (.inl rfl), .inl (.inl rfl), .inl (.inl rfl), trivial⟩ ⟨.inl rfl, .inl rfl, .inl rfl, .inl rfl, trivial⟩ (Nat.le_refl _))) ?_
        intro w2 p2 q2 i3 v1 hv1 hx1
        have h10 : axis_Join_L1 w2 p2 q2 = some v1 := hv1; unfold axis_Join_L1 at h10
        refine AW.seq_w fun K19 hK19 wK19 => ?_
        refine AW.seq_w fun K20 hK20 wK20 => ?_
        refine AW.region ?_
        refine AOps.step rfl rfl rfl (OpQ.spec (sp_move rfl (.inl rfl)) _) ?_
        refine ob1k h10 fun r7 er7 h11 => ?_
        refine AOps.stepHI [41] (hc := [(1000, some (.box (n0 + 1) 106 [.r (.sl (p2.steps.map GAxisStep.row)), .r (.int .i64 p2.used)]))]) (bs := [.ptr 1000 (n0 + 1) 0 0]) (caps := []) rfl rfl rfl rfl (.inl rfl) rfl ⟨.inl ⟨(.inl rfl), rfl⟩, trivial⟩ ⟨rfl, rfl, rfl, trivial⟩ (by decide) (w_axis_reader_kind er7) ?_
        intro i7 n2
        refine AOps.weak (s' := ⟨[(12, .ptr 12 n0 0 0), (13, .ptr 41 (n0 + 1) 0 0), (14, .ptr 44 (n0 + 2) 0 0), (45, .ptr 41 (n0 + 1) 0 0), (46, .r (.int .i64 r7))], [(12, some (.box n0 103 [.own 3120 (i3 0), .r (.int .i64 w2.add), .r (.int .i64 w2.cut)])), (41, some (.box (n0 + 1) 106 [.r (.sl (p2.steps.map GAxisStep.row)), .r (.int .i64 p2.used)])), (44, some (.box (n0 + 2) 106 [.r (.sl (q2.steps.map GAxisStep.row)), .r (.int .i64 q2.used)])), (3120, some (.arr (i3 0) 99 2 (w2.out.map GAxisStep.row)))], n2, 103⟩) (by exact Weak.cv ⟨.inl (.inl rfl), .inl (.inl rfl), .inl (.inl rfl), .inl (.inl rfl), .inl (.inl rfl), trivial⟩ ⟨.inl rfl, .inl rfl, .inl rfl, .inl rfl, trivial⟩ (Nat.le_refl _)) ?_
        refine AOps.step rfl rfl rfl (OpQ.spec (sp_geq rfl (.inl rfl) (.inl rfl)) _) ?_
        refine AOps.step rfl rfl rfl (OpQ.spec (sp_move rfl (.inl rfl)) _) ?_
        refine AOps.stepW (.one rfl rfl rfl) rfl rfl (OpQ.spec (sp_move rfl (.inl rfl)) _) ?_
        refine jb1k h11 fun p4 hp1 hk2 => ?_
        have J2 : ∀ (x1 : Bool) (i8 : Nat → Nat), p4 = x1 → K20 ⟨[(12, .ptr 12 n0 0 0), (13, .ptr 41 (n0 + 1) 0 0), (14, .ptr 44 (n0 + 2) 0 0), (52, .r (.bool x1))], [(12, some (.box n0 103 [.own 3120 (i3 0), .r (.int .i64 w2.add), .r (.int .i64 w2.cut)])), (41, some (.box (n0 + 1) 106 [.r (.sl (p2.steps.map GAxisStep.row)), .r (.int .i64 p2.used)])), (44, some (.box (n0 + 2) 106 [.r (.sl (q2.steps.map GAxisStep.row)), .r (.int .i64 q2.used)])), (3120, some (.arr (i3 0) 99 2 (w2.out.map GAxisStep.row)))], (i8 0), 103⟩ := by
          intro x1 i8 e
          have h12 := hk2 _ e
          refine hK20 _ ?_
          refine AW.cond rfl (fun hc4 => ?_) (fun hc4 => ?_)
          · have h13 := ite_t hc4 h12
            refine AW.skip ?_
            refine hK19 _ ?_
            refine AW.block ?_
            refine AW.seq_w fun K21 hK21 wK21 => ?_
            refine AW.block ?_
            refine AW.seq_w fun K22 hK22 wK22 => ?_
            refine AW.region ?_
            refine AOps.step rfl rfl rfl (OpQ.spec (sp_move rfl (.inl rfl)) _) ?_
            refine AOps.stepHI [41] (hc := [(1000, some (.box (n0 + 1) 106 [.r (.sl (p2.steps.map GAxisStep.row)), .r (.int .i64 p2.used)]))]) (bs := [.ptr 1000 (n0 + 1) 0 0]) (caps := []) rfl rfl rfl rfl (.inl rfl) rfl ⟨.inl ⟨(.inl rfl), rfl⟩, trivial⟩ ⟨rfl, rfl, rfl, trivial⟩ (by decide) (w_axis_reader_kind er7) ?_
            intro i9 n3
            refine AOps.weak (s' := ⟨[(12, .ptr 12 n0 0 0), (13, .ptr 41 (n0 + 1) 0 0), (14, .ptr 44 (n0 + 2) 0 0), (52, .r (.bool x1)), (54, .ptr 41 (n0 + 1) 0 0), (55, .r (.int .i64 r7))], [(12, some (.box n0 103 [.own 3120 (i3 0), .r (.int .i64 w2.add), .r (.int .i64 w2.cut)])), (41, some (.box (n0 + 1) 106 [.r (.sl (p2.steps.map GAxisStep.row)), .r (.int .i64 p2.used)])), (44, some (.box (n0 + 2) 106 [.r (.sl (q2.steps.map GAxisStep.row)), .r (.int .i64 q2.used)])), (3120, some (.arr (i3 0) 99 2 (w2.out.map GAxisStep.row)))], n3, 103⟩) (by exact Weak.cv ⟨.inl (.inl rfl), .inl (.inl rfl), .inl (.inl rfl), .inl (.inl rfl), .inl (.inl rfl), .inl (.inl rfl), trivial⟩ ⟨.inl rfl, .inl rfl, .inl rfl, .inl rfl, trivial⟩ (Nat.le_refl _)) ?_
            refine AOps.step rfl rfl rfl (OpQ.spec (sp_eql rfl (.inl rfl) (.inl rfl)) _) ?_
            refine AOps.step rfl rfl rfl (OpQ.spec (sp_assign rfl (.inl rfl)) _) ?_
            refine AOps.nil ?_
            refine hK22 _ ?_
            refine AW.cond rfl (fun hc5 => ?_) (fun hc5 => ?_)
            · have h14 := ite_t hc5 h13
              refine AW.seq_w fun K23 hK23 wK23 => ?_
              refine AW.region ?_
              refine AOps.step rfl rfl rfl (OpQ.spec (sp_move rfl (.inl rfl)) _) ?_
              refine ob1k h14 fun r9 er9 h15 => ?_
              refine AOps.stepHI [41] (hc := [(1000, some (.box (n0 + 1) 106 [.r (.sl (p2.steps.map GAxisStep.row)), .r (.int .i64 p2.used)]))]) (bs := [.ptr 1000 (n0 + 1) 0 0]) (caps := []) rfl rfl rfl rfl (.inl rfl) rfl ⟨.inl ⟨(.inl rfl), rfl⟩, trivial⟩ ⟨rfl, rfl, rfl, trivial⟩ (by decide) (w_axis_reader_left er9) ?_
              intro i10 n4
              refine AOps.weak (s' := ⟨[(12, .ptr 12 n0 0 0), (13, .ptr 41 (n0 + 1) 0 0), (14, .ptr 44 (n0 + 2) 0 0), (52, .r (.bool x1)), (53, .r (.bool (decide (r7 = 2)))), (54, .ptr 41 (n0 + 1) 0 0), (55, .r (.int .i64 r7)), (56, .r (.bool (decide (r7 = 2)))), (57, .ptr 41 (n0 + 1) 0 0), (58, .r (.int .i64 r9))], [(12, some (.box n0 103 [.own 3120 (i3 0), .r (.int .i64 w2.add), .r (.int .i64 w2.cut)])), (41, some (.box (n0 + 1) 106 [.r (.sl (p2.steps.map GAxisStep.row)), .r (.int .i64 p2.used)])), (44, some (.box (n0 + 2) 106 [.r (.sl (q2.steps.map GAxisStep.row)), .r (.int .i64 q2.used)])), (3120, some (.arr (i3 0) 99 2 (w2.out.map GAxisStep.row)))], n4, 103⟩) (by exact Weak.cv ⟨.inl (.inl rfl), .inl (.inl rfl), .inl (.inl rfl), .inl (.inl rfl), .inl (.inl rfl), .inl (.inl rfl), .inl (.inl rfl), .inl (.inl rfl), .inl (.inl rfl), .inl (.inl rfl), trivial⟩ ⟨.inl rfl, .inl rfl, .inl rfl, .inl rfl, trivial⟩ (Nat.le_refl _)) ?_
              refine ob1k h15 fun w6 ew6 h16 => ?_
              refine AOps.stepHI [12, 3120] (hc := [(1000, some (.box n0 103 [.own 1001 (i3 0), .r (.int .i64 w2.add), .r (.int .i64 w2.cut)])), (1001, some (.arr (i3 0) 99 2 (w2.out.map GAxisStep.row)))]) (bs := [.ptr 1000 n0 0 0, .r (.int .i64 2), .r (.int .i64 r9)]) (caps := []) rfl rfl rfl rfl (.inl rfl) rfl ⟨.inl ⟨(.inl rfl), rfl⟩, .inl ⟨(.inl rfl), rfl⟩, .inl ⟨(.inl rfl), rfl⟩, trivial⟩ ⟨rfl, rfl, rfl, rfl, rfl, rfl, trivial⟩ (by decide) (w_axis_writer_put ew6) ?_
              intro i11 n5
              refine AOps.weak (s' := ⟨[(12, .ptr 12 n0 0 0), (13, .ptr 41 (n0 + 1) 0 0), (14, .ptr 44 (n0 + 2) 0 0), (52, .r (.bool x1)), (53, .r (.bool (decide (r7 = 2)))), (54, .ptr 41 (n0 + 1) 0 0), (55, .r (.int .i64 r7)), (56, .r (.bool (decide (r7 = 2)))), (57, .ptr 41 (n0 + 1) 0 0), (58, .r (.int .i64 r9)), (59, .tup [])], [(12, some (.box n0 103 [.own 3120 (i11 0), .r (.int .i64 w6.add), .r (.int .i64 w6.cut)])), (41, some (.box (n0 + 1) 106 [.r (.sl (p2.steps.map GAxisStep.row)), .r (.int .i64 p2.used)])), (44, some (.box (n0 + 2) 106 [.r (.sl (q2.steps.map GAxisStep.row)), .r (.int .i64 q2.used)])), (3120, some (.arr (i11 0) 99 2 (w6.out.map GAxisStep.row)))], n5, 103⟩) (by exact Weak.cv ⟨.inl (.inl rfl), .inl (.inl rfl), .inl (.inl rfl), .inl (.inl rfl), .inl (.inl rfl), .inl (.inl rfl), .inl (.inl rfl), .inl (.inl rfl), .inl (.inl rfl), .inl (.inl rfl), .inl (.inl rfl), trivial⟩ ⟨.inl rfl, .inl rfl, .inl rfl, .inl rfl, trivial⟩ (Nat.le_refl _)) ?_
              refine AOps.nil ?_
              refine hK23 _ ?_
              refine AW.seq_w fun K24 hK24 wK24 => ?_
              refine AW.region ?_
              refine AOps.step rfl rfl rfl (OpQ.spec (sp_move rfl (.inl rfl)) _) ?_
              refine AOps.step rfl rfl rfl (OpQ.spec (sp_move rfl (.inl rfl)) _) ?_
              refine AOps.stepHI [41] (hc := [(1000, some (.box (n0 + 1) 106 [.r (.sl (p2.steps.map GAxisStep.row)), .r (.int .i64 p2.used)]))]) (bs := [.ptr 1000 (n0 + 1) 0 0]) (caps := []) rfl rfl rfl rfl (.inl rfl) rfl ⟨.inl ⟨(.inl rfl), rfl⟩, trivial⟩ ⟨rfl, rfl, rfl, trivial⟩ (by decide) (w_axis_reader_left er9) ?_
              intro i12 n6
              refine AOps.weak (s' := ⟨[(12, .ptr 12 n0 0 0), (13, .ptr 41 (n0 + 1) 0 0), (14, .ptr 44 (n0 + 2) 0 0), (52, .r (.bool x1)), (53, .r (.bool (decide (r7 = 2)))), (54, .ptr 41 (n0 + 1) 0 0), (55, .r (.int .i64 r7)), (56, .r (.bool (decide (r7 = 2)))), (57, .ptr 41 (n0 + 1) 0 0), (58, .r (.int .i64 r9)), (59, .tup []), (60, .ptr 41 (n0 + 1) 0 0), (61, .ptr 41 (n0 + 1) 0 0), (62, .r (.int .i64 r9))], [(12, some (.box n0 103 [.own 3120 (i11 0), .r (.int .i64 w6.add), .r (.int .i64 w6.cut)])), (41, some (.box (n0 + 1) 106 [.r (.sl (p2.steps.map GAxisStep.row)), .r (.int .i64 p2.used)])), (44, some (.box (n0 + 2) 106 [.r (.sl (q2.steps.map GAxisStep.row)), .r (.int .i64 q2.used)])), (3120, some (.arr (i11 0) 99 2 (w6.out.map GAxisStep.row)))], n6, 103⟩) (by exact Weak.cv ⟨.inl (.inl rfl), .inl (.inl rfl), .inl (.inl rfl), .inl (.inl rfl), .inl (.inl rfl), .inl (.inl rfl), .inl (.inl rfl), .inl (.inl rfl), .inl (.inl rfl), .inl (.inl rfl), .inl (.inl rfl), .inl (.inl rfl), .inl (.inl rfl), .inl (.inl rfl), trivial⟩ ⟨.inl rfl, .inl rfl, .inl rfl, .inl rfl, trivial⟩ (Nat.le_refl _)) ?_
              refine ob1k h16 fun w7 ew7 h17 => ?_
              refine AOps.stepHI [41] (hc := [(1000, some (.box (n0 + 1) 106 [.r (.sl (p2.steps.map GAxisStep.row)), .r (.int .i64 p2.used)]))]) (bs := [.ptr 1000 (n0 + 1) 0 0, .r (.int .i64 r9)]) (caps := []) rfl rfl rfl rfl (.inl rfl) rfl ⟨.inl ⟨(.inl rfl), rfl⟩, .inl ⟨(.inl rfl), rfl⟩, trivial⟩ ⟨rfl, rfl, rfl, trivial⟩ (by decide) (w_axis_reader_take ew7) ?_
              intro i13 n7
              refine AOps.weak (s' := ⟨[(12, .ptr 12 n0 0 0), (13, .ptr 41 (n0 + 1) 0 0), (14, .ptr 44 (n0 + 2) 0 0), (52, .r (.bool x1)), (53, .r (.bool (decide (r7 = 2)))), (54, .ptr 41 (n0 + 1) 0 0), (55, .r (.int .i64 r7)), (56, .r (.bool (decide (r7 = 2)))), (57, .ptr 41 (n0 + 1) 0 0), (58, .r (.int .i64 r9)), (59, .tup []), (60, .ptr 41 (n0 + 1) 0 0), (61, .ptr 41 (n0 + 1) 0 0), (62, .r (.int .i64 r9)), (63, .tup [])], [(12, some (.box n0 103 [.own 3120 (i11 0), .r (.int .i64 w6.add), .r (.int .i64 w6.cut)])), (41, some (.box (n0 + 1) 106 [.r (.sl (w7.steps.map GAxisStep.row)), .r (.int .i64 w7.used)])), (44, some (.box (n0 + 2) 106 [.r (.sl (q2.steps.map GAxisStep.row)), .r (.int .i64 q2.used)])), (3120, some (.arr (i11 0) 99 2 (w6.out.map GAxisStep.row)))], n7, 103⟩) (by exact Weak.cv ⟨.inl (.inl rfl), .inl (.inl rfl), .inl (.inl rfl), .inl (.inl rfl), .inl (.inl rfl), .inl (.inl rfl), .inl (.inl rfl), .inl (.inl rfl), .inl (.inl rfl), .inl (.inl rfl), .inl (.inl rfl), .inl (.inl rfl), .inl (.inl rfl), .inl (.inl rfl), .inl (.inl rfl), trivial⟩ ⟨.inl rfl, .inl rfl, .inl rfl, .inl rfl, trivial⟩ (Nat.le_refl _)) ?_
              refine AOps.nil ?_
              refine hK24 _ ?_
              refine AW.exit ?_
              exact NextQ3.mk h17 (vec [(i11 0), n7]) ((by exact Weak.cv ⟨.inl (.inl rfl), .inl (.inl rfl), .inl (.inl rfl), trivial⟩ ⟨.inl rfl, .inl rfl, .inl rfl, .inl rfl, trivial⟩ (Nat.le_refl _)))
            · have h14 := ite_f hc5 h13
              refine AW.seq_w fun K25 hK25 wK25 => ?_
              refine AW.region ?_
              refine AOps.step rfl rfl rfl (OpQ.spec (sp_move rfl (.inl rfl)) _) ?_
              refine ob1k h14 fun r11 er11 h18 => ?_
              refine AOps.stepHI [44] (hc := [(1000, some (.box (n0 + 2) 106 [.r (.sl (q2.steps.map GAxisStep.row)), .r (.int .i64 q2.used)]))]) (bs := [.ptr 1000 (n0 + 2) 0 0]) (caps := []) rfl rfl rfl rfl (.inl rfl) rfl ⟨.inl ⟨(.inl rfl), rfl⟩, trivial⟩ ⟨rfl, rfl, rfl, trivial⟩ (by decide) (w_axis_reader_kind er11) ?_
              intro i14 n8
              refine AOps.weak (s' := ⟨[(12, .ptr 12 n0 0 0), (13, .ptr 41 (n0 + 1) 0 0), (14, .ptr 44 (n0 + 2) 0 0), (52, .r (.bool x1)), (53, .r (.bool (decide (r7 = 2)))), (54, .ptr 41 (n0 + 1) 0 0), (55, .r (.int .i64 r7)), (56, .r (.bool (decide (r7 = 2)))), (65, .ptr 44 (n0 + 2) 0 0), (66, .r (.int .i64 r11))], [(12, some (.box n0 103 [.own 3120 (i3 0), .r (.int .i64 w2.add), .r (.int .i64 w2.cut)])), (41, some (.box (n0 + 1) 106 [.r (.sl (p2.steps.map GAxisStep.row)), .r (.int .i64 p2.used)])), (44, some (.box (n0 + 2) 106 [.r (.sl (q2.steps.map GAxisStep.row)), .r (.int .i64 q2.used)])), (3120, some (.arr (i3 0) 99 2 (w2.out.map GAxisStep.row)))], n8, 103⟩) (by exact Weak.cv ⟨.inl (.inl rfl), .inl (.inl rfl), .inl (.inl rfl), .inl (.inl rfl), .inl (.inl rfl), .inl (.inl rfl), .inl (.inl rfl), .inl (.inl rfl), .inl (.inl rfl), .inl (.inl rfl), trivial⟩ ⟨.inl rfl, .inl rfl, .inl rfl, .inl rfl, trivial⟩ (Nat.le_refl _)) ?_
              refine AOps.step rfl rfl rfl (OpQ.spec (sp_eql rfl (.inl rfl) (.inl rfl)) _) ?_
              refine AOps.step rfl rfl rfl (OpQ.spec (sp_assign rfl (.inl rfl)) _) ?_
              refine AOps.nil ?_
              refine hK25 _ ?_
              refine AW.cond rfl (fun hc6 => ?_) (fun hc6 => ?_)
              · have h19 := ite_t hc6 h18
                refine AW.seq_w fun K26 hK26 wK26 => ?_
                refine AW.weak (s' := ⟨[(12, .ptr 12 n0 0 0), (13, .ptr 41 (n0 + 1) 0 0), (14, .ptr 44 (n0 + 2) 0 0)], [(12, some (.box n0 103 [.own 3120 (i3 0), .r (.int .i64 w2.add), .r (.int .i64 w2.cut)])), (41, some (.box (n0 + 1) 106 [.r (.sl (p2.steps.map GAxisStep.row)), .r (.int .i64 p2.used)])), (44, some (.box (n0 + 2) 106 [.r (.sl (q2.steps.map GAxisStep.row)), .r (.int .i64 q2.used)])), (3120, some (.arr (i3 0) 99 2 (w2.out.map GAxisStep.row)))], n8, 103⟩) (by exact Weak.cv ⟨.inl (.inl rfl), .inl (.inl rfl), .inl (.inl rfl), trivial⟩ ⟨.inl rfl, .inl rfl, .inl rfl, .inl rfl, trivial⟩ (Nat.le_refl _)) ?_
                refine AW.region ?_
                refine AOps.step rfl rfl rfl (OpQ.spec (sp_move rfl (.inl rfl)) _) ?_
                refine ob1k h19 fun r12 er12 h20 => ?_
                refine AOps.stepHI [44] (hc := [(1000, some (.box (n0 + 2) 106 [.r (.sl (q2.steps.map GAxisStep.row)), .r (.int .i64 q2.used)]))]) (bs := [.ptr 1000 (n0 + 2) 0 0]) (caps := []) rfl rfl rfl rfl (.inl rfl) rfl ⟨.inl ⟨(.inl rfl), rfl⟩, trivial⟩ ⟨rfl, rfl, rfl, trivial⟩ (by decide) (w_axis_reader_left er12) ?_
                intro i15 n9
                refine AOps.weak (s' := ⟨[(12, .ptr 12 n0 0 0), (13, .ptr 41 (n0 + 1) 0 0), (14, .ptr 44 (n0 + 2) 0 0), (68, .ptr 44 (n0 + 2) 0 0), (69, .r (.int .i64 r12))], [(12, some (.box n0 103 [.own 3120 (i3 0), .r (.int .i64 w2.add), .r (.int .i64 w2.cut)])), (41, some (.box (n0 + 1) 106 [.r (.sl (p2.steps.map GAxisStep.row)), .r (.int .i64 p2.used)])), (44, some (.box (n0 + 2) 106 [.r (.sl (q2.steps.map GAxisStep.row)), .r (.int .i64 q2.used)])), (3120, some (.arr (i3 0) 99 2 (w2.out.map GAxisStep.row)))], n9, 103⟩) (by exact Weak.cv ⟨.inl (.inl rfl), .inl (.inl rfl), .inl (.inl rfl), .inl (.inl rfl), .inl (.inl rfl), trivial⟩ ⟨.inl rfl, .inl rfl, .inl rfl, .inl rfl, trivial⟩ (Nat.le_refl _)) ?_
                refine ob1k h20 fun w8 ew8 h21 => ?_
                refine AOps.stepHI [12, 3120] (hc := [(1000, some (.box n0 103 [.own 1001 (i3 0), .r (.int .i64 w2.add), .r (.int .i64 w2.cut)])), (1001, some (.arr (i3 0) 99 2 (w2.out.map GAxisStep.row)))]) (bs := [.ptr 1000 n0 0 0, .r (.int .i64 1), .r (.int .i64 r12)]) (caps := []) rfl rfl rfl rfl (.inl rfl) rfl ⟨.inl ⟨(.inl rfl), rfl⟩, .inl ⟨(.inl rfl), rfl⟩, .inl ⟨(.inl rfl), rfl⟩, trivial⟩ ⟨rfl, rfl, rfl, rfl, rfl, rfl, trivial⟩ (by decide) (w_axis_writer_put ew8) ?_
                intro i16 n10
                refine AOps.weak (s' := ⟨[(12, .ptr 12 n0 0 0), (13, .ptr 41 (n0 + 1) 0 0), (14, .ptr 44 (n0 + 2) 0 0), (68, .ptr 44 (n0 + 2) 0 0), (69, .r (.int .i64 r12)), (70, .tup [])], [(12, some (.box n0 103 [.own 3120 (i16 0), .r (.int .i64 w8.add), .r (.int .i64 w8.cut)])), (41, some (.box (n0 + 1) 106 [.r (.sl (p2.steps.map GAxisStep.row)), .r (.int .i64 p2.used)])), (44, some (.box (n0 + 2) 106 [.r (.sl (q2.steps.map GAxisStep.row)), .r (.int .i64 q2.used)])), (3120, some (.arr (i16 0) 99 2 (w8.out.map GAxisStep.row)))], n10, 103⟩) (by exact Weak.cv ⟨.inl (.inl rfl), .inl (.inl rfl), .inl (.inl rfl), .inl (.inl rfl), .inl (.inl rfl), .inl (.inl rfl), trivial⟩ ⟨.inl rfl, .inl rfl, .inl rfl, .inl rfl, trivial⟩ (Nat.le_refl _)) ?_
                refine AOps.nil ?_
                refine hK26 _ ?_
                refine AW.seq_w fun K27 hK27 wK27 => ?_
                refine AW.region ?_
                refine AOps.step rfl rfl rfl (OpQ.spec (sp_move rfl (.inl rfl)) _) ?_
                refine AOps.step rfl rfl rfl (OpQ.spec (sp_move rfl (.inl rfl)) _) ?_
                refine AOps.stepHI [44] (hc := [(1000, some (.box (n0 + 2) 106 [.r (.sl (q2.steps.map GAxisStep.row)), .r (.int .i64 q2.used)]))]) (bs := [.ptr 1000 (n0 + 2) 0 0]) (caps := []) rfl rfl rfl rfl (.inl rfl) rfl ⟨.inl ⟨(.inl rfl), rfl⟩, trivial⟩ ⟨rfl, rfl, rfl, trivial⟩ (by decide) (w_axis_reader_left er12) ?_
                intro i17 n11
                refine AOps.weak (s' := ⟨[(12, .ptr 12 n0 0 0), (13, .ptr 41 (n0 + 1) 0 0), (14, .ptr 44 (n0 + 2) 0 0), (68, .ptr 44 (n0 + 2) 0 0), (69, .r (.int .i64 r12)), (70, .tup []), (71, .ptr 44 (n0 + 2) 0 0), (72, .ptr 44 (n0 + 2) 0 0), (73, .r (.int .i64 r12))], [(12, some (.box n0 103 [.own 3120 (i16 0), .r (.int .i64 w8.add), .r (.int .i64 w8.cut)])), (41, some (.box (n0 + 1) 106 [.r (.sl (p2.steps.map GAxisStep.row)), .r (.int .i64 p2.used)])), (44, some (.box (n0 + 2) 106 [.r (.sl (q2.steps.map GAxisStep.row)), .r (.int .i64 q2.used)])), (3120, some (.arr (i16 0) 99 2 (w8.out.map GAxisStep.row)))], n11, 103⟩) (by exact Weak.cv ⟨.inl (.inl rfl), .inl (.inl rfl), .inl (.inl rfl), .inl (.inl rfl), .inl (.inl rfl), .inl (.inl rfl), .inl (.inl rfl), .inl (.inl rfl), .inl (.inl rfl), trivial⟩ ⟨.inl rfl, .inl rfl, .inl rfl, .inl rfl, trivial⟩ (Nat.le_refl _)) ?_
                refine ob1k h21 fun w9 ew9 h22 => ?_
                refine AOps.stepHI [44] (hc := [(1000, some (.box (n0 + 2) 106 [.r (.sl (q2.steps.map GAxisStep.row)), .r (.int .i64 q2.used)]))]) (bs := [.ptr 1000 (n0 + 2) 0 0, .r (.int .i64 r12)]) (caps := []) rfl rfl rfl rfl (.inl rfl) rfl ⟨.inl ⟨(.inl rfl), rfl⟩, .inl ⟨(.inl rfl), rfl⟩, trivial⟩ ⟨rfl, rfl, rfl, trivial⟩ (by decide) (w_axis_reader_take ew9) ?_
                intro i18 n12
                refine AOps.weak (s' := ⟨[(12, .ptr 12 n0 0 0), (13, .ptr 41 (n0 + 1) 0 0), (14, .ptr 44 (n0 + 2) 0 0), (68, .ptr 44 (n0 + 2) 0 0), (69, .r (.int .i64 r12)), (70, .tup []), (71, .ptr 44 (n0 + 2) 0 0), (72, .ptr 44 (n0 + 2) 0 0), (73, .r (.int .i64 r12)), (74, .tup [])], [(12, some (.box n0 103 [.own 3120 (i16 0), .r (.int .i64 w8.add), .r (.int .i64 w8.cut)])), (41, some (.box (n0 + 1) 106 [.r (.sl (p2.steps.map GAxisStep.row)), .r (.int .i64 p2.used)])), (44, some (.box (n0 + 2) 106 [.r (.sl (w9.steps.map GAxisStep.row)), .r (.int .i64 w9.used)])), (3120, some (.arr (i16 0) 99 2 (w8.out.map GAxisStep.row)))], n12, 103⟩) (by exact Weak.cv ⟨.inl (.inl rfl), .inl (.inl rfl), .inl (.inl rfl), .inl (.inl rfl), .inl (.inl rfl), .inl (.inl rfl), .inl (.inl rfl), .inl (.inl rfl), .inl (.inl rfl), .inl (.inl rfl), trivial⟩ ⟨.inl rfl, .inl rfl, .inl rfl, .inl rfl, trivial⟩ (Nat.le_refl _)) ?_
                refine AOps.nil ?_
                refine hK27 _ ?_
                refine AW.exit ?_
                exact NextQ3.mk h22 (vec [(i16 0), n12]) ((by exact Weak.cv ⟨.inl (.inl rfl), .inl (.inl rfl), .inl (.inl rfl), trivial⟩ ⟨.inl rfl, .inl rfl, .inl rfl, .inl rfl, trivial⟩ (Nat.le_refl _)))
              · have h19 := ite_f hc6 h18
                refine AW.skip ?_
                refine hK21 _ ?_
                refine AW.seq_w fun K28 hK28 wK28 => ?_
                refine AW.weak (s' := ⟨[(12, .ptr 12 n0 0 0), (13, .ptr 41 (n0 + 1) 0 0), (14, .ptr 44 (n0 + 2) 0 0)], [(12, some (.box n0 103 [.own 3120 (i3 0), .r (.int .i64 w2.add), .r (.int .i64 w2.cut)])), (41, some (.box (n0 + 1) 106 [.r (.sl (p2.steps.map GAxisStep.row)), .r (.int .i64 p2.used)])), (44, some (.box (n0 + 2) 106 [.r (.sl (q2.steps.map GAxisStep.row)), .r (.int .i64 q2.used)])), (3120, some (.arr (i3 0) 99 2 (w2.out.map GAxisStep.row)))], n8, 103⟩) (by exact Weak.cv ⟨.inl (.inl rfl), .inl (.inl rfl), .inl (.inl rfl), trivial⟩ ⟨.inl rfl, .inl rfl, .inl rfl, .inl rfl, trivial⟩ (Nat.le_refl _)) ?_
                refine AW.region ?_
                refine AOps.step rfl rfl rfl (OpQ.spec (sp_move rfl (.inl rfl)) _) ?_
                refine ob1k h19 fun r14 er14 h23 => ?_
                refine AOps.stepHI [41] (hc := [(1000, some (.box (n0 + 1) 106 [.r (.sl (p2.steps.map GAxisStep.row)), .r (.int .i64 p2.used)]))]) (bs := [.ptr 1000 (n0 + 1) 0 0]) (caps := []) rfl rfl rfl rfl (.inl rfl) rfl ⟨.inl ⟨(.inl rfl), rfl⟩, trivial⟩ ⟨rfl, rfl, rfl, trivial⟩ (by decide) (w_axis_reader_left er14) ?_
                intro i19 n13
                refine AOps.weak (s' := ⟨[(12, .ptr 12 n0 0 0), (13, .ptr 41 (n0 + 1) 0 0), (14, .ptr 44 (n0 + 2) 0 0), (75, .ptr 41 (n0 + 1) 0 0), (76, .r (.int .i64 r14))], [(12, some (.box n0 103 [.own 3120 (i3 0), .r (.int .i64 w2.add), .r (.int .i64 w2.cut)])), (41, some (.box (n0 + 1) 106 [.r (.sl (p2.steps.map GAxisStep.row)), .r (.int .i64 p2.used)])), (44, some (.box (n0 + 2) 106 [.r (.sl (q2.steps.map GAxisStep.row)), .r (.int .i64 q2.used)])), (3120, some (.arr (i3 0) 99 2 (w2.out.map GAxisStep.row)))], n13, 103⟩) (by exact Weak.cv ⟨.inl (.inl rfl), .inl (.inl rfl), .inl (.inl rfl), .inl (.inl rfl), .inl (.inl rfl), trivial⟩ ⟨.inl rfl, .inl rfl, .inl rfl, .inl rfl, trivial⟩ (Nat.le_refl _)) ?_
                refine AOps.step rfl rfl rfl (OpQ.spec (sp_move rfl (.inl rfl)) _) ?_
                refine ob1k h23 fun r15 er15 h24 => ?_
                refine AOps.stepHI [44] (hc := [(1000, some (.box (n0 + 2) 106 [.r (.sl (q2.steps.map GAxisStep.row)), .r (.int .i64 q2.used)]))]) (bs := [.ptr 1000 (n0 + 2) 0 0]) (caps := []) rfl rfl rfl rfl (.inl rfl) rfl ⟨.inl ⟨(.inl rfl), rfl⟩, trivial⟩ ⟨rfl, rfl, rfl, trivial⟩ (by decide) (w_axis_reader_left er15) ?_
                intro i20 n14
                refine AOps.weak (s' := ⟨[(12, .ptr 12 n0 0 0), (13, .ptr 41 (n0 + 1) 0 0), (14, .ptr 44 (n0 + 2) 0 0), (75, .ptr 41 (n0 + 1) 0 0), (76, .r (.int .i64 r14)), (77, .ptr 44 (n0 + 2) 0 0), (78, .r (.int .i64 r15))], [(12, some (.box n0 103 [.own 3120 (i3 0), .r (.int .i64 w2.add), .r (.int .i64 w2.cut)])), (41, some (.box (n0 + 1) 106 [.r (.sl (p2.steps.map GAxisStep.row)), .r (.int .i64 p2.used)])), (44, some (.box (n0 + 2) 106 [.r (.sl (q2.steps.map GAxisStep.row)), .r (.int .i64 q2.used)])), (3120, some (.arr (i3 0) 99 2 (w2.out.map GAxisStep.row)))], n14, 103⟩) (by exact Weak.cv ⟨.inl (.inl rfl), .inl (.inl rfl), .inl (.inl rfl), .inl (.inl rfl), .inl (.inl rfl), .inl (.inl rfl), .inl (.inl rfl), trivial⟩ ⟨.inl rfl, .inl rfl, .inl rfl, .inl rfl, trivial⟩ (Nat.le_refl _)) ?_
                refine AOps.step rfl rfl rfl (OpQ.spec (sp_min rfl (.inl rfl) (.inl rfl)) _) ?_
                refine AOps.step rfl rfl rfl (OpQ.spec (sp_assign rfl (.inl rfl)) _) ?_
                refine AOps.nil ?_
                refine hK28 _ ?_
                refine AW.seq_w fun K29 hK29 wK29 => ?_
                refine AW.block ?_
                refine jb1k h24 fun p5 hp2 hk3 => ?_
                have J3 : ∀ (w10 : Axis_Writer) (i21 : Nat → Nat), p5 = w10 → K29 ⟨[(12, .ptr 12 n0 0 0), (13, .ptr 41 (n0 + 1) 0 0), (14, .ptr 44 (n0 + 2) 0 0), (15, .r (.int .i64 (min r14 r15)))], [(12, some (.box n0 103 [.own 3120 (i21 0), .r (.int .i64 w10.add), .r (.int .i64 w10.cut)])), (41, some (.box (n0 + 1) 106 [.r (.sl (p2.steps.map GAxisStep.row)), .r (.int .i64 p2.used)])), (44, some (.box (n0 + 2) 106 [.r (.sl (q2.steps.map GAxisStep.row)), .r (.int .i64 q2.used)])), (3120, some (.arr (i21 0) 99 2 (w10.out.map GAxisStep.row)))], (i21 1), 103⟩ := by
                  intro w10 i21 e
                  have h25 := hk3 _ e
                  refine hK29 _ ?_
                  refine AW.seq_w fun K30 hK30 wK30 => ?_
                  refine AW.region ?_
                  refine AOps.step rfl rfl rfl (OpQ.spec (sp_move rfl (.inl rfl)) _) ?_
                  refine AOps.step rfl rfl rfl (OpQ.spec (sp_move rfl (.inl rfl)) _) ?_
                  refine ob1k h25 fun w11 ew11 h26 => ?_
                  refine AOps.stepHI [41] (hc := [(1000, some (.box (n0 + 1) 106 [.r (.sl (p2.steps.map GAxisStep.row)), .r (.int .i64 p2.used)]))]) (bs := [.ptr 1000 (n0 + 1) 0 0, .r (.int .i64 (min r14 r15))]) (caps := []) rfl rfl rfl rfl (.inl rfl) rfl ⟨.inl ⟨(.inl rfl), rfl⟩, .inl ⟨(.inl rfl), rfl⟩, trivial⟩ ⟨rfl, rfl, rfl, trivial⟩ (by decide) (w_axis_reader_take ew11) ?_
                  intro i22 n15
                  refine AOps.weak (s' := ⟨[(12, .ptr 12 n0 0 0), (13, .ptr 41 (n0 + 1) 0 0), (14, .ptr 44 (n0 + 2) 0 0), (15, .r (.int .i64 (min r14 r15))), (94, .ptr 41 (n0 + 1) 0 0), (95, .r (.int .i64 (min r14 r15))), (96, .tup [])], [(12, some (.box n0 103 [.own 3120 (i21 0), .r (.int .i64 w10.add), .r (.int .i64 w10.cut)])), (41, some (.box (n0 + 1) 106 [.r (.sl (w11.steps.map GAxisStep.row)), .r (.int .i64 w11.used)])), (44, some (.box (n0 + 2) 106 [.r (.sl (q2.steps.map GAxisStep.row)), .r (.int .i64 q2.used)])), (3120, some (.arr (i21 0) 99 2 (w10.out.map GAxisStep.row)))], n15, 103⟩) (by exact Weak.cv ⟨.inl (.inl rfl), .inl (.inl rfl), .inl (.inl rfl), .inl (.inl rfl), .inl (.inl rfl), .inl (.inl rfl), .inl (.inl rfl), trivial⟩ ⟨.inl rfl, .inl rfl, .inl rfl, .inl rfl, trivial⟩ (Nat.le_refl _)) ?_
                  refine AOps.nil ?_
                  refine hK30 _ ?_
                  refine AW.region ?_
                  refine AOps.step rfl rfl rfl (OpQ.spec (sp_move rfl (.inl rfl)) _) ?_
                  refine AOps.step rfl rfl rfl (OpQ.spec (sp_move rfl (.inl rfl)) _) ?_
                  refine ob1k h26 fun w12 ew12 h27 => ?_
                  refine AOps.stepHI [44] (hc := [(1000, some (.box (n0 + 2) 106 [.r (.sl (q2.steps.map GAxisStep.row)), .r (.int .i64 q2.used)]))]) (bs := [.ptr 1000 (n0 + 2) 0 0, .r (.int .i64 (min r14 r15))]) (caps := []) rfl rfl rfl rfl (.inl rfl) rfl ⟨.inl ⟨(.inl rfl), rfl⟩, .inl ⟨(.inl rfl), rfl⟩, trivial⟩ ⟨rfl, rfl, rfl, trivial⟩ (by decide) (w_axis_reader_take ew12) ?_
                  intro i23 n16
                  refine AOps.weak (s' := ⟨[(12, .ptr 12 n0 0 0), (13, .ptr 41 (n0 + 1) 0 0), (14, .ptr 44 (n0 + 2) 0 0), (15, .r (.int .i64 (min r14 r15))), (94, .ptr 41 (n0 + 1) 0 0), (95, .r (.int .i64 (min r14 r15))), (96, .tup []), (97, .ptr 44 (n0 + 2) 0 0), (98, .r (.int .i64 (min r14 r15))), (99, .tup [])], [(12, some (.box n0 103 [.own 3120 (i21 0), .r (.int .i64 w10.add), .r (.int .i64 w10.cut)])), (41, some (.box (n0 + 1) 106 [.r (.sl (w11.steps.map GAxisStep.row)), .r (.int .i64 w11.used)])), (44, some (.box (n0 + 2) 106 [.r (.sl (w12.steps.map GAxisStep.row)), .r (.int .i64 w12.used)])), (3120, some (.arr (i21 0) 99 2 (w10.out.map GAxisStep.row)))], n16, 103⟩) (by exact Weak.cv ⟨.inl (.inl rfl), .inl (.inl rfl), .inl (.inl rfl), .inl (.inl rfl), .inl (.inl rfl), .inl (.inl rfl), .inl (.inl rfl), .inl (.inl rfl), .inl (.inl rfl), .inl (.inl rfl), trivial⟩ ⟨.inl rfl, .inl rfl, .inl rfl, .inl rfl, trivial⟩ (Nat.le_refl _)) ?_
                  refine AOps.nil ?_
                  exact NextQ3.mk h27 (vec [(i21 0), n16]) ((by exact Weak.cv ⟨.inl (.inl rfl), .inl (.inl rfl), .inl (.inl rfl), trivial⟩ ⟨.inl rfl, .inl rfl, .inl rfl, .inl rfl, trivial⟩ (Nat.le_refl _)))
                refine AW.seq_w fun K31 hK31 wK31 => ?_
                refine AW.region ?_
                refine AOps.step rfl rfl rfl (OpQ.spec (sp_move rfl (.inl rfl)) _) ?_
                refine AOps.stepHI [41] (hc := [(1000, some (.box (n0 + 1) 106 [.r (.sl (p2.steps.map GAxisStep.row)), .r (.int .i64 p2.used)]))]) (bs := [.ptr 1000 (n0 + 1) 0 0]) (caps := []) rfl rfl rfl rfl (.inl rfl) rfl ⟨.inl ⟨(.inl rfl), rfl⟩, trivial⟩ ⟨rfl, rfl, rfl, trivial⟩ (by decide) (w_axis_reader_kind er7) ?_
                intro i24 n17
                refine AOps.weak (s' := ⟨[(12, .ptr 12 n0 0 0), (13, .ptr 41 (n0 + 1) 0 0), (14, .ptr 44 (n0 + 2) 0 0), (15, .r (.int .i64 (min r14 r15))), (75, .ptr 41 (n0 + 1) 0 0), (76, .r (.int .i64 r14)), (77, .ptr 44 (n0 + 2) 0 0), (78, .r (.int .i64 r15)), (79, .r (.int .i64 (min r14 r15))), (81, .ptr 41 (n0 + 1) 0 0), (82, .r (.int .i64 r7))], [(12, some (.box n0 103 [.own 3120 (i3 0), .r (.int .i64 w2.add), .r (.int .i64 w2.cut)])), (41, some (.box (n0 + 1) 106 [.r (.sl (p2.steps.map GAxisStep.row)), .r (.int .i64 p2.used)])), (44, some (.box (n0 + 2) 106 [.r (.sl (q2.steps.map GAxisStep.row)), .r (.int .i64 q2.used)])), (3120, some (.arr (i3 0) 99 2 (w2.out.map GAxisStep.row)))], n17, 103⟩) (by exact Weak.cv ⟨.inl (.inl rfl), .inl (.inl rfl), .inl (.inl rfl), .inl (.inl rfl), .inl (.inl rfl), .inl (.inl rfl), .inl (.inl rfl), .inl (.inl rfl), .inl (.inl rfl), .inl (.inl rfl), .inl (.inl rfl), trivial⟩ ⟨.inl rfl, .inl rfl, .inl rfl, .inl rfl, trivial⟩ (Nat.le_refl _)) ?_
                refine AOps.step rfl rfl rfl (OpQ.spec (sp_eql rfl (.inl rfl) (.inl rfl)) _) ?_
                refine AOps.step rfl rfl rfl (OpQ.spec (sp_assign rfl (.inl rfl)) _) ?_
                refine AOps.nil ?_
                refine hK31 _ ?_
                refine AW.cond rfl (fun hc7 => ?_) (fun hc7 => ?_)
                · have h28 := ite_t hc7 hp2
                  refine AW.weak (s' := ⟨[(12, .ptr 12 n0 0 0), (13, .ptr 41 (n0 + 1) 0 0), (14, .ptr 44 (n0 + 2) 0 0), (15, .r (.int .i64 (min r14 r15)))], [(12, some (.box n0 103 [.own 3120 (i3 0), .r (.int .i64 w2.add), .r (.int .i64 w2.cut)])), (41, some (.box (n0 + 1) 106 [.r (.sl (p2.steps.map GAxisStep.row)), .r (.int .i64 p2.used)])), (44, some (.box (n0 + 2) 106 [.r (.sl (q2.steps.map GAxisStep.row)), .r (.int .i64 q2.used)])), (3120, some (.arr (i3 0) 99 2 (w2.out.map GAxisStep.row)))], n17, 103⟩) (by exact Weak.cv ⟨.inl (.inl rfl), .inl (.inl rfl), .inl (.inl rfl), .inl (.inl rfl), trivial⟩ ⟨.inl rfl, .inl rfl, .inl rfl, .inl rfl, trivial⟩ (Nat.le_refl _)) ?_
                  refine AW.region ?_
                  refine AOps.step rfl rfl rfl (OpQ.spec (sp_move rfl (.inl rfl)) _) ?_
                  refine AOps.stepHI [44] (hc := [(1000, some (.box (n0 + 2) 106 [.r (.sl (q2.steps.map GAxisStep.row)), .r (.int .i64 q2.used)]))]) (bs := [.ptr 1000 (n0 + 2) 0 0]) (caps := []) rfl rfl rfl rfl (.inl rfl) rfl ⟨.inl ⟨(.inl rfl), rfl⟩, trivial⟩ ⟨rfl, rfl, rfl, trivial⟩ (by decide) (w_axis_reader_kind er11) ?_
                  intro i25 n18
                  refine AOps.weak (s' := ⟨[(12, .ptr 12 n0 0 0), (13, .ptr 41 (n0 + 1) 0 0), (14, .ptr 44 (n0 + 2) 0 0), (15, .r (.int .i64 (min r14 r15))), (84, .ptr 44 (n0 + 2) 0 0), (85, .r (.int .i64 r11))], [(12, some (.box n0 103 [.own 3120 (i3 0), .r (.int .i64 w2.add), .r (.int .i64 w2.cut)])), (41, some (.box (n0 + 1) 106 [.r (.sl (p2.steps.map GAxisStep.row)), .r (.int .i64 p2.used)])), (44, some (.box (n0 + 2) 106 [.r (.sl (q2.steps.map GAxisStep.row)), .r (.int .i64 q2.used)])), (3120, some (.arr (i3 0) 99 2 (w2.out.map GAxisStep.row)))], n18, 103⟩) (by exact Weak.cv ⟨.inl (.inl rfl), .inl (.inl rfl), .inl (.inl rfl), .inl (.inl rfl), .inl (.inl rfl), .inl (.inl rfl), trivial⟩ ⟨.inl rfl, .inl rfl, .inl rfl, .inl rfl, trivial⟩ (Nat.le_refl _)) ?_
                  refine AOps.step rfl rfl rfl (OpQ.spec (sp_move rfl (.inl rfl)) _) ?_
                  refine ob1k h28 fun w13 ew13 h29 => ?_
                  refine AOps.stepHI [12, 3120] (hc := [(1000, some (.box n0 103 [.own 1001 (i3 0), .r (.int .i64 w2.add), .r (.int .i64 w2.cut)])), (1001, some (.arr (i3 0) 99 2 (w2.out.map GAxisStep.row)))]) (bs := [.ptr 1000 n0 0 0, .r (.int .i64 r11), .r (.int .i64 (min r14 r15))]) (caps := []) rfl rfl rfl rfl (.inl rfl) rfl ⟨.inl ⟨(.inl rfl), rfl⟩, .inl ⟨(.inl rfl), rfl⟩, .inl ⟨(.inl rfl), rfl⟩, trivial⟩ ⟨rfl, rfl, rfl, rfl, rfl, rfl, trivial⟩ (by decide) (w_axis_writer_put ew13) ?_
                  intro i26 n19
                  refine AOps.weak (s' := ⟨[(12, .ptr 12 n0 0 0), (13, .ptr 41 (n0 + 1) 0 0), (14, .ptr 44 (n0 + 2) 0 0), (15, .r (.int .i64 (min r14 r15))), (84, .ptr 44 (n0 + 2) 0 0), (85, .r (.int .i64 r11)), (86, .r (.int .i64 (min r14 r15))), (87, .tup [])], [(12, some (.box n0 103 [.own 3120 (i26 0), .r (.int .i64 w13.add), .r (.int .i64 w13.cut)])), (41, some (.box (n0 + 1) 106 [.r (.sl (p2.steps.map GAxisStep.row)), .r (.int .i64 p2.used)])), (44, some (.box (n0 + 2) 106 [.r (.sl (q2.steps.map GAxisStep.row)), .r (.int .i64 q2.used)])), (3120, some (.arr (i26 0) 99 2 (w13.out.map GAxisStep.row)))], n19, 103⟩) (by exact Weak.cv ⟨.inl (.inl rfl), .inl (.inl rfl), .inl (.inl rfl), .inl (.inl rfl), .inl (.inl rfl), .inl (.inl rfl), .inl (.inl rfl), .inl (.inl rfl), trivial⟩ ⟨.inl rfl, .inl rfl, .inl rfl, .inl rfl, trivial⟩ (Nat.le_refl _)) ?_
                  refine AOps.nil ?_
                  exact wK29 _ _ ((by exact Weak.cv ⟨.inl (.inl rfl), .inl (.inl rfl), .inl (.inl rfl), .inl (.inl rfl), trivial⟩ ⟨.inl rfl, .inl rfl, .inl rfl, .inl rfl, trivial⟩ (Nat.le_refl _))) (J3 _ (vec [(i26 0), n19]) (Option.some.inj h29).symm)
                · have h28 := ite_f hc7 hp2
                  refine AW.seq_w fun K32 hK32 wK32 => ?_
                  refine AW.weak (s' := ⟨[(12, .ptr 12 n0 0 0), (13, .ptr 41 (n0 + 1) 0 0), (14, .ptr 44 (n0 + 2) 0 0), (15, .r (.int .i64 (min r14 r15)))], [(12, some (.box n0 103 [.own 3120 (i3 0), .r (.int .i64 w2.add), .r (.int .i64 w2.cut)])), (41, some (.box (n0 + 1) 106 [.r (.sl (p2.steps.map GAxisStep.row)), .r (.int .i64 p2.used)])), (44, some (.box (n0 + 2) 106 [.r (.sl (q2.steps.map GAxisStep.row)), .r (.int .i64 q2.used)])), (3120, some (.arr (i3 0) 99 2 (w2.out.map GAxisStep.row)))], n17, 103⟩) (by exact Weak.cv ⟨.inl (.inl rfl), .inl (.inl rfl), .inl (.inl rfl), .inl (.inl rfl), trivial⟩ ⟨.inl rfl, .inl rfl, .inl rfl, .inl rfl, trivial⟩ (Nat.le_refl _)) ?_
                  refine AW.region ?_
                  refine AOps.step rfl rfl rfl (OpQ.spec (sp_move rfl (.inl rfl)) _) ?_
                  refine AOps.stepHI [44] (hc := [(1000, some (.box (n0 + 2) 106 [.r (.sl (q2.steps.map GAxisStep.row)), .r (.int .i64 q2.used)]))]) (bs := [.ptr 1000 (n0 + 2) 0 0]) (caps := []) rfl rfl rfl rfl (.inl rfl) rfl ⟨.inl ⟨(.inl rfl), rfl⟩, trivial⟩ ⟨rfl, rfl, rfl, trivial⟩ (by decide) (w_axis_reader_kind er11) ?_
                  intro i27 n20
                  refine AOps.weak (s' := ⟨[(12, .ptr 12 n0 0 0), (13, .ptr 41 (n0 + 1) 0 0), (14, .ptr 44 (n0 + 2) 0 0), (15, .r (.int .i64 (min r14 r15))), (89, .ptr 44 (n0 + 2) 0 0), (90, .r (.int .i64 r11))], [(12, some (.box n0 103 [.own 3120 (i3 0), .r (.int .i64 w2.add), .r (.int .i64 w2.cut)])), (41, some (.box (n0 + 1) 106 [.r (.sl (p2.steps.map GAxisStep.row)), .r (.int .i64 p2.used)])), (44, some (.box (n0 + 2) 106 [.r (.sl (q2.steps.map GAxisStep.row)), .r (.int .i64 q2.used)])), (3120, some (.arr (i3 0) 99 2 (w2.out.map GAxisStep.row)))], n20, 103⟩) (by exact Weak.cv ⟨.inl (.inl rfl), .inl (.inl rfl), .inl (.inl rfl), .inl (.inl rfl), .inl (.inl rfl), .inl (.inl rfl), trivial⟩ ⟨.inl rfl, .inl rfl, .inl rfl, .inl rfl, trivial⟩ (Nat.le_refl _)) ?_
                  refine AOps.step rfl rfl rfl (OpQ.spec (sp_eql rfl (.inl rfl) (.inl rfl)) _) ?_
                  refine AOps.step rfl rfl rfl (OpQ.spec (sp_assign rfl (.inl rfl)) _) ?_
                  refine AOps.nil ?_
                  refine hK32 _ ?_
                  refine AW.cond rfl (fun hc8 => ?_) (fun hc8 => ?_)
                  · have h30 := ite_t hc8 h28
                    refine AW.region ?_
                    refine AOps.step rfl rfl rfl (OpQ.spec (sp_move rfl (.inl rfl)) _) ?_
                    refine ob1k h30 fun w14 ew14 h31 => ?_
                    refine AOps.stepHI [12, 3120] (hc := [(1000, some (.box n0 103 [.own 1001 (i3 0), .r (.int .i64 w2.add), .r (.int .i64 w2.cut)])), (1001, some (.arr (i3 0) 99 2 (w2.out.map GAxisStep.row)))]) (bs := [.ptr 1000 n0 0 0, .r (.int .i64 1), .r (.int .i64 (min r14 r15))]) (caps := []) rfl rfl rfl rfl (.inl rfl) rfl ⟨.inl ⟨(.inl rfl), rfl⟩, .inl ⟨(.inl rfl), rfl⟩, .inl ⟨(.inl rfl), rfl⟩, trivial⟩ ⟨rfl, rfl, rfl, rfl, rfl, rfl, trivial⟩ (by decide) (w_axis_writer_put ew14) ?_
                    intro i28 n21
                    refine AOps.weak (s' := ⟨[(12, .ptr 12 n0 0 0), (13, .ptr 41 (n0 + 1) 0 0), (14, .ptr 44 (n0 + 2) 0 0), (15, .r (.int .i64 (min r14 r15))), (88, .r (.bool (decide (r11 = 0)))), (89, .ptr 44 (n0 + 2) 0 0), (90, .r (.int .i64 r11)), (91, .r (.bool (decide (r11 = 0)))), (92, .r (.int .i64 (min r14 r15))), (93, .tup [])], [(12, some (.box n0 103 [.own 3120 (i28 0), .r (.int .i64 w14.add), .r (.int .i64 w14.cut)])), (41, some (.box (n0 + 1) 106 [.r (.sl (p2.steps.map GAxisStep.row)), .r (.int .i64 p2.used)])), (44, some (.box (n0 + 2) 106 [.r (.sl (q2.steps.map GAxisStep.row)), .r (.int .i64 q2.used)])), (3120, some (.arr (i28 0) 99 2 (w14.out.map GAxisStep.row)))], n21, 103⟩) (by exact Weak.cv ⟨.inl (.inl rfl), .inl (.inl rfl), .inl (.inl rfl), .inl (.inl rfl), .inl (.inl rfl), .inl (.inl rfl), .inl (.inl rfl), .inl (.inl rfl), .inl (.inl rfl), .inl (.inl rfl), trivial⟩ ⟨.inl rfl, .inl rfl, .inl rfl, .inl rfl, trivial⟩ (Nat.le_refl _)) ?_
                    refine AOps.nil ?_
                    exact wK29 _ _ ((by exact Weak.cv ⟨.inl (.inl rfl), .inl (.inl rfl), .inl (.inl rfl), .inl (.inl rfl), trivial⟩ ⟨.inl rfl, .inl rfl, .inl rfl, .inl rfl, trivial⟩ (Nat.le_refl _))) (J3 _ (vec [(i28 0), n21]) (Option.some.inj h31).symm)
                  · have h30 := ite_f hc8 h28
                    refine AW.skip ?_
                    exact wK29 _ _ ((by exact Weak.cv ⟨.inl (.inl rfl), .inl (.inl rfl), .inl (.inl rfl), .inl (.inl rfl), trivial⟩ ⟨.inl rfl, .inl rfl, .inl rfl, .inl rfl, trivial⟩ (Nat.le_refl _))) (J3 _ (vec [(i3 0), n20]) (Option.some.inj h30).symm)
          · have h13 := ite_f hc4 h12
            refine AW.exit ?_
            exact wK17 _ _ ((by exact Weak.cv ⟨.inl (.inl rfl), trivial⟩ ⟨.inl rfl, .inl rfl, trivial⟩ (Nat.le_refl _))) (J1 _ (vec [(i3 0), (i8 0)]) (hx1 _ (Option.some.inj h13).symm))
        refine AOps.split ((decide (0 ≤ r7)) == false) (fun hg1 => ?_) (fun hg1 => ?_)
        · have h32 := ite_t hg1 hp1
          refine AOps.weak (by exact Weak.unw2 (e' := [(12, .ptr 12 n0 0 0), (13, .ptr 41 (n0 + 1) 0 0), (14, .ptr 44 (n0 + 2) 0 0), (45, .ptr 41 (n0 + 1) 0 0), (46, .r (.int .i64 r7)), (47, .r (.bool (decide (0 ≤ r7)))), (48, .r (.bool (decide (0 ≤ r7)))), (49, .ptr 44 (n0 + 2) 0 0)]) hg1 ⟨.inl rfl, .inl rfl, .inl rfl, .inl rfl, .inl rfl, .inl rfl, .inl rfl, .inr (.inl rfl), trivial⟩) ?_
          refine ob1k h32 fun r19 er19 h33 => ?_
          refine AOps.stepHG (.one rfl rfl rfl) hg1 [44] (hc := [(1000, some (.box (n0 + 2) 106 [.r (.sl (q2.steps.map GAxisStep.row)), .r (.int .i64 q2.used)]))]) (bs := [.ptr 1000 (n0 + 2) 0 0]) (caps := []) rfl rfl rfl (.inl rfl) rfl ⟨.inl ⟨(.inl rfl), rfl⟩, trivial⟩ ⟨rfl, rfl, rfl, trivial⟩ (by decide) (w_axis_reader_kind er19) ?_
          intro i29 n22
          refine AOps.weak (s' := ⟨[(12, .ptr 12 n0 0 0), (13, .ptr 41 (n0 + 1) 0 0), (14, .ptr 44 (n0 + 2) 0 0), (45, .ptr 41 (n0 + 1) 0 0), (46, .r (.int .i64 r7)), (47, .r (.bool (decide (0 ≤ r7)))), (48, .r (.bool (decide (0 ≤ r7)))), (49, .ptr 44 (n0 + 2) 0 0), (50, .r (.int .i64 r19))], [(12, some (.box n0 103 [.own 3120 (i3 0), .r (.int .i64 w2.add), .r (.int .i64 w2.cut)])), (41, some (.box (n0 + 1) 106 [.r (.sl (p2.steps.map GAxisStep.row)), .r (.int .i64 p2.used)])), (44, some (.box (n0 + 2) 106 [.r (.sl (q2.steps.map GAxisStep.row)), .r (.int .i64 q2.used)])), (3120, some (.arr (i3 0) 99 2 (w2.out.map GAxisStep.row)))], n22, 103⟩) (by exact Weak.cv ⟨.inl (.inl rfl), .inl (.inl rfl), .inl (.inl rfl), .inl (.inl rfl), .inl (.inl rfl), .inl (.inl rfl), .inl (.inl rfl), .inl (.inl rfl), .inl (.inl rfl), trivial⟩ ⟨.inl rfl, .inl rfl, .inl rfl, .inl rfl, trivial⟩ (Nat.le_refl _)) ?_
          refine AOps.stepGT (.one rfl rfl rfl) hg1 rfl rfl (OpQ.spec (sp_geq rfl (.inl rfl) (.inl rfl)) _) ?_
          refine AOps.step rfl rfl rfl (OpQ.spec (sp_or rfl (.inl rfl) (.inl rfl)) _) ?_
          refine AOps.nil ?_
          exact wK20 _ _ ((by exact Weak.cv ⟨.inl (.inl rfl), .inl (.inl rfl), .inl (.inl rfl), .inl (.inl rfl), trivial⟩ ⟨.inl rfl, .inl rfl, .inl rfl, .inl rfl, trivial⟩ (Nat.le_refl _))) (J2 _ (vec [n22]) (Option.some.inj h33).symm)
        · have h32 := ite_f hg1 hp1
          refine AOps.stepGF2 (.one rfl rfl rfl) hg1 rfl rfl ?_
          refine AOps.stepGF2 (.one rfl rfl rfl) hg1 rfl rfl ?_
          refine AOps.step rfl rfl rfl (OpQ.spec (sp_or rfl (.inl rfl) (.inr ⟨_, (by exact id), rfl⟩)) _) ?_
          refine AOps.nil ?_
          exact wK20 _ _ ((by exact Weak.cv ⟨.inl (.inl rfl), .inl (.inl rfl), .inl (.inl rfl), .inl (.inl rfl), trivial⟩ ⟨.inl rfl, .inl rfl, .inl rfl, .inl rfl, trivial⟩ (Nat.le_refl _))) (J2 _ (vec [n2]) (Option.some.inj h32).symm)
set_option maxHeartbeats 4000000 in
set_option maxRecDepth 20000 in
theorem w_axis_Undo {a1 : List GAxisStep} {r : (List GAxisStep) × Int} (h : axis_Undo a1 = some r) : ARO Try.prog 14 [.r (.sl (a1.map GAxisStep.row))] (.tup [.r (.sl (r.1.map GAxisStep.row)), .r (.int .i64 r.2)]) := by
  unfold axis_Undo at h
  refine ARO.mkF Try.func14 rfl rfl Try.ntmps14 rfl (Nat.le_of_ble_eq_true rfl) fun n0 => ?_
  refine AW.seq_w fun K1 hK1 wK1 => ?_
  refine AW.region ?_
  refine AOps.step rfl rfl rfl (OpQ.spec (sp_assign rfl (.inl rfl)) _) ?_
  refine AOps.step rfl rfl rfl (OpQ.spec (sp_assign rfl (.inl rfl)) _) ?_
  refine AOps.nil ?_
  refine hK1 _ ?_
  refine AW.seq_w fun K2 hK2 wK2 => ?_
  refine AW.seq_w fun K3 hK3 wK3 => ?_
  refine AW.region ?_
  refine AOps.step rfl rfl rfl (OpQ.spec (sp_move rfl (.inl rfl)) _) ?_
  refine ob1k h fun e1 ee1 h1 => ?_
  refine AOps.step rfl rfl rfl (sp_call (r := .r (.int .i64 e1)) (caps := []) (bs := [.r (.sl (a1.map GAxisStep.row))]) rfl (.inl rfl) rfl ⟨⟨_, (.inl rfl), .d rfl⟩, trivial⟩ (fun _ => w_axis_Check (ee1)) rfl) ?_
  refine AOps.step rfl rfl rfl (OpQ.spec (sp_assign rfl (.inl rfl)) _) ?_
  refine AOps.nil ?_
  refine hK3 _ ?_
  refine AW.seq_w fun K4 hK4 wK4 => ?_
  refine AW.region ?_
  refine AOps.step rfl rfl rfl (OpQ.spec (sp_move rfl (.inl rfl)) _) ?_
  refine AOps.step rfl rfl rfl (OpQ.spec (sp_neq rfl (.inl rfl) (.inl rfl)) _) ?_
  refine AOps.nil ?_
  refine hK4 _ ?_
  refine AW.cond rfl (fun hc1 => ?_) (fun hc1 => ?_)
  · have h2 := ite_t hc1 h1
    refine AW.seq_w fun K5 hK5 wK5 => ?_
    refine AW.region ?_
    refine AOps.step rfl rfl rfl (OpQ.spec (sp_move rfl (.inl rfl)) _) ?_
    refine AOps.step rfl rfl rfl (OpQ.spec (sp_assign rfl (.inl rfl)) _) ?_
    refine AOps.step rfl rfl rfl (OpQ.spec (sp_assign rfl (.inl rfl)) _) ?_
    refine AOps.nil ?_
    refine hK5 _ ?_
    refine AW.ret ?_
    exact retf2 (P := Try.prog) (fun (r : (List GAxisStep) × Int) => .r (.sl (r.1.map GAxisStep.row))) (fun (r : (List GAxisStep) × Int) => .r (.int .i64 r.2)) h2 (.inl rfl) (.t (.one (.nil))) (.t (.d rfl))
  · have h2 := ite_f hc1 h1
    refine AW.skip ?_
    refine hK2 _ ?_
    refine AW.seq_w fun K6 hK6 wK6 => ?_
    refine AW.region ?_
    refine AOps.step rfl rfl rfl (ms_alloc (cs := [.cst (.slice none 0 0), .r (.int .i64 0), .r (.int .i64 0)]) 5 rfl t0_103 rfl rfl) ?_
    refine AOps.nil ?_
    refine hK6 _ ?_
    refine AW.seq_w fun K7 hK7 wK7 => ?_
    refine AW.seq_w fun K8 hK8 wK8 => ?_
    refine AW.region ?_
    refine AOps.step rfl rfl rfl (OpQ.spec (sp_move rfl (.inl rfl)) _) ?_
    refine AOps.step rfl rfl rfl (OpQ.spec (ms_len rfl tg_22.slice (.inl rfl)) _) ?_
    refine AOps.step rfl rfl rfl (OpQ.spec (sp_move rfl (.inl rfl)) _) ?_
    refine AOps.nil ?_
    refine hK8 _ ?_
    refine AW.block ?_
    refine jb1k h2 fun o1 hit1 hk1 => ?_
    have J1 : ∀ (w4 : Axis_Writer) (i5 : Nat → Nat), o1 = w4 → K7 ⟨[(5, .ptr 5 n0 0 0)], [(5, some (.box n0 103 [.own 3050 (i5 0), .r (.int .i64 w4.add), .r (.int .i64 w4.cut)])), (3050, some (.arr (i5 0) 99 2 (w4.out.map GAxisStep.row)))], (i5 1), 31⟩ := by
      intro w4 i5 e
      have h3 := hk1 _ e
      refine hK7 _ ?_
      refine AW.seq_w fun K9 hK9 wK9 => ?_
      refine AW.region ?_
      refine ob3k h3 fun r1 r2 w5 er1 h4 => ?_
      refine AOps.stepHI [5, 3050] (hc := [(1000, some (.box n0 103 [.own 1001 (i5 0), .r (.int .i64 w4.add), .r (.int .i64 w4.cut)])), (1001, some (.arr (i5 0) 99 2 (w4.out.map GAxisStep.row)))]) (bs := [.ptr 1000 n0 0 0]) (caps := []) rfl rfl rfl rfl (.inl rfl) rfl ⟨.inl ⟨(.inl rfl), rfl⟩, trivial⟩ ⟨rfl, rfl, rfl, rfl, rfl, rfl, trivial⟩ (by decide) (w_axis_writer_done er1) ?_
      intro i6 n1
      refine AOps.weak (s' := ⟨[(5, .ptr 5 n0 0 0), (28, .tup [.r (.sl (r1.map GAxisStep.row)), .r (.int .i64 r2)])], [(5, some (.box n0 103 [.r (.sl (w5.out.map GAxisStep.row)), .r (.int .i64 w5.add), .r (.int .i64 w5.cut)]))], n1, 31⟩) (by exact Weak.cv ⟨.inl (.inl rfl), .inl (.inl rfl), trivial⟩ ⟨.inl rfl, trivial⟩ (Nat.le_refl _)) ?_
      refine AOps.step rfl rfl rfl (OpQ.spec (sp_extract (a := .r (.sl (r1.map GAxisStep.row))) rfl (.inl rfl) rfl) _) ?_
      refine AOps.step rfl rfl rfl (OpQ.spec (sp_extract (a := .r (.int .i64 r2)) rfl (.inl rfl) rfl) _) ?_
      refine AOps.step rfl rfl rfl (OpQ.spec (sp_assign rfl (.inl rfl)) _) ?_
      refine AOps.step rfl rfl rfl (OpQ.spec (sp_assign rfl (.inl rfl)) _) ?_
      refine AOps.nil ?_
      refine hK9 _ ?_
      refine AW.ret ?_
      exact retf2 (P := Try.prog) (fun (r : (List GAxisStep) × Int) => .r (.sl (r.1.map GAxisStep.row))) (fun (r : (List GAxisStep) × Int) => .r (.int .i64 r.2)) h4 (.inl rfl) (.t (.d rfl)) (.t (.d rfl))
    refine AW.iter2 (fun (x2 : Int) (w2 : Axis_Writer) i3 => ⟨[(5, .ptr 5 n0 0 0), (13, .r (.sl (a1.map GAxisStep.row))), (14, .r (.int .i64 (a1.length : Int))), (15, .r (.int .i64 x2))], [(5, some (.box n0 103 [.own 3050 (i3 0), .r (.int .i64 w2.add), .r (.int .i64 w2.cut)])), (3050, some (.arr (i3 0) 99 2 (w2.out.map GAxisStep.row)))], (i3 1), 31⟩) (vec [(n0 + 1), (n0 + 2)]) hit1 (Weak.trans (Weak.trans (Weak.adoptBox 5 0 3050 99 2 (by decide) rfl rfl (by decide)) (by exact Weak.cv (e' := [(0, .r (.sl (a1.map GAxisStep.row))), (2, .cst (.slice none 0 0)), (3, .r (.int .i64 0)), (4, .r (.int .i64 e1)), (5, .ptr 5 n0 0 0), (8, .r (.sl (a1.map GAxisStep.row))), (9, .r (.int .i64 e1)), (10, .r (.int .i64 e1)), (11, .r (.bool (!decide (e1 = 0)))), (13, .r (.sl (a1.map GAxisStep.row))), (14, .r (.int .i64 (a1.length : Int))), (15, .r (.int .i64 0))]) (h' := [(5, some (.box n0 103 [.own 3050 (n0 + 1), .r (.int .i64 0), .r (.int .i64 0)])), (3050, some (.arr (n0 + 1) 99 2 (([] : List GAxisStep).map GAxisStep.row)))]) ⟨.inl (.inl rfl), .inl (.inl rfl), .inl (.inl rfl), .inl (.inl rfl), .inl (.inl rfl), .inl (.inl rfl), .inl (.inl rfl), .inl (.inl rfl), .inl (.inl rfl), .inl (.inl rfl), .inl (.inl rfl), .inl (.inl rfl), trivial⟩ ⟨.inl rfl, .inl rfl, trivial⟩ (Nat.le_refl _))) (by exact Weak.cv ⟨.inl (.inl rfl), .inl (.inl rfl), .inl (.inl rfl), .inl (.inl rfl), trivial⟩ ⟨.inl rfl, .inl rfl, trivial⟩ (Nat.le_refl _))) ?_
    intro x2 w2 i3 v1 hv1 hx1
    have h5 : axis_Undo_L1 a1 x2 w2 = some v1 := hv1; unfold axis_Undo_L1 at h5
    refine AW.seq_w fun K10 hK10 wK10 => ?_
    refine AW.region ?_
    refine AOps.step rfl rfl rfl (OpQ.spec (sp_lss rfl (.inl rfl) (.inl rfl)) _) ?_
    refine AOps.nil ?_
    refine hK10 _ ?_
    refine AW.seq_w fun K11 hK11 wK11 => ?_
    refine AW.cond rfl (fun hc2 => ?_) (fun hc2 => ?_)
    · have h6 := ite_t hc2 h5
      refine AW.skip ?_
      refine hK11 _ ?_
      refine AW.seq_w fun K12 hK12 wK12 => ?_
      refine AW.block ?_
      refine AW.seq_w fun K13 hK13 wK13 => ?_
      refine AW.region ?_
      refine ob1k h6 fun x4 ex4 h7 => ?_
      refine AOps.step rfl rfl rfl (OpQ.spec (ms_idx rfl tg_22.slice (.inl rfl) (.inl rfl) (fun _ => rfl) (fun _ => ex4)) _) ?_
      refine AOps.step rfl rfl rfl (OpQ.spec (ms_loadA (cs := [.r (.int .i64 x4.Kind), .r (.int .i64 x4.N)]) rfl ta_99 (.inl rfl) rfl rfl) _) ?_
      refine AOps.step rfl rfl rfl (ms_alloc (cs := [.r (.int .i64 0), .r (.int .i64 0)]) 7 rfl t0_99 rfl rfl) ?_
      refine AOps.step0 rfl rfl (ms_store_box (ds := [.r (.int .i64 x4.Kind), .r (.int .i64 x4.N)]) rfl tz_99 (.inl rfl) rfl (.inl rfl) rfl rfl rfl rfl) ?_
      refine AOps.nil ?_
      refine hK13 _ ?_
      refine ob1k h7 fun x5 ex5 h8 => ?_
      refine AW.regionP 7 [⟨some 19, (fun G1 => .own 19 (G1 0)), some (19, (fun G1 => some (.arr (G1 0) 3 1 ([0, 2, 1].map (rInt .i64))))), [0]⟩, ⟨some 20, (fun _ => .ptr 7 (i3 1) 0 0), none, []⟩, ⟨some 21, (fun _ => .r (.int .i64 x4.Kind)), none, []⟩, ⟨some 22, (fun G1 => .ptr 19 (G1 0) x4.Kind.toNat 0), none, [0]⟩, ⟨some 23, (fun _ => .r (.int .i64 x5)), none, []⟩, ⟨some 24, (fun _ => .ptr 7 (i3 1) 0 1), none, []⟩, ⟨some 25, (fun _ => .r (.int .i64 x4.N)), none, []⟩] hmix (by kernel_rfl) (by exact ⟨fun _ _ h => ⟨by simp only [h 0 rfl], fun _ _ e => by cases e; simp only [h 0 rfl]⟩, fun _ _ h => ⟨rfl, fun _ _ e => by cases e⟩, fun _ _ h => ⟨rfl, fun _ _ e => by cases e⟩, fun _ _ h => ⟨by simp only [h 0 rfl], fun _ _ e => by cases e⟩, fun _ _ h => ⟨rfl, fun _ _ e => by cases e⟩, fun _ _ h => ⟨rfl, fun _ _ e => by cases e⟩, fun _ _ h => ⟨rfl, fun _ _ e => by cases e⟩, trivial⟩) rfl (by exact ⟨Ob.make (n1 := fun n => n + 1) rfl rfl (by intro d h; cases h; rfl) rfl (fun _ => []) (fun _ => []) (fun D G1 hr => trivial) (fun D G1 hr => trivial) (fun G1 e h' n => ms_lit 19 rfl tg_84 (f := (rInt .i64)) (l := ([0, 2, 1] : List Int)) ⟨rfl, ⟨_, (.inl rfl), rfl⟩, rfl, ⟨_, (.inl rfl), rfl⟩, rfl, ⟨_, (.inl rfl), rfl⟩, trivial⟩ rfl (fun _ => rfl) rfl),
          Ob.quiet (n1 := fun n => n) rfl rfl (by intro d h; cases h; rfl) rfl (fun _ => [(7, .ptr 7 (i3 1) 0 0)]) (fun _ => [(7, some (.box (i3 1) 99 [.r (.int .i64 x4.Kind), .r (.int .i64 x4.N)]))]) (fun D G1 hr => ⟨inE_base rfl rfl, trivial⟩) (fun D G1 hr => ⟨inH_base rfl rfl, trivial⟩) (fun _ _ => rfl) (fun G1 e h' n => OpQ.spec (v := .ptr 7 (i3 1) 0 0) (sp_fieldAddr_own (ob := .box _ _ _) rfl tf_99_0 (.inl rfl) (fun _ => rfl) rfl) _),
          Ob.quiet (n1 := fun n => n) rfl rfl (by intro d h; cases h; rfl) rfl (fun _ => [(20, .ptr 7 (i3 1) 0 0)]) (fun _ => [(7, some (.box (i3 1) 99 [.r (.int .i64 x4.Kind), .r (.int .i64 x4.N)]))]) (fun D G1 hr => ⟨inE_op hr 1 rfl rfl (by kernel_rfl) rfl rfl, trivial⟩) (fun D G1 hr => ⟨inH_base rfl rfl, trivial⟩) (fun _ _ => rfl) (fun G1 e h' n => OpQ.spec (v := .r (.int .i64 x4.Kind)) (ms_load_box (a := .r (.int .i64 x4.Kind)) rfl ts_3 (.inl rfl) rfl rfl) _),
          Ob.quiet (n1 := fun n => n) rfl rfl (by intro d h; cases h; rfl) rfl (fun G1 => [(19, .own 19 (G1 0)), (21, .r (.int .i64 x4.Kind))]) (fun G1 => [(19, some (.arr (G1 0) 3 1 ([0, 2, 1].map (rInt .i64))))]) (fun D G1 hr => ⟨inE_op hr 0 rfl rfl (by kernel_rfl) rfl rfl, inE_op hr 2 rfl rfl (by kernel_rfl) rfl rfl, trivial⟩) (fun D G1 hr => ⟨inH_op hr 0 rfl rfl (by kernel_rfl) (by kernel_rfl) rfl, trivial⟩) (fun _ _ => rfl) (fun G1 e h' n => OpQ.spec (v := .ptr 19 (G1 0) x4.Kind.toNat 0) (ms_idx_own rfl tg_84.slice (.inl rfl) rfl (.inl rfl) (fun _ => ex5)) _),
          Ob.quiet (n1 := fun n => n) rfl rfl (by intro d h; cases h; rfl) rfl (fun G1 => [(22, .ptr 19 (G1 0) x4.Kind.toNat 0)]) (fun G1 => [(19, some (.arr (G1 0) 3 1 ([0, 2, 1].map (rInt .i64))))]) (fun D G1 hr => ⟨inE_op hr 3 rfl rfl (by kernel_rfl) rfl rfl, trivial⟩) (fun D G1 hr => ⟨inH_op hr 0 rfl rfl (by kernel_rfl) (by kernel_rfl) rfl, trivial⟩) (fun _ _ => rfl) (fun G1 e h' n => OpQ.spec (v := .r (.int .i64 x5)) (ms_load_own (d := .int .i64 x5) rfl ts_3 (.inl rfl) (fun _ => rfl) (fun _ => ex5) rfl) _),
          Ob.quiet (n1 := fun n => n) rfl rfl (by intro d h; cases h; rfl) rfl (fun _ => [(7, .ptr 7 (i3 1) 0 0)]) (fun _ => [(7, some (.box (i3 1) 99 [.r (.int .i64 x4.Kind), .r (.int .i64 x4.N)]))]) (fun D G1 hr => ⟨inE_base rfl rfl, trivial⟩) (fun D G1 hr => ⟨inH_base rfl rfl, trivial⟩) (fun _ _ => rfl) (fun G1 e h' n => OpQ.spec (v := .ptr 7 (i3 1) 0 1) (sp_fieldAddr_own (ob := .box _ _ _) rfl tf_99_1 (.inl rfl) (fun _ => rfl) rfl) _),
          Ob.quiet (n1 := fun n => n) rfl rfl (by intro d h; cases h; rfl) rfl (fun _ => [(24, .ptr 7 (i3 1) 0 1)]) (fun _ => [(7, some (.box (i3 1) 99 [.r (.int .i64 x4.Kind), .r (.int .i64 x4.N)]))]) (fun D G1 hr => ⟨inE_op hr 5 rfl rfl (by kernel_rfl) rfl rfl, trivial⟩) (fun D G1 hr => ⟨inH_base rfl rfl, trivial⟩) (fun _ _ => rfl) (fun G1 e h' n => OpQ.spec (v := .r (.int .i64 x4.N)) (ms_load_box (a := .r (.int .i64 x4.N)) rfl ts_3 (.inl rfl) rfl rfl) _),
          trivial⟩) fun G1 n2 => ?_
      refine AOps.weak (s' := ⟨[(5, .ptr 5 n0 0 0), (7, .ptr 7 (i3 1) 0 0), (13, .r (.sl (a1.map GAxisStep.row))), (14, .r (.int .i64 (a1.length : Int))), (15, .r (.int .i64 x2)), (16, .r (.bool (decide (x2 < (a1.length : Int))))), (17, .rop (GAxisStep.row x4) 0), (18, .agg [.r (.int .i64 x4.Kind), .r (.int .i64 x4.N)]), (19, .own 19 (G1 0)), (20, .ptr 7 (i3 1) 0 0), (21, .r (.int .i64 x4.Kind)), (22, .ptr 19 (G1 0) x4.Kind.toNat 0), (23, .r (.int .i64 x5)), (24, .ptr 7 (i3 1) 0 1), (25, .r (.int .i64 x4.N))], [(5, some (.box n0 103 [.own 3050 (i3 0), .r (.int .i64 w2.add), .r (.int .i64 w2.cut)])), (7, some (.box (i3 1) 99 [.r (.int .i64 x4.Kind), .r (.int .i64 x4.N)])), (19, some (.arr (G1 0) 3 1 ([0, 2, 1].map (rInt .i64)))), (3050, some (.arr (i3 0) 99 2 (w2.out.map GAxisStep.row)))], n2, 31⟩) (by exact Weak.cv ⟨.inl (.inl rfl), .inl (.inl rfl), .inl (.inl rfl), .inl (.inl rfl), .inl (.inl rfl), .inl (.inl rfl), .inl (.inl rfl), .inl (.inl rfl), .inl (.inl rfl), .inl (.inl rfl), .inl (.inl rfl), .inl (.inl rfl), .inl (.inl rfl), .inl (.inl rfl), .inl (.inl rfl), trivial⟩ ⟨.inl rfl, .inl rfl, .inl rfl, .inl rfl, trivial⟩ (Nat.le_refl _)) ?_
      refine ob1k h8 fun w6 ew6 h9 => ?_
      refine AOps.stepHI [5, 3050] (hc := [(1000, some (.box n0 103 [.own 1001 (i3 0), .r (.int .i64 w2.add), .r (.int .i64 w2.cut)])), (1001, some (.arr (i3 0) 99 2 (w2.out.map GAxisStep.row)))]) (bs := [.ptr 1000 n0 0 0, .r (.int .i64 x5), .r (.int .i64 x4.N)]) (caps := []) rfl rfl rfl rfl (.inl rfl) rfl ⟨.inl ⟨(.inl rfl), rfl⟩, .inl ⟨(.inl rfl), rfl⟩, .inl ⟨(.inl rfl), rfl⟩, trivial⟩ ⟨rfl, rfl, rfl, rfl, rfl, rfl, trivial⟩ (by decide) (w_axis_writer_put ew6) ?_
      intro i7 n3
      refine AOps.weak (s' := ⟨[(5, .ptr 5 n0 0 0), (7, .ptr 7 (i3 1) 0 0), (13, .r (.sl (a1.map GAxisStep.row))), (14, .r (.int .i64 (a1.length : Int))), (15, .r (.int .i64 x2)), (16, .r (.bool (decide (x2 < (a1.length : Int))))), (17, .rop (GAxisStep.row x4) 0), (18, .agg [.r (.int .i64 x4.Kind), .r (.int .i64 x4.N)]), (19, .own 19 (G1 0)), (20, .ptr 7 (i3 1) 0 0), (21, .r (.int .i64 x4.Kind)), (23, .r (.int .i64 x5)), (24, .ptr 7 (i3 1) 0 1), (25, .r (.int .i64 x4.N)), (26, .tup [])], [(5, some (.box n0 103 [.own 3050 (i7 0), .r (.int .i64 w6.add), .r (.int .i64 w6.cut)])), (7, some (.box (i3 1) 99 [.r (.int .i64 x4.Kind), .r (.int .i64 x4.N)])), (19, some (.arr (G1 0) 3 1 ([0, 2, 1].map (rInt .i64)))), (3050, some (.arr (i7 0) 99 2 (w6.out.map GAxisStep.row)))], n3, 31⟩) (by exact Weak.cv ⟨.inl (.inl rfl), .inl (.inl rfl), .inl (.inl rfl), .inl (.inl rfl), .inl (.inl rfl), .inl (.inl rfl), .inl (.inl rfl), .inl (.inl rfl), .inl (.inl rfl), .inl (.inl rfl), .inl (.inl rfl), .inl (.inl rfl), .inl (.inl rfl), .inl (.inl rfl), .inl (.inl rfl), trivial⟩ ⟨.inl rfl, .inl rfl, .inl rfl, .inl rfl, trivial⟩ (Nat.le_refl _)) ?_
      refine AOps.nil ?_
      refine hK12 _ ?_
      refine AW.weak (s' := ⟨[(5, .ptr 5 n0 0 0), (13, .r (.sl (a1.map GAxisStep.row))), (14, .r (.int .i64 (a1.length : Int))), (15, .r (.int .i64 x2))], [(5, some (.box n0 103 [.own 3050 (i7 0), .r (.int .i64 w6.add), .r (.int .i64 w6.cut)])), (3050, some (.arr (i7 0) 99 2 (w6.out.map GAxisStep.row)))], n3, 31⟩) (by exact Weak.cv ⟨.inl (.inl rfl), .inl (.inl rfl), .inl (.inl rfl), .inl (.inl rfl), trivial⟩ ⟨.inl rfl, .inl rfl, trivial⟩ (Nat.le_refl _)) ?_
      refine AW.region ?_
      refine ob1k h9 fun x6 ex6 h10 => ?_
      refine AOps.step rfl rfl rfl (OpQ.spec (ms_add rfl (.inl rfl) (.inl rfl) (fun _ => ex6)) _) ?_
      refine AOps.step rfl rfl rfl (OpQ.spec (sp_move rfl (.inl rfl)) _) ?_
      refine AOps.nil ?_
      exact NextQ2.mk h10 (vec [(i7 0), n3]) ((by exact Weak.cv ⟨.inl (.inl rfl), .inl (.inl rfl), .inl (.inl rfl), .inl (.inl rfl), trivial⟩ ⟨.inl rfl, .inl rfl, trivial⟩ (Nat.le_refl _)))
    · have h6 := ite_f hc2 h5
      refine AW.exit ?_
      exact wK7 _ _ ((by exact Weak.cv ⟨.inl (.inl rfl), trivial⟩ ⟨.inl rfl, .inl rfl, trivial⟩ (Nat.le_refl _))) (J1 _ (vec [(i3 0), (i3 1)]) (hx1 _ (Option.some.inj h6).symm))
set_option maxHeartbeats 4000000 in
set_option maxRecDepth 20000 in
theorem w_ref_In {x1 : Int} {low1 : Int} {high1 : Int} {r : Bool} (h : ref_In x1 low1 high1 = some r) : ARO Try.prog 43 [.r (.int .i64 x1), .r (.int .i64 low1), .r (.int .i64 high1)] (.r (.bool r)) := by
  unfold ref_In at h
  refine ARO.mkF Try.func43 rfl rfl Try.ntmps43 rfl (Nat.le_of_ble_eq_true rfl) fun n0 => ?_
  refine AW.seq_w fun K1 hK1 wK1 => ?_
  refine AW.region ?_
  refine AOps.step rfl rfl rfl (OpQ.spec (sp_assign rfl (.inl rfl)) _) ?_
  refine AOps.nil ?_
  refine hK1 _ ?_
  refine AW.seq_w fun K2 hK2 wK2 => ?_
  refine AW.region ?_
  refine AOps.step rfl rfl rfl (OpQ.spec (sp_move rfl (.inl rfl)) _) ?_
  refine AOps.step rfl rfl rfl (OpQ.spec (sp_move rfl (.inl rfl)) _) ?_
  refine AOps.step rfl rfl rfl (OpQ.spec (sp_geq rfl (.inl rfl) (.inl rfl)) _) ?_
  refine AOps.step rfl rfl rfl (OpQ.spec (sp_move rfl (.inl rfl)) _) ?_
  refine AOps.stepW (.one rfl rfl rfl) rfl rfl (OpQ.spec (sp_move rfl (.inl rfl)) _) ?_
  refine AOps.stepW (.one rfl rfl rfl) rfl rfl (OpQ.spec (sp_move rfl (.inl rfl)) _) ?_
  refine AOps.stepW (.one rfl rfl rfl) rfl rfl (OpQ.spec (sp_leq rfl (.inr ⟨_, (by exact id), rfl⟩) (.inr ⟨_, (by exact id), rfl⟩)) _) ?_
  refine AOps.step rfl rfl rfl (OpQ.spec (sp_and rfl (.inl rfl) (.inr ⟨_, (by exact id), rfl⟩)) _) ?_
  refine AOps.step rfl rfl rfl (OpQ.spec (sp_assign rfl (.inl rfl)) _) ?_
  refine AOps.nil ?_
  refine hK2 _ ?_
  refine AW.ret ?_
  exact retf1 (P := Try.prog) (fun (r : Bool) => .r (.bool r)) h (.inl rfl) (.t (.d rfl))
set_option maxHeartbeats 4000000 in
set_option maxRecDepth 20000 in
theorem w_ref_AxisError {a1 : List GAxisStep} {r : Int} (h : ref_AxisError a1 = some r) : ARO Try.prog 15 [.r (.sl (a1.map GAxisStep.row))] (.r (.int .i64 r)) := by
  unfold ref_AxisError at h
  refine ARO.mkF Try.func15 rfl rfl Try.ntmps15 rfl (Nat.le_of_ble_eq_true rfl) fun n0 => ?_
  refine AW.seq_w fun K1 hK1 wK1 => ?_
  refine AW.region ?_
  refine AOps.step rfl rfl rfl (OpQ.spec (sp_assign rfl (.inl rfl)) _) ?_
  refine AOps.nil ?_
  refine hK1 _ ?_
  refine AW.seq_w fun K2 hK2 wK2 => ?_
  refine AW.region ?_
  refine AOps.step rfl rfl rfl (OpQ.spec (sp_assign rfl (.inl rfl)) _) ?_
  refine AOps.step rfl rfl rfl (OpQ.spec (sp_assign rfl (.inl rfl)) _) ?_
  refine AOps.nil ?_
  refine hK2 _ ?_
  refine AW.seq_w fun K3 hK3 wK3 => ?_
  refine AW.seq_w fun K4 hK4 wK4 => ?_
  refine AW.region ?_
  refine AOps.step rfl rfl rfl (OpQ.spec (sp_move rfl (.inl rfl)) _) ?_
  refine AOps.step rfl rfl rfl (OpQ.spec (ms_len rfl tg_22.slice (.inl rfl)) _) ?_
  refine AOps.step rfl rfl rfl (OpQ.spec (sp_move rfl (.inl rfl)) _) ?_
  refine AOps.nil ?_
  refine hK4 _ ?_
  refine AW.block ?_
  refine jc2k h fun o1 hit1 hk1 he1 => ?_
  have J1 : ∀ (old4 : Int) (now4 : Int) (i5 : Nat → Nat), o1 = .nrm (old4, now4) → K3 ⟨[(3, .r (.int .i64 old4)), (4, .r (.int .i64 now4))], [], (i5 0), 99⟩ := by
    intro old4 now4 i5 e
    have h1 := hk1 _ _ e
    refine hK3 _ ?_
    refine AW.seq_w fun K5 hK5 wK5 => ?_
    refine AW.seq_w fun K6 hK6 wK6 => ?_
    refine AW.region ?_
    refine AOps.step rfl rfl rfl (OpQ.spec (sp_move rfl (.inl rfl)) _) ?_
    refine AOps.step rfl rfl rfl (OpQ.spec (sp_gtr rfl (.inl rfl) (.inl rfl)) _) ?_
    refine AOps.step rfl rfl rfl (OpQ.spec (sp_move rfl (.inl rfl)) _) ?_
    refine AOps.stepW (.one rfl rfl rfl) rfl rfl (OpQ.spec (sp_move rfl (.inl rfl)) _) ?_
    refine AOps.stepW (.one rfl rfl rfl) rfl rfl (OpQ.spec (sp_gtr rfl (.inr ⟨_, (by exact id), rfl⟩) (.inl rfl)) _) ?_
    refine AOps.step rfl rfl rfl (OpQ.spec (sp_or rfl (.inl rfl) (.inr ⟨_, (by exact id), rfl⟩)) _) ?_
    refine AOps.nil ?_
    refine hK6 _ ?_
    refine AW.cond rfl (fun hc1 => ?_) (fun hc1 => ?_)
    · have h2 := ite_t hc1 h1
      refine AW.seq_w fun K7 hK7 wK7 => ?_
      refine AW.region ?_
      refine AOps.step rfl rfl rfl (OpQ.spec (sp_assign rfl (.inl rfl)) _) ?_
      refine AOps.nil ?_
      refine hK7 _ ?_
      refine AW.ret ?_
      exact retf1 (P := Try.prog) (fun (r : Int) => .r (.int .i64 r)) h2 (.inl rfl) (.t (.d rfl))
    · have h2 := ite_f hc1 h1
      refine AW.skip ?_
      refine hK5 _ ?_
      refine AW.seq_w fun K8 hK8 wK8 => ?_
      refine AW.region ?_
      refine AOps.step rfl rfl rfl (OpQ.spec (sp_assign rfl (.inl rfl)) _) ?_
      refine AOps.nil ?_
      refine hK8 _ ?_
      refine AW.ret ?_
      exact retf1 (P := Try.prog) (fun (r : Int) => .r (.int .i64 r)) h2 (.inl rfl) (.t (.d rfl))
  refine AW.iter3 (fun (old2 : Int) (now2 : Int) (x2 : Int) i3 => ⟨[(0, .r (.sl (a1.map GAxisStep.row))), (3, .r (.int .i64 old2)), (4, .r (.int .i64 now2)), (7, .r (.int .i64 (a1.length : Int))), (8, .r (.int .i64 x2))], [], (i3 0), 99⟩) (vec [n0]) hit1 ((by exact Weak.cv ⟨.inl (.inl rfl), .inl (.inl rfl), .inl (.inl rfl), .inl (.inl rfl), .inl (.inl rfl), trivial⟩ trivial (Nat.le_refl _))) ?_
  intro old2 now2 x2 i3 v1 hv1 hx1
  have h3 : ref_AxisError_L1 a1 old2 now2 x2 = some v1 := hv1; unfold ref_AxisError_L1 at h3
  refine AW.seq_w fun K9 hK9 wK9 => ?_
  refine AW.region ?_
  refine AOps.step rfl rfl rfl (OpQ.spec (sp_lss rfl (.inl rfl) (.inl rfl)) _) ?_
  refine AOps.nil ?_
  refine hK9 _ ?_
  refine AW.seq_w fun K10 hK10 wK10 => ?_
  refine AW.cond rfl (fun hc2 => ?_) (fun hc2 => ?_)
  · have h4 := ite_t hc2 h3
    refine AW.skip ?_
    refine hK10 _ ?_
    refine AW.seq_w fun K11 hK11 wK11 => ?_
    refine AW.block ?_
    refine jc2k h4 fun p1 hp1 hk2 he2 => ?_
    have J2 : ∀ (old5 : Int) (now5 : Int) (i6 : Nat → Nat), p1 = .nrm (old5, now5) → K11 ⟨[(0, .r (.sl (a1.map GAxisStep.row))), (3, .r (.int .i64 old5)), (4, .r (.int .i64 now5)), (7, .r (.int .i64 (a1.length : Int))), (8, .r (.int .i64 x2))], [], (i6 0), 99⟩ := by
      intro old5 now5 i6 e
      have h5 := hk2 _ _ e
      refine hK11 _ ?_
      refine AW.region ?_
      refine ob1k h5 fun x4 ex4 h6 => ?_
      refine AOps.step rfl rfl rfl (OpQ.spec (ms_add rfl (.inl rfl) (.inl rfl) (fun _ => ex4)) _) ?_
      refine AOps.step rfl rfl rfl (OpQ.spec (sp_move rfl (.inl rfl)) _) ?_
      refine AOps.nil ?_
      exact NextQ3.mk h6 (vec [(i6 0)]) ((by exact Weak.cv ⟨.inl (.inl rfl), .inl (.inl rfl), .inl (.inl rfl), .inl (.inl rfl), .inl (.inl rfl), trivial⟩ trivial (Nat.le_refl _)))
    refine AW.seq_w fun K12 hK12 wK12 => ?_
    refine AW.region ?_
    refine AOps.step rfl rfl rfl (OpQ.spec (sp_move rfl (.inl rfl)) _) ?_
    refine AOps.step rfl rfl rfl (OpQ.spec (sp_assign rfl (.inl rfl)) _) ?_
    refine AOps.nil ?_
    refine hK12 _ ?_
    refine AW.seq_w fun K13 hK13 wK13 => ?_
    refine AW.seq_w fun K14 hK14 wK14 => ?_
    refine AW.region ?_
    refine AOps.step rfl rfl rfl (OpQ.spec (sp_move rfl (.inl rfl)) _) ?_
    refine AOps.step rfl rfl rfl (OpQ.spec (sp_move rfl (.inl rfl)) _) ?_
    refine ob1k hp1 fun x5 ex5 h7 => ?_
    refine AOps.step rfl rfl rfl (OpQ.spec (ms_idx rfl tg_22.slice (.inl rfl) (.inl rfl) (fun _ => rfl) (fun _ => ex5)) _) ?_
    refine AOps.step rfl rfl rfl (OpQ.spec (sp_fieldAddr_ro rfl tf_99_0 (.inl rfl)) _) ?_
    refine AOps.step rfl rfl rfl (OpQ.spec (ms_load (d := .int .i64 x5.Kind) rfl ts_3 (.inl rfl) rfl) _) ?_
    refine ob1k h7 fun r1 er1 h8 => ?_
    refine AOps.step rfl rfl rfl (sp_call (r := .r (.bool r1)) (caps := []) (bs := [.r (.int .i64 x5.Kind), .r (.int .i64 0), .r (.int .i64 2)]) rfl (.inl rfl) rfl ⟨⟨_, (.inl rfl), .d rfl⟩, ⟨_, (.inl rfl), .d rfl⟩, ⟨_, (.inl rfl), .d rfl⟩, trivial⟩ (fun _ => w_ref_In (er1)) rfl) ?_
    refine AOps.step rfl rfl rfl (OpQ.spec (sp_not rfl (.inl rfl)) _) ?_
    refine AOps.nil ?_
    refine hK14 _ ?_
    refine AW.cond rfl (fun hc3 => ?_) (fun hc3 => ?_)
    · have h9 := ite_t hc3 h8
      refine AW.seq_w fun K15 hK15 wK15 => ?_
      refine AW.weak (s' := ⟨[], [], (i3 0), 99⟩) (by exact Weak.cv trivial trivial (Nat.le_refl _)) ?_
      refine AW.region ?_
      refine AOps.step rfl rfl rfl (OpQ.spec (sp_assign rfl (.inl rfl)) _) ?_
      refine AOps.nil ?_
      refine hK15 _ ?_
      refine AW.ret ?_
      exact retf1 (P := Try.prog) (fun (r : Int) => .r (.int .i64 r)) (he1 _ (hx1 _ (Option.some.inj (he2 _ (Option.some.inj h9).symm)).symm)) (.inl rfl) (.t (.d rfl))
    · have h9 := ite_f hc3 h8
      refine AW.skip ?_
      refine hK13 _ ?_
      refine AW.seq_w fun K16 hK16 wK16 => ?_
      refine AW.seq_w fun K17 hK17 wK17 => ?_
      refine AW.weak (s' := ⟨[(0, .r (.sl (a1.map GAxisStep.row))), (3, .r (.int .i64 old2)), (4, .r (.int .i64 now2)), (5, .r (.int .i64 x2)), (7, .r (.int .i64 (a1.length : Int))), (8, .r (.int .i64 x2))], [], (i3 0), 99⟩) (by exact Weak.cv ⟨.inl (.inl rfl), .inl (.inl rfl), .inl (.inl rfl), .inl (.inl rfl), .inl (.inl rfl), .inl (.inl rfl), trivial⟩ trivial (Nat.le_refl _)) ?_
      refine AW.region ?_
      refine AOps.step rfl rfl rfl (OpQ.spec (sp_move rfl (.inl rfl)) _) ?_
      refine AOps.step rfl rfl rfl (OpQ.spec (sp_move rfl (.inl rfl)) _) ?_
      refine AOps.step rfl rfl rfl (OpQ.spec (ms_idx rfl tg_22.slice (.inl rfl) (.inl rfl) (fun _ => rfl) (fun _ => ex5)) _) ?_
      refine AOps.step rfl rfl rfl (OpQ.spec (sp_fieldAddr_ro rfl tf_99_1 (.inl rfl)) _) ?_
      refine AOps.step rfl rfl rfl (OpQ.spec (ms_load (d := .int .i64 x5.N) rfl ts_3 (.inl rfl) rfl) _) ?_
      refine ob1k h9 fun r2 er2 h10 => ?_
      refine AOps.step rfl rfl rfl (sp_call (r := .r (.bool r2)) (caps := []) (bs := [.r (.int .i64 x5.N), .r (.int .i64 1), .r (.int .i64 2147483647)]) rfl (.inl rfl) rfl ⟨⟨_, (.inl rfl), .d rfl⟩, ⟨_, (.inl rfl), .d rfl⟩, ⟨_, (.inl rfl), .d rfl⟩, trivial⟩ (fun _ => w_ref_In (er2)) rfl) ?_
      refine AOps.step rfl rfl rfl (OpQ.spec (sp_not rfl (.inl rfl)) _) ?_
      refine AOps.nil ?_
      refine hK17 _ ?_
      refine AW.cond rfl (fun hc4 => ?_) (fun hc4 => ?_)
      · have h11 := ite_t hc4 h10
        refine AW.seq_w fun K18 hK18 wK18 => ?_
        refine AW.weak (s' := ⟨[], [], (i3 0), 99⟩) (by exact Weak.cv trivial trivial (Nat.le_refl _)) ?_
        refine AW.region ?_
        refine AOps.step rfl rfl rfl (OpQ.spec (sp_assign rfl (.inl rfl)) _) ?_
        refine AOps.nil ?_
        refine hK18 _ ?_
        refine AW.ret ?_
        exact retf1 (P := Try.prog) (fun (r : Int) => .r (.int .i64 r)) (he1 _ (hx1 _ (Option.some.inj (he2 _ (Option.some.inj h11).symm)).symm)) (.inl rfl) (.t (.d rfl))
      · have h11 := ite_f hc4 h10
        refine AW.skip ?_
        refine hK16 _ ?_
        refine AW.seq_w fun K19 hK19 wK19 => ?_
        refine AW.seq_w fun K20 hK20 wK20 => ?_
        refine AW.regionQ hmix (by kernel_rfl) ?_
        refine AQ.step rfl rfl rfl (sp_move rfl (.inl rfl)) ?_
        refine AQ.step rfl rfl rfl (sp_gtr rfl (.inl rfl) (.inl rfl)) ?_
        refine AQ.step rfl rfl rfl (sp_move rfl (.inl rfl)) ?_
        refine AQ.stepW (.one rfl rfl rfl) rfl rfl (sp_move rfl (.inl rfl)) ?_
        refine AQ.stepW (.one rfl rfl rfl) rfl rfl (sp_move rfl (.inl rfl)) ?_
        refine AQ.stepW (.one rfl rfl rfl) rfl rfl (ms_idx rfl tg_22.slice (.inr ⟨_, (by exact id), rfl⟩) (.inr ⟨_, (by exact id), rfl⟩) (fun _ => rfl) (fun _ => ex5)) ?_
        refine AQ.stepW (.one rfl rfl rfl) rfl rfl (sp_fieldAddr_ro rfl tf_99_0 (.inr ⟨_, (by exact id), rfl⟩)) ?_
        refine AQ.stepW (.one rfl rfl rfl) rfl rfl (ms_load (d := .int .i64 x5.Kind) rfl ts_3 (.inr ⟨_, (by exact id), rfl⟩) rfl) ?_
        refine AQ.stepW (.one rfl rfl rfl) rfl rfl (sp_move rfl (.inl rfl)) ?_
        refine AQ.stepW (.one rfl rfl rfl) rfl rfl (sp_move rfl (.inl rfl)) ?_
        refine ob1k h11 fun x6 ex6 h12 => ?_
        refine AQ.stepW (.one rfl rfl rfl) rfl rfl (ms_sub rfl (.inr ⟨_, (by exact id), rfl⟩) (.inl rfl) (gdt ex6)) ?_
        refine ob1k h12 fun x7 ex7 h13 => ?_
        refine AQ.stepW (.one rfl rfl rfl) rfl rfl (ms_idx rfl tg_22.slice (.inr ⟨_, (by exact id), rfl⟩) (.inr ⟨_, (by exact id), rfl⟩) (fun _ => rfl) (gdt ex7)) ?_
        refine AQ.stepW (.one rfl rfl rfl) rfl rfl (sp_fieldAddr_ro rfl tf_99_0 (.inr ⟨_, (by exact id), rfl⟩)) ?_
        refine AQ.stepW (.one rfl rfl rfl) rfl rfl (ms_load (d := .int .i64 x7.Kind) rfl ts_3 (.inr ⟨_, (by exact id), rfl⟩) rfl) ?_
        refine AQ.stepW (.one rfl rfl rfl) rfl rfl (sp_eql rfl (.inr ⟨_, (by exact id), rfl⟩) (.inr ⟨_, (by exact id), rfl⟩)) ?_
        refine AQ.stepW (.one rfl rfl rfl) rfl rfl (sp_move rfl (.inr ⟨_, (by exact id), rfl⟩)) ?_
        refine AQ.stepW (.two rfl rfl rfl) rfl rfl (sp_move rfl (.inl rfl)) ?_
        refine AQ.stepW (.two rfl rfl rfl) rfl rfl (sp_move rfl (.inl rfl)) ?_
        refine AQ.stepW (.two rfl rfl rfl) rfl rfl (ms_idx rfl tg_22.slice (.inr ⟨_, (by exact id), rfl⟩) (.inr ⟨_, (by exact id), rfl⟩) (fun _ => rfl) (fun _ => ex5)) ?_
        refine AQ.stepW (.two rfl rfl rfl) rfl rfl (sp_fieldAddr_ro rfl tf_99_0 (.inr ⟨_, (by exact id), rfl⟩)) ?_
        refine AQ.stepW (.two rfl rfl rfl) rfl rfl (ms_load (d := .int .i64 x5.Kind) rfl ts_3 (.inr ⟨_, (by exact id), rfl⟩) rfl) ?_
        refine AQ.stepW (.two rfl rfl rfl) rfl rfl (sp_eql rfl (.inr ⟨_, (by exact id), rfl⟩) (.inl rfl)) ?_
        refine AQ.stepW (.two rfl rfl rfl) rfl rfl (sp_move rfl (.inr ⟨_, (by exact id), rfl⟩)) ?_
        refine AQ.stepW (.two rfl rfl rfl) rfl rfl (sp_move rfl (.inl rfl)) ?_
        refine AQ.stepW (.two rfl rfl rfl) rfl rfl (sp_move rfl (.inl rfl)) ?_
        refine ob1k h13 fun x8 ex8 h14 => ?_
        refine AQ.stepW (.two rfl rfl rfl) rfl rfl (ms_sub rfl (.inr ⟨_, (by exact id), rfl⟩) (.inl rfl) (gdt ex8)) ?_
        refine ob1k h14 fun x9 ex9 h15 => ?_
        refine AQ.stepW (.two rfl rfl rfl) rfl rfl (ms_idx rfl tg_22.slice (.inr ⟨_, (by exact id), rfl⟩) (.inr ⟨_, (by exact id), rfl⟩) (fun _ => rfl) (gdt ex9)) ?_
        refine AQ.stepW (.two rfl rfl rfl) rfl rfl (sp_fieldAddr_ro rfl tf_99_0 (.inr ⟨_, (by exact id), rfl⟩)) ?_
        refine AQ.stepW (.two rfl rfl rfl) rfl rfl (ms_load (d := .int .i64 x9.Kind) rfl ts_3 (.inr ⟨_, (by exact id), rfl⟩) rfl) ?_
        refine AQ.stepW (.two rfl rfl rfl) rfl rfl (sp_eql rfl (.inr ⟨_, (by exact id), rfl⟩) (.inl rfl)) ?_
        refine AQ.stepW (.two rfl rfl rfl) rfl rfl (sp_and rfl (.inr ⟨_, (by exact id), rfl⟩) (.inr ⟨_, (by exact id), rfl⟩)) ?_
        refine AQ.stepW (.one rfl rfl rfl) rfl rfl (sp_or rfl (.inr ⟨_, (by exact id), rfl⟩) (.inr ⟨_, (by exact id), rfl⟩)) ?_
        refine AQ.step rfl rfl rfl (sp_and rfl (.inl rfl) (.inr ⟨_, (by exact id), rfl⟩)) ?_
        refine AQ.nil ?_
        refine hK20 _ ?_
        refine AW.cond rfl (fun hc5 => ?_) (fun hc5 => ?_)
        · have h16 := ite_t hc5 h15
          refine AW.seq_w fun K21 hK21 wK21 => ?_
          refine AW.weak (s' := ⟨[], [], (i3 0), 99⟩) (by exact Weak.cv trivial trivial (Nat.le_refl _)) ?_
          refine AW.region ?_
          refine AOps.step rfl rfl rfl (OpQ.spec (sp_assign rfl (.inl rfl)) _) ?_
          refine AOps.nil ?_
          refine hK21 _ ?_
          refine AW.ret ?_
          exact retf1 (P := Try.prog) (fun (r : Int) => .r (.int .i64 r)) (he1 _ (hx1 _ (Option.some.inj (he2 _ (Option.some.inj h16).symm)).symm)) (.inl rfl) (.t (.d rfl))
        · have h16 := ite_f hc5 h15
          refine AW.skip ?_
          refine hK19 _ ?_
          refine AW.seq_w fun K22 hK22 wK22 => ?_
          refine AW.seq_w fun K23 hK23 wK23 => ?_
          refine AW.weak (s' := ⟨[(0, .r (.sl (a1.map GAxisStep.row))), (3, .r (.int .i64 old2)), (4, .r (.int .i64 now2)), (5, .r (.int .i64 x2)), (7, .r (.int .i64 (a1.length : Int))), (8, .r (.int .i64 x2))], [], (i3 0), 99⟩) (by exact Weak.cv ⟨.inl (.inl rfl), .inl (.inl rfl), .inl (.inl rfl), .inl (.inl rfl), .inl (.inl rfl), .inl (.inl rfl), trivial⟩ trivial (Nat.le_refl _)) ?_
          refine AW.region ?_
          refine AOps.step rfl rfl rfl (OpQ.spec (sp_move rfl (.inl rfl)) _) ?_
          refine AOps.step rfl rfl rfl (OpQ.spec (sp_move rfl (.inl rfl)) _) ?_
          refine AOps.step rfl rfl rfl (OpQ.spec (ms_idx rfl tg_22.slice (.inl rfl) (.inl rfl) (fun _ => rfl) (fun _ => ex5)) _) ?_
          refine AOps.step rfl rfl rfl (OpQ.spec (sp_fieldAddr_ro rfl tf_99_0 (.inl rfl)) _) ?_
          refine AOps.step rfl rfl rfl (OpQ.spec (ms_load (d := .int .i64 x5.Kind) rfl ts_3 (.inl rfl) rfl) _) ?_
          refine AOps.step rfl rfl rfl (OpQ.spec (sp_neq rfl (.inl rfl) (.inl rfl)) _) ?_
          refine AOps.step rfl rfl rfl (OpQ.spec (sp_move rfl (.inl rfl)) _) ?_
          refine AOps.stepW (.one rfl rfl rfl) rfl rfl (OpQ.spec (sp_move rfl (.inl rfl)) _) ?_
          refine AOps.stepW (.one rfl rfl rfl) rfl rfl (OpQ.spec (sp_lss rfl (.inr ⟨_, (by exact id), rfl⟩) (.inl rfl)) _) ?_
          refine AOps.step rfl rfl rfl (OpQ.spec (sp_and rfl (.inl rfl) (.inr ⟨_, (by exact id), rfl⟩)) _) ?_
          refine AOps.nil ?_
          refine hK23 _ ?_
          refine jb1k h16 fun p2 hp2 hk3 => ?_
          have J3 : ∀ (old6 : Int) (i7 : Nat → Nat), p2 = old6 → K22 ⟨[(0, .r (.sl (a1.map GAxisStep.row))), (3, .r (.int .i64 old6)), (4, .r (.int .i64 now2)), (5, .r (.int .i64 x2)), (7, .r (.int .i64 (a1.length : Int))), (8, .r (.int .i64 x2))], [], (i7 0), 99⟩ := by
            intro old6 i7 e
            have h17 := hk3 _ e
            refine hK22 _ ?_
            refine AW.seq_w fun K24 hK24 wK24 => ?_
            refine AW.region ?_
            refine AOps.step rfl rfl rfl (OpQ.spec (sp_move rfl (.inl rfl)) _) ?_
            refine AOps.step rfl rfl rfl (OpQ.spec (sp_move rfl (.inl rfl)) _) ?_
            refine AOps.step rfl rfl rfl (OpQ.spec (ms_idx rfl tg_22.slice (.inl rfl) (.inl rfl) (fun _ => rfl) (fun _ => ex5)) _) ?_
            refine AOps.step rfl rfl rfl (OpQ.spec (sp_fieldAddr_ro rfl tf_99_0 (.inl rfl)) _) ?_
            refine AOps.step rfl rfl rfl (OpQ.spec (ms_load (d := .int .i64 x5.Kind) rfl ts_3 (.inl rfl) rfl) _) ?_
            refine AOps.step rfl rfl rfl (OpQ.spec (sp_neq rfl (.inl rfl) (.inl rfl)) _) ?_
            refine AOps.step rfl rfl rfl (OpQ.spec (sp_move rfl (.inl rfl)) _) ?_
            refine AOps.stepW (.one rfl rfl rfl) rfl rfl (OpQ.spec (sp_move rfl (.inl rfl)) _) ?_
            refine AOps.stepW (.one rfl rfl rfl) rfl rfl (OpQ.spec (sp_lss rfl (.inr ⟨_, (by exact id), rfl⟩) (.inl rfl)) _) ?_
            refine AOps.step rfl rfl rfl (OpQ.spec (sp_and rfl (.inl rfl) (.inr ⟨_, (by exact id), rfl⟩)) _) ?_
            refine AOps.nil ?_
            refine hK24 _ ?_
            refine AW.cond rfl (fun hc6 => ?_) (fun hc6 => ?_)
            · have h18 := ite_t hc6 h17
              refine AW.region ?_
              refine AOps.step rfl rfl rfl (OpQ.spec (sp_move rfl (.inl rfl)) _) ?_
              refine AOps.step rfl rfl rfl (OpQ.spec (sp_move rfl (.inl rfl)) _) ?_
              refine AOps.step rfl rfl rfl (OpQ.spec (sp_move rfl (.inl rfl)) _) ?_
              refine AOps.step rfl rfl rfl (OpQ.spec (ms_idx rfl tg_22.slice (.inl rfl) (.inl rfl) (fun _ => rfl) (fun _ => ex5)) _) ?_
              refine AOps.step rfl rfl rfl (OpQ.spec (sp_fieldAddr_ro rfl tf_99_1 (.inl rfl)) _) ?_
              refine AOps.step rfl rfl rfl (OpQ.spec (ms_load (d := .int .i64 x5.N) rfl ts_3 (.inl rfl) rfl) _) ?_
              refine ob1k h18 fun now6 enow6 h19 => ?_
              refine AOps.step rfl rfl rfl (OpQ.spec (ms_add rfl (.inl rfl) (.inl rfl) (fun _ => enow6)) _) ?_
              refine AOps.step rfl rfl rfl (OpQ.spec (sp_assign rfl (.inl rfl)) _) ?_
              refine AOps.nil ?_
              exact wK11 _ _ ((by exact Weak.cv ⟨.inl (.inl rfl), .inl (.inl rfl), .inl (.inl rfl), .inl (.inl rfl), .inl (.inl rfl), trivial⟩ trivial (Nat.le_refl _))) (J2 _ _ (vec [(i7 0)]) (Option.some.inj h19).symm)
            · have h18 := ite_f hc6 h17
              refine AW.skip ?_
              exact wK11 _ _ ((by exact Weak.cv ⟨.inl (.inl rfl), .inl (.inl rfl), .inl (.inl rfl), .inl (.inl rfl), .inl (.inl rfl), trivial⟩ trivial (Nat.le_refl _))) (J2 _ _ (vec [(i7 0)]) (Option.some.inj h18).symm)
          refine AW.cond rfl (fun hc7 => ?_) (fun hc7 => ?_)
          · have h20 := ite_t hc7 hp2
            refine AW.region ?_
            refine AOps.step rfl rfl rfl (OpQ.spec (sp_move rfl (.inl rfl)) _) ?_
            refine AOps.step rfl rfl rfl (OpQ.spec (sp_move rfl (.inl rfl)) _) ?_
            refine AOps.step rfl rfl rfl (OpQ.spec (sp_move rfl (.inl rfl)) _) ?_
            refine AOps.step rfl rfl rfl (OpQ.spec (ms_idx rfl tg_22.slice (.inl rfl) (.inl rfl) (fun _ => rfl) (fun _ => ex5)) _) ?_
            refine AOps.step rfl rfl rfl (OpQ.spec (sp_fieldAddr_ro rfl tf_99_1 (.inl rfl)) _) ?_
            refine AOps.step rfl rfl rfl (OpQ.spec (ms_load (d := .int .i64 x5.N) rfl ts_3 (.inl rfl) rfl) _) ?_
            refine ob1k h20 fun old7 eold7 h21 => ?_
            refine AOps.step rfl rfl rfl (OpQ.spec (ms_add rfl (.inl rfl) (.inl rfl) (fun _ => eold7)) _) ?_
            refine AOps.step rfl rfl rfl (OpQ.spec (sp_assign rfl (.inl rfl)) _) ?_
            refine AOps.nil ?_
            exact wK22 _ _ ((by exact Weak.cv ⟨.inl (.inl rfl), .inl (.inl rfl), .inl (.inl rfl), .inl (.inl rfl), .inl (.inl rfl), .inl (.inl rfl), trivial⟩ trivial (Nat.le_refl _))) (J3 _ (vec [(i3 0)]) (Option.some.inj h21).symm)
          · have h20 := ite_f hc7 hp2
            refine AW.skip ?_
            exact wK22 _ _ ((by exact Weak.cv ⟨.inl (.inl rfl), .inl (.inl rfl), .inl (.inl rfl), .inl (.inl rfl), .inl (.inl rfl), .inl (.inl rfl), trivial⟩ trivial (Nat.le_refl _))) (J3 _ (vec [(i3 0)]) (Option.some.inj h20).symm)
  · have h4 := ite_f hc2 h3
    refine AW.exit ?_
    exact wK3 _ _ ((by exact Weak.cv ⟨.inl (.inl rfl), .inl (.inl rfl), trivial⟩ trivial (Nat.le_refl _))) (J1 _ _ (vec [(i3 0)]) (hx1 _ (Option.some.inj h4).symm))
set_option maxHeartbeats 4000000 in
set_option maxRecDepth 20000 in
theorem w_ref_AxisSize {a1 : List GAxisStep} {r : Int} (h : ref_AxisSize a1 = some r) : ARO Try.prog 72 [.r (.sl (a1.map GAxisStep.row))] (.r (.int .i64 r)) := by
  unfold ref_AxisSize at h
  refine ARO.mkF Try.func72 rfl rfl Try.ntmps72 rfl (Nat.le_of_ble_eq_true rfl) fun n0 => ?_
  refine AW.seq_w fun K1 hK1 wK1 => ?_
  refine AW.region ?_
  refine AOps.step rfl rfl rfl (OpQ.spec (sp_assign rfl (.inl rfl)) _) ?_
  refine AOps.nil ?_
  refine hK1 _ ?_
  refine AW.seq_w fun K2 hK2 wK2 => ?_
  refine AW.region ?_
  refine AOps.step rfl rfl rfl (OpQ.spec (sp_assign rfl (.inl rfl)) _) ?_
  refine AOps.nil ?_
  refine hK2 _ ?_
  refine AW.seq_w fun K3 hK3 wK3 => ?_
  refine AW.seq_w fun K4 hK4 wK4 => ?_
  refine AW.region ?_
  refine AOps.step rfl rfl rfl (OpQ.spec (sp_move rfl (.inl rfl)) _) ?_
  refine AOps.step rfl rfl rfl (OpQ.spec (ms_len rfl tg_22.slice (.inl rfl)) _) ?_
  refine AOps.step rfl rfl rfl (OpQ.spec (sp_move rfl (.inl rfl)) _) ?_
  refine AOps.nil ?_
  refine hK4 _ ?_
  refine AW.block ?_
  refine jb1k h fun o1 hit1 hk1 => ?_
  have J1 : ∀ (n4 : Int) (i5 : Nat → Nat), o1 = n4 → K3 ⟨[(3, .r (.int .i64 n4))], [], (i5 0), 19⟩ := by
    intro n4 i5 e
    have h1 := hk1 _ e
    refine hK3 _ ?_
    refine AW.seq_w fun K5 hK5 wK5 => ?_
    refine AW.region ?_
    refine AOps.step rfl rfl rfl (OpQ.spec (sp_move rfl (.inl rfl)) _) ?_
    refine AOps.step rfl rfl rfl (OpQ.spec (sp_assign rfl (.inl rfl)) _) ?_
    refine AOps.nil ?_
    refine hK5 _ ?_
    refine AW.ret ?_
    exact retf1 (P := Try.prog) (fun (r : Int) => .r (.int .i64 r)) h1 (.inl rfl) (.t (.d rfl))
  refine AW.iter2 (fun (n2 : Int) (x2 : Int) i3 => ⟨[(0, .r (.sl (a1.map GAxisStep.row))), (3, .r (.int .i64 n2)), (6, .r (.int .i64 (a1.length : Int))), (7, .r (.int .i64 x2))], [], (i3 0), 19⟩) (vec [n0]) hit1 ((by exact Weak.cv ⟨.inl (.inl rfl), .inl (.inl rfl), .inl (.inl rfl), .inl (.inl rfl), trivial⟩ trivial (Nat.le_refl _))) ?_
  intro n2 x2 i3 v1 hv1 hx1
  have h2 : ref_AxisSize_L1 a1 n2 x2 = some v1 := hv1; unfold ref_AxisSize_L1 at h2
  refine AW.seq_w fun K6 hK6 wK6 => ?_
  refine AW.region ?_
  refine AOps.step rfl rfl rfl (OpQ.spec (sp_lss rfl (.inl rfl) (.inl rfl)) _) ?_
  refine AOps.nil ?_
  refine hK6 _ ?_
  refine AW.seq_w fun K7 hK7 wK7 => ?_
  refine AW.cond rfl (fun hc1 => ?_) (fun hc1 => ?_)
  · have h3 := ite_t hc1 h2
    refine AW.skip ?_
    refine hK7 _ ?_
    refine AW.seq_w fun K8 hK8 wK8 => ?_
    refine AW.block ?_
    refine AW.seq_w fun K9 hK9 wK9 => ?_
    refine AW.region ?_
    refine AOps.step rfl rfl rfl (OpQ.spec (sp_move rfl (.inl rfl)) _) ?_
    refine AOps.step rfl rfl rfl (OpQ.spec (sp_assign rfl (.inl rfl)) _) ?_
    refine AOps.nil ?_
    refine hK9 _ ?_
    refine AW.region ?_
    refine AOps.step rfl rfl rfl (OpQ.spec (sp_move rfl (.inl rfl)) _) ?_
    refine AOps.step rfl rfl rfl (OpQ.spec (sp_move rfl (.inl rfl)) _) ?_
    refine AOps.step rfl rfl rfl (OpQ.spec (sp_move rfl (.inl rfl)) _) ?_
    refine ob1k h3 fun x4 ex4 h4 => ?_
    refine AOps.step rfl rfl rfl (OpQ.spec (ms_idx rfl tg_22.slice (.inl rfl) (.inl rfl) (fun _ => rfl) (fun _ => ex4)) _) ?_
    refine AOps.step rfl rfl rfl (OpQ.spec (sp_fieldAddr_ro rfl tf_99_1 (.inl rfl)) _) ?_
    refine AOps.step rfl rfl rfl (OpQ.spec (ms_load (d := .int .i64 x4.N) rfl ts_3 (.inl rfl) rfl) _) ?_
    refine ob1k h4 fun n5 en5 h5 => ?_
    refine AOps.step rfl rfl rfl (OpQ.spec (ms_add rfl (.inl rfl) (.inl rfl) (fun _ => en5)) _) ?_
    refine AOps.step rfl rfl rfl (OpQ.spec (sp_assign rfl (.inl rfl)) _) ?_
    refine AOps.nil ?_
    refine hK8 _ ?_
    refine AW.weak (s' := ⟨[(0, .r (.sl (a1.map GAxisStep.row))), (3, .r (.int .i64 n5)), (6, .r (.int .i64 (a1.length : Int))), (7, .r (.int .i64 x2))], [], (i3 0), 19⟩) (by exact Weak.cv ⟨.inl (.inl rfl), .inl (.inl rfl), .inl (.inl rfl), .inl (.inl rfl), trivial⟩ trivial (Nat.le_refl _)) ?_
    refine AW.region ?_
    refine ob1k h5 fun x5 ex5 h6 => ?_
    refine AOps.step rfl rfl rfl (OpQ.spec (ms_add rfl (.inl rfl) (.inl rfl) (fun _ => ex5)) _) ?_
    refine AOps.step rfl rfl rfl (OpQ.spec (sp_move rfl (.inl rfl)) _) ?_
    refine AOps.nil ?_
    exact NextQ2.mk h6 (vec [(i3 0)]) ((by exact Weak.cv ⟨.inl (.inl rfl), .inl (.inl rfl), .inl (.inl rfl), .inl (.inl rfl), trivial⟩ trivial (Nat.le_refl _)))
  · have h3 := ite_f hc1 h2
    refine AW.exit ?_
    exact wK3 _ _ ((by exact Weak.cv ⟨.inl (.inl rfl), trivial⟩ trivial (Nat.le_refl _))) (J1 _ (vec [(i3 0)]) (hx1 _ (Option.some.inj h3).symm))
set_option maxHeartbeats 4000000 in
set_option maxRecDepth 20000 in
theorem w_law_few {a1 : List GAxisStep} {r : Bool} (h : law_few a1 = some r) : ARO Try.prog 16 [.r (.sl (a1.map GAxisStep.row))] (.r (.bool r)) := by
  unfold law_few at h
  refine ARO.mkF Try.func16 rfl rfl Try.ntmps16 rfl (Nat.le_of_ble_eq_true rfl) fun n0 => ?_
  refine AW.seq_w fun K1 hK1 wK1 => ?_
  refine AW.region ?_
  refine AOps.step rfl rfl rfl (OpQ.spec (sp_assign rfl (.inl rfl)) _) ?_
  refine AOps.nil ?_
  refine hK1 _ ?_
  refine AW.seq_w fun K2 hK2 wK2 => ?_
  refine AW.region ?_
  refine AOps.step rfl rfl rfl (OpQ.spec (sp_move rfl (.inl rfl)) _) ?_
  refine ob1k h fun r1 er1 h1 => ?_
  refine AOps.step rfl rfl rfl (sp_call (r := .r (.int .i64 r1)) (caps := []) (bs := [.r (.sl (a1.map GAxisStep.row))]) rfl (.inl rfl) rfl ⟨⟨_, (.inl rfl), .d rfl⟩, trivial⟩ (fun _ => w_ref_AxisSize (er1)) rfl) ?_
  refine AOps.step rfl rfl rfl (OpQ.spec (sp_leq rfl (.inl rfl) (.inl rfl)) _) ?_
  refine AOps.step rfl rfl rfl (OpQ.spec (sp_assign rfl (.inl rfl)) _) ?_
  refine AOps.nil ?_
  refine hK2 _ ?_
  refine AW.ret ?_
  exact retf1 (P := Try.prog) (fun (r : Bool) => .r (.bool r)) h1 (.inl rfl) (.t (.d rfl))
set_option maxHeartbeats 4000000 in
set_option maxRecDepth 20000 in
theorem w_ref_ActOf {d1 : List GStep} {r : Ref_Act} (h : ref_ActOf d1 = some r) : ARO Try.prog 33 [.r (.sl (d1.map GStep.row))] (.agg [.r (.sl (r.Adds.map (rSl GElem.row))), .r (.sl (r.Cuts.map rBool)), .r (.sl (r.Attrs.map (rSl GAttr.row)))]) := by
  unfold ref_ActOf at h
  refine ARO.mkF Try.func33 rfl rfl Try.ntmps33 rfl (Nat.le_of_ble_eq_true rfl) fun n0 => ?_
  refine AW.seq_w fun K1 hK1 wK1 => ?_
  refine AW.region ?_
  refine AOps.step rfl rfl rfl (ms_alloc (cs := [.cst (.slice none 0 0), .cst (.slice none 0 0), .cst (.slice none 0 0)]) 2 rfl t0_34 rfl rfl) ?_
  refine AOps.nil ?_
  refine hK1 _ ?_
  refine AW.seq_w fun K2 hK2 wK2 => ?_
  refine AW.region ?_
  refine AOps.step rfl rfl rfl (ms_lit 7 rfl tg_30 (f := (rSl GElem.row)) (l := ([[]] : List (List GElem))) ⟨rfl, ⟨_, (.inl rfl), rfl⟩, trivial⟩ rfl (fun _ => rfl) rfl) ?_
  refine AOps.step rfl rfl rfl (OpQ.spec (sp_build rfl tb_34 (q := [(0, _)]) (by exact ⟨rfl, rfl, rfl, (.inl rfl), trivial⟩) (cs := [.own 7 (n0 + 1), .cst (.slice none 0 0), .cst (.slice none 0 0)]) (by rfl)) _) ?_
  refine AOps.step rfl rfl rfl (ms_alloc (cs := [.cst (.slice none 0 0), .cst (.slice none 0 0), .cst (.slice none 0 0)]) 3 rfl t0_34 rfl rfl) ?_
  refine AOps.step0 rfl rfl (ms_store_box (ds := [.own 7 (n0 + 1), .cst (.slice none 0 0), .cst (.slice none 0 0)]) rfl tz_34 (.inl rfl) rfl (.inl rfl) rfl rfl rfl rfl) ?_
  refine AOps.nil ?_
  refine hK2 _ ?_
  refine AW.seq_w fun K3 hK3 wK3 => ?_
  refine AW.seq_w fun K4 hK4 wK4 => ?_
  refine AW.region ?_
  refine AOps.step rfl rfl rfl (OpQ.spec (sp_move rfl (.inl rfl)) _) ?_
  refine AOps.step rfl rfl rfl (OpQ.spec (ms_len rfl tg_42.slice (.inl rfl)) _) ?_
  refine AOps.step rfl rfl rfl (OpQ.spec (sp_move rfl (.inl rfl)) _) ?_
  refine AOps.nil ?_
  refine hK4 _ ?_
  refine AW.block ?_
  refine jb1k h fun o1 hit1 hk1 => ?_
  have J1 : ∀ (a4 : Ref_Act) (i5 : Nat → Nat), o1 = a4 → K3 ⟨[(2, .ptr 2 n0 0 0), (3, .ptr 3 (n0 + 2) 0 0)], [(2, some (.box n0 34 [.cst (.slice none 0 0), .cst (.slice none 0 0), .cst (.slice none 0 0)])), (3, some (.box (n0 + 2) 34 [.own 7 (i5 0), .own 54 (i5 1), .own 61 (i5 2)])), (7, some (.arr (i5 0) 39 1 (a4.Adds.map (rSl GElem.row)))), (54, some (.arr (i5 1) 4 1 (a4.Cuts.map rBool))), (61, some (.arr (i5 2) 47 1 (a4.Attrs.map (rSl GAttr.row))))], (i5 3), 66⟩ := by
    intro a4 i5 e
    have h1 := hk1 _ e
    refine hK3 _ ?_
    refine AW.seq_w fun K5 hK5 wK5 => ?_
    refine AW.region ?_
    refine AOps.step rfl rfl rfl (OpQ.spec (ms_loadA_box rfl ta_34 (.inl rfl) rfl rfl) _) ?_
    refine AOps.step0 rfl rfl (ms_store_box (ds := [.own 7 (i5 0), .own 54 (i5 1), .own 61 (i5 2)]) rfl tz_34 (.inl rfl) rfl (.inl rfl) rfl rfl rfl rfl) ?_
    refine AOps.nil ?_
    refine hK5 _ ?_
    refine AW.ret ?_
    exact retf1 (P := Try.prog) (fun (r : Ref_Act) => .agg [.r (.sl (r.Adds.map (rSl GElem.row))), .r (.sl (r.Cuts.map rBool)), .r (.sl (r.Attrs.map (rSl GAttr.row)))]) h1 (.inl rfl) (.a ta_34 rfl rfl rfl (.agg ⟨.own rfl, .own rfl, .own rfl, trivial⟩))
  refine AW.iter2 (fun (x2 : Int) (a2 : Ref_Act) i3 => ⟨[(0, .r (.sl (d1.map GStep.row))), (2, .ptr 2 n0 0 0), (3, .ptr 3 (n0 + 2) 0 0), (10, .r (.int .i64 (d1.length : Int))), (11, .r (.int .i64 x2))], [(2, some (.box n0 34 [.cst (.slice none 0 0), .cst (.slice none 0 0), .cst (.slice none 0 0)])), (3, some (.box (n0 + 2) 34 [.own 7 (i3 0), .own 54 (i3 1), .own 61 (i3 2)])), (7, some (.arr (i3 0) 39 1 (a2.Adds.map (rSl GElem.row)))), (54, some (.arr (i3 1) 4 1 (a2.Cuts.map rBool))), (61, some (.arr (i3 2) 47 1 (a2.Attrs.map (rSl GAttr.row))))], (i3 3), 66⟩) (vec [(n0 + 1), (n0 + 3), (n0 + 4), (n0 + 5)]) hit1 (Weak.trans (Weak.trans (Weak.adoptBox 3 1 54 4 1 (by decide) rfl rfl (by decide)) (by exact Weak.cv (e' := [(0, .r (.sl (d1.map GStep.row))), (2, .ptr 2 n0 0 0), (3, .ptr 3 (n0 + 2) 0 0), (7, .own 7 (n0 + 1)), (8, .agg [.own 7 (n0 + 1), .cst (.slice none 0 0), .cst (.slice none 0 0)]), (9, .r (.sl (d1.map GStep.row))), (10, .r (.int .i64 (d1.length : Int))), (11, .r (.int .i64 0))]) (h' := [(2, some (.box n0 34 [.cst (.slice none 0 0), .cst (.slice none 0 0), .cst (.slice none 0 0)])), (3, some (.box (n0 + 2) 34 [.own 7 (n0 + 1), .own 54 (n0 + 3), .cst (.slice none 0 0)])), (7, some (.arr (n0 + 1) 39 1 ([[]].map (rSl GElem.row)))), (54, some (.arr (n0 + 3) 4 1 (([] : List Bool).map rBool)))]) ⟨.inl (.inl rfl), .inl (.inl rfl), .inl (.inl rfl), .inl (.inl rfl), .inl (.inl rfl), .inl (.inl rfl), .inl (.inl rfl), .inl (.inl rfl), trivial⟩ ⟨.inl rfl, .inl rfl, .inl rfl, .inl rfl, trivial⟩ (Nat.le_refl _))) (Weak.trans (Weak.trans (Weak.adoptBox 3 2 61 47 1 (by decide) rfl rfl (by decide)) (by exact Weak.cv (e' := [(0, .r (.sl (d1.map GStep.row))), (2, .ptr 2 n0 0 0), (3, .ptr 3 (n0 + 2) 0 0), (7, .own 7 (n0 + 1)), (8, .agg [.own 7 (n0 + 1), .cst (.slice none 0 0), .cst (.slice none 0 0)]), (9, .r (.sl (d1.map GStep.row))), (10, .r (.int .i64 (d1.length : Int))), (11, .r (.int .i64 0))]) (h' := [(2, some (.box n0 34 [.cst (.slice none 0 0), .cst (.slice none 0 0), .cst (.slice none 0 0)])), (3, some (.box (n0 + 2) 34 [.own 7 (n0 + 1), .own 54 (n0 + 3), .own 61 (n0 + 4)])), (7, some (.arr (n0 + 1) 39 1 ([[]].map (rSl GElem.row)))), (54, some (.arr (n0 + 3) 4 1 (([] : List Bool).map rBool))), (61, some (.arr (n0 + 4) 47 1 (([] : List (List GAttr)).map (rSl GAttr.row))))]) ⟨.inl (.inl rfl), .inl (.inl rfl), .inl (.inl rfl), .inl (.inl rfl), .inl (.inl rfl), .inl (.inl rfl), .inl (.inl rfl), .inl (.inl rfl), trivial⟩ ⟨.inl rfl, .inl rfl, .inl rfl, .inl rfl, .inl rfl, trivial⟩ (Nat.le_refl _))) (by exact Weak.cv ⟨.inl (.inl rfl), .inl (.inl rfl), .inl (.inl rfl), .inl (.inl rfl), .inl (.inl rfl), trivial⟩ ⟨.inl rfl, .inl rfl, .inl rfl, .inl rfl, .inl rfl, trivial⟩ (Nat.le_refl _)))) ?_
  intro x2 a2 i3 v1 hv1 hx1
  have h2 : ref_ActOf_L1 d1 x2 a2 = some v1 := hv1; unfold ref_ActOf_L1 at h2
  refine AW.seq_w fun K6 hK6 wK6 => ?_
  refine AW.region ?_
  refine AOps.step rfl rfl rfl (OpQ.spec (sp_lss rfl (.inl rfl) (.inl rfl)) _) ?_
  refine AOps.nil ?_
  refine hK6 _ ?_
  refine AW.seq_w fun K7 hK7 wK7 => ?_
  refine AW.cond rfl (fun hc1 => ?_) (fun hc1 => ?_)
  · have h3 := ite_t hc1 h2
    refine AW.skip ?_
    refine hK7 _ ?_
    refine AW.seq_w fun K8 hK8 wK8 => ?_
    refine AW.block ?_
    refine jb1k h3 fun p1 hp1 hk2 => ?_
    have J2 : ∀ (a5 : Ref_Act) (i6 : Nat → Nat), p1 = a5 → K8 ⟨[(0, .r (.sl (d1.map GStep.row))), (2, .ptr 2 n0 0 0), (3, .ptr 3 (n0 + 2) 0 0), (10, .r (.int .i64 (d1.length : Int))), (11, .r (.int .i64 x2))], [(2, some (.box n0 34 [.cst (.slice none 0 0), .cst (.slice none 0 0), .cst (.slice none 0 0)])), (3, some (.box (n0 + 2) 34 [.own 7 (i6 0), .own 54 (i6 1), .own 61 (i6 2)])), (7, some (.arr (i6 0) 39 1 (a5.Adds.map (rSl GElem.row)))), (54, some (.arr (i6 1) 4 1 (a5.Cuts.map rBool))), (61, some (.arr (i6 2) 47 1 (a5.Attrs.map (rSl GAttr.row))))], (i6 3), 66⟩ := by
      intro a5 i6 e
      have h4 := hk2 _ e
      refine hK8 _ ?_
      refine AW.region ?_
      refine ob1k h4 fun x4 ex4 h5 => ?_
      refine AOps.step rfl rfl rfl (OpQ.spec (ms_add rfl (.inl rfl) (.inl rfl) (fun _ => ex4)) _) ?_
      refine AOps.step rfl rfl rfl (OpQ.spec (sp_move rfl (.inl rfl)) _) ?_
      refine AOps.nil ?_
      exact NextQ2.mk h5 (vec [(i6 0), (i6 1), (i6 2), (i6 3)]) ((by exact Weak.cv ⟨.inl (.inl rfl), .inl (.inl rfl), .inl (.inl rfl), .inl (.inl rfl), .inl (.inl rfl), trivial⟩ ⟨.inl rfl, .inl rfl, .inl rfl, .inl rfl, .inl rfl, trivial⟩ (Nat.le_refl _)))
    refine AW.seq_w fun K9 hK9 wK9 => ?_
    refine AW.region ?_
    refine AOps.step rfl rfl rfl (OpQ.spec (sp_move rfl (.inl rfl)) _) ?_
    refine AOps.step rfl rfl rfl (OpQ.spec (sp_assign rfl (.inl rfl)) _) ?_
    refine AOps.nil ?_
    refine hK9 _ ?_
    refine AW.seq_w fun K10 hK10 wK10 => ?_
    refine AW.region ?_
    refine AOps.step rfl rfl rfl (OpQ.spec (sp_move rfl (.inl rfl)) _) ?_
    refine AOps.step rfl rfl rfl (OpQ.spec (sp_move rfl (.inl rfl)) _) ?_
    refine ob1k hp1 fun x5 ex5 h6 => ?_
    refine AOps.step rfl rfl rfl (OpQ.spec (ms_idx rfl tg_42.slice (.inl rfl) (.inl rfl) (fun _ => rfl) (fun _ => ex5)) _) ?_
    refine AOps.step rfl rfl rfl (OpQ.spec (ms_loadA (cs := [.r (.int .i64 x5.Kind), .r (.int .i64 x5.N), .r (.sl (x5.Attrs.map GAttr.row)), .r (.sl (x5.Elems.map GElem.row))]) rfl ta_49 (.inl rfl) rfl rfl) _) ?_
    refine AOps.step rfl rfl rfl (ms_alloc (cs := [.r (.int .i64 0), .r (.int .i64 0), .cst (.slice none 0 0), .cst (.slice none 0 0)]) 5 rfl t0_49 rfl rfl) ?_
    refine AOps.step0 rfl rfl (ms_store_box (ds := [.r (.int .i64 x5.Kind), .r (.int .i64 x5.N), .r (.sl (x5.Attrs.map GAttr.row)), .r (.sl (x5.Elems.map GElem.row))]) rfl tz_49 (.inl rfl) rfl (.inl rfl) rfl rfl rfl rfl) ?_
    refine AOps.nil ?_
    refine hK10 _ ?_
    refine AW.seq_w fun K11 hK11 wK11 => ?_
    refine AW.seq_w fun K12 hK12 wK12 => ?_
    refine AW.region ?_
    refine AOps.step rfl rfl rfl (OpQ.spec (sp_fieldAddr_own (ob := .box _ _ _) rfl tf_49_0 (.inl rfl) (fun _ => rfl) rfl) _) ?_
    refine AOps.step rfl rfl rfl (OpQ.spec (ms_load_box (a := .r (.int .i64 x5.Kind)) rfl ts_3 (.inl rfl) rfl rfl) _) ?_
    refine AOps.step rfl rfl rfl (OpQ.spec (sp_eql rfl (.inl rfl) (.inl rfl)) _) ?_
    refine AOps.nil ?_
    refine hK12 _ ?_
    refine AW.cond rfl (fun hc2 => ?_) (fun hc2 => ?_)
    · have h7 := ite_t hc2 h6
      refine AW.seq_w fun K13 hK13 wK13 => ?_
      refine AW.weak (s' := ⟨[(0, .r (.sl (d1.map GStep.row))), (2, .ptr 2 n0 0 0), (3, .ptr 3 (n0 + 2) 0 0), (5, .ptr 5 (i3 3) 0 0), (10, .r (.int .i64 (d1.length : Int))), (11, .r (.int .i64 x2))], [(2, some (.box n0 34 [.cst (.slice none 0 0), .cst (.slice none 0 0), .cst (.slice none 0 0)])), (3, some (.box (n0 + 2) 34 [.own 7 (i3 0), .own 54 (i3 1), .own 61 (i3 2)])), (5, some (.box (i3 3) 49 [.r (.int .i64 x5.Kind), .r (.int .i64 x5.N), .r (.sl (x5.Attrs.map GAttr.row)), .r (.sl (x5.Elems.map GElem.row))])), (7, some (.arr (i3 0) 39 1 (a2.Adds.map (rSl GElem.row)))), (54, some (.arr (i3 1) 4 1 (a2.Cuts.map rBool))), (61, some (.arr (i3 2) 47 1 (a2.Attrs.map (rSl GAttr.row))))], ((i3 3) + 1), 66⟩) (by exact Weak.cv ⟨.inl (.inl rfl), .inl (.inl rfl), .inl (.inl rfl), .inl (.inl rfl), .inl (.inl rfl), .inl (.inl rfl), trivial⟩ ⟨.inl rfl, .inl rfl, .inl rfl, .inl rfl, .inl rfl, .inl rfl, trivial⟩ (Nat.le_refl _)) ?_
      refine AW.region ?_
      refine AOps.step rfl rfl rfl (OpQ.spec (sp_fieldAddr_own (ob := .box _ _ _) rfl tf_34_0 (.inl rfl) (fun _ => rfl) rfl) _) ?_
      refine AOps.step rfl rfl rfl (OpQ.spec (ms_load_box (a := .own 7 (i3 0)) rfl ts_30 (.inl rfl) rfl rfl) _) ?_
      refine AOps.step rfl rfl rfl (OpQ.spec (ms_len_own rfl tg_30.slice (.inl rfl) rfl) _) ?_
      refine ob1k h7 fun k1 ek1 h8 => ?_
      refine AOps.step rfl rfl rfl (OpQ.spec (ms_sub rfl (.inl rfl) (.inl rfl) (fun _ => ek1)) _) ?_
      refine AOps.step rfl rfl rfl (OpQ.spec (sp_assign rfl (.inl rfl)) _) ?_
      refine AOps.nil ?_
      refine hK13 _ ?_
      refine AW.seq_w fun K14 hK14 wK14 => ?_
      refine ob1k h8 fun x6 ex6 h9 => ?_
      refine ob1k h9 fun l1 el1 h10 => ?_
      refine ob1k h10 fun l2 el2 h11 => ?_
      refine AW.regionP 13 [⟨some 25, (fun _ => .ptr 3 (n0 + 2) 0 0), none, []⟩, ⟨some 26, (fun _ => .own 7 (i3 0)), none, []⟩, ⟨some 27, (fun _ => .r (.int .i64 k1)), none, []⟩, ⟨some 28, (fun G1 => .own 28 (G1 3)), some (28, (fun G1 => some (.arr (G1 3) 113 3 (([] : List GElem).map GElem.row)))), [3]⟩, ⟨some 29, (fun _ => .ptr 3 (n0 + 2) 0 0), none, []⟩, ⟨some 30, (fun _ => .own 7 (i3 0)), none, []⟩, ⟨some 31, (fun _ => .r (.int .i64 k1)), none, []⟩, ⟨some 32, (fun _ => .ptr 7 (i3 0) k1.toNat 0), none, []⟩, ⟨some 33, (fun _ => .r (.sl (x6.map GElem.row))), none, []⟩, ⟨some 34, (fun G1 => .own 28 (G1 9)), some (28, (fun G1 => some (.arr (G1 9) 113 3 (l1.map GElem.row)))), [9]⟩, ⟨some 35, (fun _ => .ptr 5 (i3 3) 0 3), none, []⟩, ⟨some 36, (fun _ => .r (.sl (x5.Elems.map GElem.row))), none, []⟩, ⟨some 37, (fun G1 => .own 28 (G1 12)), some (28, (fun G1 => some (.arr (G1 12) 113 3 (l2.map GElem.row)))), [12]⟩] hmix (by kernel_rfl) (by exact ⟨fun _ _ h => ⟨rfl, fun _ _ e => by cases e⟩, fun _ _ h => ⟨rfl, fun _ _ e => by cases e⟩, fun _ _ h => ⟨rfl, fun _ _ e => by cases e⟩, fun _ _ h => ⟨by simp only [h 3 rfl], fun _ _ e => by cases e; simp only [h 3 rfl]⟩, fun _ _ h => ⟨rfl, fun _ _ e => by cases e⟩, fun _ _ h => ⟨rfl, fun _ _ e => by cases e⟩, fun _ _ h => ⟨rfl, fun _ _ e => by cases e⟩, fun _ _ h => ⟨rfl, fun _ _ e => by cases e⟩, fun _ _ h => ⟨rfl, fun _ _ e => by cases e⟩, fun _ _ h => ⟨by simp only [h 9 rfl], fun _ _ e => by cases e; simp only [h 9 rfl]⟩, fun _ _ h => ⟨rfl, fun _ _ e => by cases e⟩, fun _ _ h => ⟨rfl, fun _ _ e => by cases e⟩, fun _ _ h => ⟨by simp only [h 12 rfl], fun _ _ e => by cases e; simp only [h 12 rfl]⟩, trivial⟩) rfl (by exact ⟨Ob.quiet (n1 := fun n => n) rfl rfl (by intro d h; cases h; rfl) rfl (fun _ => [(3, .ptr 3 (n0 + 2) 0 0)]) (fun _ => [(3, some (.box (n0 + 2) 34 [.own 7 (i3 0), .own 54 (i3 1), .own 61 (i3 2)]))]) (fun D G1 hr => ⟨inE_base rfl rfl, trivial⟩) (fun D G1 hr => ⟨inH_base rfl rfl, trivial⟩) (fun _ _ => rfl) (fun G1 e h' n => OpQ.spec (v := .ptr 3 (n0 + 2) 0 0) (sp_fieldAddr_own (ob := .box _ _ _) rfl tf_34_0 (.inl rfl) (fun _ => rfl) rfl) _),
          Ob.quiet (n1 := fun n => n) rfl rfl (by intro d h; cases h; rfl) rfl (fun _ => [(25, .ptr 3 (n0 + 2) 0 0)]) (fun _ => [(3, some (.box (n0 + 2) 34 [.own 7 (i3 0), .own 54 (i3 1), .own 61 (i3 2)]))]) (fun D G1 hr => ⟨inE_op hr 0 rfl rfl (by kernel_rfl) rfl rfl, trivial⟩) (fun D G1 hr => ⟨inH_base rfl rfl, trivial⟩) (fun _ _ => rfl) (fun G1 e h' n => OpQ.spec (v := .own 7 (i3 0)) (ms_load_box (a := .own 7 (i3 0)) rfl ts_30 (.inl rfl) rfl rfl) _),
          Ob.quiet (n1 := fun n => n) rfl rfl (by intro d h; cases h; rfl) rfl (fun _ => [(6, .r (.int .i64 k1))]) (fun _ => []) (fun D G1 hr => ⟨inE_base rfl rfl, trivial⟩) (fun D G1 hr => trivial) (fun _ _ => rfl) (fun G1 e h' n => OpQ.spec (v := .r (.int .i64 k1)) (sp_move rfl (.inl rfl)) _),
          Ob.make (n1 := fun n => n + 1) rfl rfl (by intro d h; cases h; rfl) rfl (fun _ => []) (fun _ => []) (fun D G1 hr => trivial) (fun D G1 hr => trivial) (fun G1 e h' n => ms_lit 28 rfl tg_39 (f := GElem.row) (l := ([] : List GElem)) trivial rfl (fun _ => rfl) rfl),
          Ob.quiet (n1 := fun n => n) rfl rfl (by intro d h; cases h; rfl) rfl (fun _ => [(3, .ptr 3 (n0 + 2) 0 0)]) (fun _ => [(3, some (.box (n0 + 2) 34 [.own 7 (i3 0), .own 54 (i3 1), .own 61 (i3 2)]))]) (fun D G1 hr => ⟨inE_base rfl rfl, trivial⟩) (fun D G1 hr => ⟨inH_base rfl rfl, trivial⟩) (fun _ _ => rfl) (fun G1 e h' n => OpQ.spec (v := .ptr 3 (n0 + 2) 0 0) (sp_fieldAddr_own (ob := .box _ _ _) rfl tf_34_0 (.inl rfl) (fun _ => rfl) rfl) _),
          Ob.quiet (n1 := fun n => n) rfl rfl (by intro d h; cases h; rfl) rfl (fun _ => [(29, .ptr 3 (n0 + 2) 0 0)]) (fun _ => [(3, some (.box (n0 + 2) 34 [.own 7 (i3 0), .own 54 (i3 1), .own 61 (i3 2)]))]) (fun D G1 hr => ⟨inE_op hr 4 rfl rfl (by kernel_rfl) rfl rfl, trivial⟩) (fun D G1 hr => ⟨inH_base rfl rfl, trivial⟩) (fun _ _ => rfl) (fun G1 e h' n => OpQ.spec (v := .own 7 (i3 0)) (ms_load_box (a := .own 7 (i3 0)) rfl ts_30 (.inl rfl) rfl rfl) _),
          Ob.quiet (n1 := fun n => n) rfl rfl (by intro d h; cases h; rfl) rfl (fun _ => [(6, .r (.int .i64 k1))]) (fun _ => []) (fun D G1 hr => ⟨inE_base rfl rfl, trivial⟩) (fun D G1 hr => trivial) (fun _ _ => rfl) (fun G1 e h' n => OpQ.spec (v := .r (.int .i64 k1)) (sp_move rfl (.inl rfl)) _),
          Ob.quiet (n1 := fun n => n) rfl rfl (by intro d h; cases h; rfl) rfl (fun _ => [(30, .own 7 (i3 0)), (31, .r (.int .i64 k1))]) (fun _ => [(7, some (.arr (i3 0) 39 1 (a2.Adds.map (rSl GElem.row))))]) (fun D G1 hr => ⟨inE_op hr 5 rfl rfl (by kernel_rfl) rfl rfl, inE_op hr 6 rfl rfl (by kernel_rfl) rfl rfl, trivial⟩) (fun D G1 hr => ⟨inH_base rfl rfl, trivial⟩) (fun _ _ => rfl) (fun G1 e h' n => OpQ.spec (v := .ptr 7 (i3 0) k1.toNat 0) (ms_idx_own rfl tg_30.slice (.inl rfl) rfl (.inl rfl) (fun _ => ex6)) _),
          Ob.quiet (n1 := fun n => n) rfl rfl (by intro d h; cases h; rfl) rfl (fun _ => [(32, .ptr 7 (i3 0) k1.toNat 0)]) (fun _ => [(7, some (.arr (i3 0) 39 1 (a2.Adds.map (rSl GElem.row))))]) (fun D G1 hr => ⟨inE_op hr 7 rfl rfl (by kernel_rfl) rfl rfl, trivial⟩) (fun D G1 hr => ⟨inH_base rfl rfl, trivial⟩) (fun _ _ => rfl) (fun G1 e h' n => OpQ.spec (v := .r (.sl (x6.map GElem.row))) (ms_load_own (d := .sl (x6.map GElem.row)) rfl ts_39 (.inl rfl) (fun _ => rfl) (fun _ => ex6) rfl) _),
          Ob.make (n1 := fun n => n + 1) rfl rfl (by intro d h; cases h; rfl) rfl (fun G1 => [(28, .own 28 (G1 3)), (33, .r (.sl (x6.map GElem.row)))]) (fun G1 => [(28, some (.arr (G1 3) 113 3 (([] : List GElem).map GElem.row)))]) (fun D G1 hr => ⟨inE_op hr 3 rfl rfl (by kernel_rfl) rfl rfl, inE_op hr 8 rfl rfl (by kernel_rfl) rfl rfl, trivial⟩) (fun D G1 hr => ⟨inH_op hr 3 rfl rfl (by kernel_rfl) (by kernel_rfl) rfl, trivial⟩) (fun G1 e h' n => ms_app rfl tg_39 (.inl rfl) rfl (.inl ⟨(.inl rfl), fun _ => rfl⟩) el1),
          Ob.quiet (n1 := fun n => n) rfl rfl (by intro d h; cases h; rfl) rfl (fun _ => [(5, .ptr 5 (i3 3) 0 0)]) (fun _ => [(5, some (.box (i3 3) 49 [.r (.int .i64 x5.Kind), .r (.int .i64 x5.N), .r (.sl (x5.Attrs.map GAttr.row)), .r (.sl (x5.Elems.map GElem.row))]))]) (fun D G1 hr => ⟨inE_base rfl rfl, trivial⟩) (fun D G1 hr => ⟨inH_base rfl rfl, trivial⟩) (fun _ _ => rfl) (fun G1 e h' n => OpQ.spec (v := .ptr 5 (i3 3) 0 3) (sp_fieldAddr_own (ob := .box _ _ _) rfl tf_49_3 (.inl rfl) (fun _ => rfl) rfl) _),
          Ob.quiet (n1 := fun n => n) rfl rfl (by intro d h; cases h; rfl) rfl (fun _ => [(35, .ptr 5 (i3 3) 0 3)]) (fun _ => [(5, some (.box (i3 3) 49 [.r (.int .i64 x5.Kind), .r (.int .i64 x5.N), .r (.sl (x5.Attrs.map GAttr.row)), .r (.sl (x5.Elems.map GElem.row))]))]) (fun D G1 hr => ⟨inE_op hr 10 rfl rfl (by kernel_rfl) rfl rfl, trivial⟩) (fun D G1 hr => ⟨inH_base rfl rfl, trivial⟩) (fun _ _ => rfl) (fun G1 e h' n => OpQ.spec (v := .r (.sl (x5.Elems.map GElem.row))) (ms_load_box (a := .r (.sl (x5.Elems.map GElem.row))) rfl ts_39 (.inl rfl) rfl rfl) _),
          Ob.make (n1 := fun n => n + 1) rfl rfl (by intro d h; cases h; rfl) rfl (fun G1 => [(34, .own 28 (G1 9)), (36, .r (.sl (x5.Elems.map GElem.row)))]) (fun G1 => [(28, some (.arr (G1 9) 113 3 (l1.map GElem.row)))]) (fun D G1 hr => ⟨inE_op hr 9 rfl rfl (by kernel_rfl) rfl rfl, inE_op hr 11 rfl rfl (by kernel_rfl) rfl rfl, trivial⟩) (fun D G1 hr => ⟨inH_op hr 9 rfl rfl (by kernel_rfl) (by kernel_rfl) rfl, trivial⟩) (fun G1 e h' n => ms_app rfl tg_39 (.inl rfl) rfl (.inl ⟨(.inl rfl), fun _ => rfl⟩) el2),
          trivial⟩) fun G1 n1 => ?_
      refine AOps.weak (s' := ⟨[(0, .r (.sl (d1.map GStep.row))), (2, .ptr 2 n0 0 0), (3, .ptr 3 (n0 + 2) 0 0), (5, .ptr 5 (i3 3) 0 0), (6, .r (.int .i64 k1)), (10, .r (.int .i64 (d1.length : Int))), (11, .r (.int .i64 x2)), (21, .ptr 3 (n0 + 2) 0 0), (22, .own 7 (i3 0)), (23, .r (.int .i64 (a2.Adds.length : Int))), (24, .r (.int .i64 k1)), (25, .ptr 3 (n0 + 2) 0 0), (26, .own 7 (i3 0)), (27, .r (.int .i64 k1)), (29, .ptr 3 (n0 + 2) 0 0), (30, .own 7 (i3 0)), (31, .r (.int .i64 k1)), (32, .ptr 7 (i3 0) k1.toNat 0), (33, .r (.sl (x6.map GElem.row))), (35, .ptr 5 (i3 3) 0 3), (36, .r (.sl (x5.Elems.map GElem.row))), (37, .own 28 (G1 12))], [(2, some (.box n0 34 [.cst (.slice none 0 0), .cst (.slice none 0 0), .cst (.slice none 0 0)])), (3, some (.box (n0 + 2) 34 [.own 7 (i3 0), .own 54 (i3 1), .own 61 (i3 2)])), (5, some (.box (i3 3) 49 [.r (.int .i64 x5.Kind), .r (.int .i64 x5.N), .r (.sl (x5.Attrs.map GAttr.row)), .r (.sl (x5.Elems.map GElem.row))])), (7, some (.arr (i3 0) 39 1 (a2.Adds.map (rSl GElem.row)))), (28, some (.arr (G1 12) 113 3 (l2.map GElem.row))), (54, some (.arr (i3 1) 4 1 (a2.Cuts.map rBool))), (61, some (.arr (i3 2) 47 1 (a2.Attrs.map (rSl GAttr.row))))], n1, 66⟩) (by exact Weak.cv ⟨.inl (.inl rfl), .inl (.inl rfl), .inl (.inl rfl), .inl (.inl rfl), .inl (.inl rfl), .inl (.inl rfl), .inl (.inl rfl), .inl (.inl rfl), .inl (.inl rfl), .inl (.inl rfl), .inl (.inl rfl), .inl (.inl rfl), .inl (.inl rfl), .inl (.inl rfl), .inl (.inl rfl), .inl (.inl rfl), .inl (.inl rfl), .inl (.inl rfl), .inl (.inl rfl), .inl (.inl rfl), .inl (.inl rfl), .inl (.inl rfl), trivial⟩ ⟨.inl rfl, .inl rfl, .inl rfl, .inl rfl, .inl rfl, .inl rfl, .inl rfl, trivial⟩ (Nat.le_refl _)) ?_
      refine AOps.step rfl rfl rfl (OpQ.spec (ms_idx_own rfl tg_30.slice (.inl rfl) rfl (.inl rfl) (fun _ => ex6)) _) ?_
      refine AOps.weak (by exact Weak.frz (e' := [(0, .r (.sl (d1.map GStep.row))), (2, .ptr 2 n0 0 0), (3, .ptr 3 (n0 + 2) 0 0), (5, .ptr 5 (i3 3) 0 0), (6, .r (.int .i64 k1)), (10, .r (.int .i64 (d1.length : Int))), (11, .r (.int .i64 x2)), (21, .ptr 3 (n0 + 2) 0 0), (22, .own 7 (i3 0)), (23, .r (.int .i64 (a2.Adds.length : Int))), (24, .r (.int .i64 k1)), (25, .ptr 3 (n0 + 2) 0 0), (26, .own 7 (i3 0)), (27, .r (.int .i64 k1)), (29, .ptr 3 (n0 + 2) 0 0), (30, .own 7 (i3 0)), (31, .r (.int .i64 k1)), (32, .ptr 7 (i3 0) k1.toNat 0), (33, .r (.sl (x6.map GElem.row))), (35, .ptr 5 (i3 3) 0 3), (36, .r (.sl (x5.Elems.map GElem.row))), (37, .r (.sl (l2.map GElem.row))), (38, .ptr 7 (i3 0) k1.toNat 0)]) (h' := [(2, some (.box n0 34 [.cst (.slice none 0 0), .cst (.slice none 0 0), .cst (.slice none 0 0)])), (3, some (.box (n0 + 2) 34 [.own 7 (i3 0), .own 54 (i3 1), .own 61 (i3 2)])), (5, some (.box (i3 3) 49 [.r (.int .i64 x5.Kind), .r (.int .i64 x5.N), .r (.sl (x5.Attrs.map GAttr.row)), .r (.sl (x5.Elems.map GElem.row))])), (7, some (.arr (i3 0) 39 1 (a2.Adds.map (rSl GElem.row)))), (54, some (.arr (i3 1) 4 1 (a2.Cuts.map rBool))), (61, some (.arr (i3 2) 47 1 (a2.Attrs.map (rSl GAttr.row))))]) 28 rfl ⟨.inl (.inl rfl), .inl (.inl rfl), .inl (.inl rfl), .inl (.inl rfl), .inl (.inl rfl), .inl (.inl rfl), .inl (.inl rfl), .inl (.inl rfl), .inl (.inl rfl), .inl (.inl rfl), .inl (.inl rfl), .inl (.inl rfl), .inl (.inl rfl), .inl (.inl rfl), .inl (.inl rfl), .inl (.inl rfl), .inl (.inl rfl), .inl (.inl rfl), .inl (.inl rfl), .inl (.inl rfl), .inl (.inl rfl), .inl (.inr (.inr ⟨rfl, rfl⟩)), .inl (.inl rfl), trivial⟩ ⟨rfl, .inl rfl, rfl, .inl rfl, rfl, .inl rfl, rfl, .inl rfl, rfl, .inl rfl, rfl, .inl rfl, trivial⟩) ?_
      refine AOps.step0 rfl rfl (ms_store (v := l2) rfl tz_39 (.inl rfl) rfl ex6 (.inl rfl) rfl rfl rfl rfl) ?_
      refine AOps.nil ?_
      refine hK14 _ ?_
      refine AW.exit ?_
      exact wK8 _ _ ((by exact Weak.cv ⟨.inl (.inl rfl), .inl (.inl rfl), .inl (.inl rfl), .inl (.inl rfl), .inl (.inl rfl), trivial⟩ ⟨.inl rfl, .inl rfl, .inl rfl, .inl rfl, .inl rfl, trivial⟩ (Nat.le_refl _))) (J2 _ (vec [(i3 0), (i3 1), (i3 2), n1]) (Option.some.inj h11).symm)
    · have h7 := ite_f hc2 h6
      refine AW.skip ?_
      refine hK11 _ ?_
      refine AW.seq_w fun K15 hK15 wK15 => ?_
      refine AW.weak (s' := ⟨[(0, .r (.sl (d1.map GStep.row))), (2, .ptr 2 n0 0 0), (3, .ptr 3 (n0 + 2) 0 0), (5, .ptr 5 (i3 3) 0 0), (10, .r (.int .i64 (d1.length : Int))), (11, .r (.int .i64 x2))], [(2, some (.box n0 34 [.cst (.slice none 0 0), .cst (.slice none 0 0), .cst (.slice none 0 0)])), (3, some (.box (n0 + 2) 34 [.own 7 (i3 0), .own 54 (i3 1), .own 61 (i3 2)])), (5, some (.box (i3 3) 49 [.r (.int .i64 x5.Kind), .r (.int .i64 x5.N), .r (.sl (x5.Attrs.map GAttr.row)), .r (.sl (x5.Elems.map GElem.row))])), (7, some (.arr (i3 0) 39 1 (a2.Adds.map (rSl GElem.row)))), (54, some (.arr (i3 1) 4 1 (a2.Cuts.map rBool))), (61, some (.arr (i3 2) 47 1 (a2.Attrs.map (rSl GAttr.row))))], ((i3 3) + 1), 66⟩) (by exact Weak.cv ⟨.inl (.inl rfl), .inl (.inl rfl), .inl (.inl rfl), .inl (.inl rfl), .inl (.inl rfl), .inl (.inl rfl), trivial⟩ ⟨.inl rfl, .inl rfl, .inl rfl, .inl rfl, .inl rfl, .inl rfl, trivial⟩ (Nat.le_refl _)) ?_
      refine AW.region ?_
      refine AOps.step rfl rfl rfl (OpQ.spec (sp_fieldAddr_own (ob := .box _ _ _) rfl tf_49_1 (.inl rfl) (fun _ => rfl) rfl) _) ?_
      refine AOps.step rfl rfl rfl (OpQ.spec (ms_load_box (a := .r (.int .i64 x5.N)) rfl ts_3 (.inl rfl) rfl rfl) _) ?_
      refine AOps.step rfl rfl rfl (OpQ.spec (sp_move rfl (.inl rfl)) _) ?_
      refine AOps.nil ?_
      refine hK15 _ ?_
      refine AW.block ?_
      refine jc1k h7 fun o2 hit2 hk3 he3 => ?_
      refine AW.iter2 (fun (x8 : Int) (a7 : Ref_Act) i9 => ⟨[(0, .r (.sl (d1.map GStep.row))), (2, .ptr 2 n0 0 0), (3, .ptr 3 (n0 + 2) 0 0), (5, .ptr 5 (i3 3) 0 0), (10, .r (.int .i64 (d1.length : Int))), (11, .r (.int .i64 x2)), (40, .r (.int .i64 x5.N)), (41, .r (.int .i64 x8))], [(2, some (.box n0 34 [.cst (.slice none 0 0), .cst (.slice none 0 0), .cst (.slice none 0 0)])), (3, some (.box (n0 + 2) 34 [.own 7 (i9 0), .own 54 (i9 1), .own 61 (i9 2)])), (5, some (.box (i3 3) 49 [.r (.int .i64 x5.Kind), .r (.int .i64 x5.N), .r (.sl (x5.Attrs.map GAttr.row)), .r (.sl (x5.Elems.map GElem.row))])), (7, some (.arr (i9 0) 39 1 (a7.Adds.map (rSl GElem.row)))), (54, some (.arr (i9 1) 4 1 (a7.Cuts.map rBool))), (61, some (.arr (i9 2) 47 1 (a7.Attrs.map (rSl GAttr.row))))], (i9 3), 66⟩) (vec [(i3 0), (i3 1), (i3 2), ((i3 3) + 1)]) hit2 ((by exact Weak.cv ⟨.inl (.inl rfl), .inl (.inl rfl), .inl (.inl rfl), .inl (.inl rfl), .inl (.inl rfl), .inl (.inl rfl), .inl (.inl rfl), .inl (.inl rfl), trivial⟩ ⟨.inl rfl, .inl rfl, .inl rfl, .inl rfl, .inl rfl, .inl rfl, trivial⟩ (Nat.le_refl _))) ?_
      intro x8 a7 i9 v2 hv2 hx2
      have h12 : ref_ActOf_L2 x5 x8 a7 = some v2 := hv2; unfold ref_ActOf_L2 at h12
      refine AW.seq_w fun K16 hK16 wK16 => ?_
      refine AW.region ?_
      refine AOps.step rfl rfl rfl (OpQ.spec (sp_lss rfl (.inl rfl) (.inl rfl)) _) ?_
      refine AOps.nil ?_
      refine hK16 _ ?_
      refine AW.seq_w fun K17 hK17 wK17 => ?_
      refine AW.cond rfl (fun hc3 => ?_) (fun hc3 => ?_)
      · have h13 := ite_t hc3 h12
        refine AW.skip ?_
        refine hK17 _ ?_
        refine AW.seq_w fun K18 hK18 wK18 => ?_
        refine AW.block ?_
        refine AW.seq_w fun K19 hK19 wK19 => ?_
        refine AW.region ?_
        refine AOps.step rfl rfl rfl (OpQ.spec (sp_fieldAddr_own (ob := .box _ _ _) rfl tf_34_0 (.inl rfl) (fun _ => rfl) rfl) _) ?_
        refine AOps.step rfl rfl rfl (OpQ.spec (ms_load_box (a := .own 7 (i9 0)) rfl ts_30 (.inl rfl) rfl rfl) _) ?_
        refine AOps.step rfl rfl rfl (ms_lit 45 rfl tg_30 (f := (rSl GElem.row)) (l := ([[]] : List (List GElem))) ⟨rfl, ⟨_, (.inl rfl), rfl⟩, trivial⟩ rfl (fun _ => rfl) rfl) ?_
        refine ob1k h13 fun l3 el3 h14 => ?_
        refine AOps.step rfl rfl rfl (ms_app rfl tg_30 (.inl rfl) rfl (.inr (.inl ⟨_, _, (.inl rfl), rfl⟩)) el3) ?_
        refine AOps.step rfl rfl rfl (OpQ.spec (sp_fieldAddr_own (ob := .box _ _ _) rfl tf_34_0 (.inl rfl) (fun _ => rfl) rfl) _) ?_
        refine AOps.step0 rfl rfl (ms_store_box (ds := [.own 7 ((i9 3) + 1), .own 54 (i9 1), .own 61 (i9 2)]) rfl tz_30 (.inl rfl) rfl (.inl rfl) rfl rfl rfl rfl) ?_
        refine AOps.nil ?_
        refine hK19 _ ?_
        refine AW.seq_w fun K20 hK20 wK20 => ?_
        refine AW.region ?_
        refine AOps.step rfl rfl rfl (OpQ.spec (sp_fieldAddr_own (ob := .box _ _ _) rfl tf_34_1 (.inl rfl) (fun _ => rfl) rfl) _) ?_
        refine AOps.step rfl rfl rfl (OpQ.spec (ms_load_box (a := .own 54 (i9 1)) rfl ts_31 (.inl rfl) rfl rfl) _) ?_
        refine AOps.step rfl rfl rfl (OpQ.spec (sp_fieldAddr_own (ob := .box _ _ _) rfl tf_49_0 (.inl rfl) (fun _ => rfl) rfl) _) ?_
        refine AOps.step rfl rfl rfl (OpQ.spec (ms_load_box (a := .r (.int .i64 x5.Kind)) rfl ts_3 (.inl rfl) rfl rfl) _) ?_
        refine AOps.step rfl rfl rfl (OpQ.spec (sp_eql rfl (.inl rfl) (.inl rfl)) _) ?_
        refine AOps.step rfl rfl rfl (ms_lit 53 rfl tg_31 (f := rBool) (l := ([(decide (x5.Kind = 2))] : List Bool)) ⟨rfl, ⟨_, (.inl rfl), rfl⟩, trivial⟩ rfl (fun _ => rfl) rfl) ?_
        refine ob1k h14 fun l4 el4 h15 => ?_
        refine AOps.step rfl rfl rfl (ms_app rfl tg_31 (.inl rfl) rfl (.inr (.inl ⟨_, _, (.inl rfl), rfl⟩)) el4) ?_
        refine AOps.step rfl rfl rfl (OpQ.spec (sp_fieldAddr_own (ob := .box _ _ _) rfl tf_34_1 (.inl rfl) (fun _ => rfl) rfl) _) ?_
        refine AOps.step0 rfl rfl (ms_store_box (ds := [.own 7 ((i9 3) + 1), .own 54 ((i9 3) + 3), .own 61 (i9 2)]) rfl tz_31 (.inl rfl) rfl (.inl rfl) rfl rfl rfl rfl) ?_
        refine AOps.nil ?_
        refine hK20 _ ?_
        refine AW.weak (s' := ⟨[(0, .r (.sl (d1.map GStep.row))), (2, .ptr 2 n0 0 0), (3, .ptr 3 (n0 + 2) 0 0), (5, .ptr 5 (i3 3) 0 0), (10, .r (.int .i64 (d1.length : Int))), (11, .r (.int .i64 x2)), (40, .r (.int .i64 x5.N)), (41, .r (.int .i64 x8))], [(2, some (.box n0 34 [.cst (.slice none 0 0), .cst (.slice none 0 0), .cst (.slice none 0 0)])), (3, some (.box (n0 + 2) 34 [.own 7 ((i9 3) + 1), .own 54 ((i9 3) + 3), .own 61 (i9 2)])), (5, some (.box (i3 3) 49 [.r (.int .i64 x5.Kind), .r (.int .i64 x5.N), .r (.sl (x5.Attrs.map GAttr.row)), .r (.sl (x5.Elems.map GElem.row))])), (7, some (.arr ((i9 3) + 1) 39 1 (l3.map (rSl GElem.row)))), (54, some (.arr ((i9 3) + 3) 4 1 (l4.map rBool))), (61, some (.arr (i9 2) 47 1 (a7.Attrs.map (rSl GAttr.row))))], ((i9 3) + 4), 66⟩) (by exact Weak.cv ⟨.inl (.inl rfl), .inl (.inl rfl), .inl (.inl rfl), .inl (.inl rfl), .inl (.inl rfl), .inl (.inl rfl), .inl (.inl rfl), .inl (.inl rfl), trivial⟩ ⟨.inl rfl, .inl rfl, .inl rfl, .inl rfl, .inl rfl, .inl rfl, trivial⟩ (Nat.le_refl _)) ?_
        refine AW.region ?_
        refine AOps.step rfl rfl rfl (OpQ.spec (sp_fieldAddr_own (ob := .box _ _ _) rfl tf_34_2 (.inl rfl) (fun _ => rfl) rfl) _) ?_
        refine AOps.step rfl rfl rfl (OpQ.spec (ms_load_box (a := .own 61 (i9 2)) rfl ts_32 (.inl rfl) rfl rfl) _) ?_
        refine AOps.step rfl rfl rfl (OpQ.spec (sp_fieldAddr_own (ob := .box _ _ _) rfl tf_49_2 (.inl rfl) (fun _ => rfl) rfl) _) ?_
        refine AOps.step rfl rfl rfl (OpQ.spec (ms_load_box (a := .r (.sl (x5.Attrs.map GAttr.row))) rfl ts_47 (.inl rfl) rfl rfl) _) ?_
        refine AOps.step rfl rfl rfl (ms_lit 60 rfl tg_32 (f := (rSl GAttr.row)) (l := ([x5.Attrs] : List (List GAttr))) ⟨rfl, ⟨_, (.inl rfl), rfl⟩, trivial⟩ rfl (fun _ => rfl) rfl) ?_
        refine ob1k h15 fun l5 el5 h16 => ?_
        refine AOps.step rfl rfl rfl (ms_app rfl tg_32 (.inl rfl) rfl (.inr (.inl ⟨_, _, (.inl rfl), rfl⟩)) el5) ?_
        refine AOps.step rfl rfl rfl (OpQ.spec (sp_fieldAddr_own (ob := .box _ _ _) rfl tf_34_2 (.inl rfl) (fun _ => rfl) rfl) _) ?_
        refine AOps.step0 rfl rfl (ms_store_box (ds := [.own 7 ((i9 3) + 1), .own 54 ((i9 3) + 3), .own 61 ((i9 3) + 5)]) rfl tz_32 (.inl rfl) rfl (.inl rfl) rfl rfl rfl rfl) ?_
        refine AOps.nil ?_
        refine hK18 _ ?_
        refine AW.region ?_
        refine ob1k h16 fun x10 ex10 h17 => ?_
        refine AOps.step rfl rfl rfl (OpQ.spec (ms_add rfl (.inl rfl) (.inl rfl) (fun _ => ex10)) _) ?_
        refine AOps.step rfl rfl rfl (OpQ.spec (sp_move rfl (.inl rfl)) _) ?_
        refine AOps.nil ?_
        exact NextQ2.mk h17 (vec [((i9 3) + 1), ((i9 3) + 3), ((i9 3) + 5), ((i9 3) + 6)]) ((by exact Weak.cv ⟨.inl (.inl rfl), .inl (.inl rfl), .inl (.inl rfl), .inl (.inl rfl), .inl (.inl rfl), .inl (.inl rfl), .inl (.inl rfl), .inl (.inl rfl), trivial⟩ ⟨.inl rfl, .inl rfl, .inl rfl, .inl rfl, .inl rfl, .inl rfl, trivial⟩ (Nat.le_refl _)))
      · have h13 := ite_f hc3 h12
        refine AW.exit ?_
        exact wK8 _ _ ((by exact Weak.cv ⟨.inl (.inl rfl), .inl (.inl rfl), .inl (.inl rfl), .inl (.inl rfl), .inl (.inl rfl), trivial⟩ ⟨.inl rfl, .inl rfl, .inl rfl, .inl rfl, .inl rfl, trivial⟩ (Nat.le_refl _))) (J2 _ (vec [(i9 0), (i9 1), (i9 2), (i9 3)]) (Option.some.inj (he3 _ (hx2 _ (Option.some.inj h13).symm))).symm)
  · have h3 := ite_f hc1 h2
    refine AW.exit ?_
    exact wK3 _ _ ((by exact Weak.cv ⟨.inl (.inl rfl), .inl (.inl rfl), trivial⟩ ⟨.inl rfl, .inl rfl, .inl rfl, .inl rfl, .inl rfl, trivial⟩ (Nat.le_refl _))) (J1 _ (vec [(i3 0), (i3 1), (i3 2), (i3 3)]) (hx1 _ (Option.some.inj h3).symm))
set_option maxHeartbeats 4000000 in
set_option maxRecDepth 20000 in
theorem w_law_act {a1 : List GAxisStep} {r : Ref_Act} (h : law_act a1 = some r) : ARO Try.prog 17 [.r (.sl (a1.map GAxisStep.row))] (.agg [.r (.sl (r.Adds.map (rSl GElem.row))), .r (.sl (r.Cuts.map rBool)), .r (.sl (r.Attrs.map (rSl GAttr.row)))]) := by
  unfold law_act at h
  refine ARO.mkF Try.func17 rfl rfl Try.ntmps17 rfl (Nat.le_of_ble_eq_true rfl) fun n0 => ?_
  refine AW.seq_w fun K1 hK1 wK1 => ?_
  refine AW.region ?_
  refine AOps.step rfl rfl rfl (ms_alloc (cs := [.cst (.slice none 0 0), .cst (.slice none 0 0), .cst (.slice none 0 0)]) 2 rfl t0_34 rfl rfl) ?_
  refine AOps.nil ?_
  refine hK1 _ ?_
  refine AW.seq_w fun K2 hK2 wK2 => ?_
  refine AW.region ?_
  refine AOps.step rfl rfl rfl (OpQ.spec (sp_assign rfl (.inl rfl)) _) ?_
  refine AOps.nil ?_
  refine hK2 _ ?_
  refine AW.seq_w fun K3 hK3 wK3 => ?_
  refine AW.seq_w fun K4 hK4 wK4 => ?_
  refine AW.region ?_
  refine AOps.step rfl rfl rfl (OpQ.spec (sp_move rfl (.inl rfl)) _) ?_
  refine AOps.step rfl rfl rfl (OpQ.spec (ms_len rfl tg_22.slice (.inl rfl)) _) ?_
  refine AOps.step rfl rfl rfl (OpQ.spec (sp_move rfl (.inl rfl)) _) ?_
  refine AOps.nil ?_
  refine hK4 _ ?_
  refine AW.block ?_
  refine jb1k h fun o1 hit1 hk1 => ?_
  have J1 : ∀ (d4 : List GStep) (i5 : Nat → Nat), o1 = d4 → K3 ⟨[(2, .ptr 2 n0 0 0), (3, .own 5003 (i5 0))], [(2, some (.box n0 34 [.cst (.slice none 0 0), .cst (.slice none 0 0), .cst (.slice none 0 0)])), (5003, some (.arr (i5 0) 49 4 (d4.map GStep.row)))], (i5 1), 47⟩ := by
    intro d4 i5 e
    have h1 := hk1 _ e
    refine hK3 _ ?_
    refine AW.seq_w fun K5 hK5 wK5 => ?_
    refine AW.region ?_
    refine AOps.step rfl rfl rfl (OpQ.spec (sp_move rfl (.inl rfl)) _) ?_
    refine AOps.weak (by exact Weak.frz (e' := [(2, .ptr 2 n0 0 0), (3, .r (.sl (d4.map GStep.row))), (45, .r (.sl (d4.map GStep.row)))]) (h' := [(2, some (.box n0 34 [.cst (.slice none 0 0), .cst (.slice none 0 0), .cst (.slice none 0 0)]))]) 5003 rfl ⟨.inl (.inl rfl), .inl (.inr (.inr ⟨rfl, rfl⟩)), .inl (.inr (.inr ⟨rfl, rfl⟩)), trivial⟩ ⟨rfl, .inl rfl, trivial⟩) ?_
    refine ob1k h1 fun r1 er1 h2 => ?_
    refine AOps.step rfl rfl rfl (sp_callS (r := .agg [.r (.sl (r1.Adds.map (rSl GElem.row))), .r (.sl (r1.Cuts.map rBool)), .r (.sl (r1.Attrs.map (rSl GAttr.row)))]) (caps := []) (bs := [.r (.sl (d4.map GStep.row))]) rfl (.inl rfl) rfl ⟨.inl ⟨(.inl rfl), rfl⟩, trivial⟩ (fun _ => w_ref_ActOf (er1))) ?_
    refine AOps.step0 rfl rfl (ms_store_box (ds := [.r (.sl (r1.Adds.map (rSl GElem.row))), .r (.sl (r1.Cuts.map rBool)), .r (.sl (r1.Attrs.map (rSl GAttr.row)))]) rfl tz_34 (.inl rfl) rfl (.inl rfl) rfl rfl rfl rfl) ?_
    refine AOps.nil ?_
    refine hK5 _ ?_
    refine AW.ret ?_
    exact retf1 (P := Try.prog) (fun (r : Ref_Act) => .agg [.r (.sl (r.Adds.map (rSl GElem.row))), .r (.sl (r.Cuts.map rBool)), .r (.sl (r.Attrs.map (rSl GAttr.row)))]) h2 (.inl rfl) (.a ta_34 rfl rfl rfl (.g (cs := [.sl (r1.Adds.map (rSl GElem.row)), .sl (r1.Cuts.map rBool), .sl (r1.Attrs.map (rSl GAttr.row))]) rfl rfl))
  refine AW.iter2 (fun (x2 : Int) (d2 : List GStep) i3 => ⟨[(0, .r (.sl (a1.map GAxisStep.row))), (2, .ptr 2 n0 0 0), (3, .own 5003 (i3 0)), (7, .r (.int .i64 (a1.length : Int))), (8, .r (.int .i64 x2))], [(2, some (.box n0 34 [.cst (.slice none 0 0), .cst (.slice none 0 0), .cst (.slice none 0 0)])), (5003, some (.arr (i3 0) 49 4 (d2.map GStep.row)))], (i3 1), 47⟩) (vec [(n0 + 1), (n0 + 2)]) hit1 (Weak.trans (Weak.trans (Weak.adopt 3 5003 49 4 (by decide) rfl) (by exact Weak.cv (e' := [(0, .r (.sl (a1.map GAxisStep.row))), (2, .ptr 2 n0 0 0), (3, .own 5003 (n0 + 1)), (6, .r (.sl (a1.map GAxisStep.row))), (7, .r (.int .i64 (a1.length : Int))), (8, .r (.int .i64 0))]) (h' := [(2, some (.box n0 34 [.cst (.slice none 0 0), .cst (.slice none 0 0), .cst (.slice none 0 0)])), (5003, some (.arr (n0 + 1) 49 4 (([] : List GStep).map GStep.row)))]) ⟨.inl (.inl rfl), .inl (.inl rfl), .inl (.inl rfl), .inl (.inl rfl), .inl (.inl rfl), .inl (.inl rfl), trivial⟩ ⟨.inl rfl, .inl rfl, trivial⟩ (Nat.le_refl _))) (by exact Weak.cv ⟨.inl (.inl rfl), .inl (.inl rfl), .inl (.inl rfl), .inl (.inl rfl), .inl (.inl rfl), trivial⟩ ⟨.inl rfl, .inl rfl, trivial⟩ (Nat.le_refl _))) ?_
  intro x2 d2 i3 v1 hv1 hx1
  have h3 : law_act_L1 a1 x2 d2 = some v1 := hv1; unfold law_act_L1 at h3
  refine AW.seq_w fun K6 hK6 wK6 => ?_
  refine AW.region ?_
  refine AOps.step rfl rfl rfl (OpQ.spec (sp_lss rfl (.inl rfl) (.inl rfl)) _) ?_
  refine AOps.nil ?_
  refine hK6 _ ?_
  refine AW.seq_w fun K7 hK7 wK7 => ?_
  refine AW.cond rfl (fun hc1 => ?_) (fun hc1 => ?_)
  · have h4 := ite_t hc1 h3
    refine AW.skip ?_
    refine hK7 _ ?_
    refine AW.seq_w fun K8 hK8 wK8 => ?_
    refine AW.block ?_
    refine AW.seq_w fun K9 hK9 wK9 => ?_
    refine AW.region ?_
    refine AOps.step rfl rfl rfl (OpQ.spec (sp_move rfl (.inl rfl)) _) ?_
    refine AOps.step rfl rfl rfl (OpQ.spec (sp_assign rfl (.inl rfl)) _) ?_
    refine AOps.nil ?_
    refine hK9 _ ?_
    refine AW.seq_w fun K10 hK10 wK10 => ?_
    refine AW.regionF' [] [0, 1, 2, 3, 4, 5, 6, 7, 8, 9, 10] [11] 12 hmix (by kernel_rfl) rfl rfl rfl rfl rfl ?_
    refine AFl.nil ?_
    refine AF.step rfl rfl rfl (sp_move rfl (.inl rfl)) ?_
    refine AF.step rfl rfl rfl (sp_move rfl (.inl rfl)) ?_
    refine ob1k h4 fun x4 ex4 h5 => ?_
    refine AF.step rfl rfl rfl (ms_idx rfl tg_22.slice (.inl rfl) (.inl rfl) (fun _ => rfl) (fun _ => ex4)) ?_
    refine AF.step rfl rfl rfl (sp_fieldAddr_ro rfl tf_99_0 (.inl rfl)) ?_
    refine AF.step rfl rfl rfl (ms_load (d := .int .i64 x4.Kind) rfl ts_3 (.inl rfl) rfl) ?_
    refine AF.step rfl rfl rfl (sp_move rfl (.inl rfl)) ?_
    refine AF.step rfl rfl rfl (sp_move rfl (.inl rfl)) ?_
    refine AF.step rfl rfl rfl (ms_idx rfl tg_22.slice (.inl rfl) (.inl rfl) (fun _ => rfl) (fun _ => ex4)) ?_
    refine AF.step rfl rfl rfl (sp_fieldAddr_ro rfl tf_99_1 (.inl rfl)) ?_
    refine AF.step rfl rfl rfl (ms_load (d := .int .i64 x4.N) rfl ts_3 (.inl rfl) rfl) ?_
    refine AF.step rfl rfl rfl (sp_build rfl tb_49 (q := [(0, _), (1, _)]) (by exact ⟨rfl, rfl, rfl, (.inl rfl), rfl, rfl, rfl, (.inl rfl), trivial⟩) (cs := [.r (.int .i64 x4.Kind), .r (.int .i64 x4.N), .cst (.slice none 0 0), .cst (.slice none 0 0)]) (by rfl)) ?_
    refine AF.nil ?_
    refine AA.step rfl rfl rfl (msA_alloc (cs := [.r (.int .i64 0), .r (.int .i64 0), .cst (.slice none 0 0), .cst (.slice none 0 0)]) 5 rfl t0_49 rfl rfl) ?_
    refine AA.nil ?_
    refine AOps.step0 rfl rfl (ms_store_box (ds := [.r (.int .i64 x4.Kind), .r (.int .i64 x4.N), .cst (.slice none 0 0), .cst (.slice none 0 0)]) rfl tz_49 (.inl rfl) rfl (.inl rfl) rfl rfl rfl rfl) ?_
    refine AOps.nil ?_
    refine hK10 _ ?_
    refine AW.seq_w fun K11 hK11 wK11 => ?_
    refine AW.seq_w fun K12 hK12 wK12 => ?_
    refine AW.weak (s' := ⟨[(0, .r (.sl (a1.map GAxisStep.row))), (2, .ptr 2 n0 0 0), (3, .own 5003 (i3 0)), (4, .r (.int .i64 x2)), (5, .ptr 5 (i3 1) 0 0), (7, .r (.int .i64 (a1.length : Int))), (8, .r (.int .i64 x2))], [(2, some (.box n0 34 [.cst (.slice none 0 0), .cst (.slice none 0 0), .cst (.slice none 0 0)])), (5, some (.box (i3 1) 49 [.r (.int .i64 x4.Kind), .r (.int .i64 x4.N), .cst (.slice none 0 0), .cst (.slice none 0 0)])), (5003, some (.arr (i3 0) 49 4 (d2.map GStep.row)))], ((i3 1) + 1), 47⟩) (by exact Weak.cv ⟨.inl (.inl rfl), .inl (.inl rfl), .inl (.inl rfl), .inl (.inl rfl), .inl (.inl rfl), .inl (.inl rfl), .inl (.inl rfl), trivial⟩ ⟨.inl rfl, .inl rfl, .inl rfl, trivial⟩ (Nat.le_refl _)) ?_
    refine AW.region ?_
    refine AOps.step rfl rfl rfl (OpQ.spec (sp_fieldAddr_own (ob := .box _ _ _) rfl tf_49_0 (.inl rfl) (fun _ => rfl) rfl) _) ?_
    refine AOps.step rfl rfl rfl (OpQ.spec (ms_load_box (a := .r (.int .i64 x4.Kind)) rfl ts_3 (.inl rfl) rfl rfl) _) ?_
    refine AOps.step rfl rfl rfl (OpQ.spec (sp_eql rfl (.inl rfl) (.inl rfl)) _) ?_
    refine AOps.nil ?_
    refine hK12 _ ?_
    refine jb1k h5 fun p1 hp1 hk2 => ?_
    have J2 : ∀ (s1 : GStep) (i6 : Nat → Nat), p1 = s1 → K11 ⟨[(0, .r (.sl (a1.map GAxisStep.row))), (2, .ptr 2 n0 0 0), (3, .own 5003 (i3 0)), (5, .ptr 5 (i3 1) 0 0), (7, .r (.int .i64 (a1.length : Int))), (8, .r (.int .i64 x2))], [(2, some (.box n0 34 [.cst (.slice none 0 0), .cst (.slice none 0 0), .cst (.slice none 0 0)])), (5, some (.box (i3 1) 49 [.r (.int .i64 s1.Kind), .r (.int .i64 s1.N), .cst (.slice none 0 0), .own 37 (i6 0)])), (37, some (.arr (i6 0) 113 3 (s1.Elems.map GElem.row))), (5003, some (.arr (i3 0) 49 4 (d2.map GStep.row)))], (i6 1), 47⟩ := by
      intro s1 i6 e
      have h6 := hk2 _ e
      refine hK11 _ ?_
      refine AW.region ?_
      refine AOps.step rfl rfl rfl (OpQ.spec (sp_move rfl (.inl rfl)) _) ?_
      refine AOps.step rfl rfl rfl (OpQ.spec (ms_loadA_box rfl ta_49 (.inl rfl) rfl rfl) _) ?_
      refine AOps.weak (by exact Weak.frz (e' := [(0, .r (.sl (a1.map GAxisStep.row))), (2, .ptr 2 n0 0 0), (3, .own 5003 (i3 0)), (5, .ptr 5 (i3 1) 0 0), (7, .r (.int .i64 (a1.length : Int))), (8, .r (.int .i64 x2)), (40, .own 5003 (i3 0)), (41, .agg [.r (.int .i64 s1.Kind), .r (.int .i64 s1.N), .cst (.slice none 0 0), .r (.sl (s1.Elems.map GElem.row))])]) (h' := [(2, some (.box n0 34 [.cst (.slice none 0 0), .cst (.slice none 0 0), .cst (.slice none 0 0)])), (5, some (.box (i3 1) 49 [.r (.int .i64 s1.Kind), .r (.int .i64 s1.N), .cst (.slice none 0 0), .r (.sl (s1.Elems.map GElem.row))])), (5003, some (.arr (i3 0) 49 4 (d2.map GStep.row)))]) 37 rfl ⟨.inl (.inl rfl), .inl (.inl rfl), .inl (.inl rfl), .inl (.inl rfl), .inl (.inl rfl), .inl (.inl rfl), .inl (.inl rfl), .inr ⟨_, _, rfl, rfl, ⟨.inl rfl, .inl rfl, .inl rfl, .inr (.inr ⟨rfl, rfl⟩), trivial⟩⟩, trivial⟩ ⟨rfl, .inl rfl, rfl, .inr (.inr (.inl ⟨_, _, _, _, rfl, rfl, ⟨.inl rfl, .inl rfl, .inl rfl, .inr (.inr ⟨rfl, rfl⟩), trivial⟩⟩)), rfl, .inl rfl, trivial⟩) ?_
      refine AOps.step rfl rfl rfl (ms_lit 42 rfl tg_42 (f := GStep.row) (l := ([(GStep.mk s1.Kind s1.N [] s1.Elems)] : List GStep)) ⟨rfl, ⟨_, (.inl rfl), rfl⟩, trivial⟩ rfl (fun _ => rfl) rfl) ?_
      refine ob1k h6 fun d5 ed5 h7 => ?_
      refine AOps.step rfl rfl rfl (ms_app rfl tg_42 (.inl rfl) rfl (.inr (.inl ⟨_, _, (.inl rfl), rfl⟩)) ed5) ?_
      refine AOps.step rfl rfl rfl (OpQ.spec (sp_assign rfl (.inl rfl)) _) ?_
      refine AOps.nil ?_
      refine hK8 _ ?_
      refine AW.region ?_
      refine ob1k h7 fun x5 ex5 h8 => ?_
      refine AOps.step rfl rfl rfl (OpQ.spec (ms_add rfl (.inl rfl) (.inl rfl) (fun _ => ex5)) _) ?_
      refine AOps.step rfl rfl rfl (OpQ.spec (sp_move rfl (.inl rfl)) _) ?_
      refine AOps.nil ?_
      exact NextQ2.mk h8 (vec [((i6 1) + 1), ((i6 1) + 2)]) ((by exact Weak.cv ⟨.inl (.inl rfl), .inl (.inl rfl), .inl (.inl rfl), .inl (.inl rfl), .inl (.inl rfl), trivial⟩ ⟨.inl rfl, .inl rfl, trivial⟩ (Nat.le_refl _)))
    refine AW.cond rfl (fun hc2 => ?_) (fun hc2 => ?_)
    · have h9 := ite_t hc2 hp1
      refine AW.seq_w fun K13 hK13 wK13 => ?_
      refine AW.region ?_
      refine AOps.step rfl rfl rfl (OpQ.spec (sp_fieldAddr_own (ob := .box _ _ _) rfl tf_49_1 (.inl rfl) (fun _ => rfl) rfl) _) ?_
      refine AOps.step0 rfl rfl (ms_store_box (ds := [.r (.int .i64 x4.Kind), .r (.int .i64 0), .cst (.slice none 0 0), .cst (.slice none 0 0)]) rfl tz_3 (.inl rfl) rfl (.inl rfl) rfl rfl rfl rfl) ?_
      refine AOps.nil ?_
      refine hK13 _ ?_
      refine AW.seq_w fun K14 hK14 wK14 => ?_
      refine AW.region ?_
      refine AOps.step rfl rfl rfl (OpQ.spec (sp_move rfl (.inl rfl)) _) ?_
      refine AOps.step rfl rfl rfl (OpQ.spec (sp_move rfl (.inl rfl)) _) ?_
      refine AOps.step rfl rfl rfl (OpQ.spec (ms_idx rfl tg_22.slice (.inl rfl) (.inl rfl) (fun _ => rfl) (fun _ => ex4)) _) ?_
      refine AOps.step rfl rfl rfl (OpQ.spec (sp_fieldAddr_ro rfl tf_99_1 (.inl rfl)) _) ?_
      refine AOps.step rfl rfl rfl (OpQ.spec (ms_load (d := .int .i64 x4.N) rfl ts_3 (.inl rfl) rfl) _) ?_
      refine AOps.step rfl rfl rfl (OpQ.spec (sp_move rfl (.inl rfl)) _) ?_
      refine AOps.nil ?_
      refine hK14 _ ?_
      refine AW.block ?_
      refine jc1k h9 fun o2 hit2 hk3 he3 => ?_
      refine AW.iter2 (fun (x7 : Int) (s3 : GStep) i9 => ⟨[(0, .r (.sl (a1.map GAxisStep.row))), (2, .ptr 2 n0 0 0), (3, .own 5003 (i3 0)), (5, .ptr 5 (i3 1) 0 0), (7, .r (.int .i64 (a1.length : Int))), (8, .r (.int .i64 x2)), (30, .r (.int .i64 x4.N)), (31, .r (.int .i64 x7))], [(2, some (.box n0 34 [.cst (.slice none 0 0), .cst (.slice none 0 0), .cst (.slice none 0 0)])), (5, some (.box (i3 1) 49 [.r (.int .i64 s3.Kind), .r (.int .i64 s3.N), .cst (.slice none 0 0), .own 37 (i9 0)])), (37, some (.arr (i9 0) 113 3 (s3.Elems.map GElem.row))), (5003, some (.arr (i3 0) 49 4 (d2.map GStep.row)))], (i9 1), 47⟩) (vec [((i3 1) + 1), ((i3 1) + 2)]) hit2 (Weak.trans (Weak.trans (Weak.adoptBox 5 3 37 113 3 (by decide) rfl rfl (by decide)) (by exact Weak.cv (e' := [(0, .r (.sl (a1.map GAxisStep.row))), (2, .ptr 2 n0 0 0), (3, .own 5003 (i3 0)), (4, .r (.int .i64 x2)), (5, .ptr 5 (i3 1) 0 0), (7, .r (.int .i64 (a1.length : Int))), (8, .r (.int .i64 x2)), (22, .ptr 5 (i3 1) 0 0), (23, .r (.int .i64 x4.Kind)), (24, .r (.bool (decide (x4.Kind = 1)))), (25, .ptr 5 (i3 1) 0 1), (26, .r (.sl (a1.map GAxisStep.row))), (27, .r (.int .i64 x2)), (28, .rop (GAxisStep.row x4) 0), (29, .rop (GAxisStep.row x4) 1), (30, .r (.int .i64 x4.N)), (31, .r (.int .i64 0))]) (h' := [(2, some (.box n0 34 [.cst (.slice none 0 0), .cst (.slice none 0 0), .cst (.slice none 0 0)])), (5, some (.box (i3 1) 49 [.r (.int .i64 x4.Kind), .r (.int .i64 0), .cst (.slice none 0 0), .own 37 ((i3 1) + 1)])), (37, some (.arr ((i3 1) + 1) 113 3 (([] : List GElem).map GElem.row))), (5003, some (.arr (i3 0) 49 4 (d2.map GStep.row)))]) ⟨.inl (.inl rfl), .inl (.inl rfl), .inl (.inl rfl), .inl (.inl rfl), .inl (.inl rfl), .inl (.inl rfl), .inl (.inl rfl), .inl (.inl rfl), .inl (.inl rfl), .inl (.inl rfl), .inl (.inl rfl), .inl (.inl rfl), .inl (.inl rfl), .inl (.inl rfl), .inl (.inl rfl), .inl (.inl rfl), .inl (.inl rfl), trivial⟩ ⟨.inl rfl, .inl rfl, .inl rfl, .inl rfl, trivial⟩ (Nat.le_refl _))) (by exact Weak.cv ⟨.inl (.inl rfl), .inl (.inl rfl), .inl (.inl rfl), .inl (.inl rfl), .inl (.inl rfl), .inl (.inl rfl), .inl (.inl rfl), .inl (.inl rfl), trivial⟩ ⟨.inl rfl, .inl rfl, .inl rfl, .inl rfl, trivial⟩ (Nat.le_refl _))) ?_
      intro x7 s3 i9 v2 hv2 hx2
      have h10 : law_act_L2 x4 x7 s3 = some v2 := hv2; unfold law_act_L2 at h10
      refine AW.seq_w fun K15 hK15 wK15 => ?_
      refine AW.region ?_
      refine AOps.step rfl rfl rfl (OpQ.spec (sp_lss rfl (.inl rfl) (.inl rfl)) _) ?_
      refine AOps.nil ?_
      refine hK15 _ ?_
      refine AW.seq_w fun K16 hK16 wK16 => ?_
      refine AW.cond rfl (fun hc3 => ?_) (fun hc3 => ?_)
      · have h11 := ite_t hc3 h10
        refine AW.skip ?_
        refine hK16 _ ?_
        refine AW.seq_w fun K17 hK17 wK17 => ?_
        refine AW.block ?_
        refine AW.region ?_
        refine AOps.step rfl rfl rfl (OpQ.spec (sp_fieldAddr_own (ob := .box _ _ _) rfl tf_49_3 (.inl rfl) (fun _ => rfl) rfl) _) ?_
        refine AOps.step rfl rfl rfl (OpQ.spec (ms_load_box (a := .own 37 (i9 0)) rfl ts_39 (.inl rfl) rfl rfl) _) ?_
        refine AOps.step rfl rfl rfl (OpQ.spec (sp_build rfl tb_113 (q := [(0, _)]) (by exact ⟨rfl, rfl, rfl, (.inl rfl), trivial⟩) (cs := [.r (.int .i64 120), .r (.int .i64 0), .cst (.slice none 0 0)]) (by rfl)) _) ?_
        refine AOps.step rfl rfl rfl (ms_lit 36 rfl tg_39 (f := GElem.row) (l := ([(GElem.mk 120 0 [])] : List GElem)) ⟨rfl, ⟨_, (.inl rfl), rfl⟩, trivial⟩ rfl (fun _ => rfl) rfl) ?_
        refine ob1k h11 fun l1 el1 h12 => ?_
        refine AOps.step rfl rfl rfl (ms_app rfl tg_39 (.inl rfl) rfl (.inr (.inl ⟨_, _, (.inl rfl), rfl⟩)) el1) ?_
        refine AOps.step rfl rfl rfl (OpQ.spec (sp_fieldAddr_own (ob := .box _ _ _) rfl tf_49_3 (.inl rfl) (fun _ => rfl) rfl) _) ?_
        refine AOps.step0 rfl rfl (ms_store_box (ds := [.r (.int .i64 s3.Kind), .r (.int .i64 s3.N), .cst (.slice none 0 0), .own 37 ((i9 1) + 1)]) rfl tz_39 (.inl rfl) rfl (.inl rfl) rfl rfl rfl rfl) ?_
        refine AOps.nil ?_
        refine hK17 _ ?_
        refine AW.region ?_
        refine ob1k h12 fun x9 ex9 h13 => ?_
        refine AOps.step rfl rfl rfl (OpQ.spec (ms_add rfl (.inl rfl) (.inl rfl) (fun _ => ex9)) _) ?_
        refine AOps.step rfl rfl rfl (OpQ.spec (sp_move rfl (.inl rfl)) _) ?_
        refine AOps.nil ?_
        exact NextQ2.mk h13 (vec [((i9 1) + 1), ((i9 1) + 2)]) ((by exact Weak.cv ⟨.inl (.inl rfl), .inl (.inl rfl), .inl (.inl rfl), .inl (.inl rfl), .inl (.inl rfl), .inl (.inl rfl), .inl (.inl rfl), .inl (.inl rfl), trivial⟩ ⟨.inl rfl, .inl rfl, .inl rfl, .inl rfl, trivial⟩ (Nat.le_refl _)))
      · have h11 := ite_f hc3 h10
        refine AW.exit ?_
        exact wK11 _ _ ((by exact Weak.cv ⟨.inl (.inl rfl), .inl (.inl rfl), .inl (.inl rfl), .inl (.inl rfl), .inl (.inl rfl), .inl (.inl rfl), trivial⟩ ⟨.inl rfl, .inl rfl, .inl rfl, .inl rfl, trivial⟩ (Nat.le_refl _))) (J2 _ (vec [(i9 0), (i9 1)]) (Option.some.inj (he3 _ (hx2 _ (Option.some.inj h11).symm))).symm)
    · have h9 := ite_f hc2 hp1
      refine AW.skip ?_
      exact wK11 _ _ (Weak.trans (Weak.trans (Weak.adoptBox 5 3 37 113 3 (by decide) rfl rfl (by decide)) (by exact Weak.cv (e' := [(0, .r (.sl (a1.map GAxisStep.row))), (2, .ptr 2 n0 0 0), (3, .own 5003 (i3 0)), (4, .r (.int .i64 x2)), (5, .ptr 5 (i3 1) 0 0), (7, .r (.int .i64 (a1.length : Int))), (8, .r (.int .i64 x2)), (22, .ptr 5 (i3 1) 0 0), (23, .r (.int .i64 x4.Kind)), (24, .r (.bool (decide (x4.Kind = 1))))]) (h' := [(2, some (.box n0 34 [.cst (.slice none 0 0), .cst (.slice none 0 0), .cst (.slice none 0 0)])), (5, some (.box (i3 1) 49 [.r (.int .i64 x4.Kind), .r (.int .i64 x4.N), .cst (.slice none 0 0), .own 37 ((i3 1) + 1)])), (37, some (.arr ((i3 1) + 1) 113 3 (([] : List GElem).map GElem.row))), (5003, some (.arr (i3 0) 49 4 (d2.map GStep.row)))]) ⟨.inl (.inl rfl), .inl (.inl rfl), .inl (.inl rfl), .inl (.inl rfl), .inl (.inl rfl), .inl (.inl rfl), .inl (.inl rfl), .inl (.inl rfl), .inl (.inl rfl), .inl (.inl rfl), trivial⟩ ⟨.inl rfl, .inl rfl, .inl rfl, .inl rfl, trivial⟩ (Nat.le_refl _))) (by exact Weak.cv ⟨.inl (.inl rfl), .inl (.inl rfl), .inl (.inl rfl), .inl (.inl rfl), .inl (.inl rfl), .inl (.inl rfl), trivial⟩ ⟨.inl rfl, .inl rfl, .inl rfl, .inl rfl, trivial⟩ (Nat.le_refl _))) (J2 _ (vec [((i3 1) + 1), ((i3 1) + 2)]) (Option.some.inj h9).symm)
  · have h4 := ite_f hc1 h3
    refine AW.exit ?_
    exact wK3 _ _ ((by exact Weak.cv ⟨.inl (.inl rfl), .inl (.inl rfl), trivial⟩ ⟨.inl rfl, .inl rfl, trivial⟩ (Nat.le_refl _))) (J1 _ (vec [(i3 0), (i3 1)]) (hx1 _ (Option.some.inj h4).symm))
end Go.Proofs.Ytdeglnbioiicaaa.Al
