/- Walks, as printed. -/
import Derived.Test.YtelkfhdgmbahgaaPL1
import Derived.Test.YtelkfhdgmbahgaaProg
set_option maxHeartbeats 4000000
set_option maxRecDepth 20000
set_option linter.unusedVariables false
namespace Go.Proofs.Ytelkfhdgmbahgaa.Al
open Go.Proofs
theorem hmix : Try.prog.follows .mixedOrders = true := by kernel_rfl
theorem i_24 : (Try.prog.info? 24).map (fun i => (i.zero, i.size, i.bytes)) = some (some (.slice none 0 0), 1, 24) := by kernel_rfl
theorem i_3 : (Try.prog.info? 3).map (fun i => (i.zero, i.size, i.bytes)) = some (some (.int .i64 0), 1, 8) := by kernel_rfl
theorem i_46 : (Try.prog.info? 46).map (fun i => (i.zero, i.size, i.bytes)) = some (some (.agg #[.int .i64 0, .int .i64 0, .int .i64 0, .int .i64 0, .int .i64 0, .string ⟨#[]⟩, .string ⟨#[]⟩, .string ⟨#[]⟩]), 8, 88) := by kernel_rfl
theorem i_5 : (Try.prog.info? 5).map (fun i => (i.zero, i.size, i.bytes)) = some (some (.int .u8 0), 1, 1) := by kernel_rfl
theorem i_53 : (Try.prog.info? 53).map (fun i => (i.zero, i.size, i.bytes)) = some (some (.slice none 0 0), 1, 24) := by kernel_rfl
theorem i_55 : (Try.prog.info? 55).map (fun i => (i.zero, i.size, i.bytes)) = some (some (.agg #[.int .i64 0, .int .i64 0, .string ⟨#[]⟩, .slice none 0 0]), 4, 56) := by kernel_rfl
theorem i_63 : (Try.prog.info? 63).map (fun i => (i.zero, i.size, i.bytes)) = some (some (.map none), 1, 8) := by kernel_rfl
theorem i_73 : (Try.prog.info? 73).map (fun i => (i.zero, i.size, i.bytes)) = some (some (.map none), 1, 8) := by kernel_rfl
theorem i_74 : (Try.prog.info? 74).map (fun i => (i.zero, i.size, i.bytes)) = some (some (.map none), 1, 8) := by kernel_rfl
theorem i_76 : (Try.prog.info? 76).map (fun i => (i.zero, i.size, i.bytes)) = some (some (.agg #[.map none, .map none]), 2, 16) := by kernel_rfl
theorem i_82 : (Try.prog.info? 82).map (fun i => (i.zero, i.size, i.bytes)) = some (some (.map none), 1, 8) := by kernel_rfl
theorem i_83 : (Try.prog.info? 83).map (fun i => (i.zero, i.size, i.bytes)) = some (some (.nilFunc), 1, 8) := by kernel_rfl
theorem i_9 : (Try.prog.info? 9).map (fun i => (i.zero, i.size, i.bytes)) = some (some (.string ⟨#[]⟩), 1, 16) := by kernel_rfl
theorem t0_24 : ZeroTy Try.prog 24 (.slice none 0 0) := ZeroTy.of i_24
theorem t0_46 : ZeroTy Try.prog 46 (.agg #[.int .i64 0, .int .i64 0, .int .i64 0, .int .i64 0, .int .i64 0, .string ⟨#[]⟩, .string ⟨#[]⟩, .string ⟨#[]⟩]) := ZeroTy.of i_46
theorem t0_55 : ZeroTy Try.prog 55 (.agg #[.int .i64 0, .int .i64 0, .string ⟨#[]⟩, .slice none 0 0]) := ZeroTy.of i_55
theorem t0_63 : ZeroTy Try.prog 63 (.map none) := ZeroTy.of i_63
theorem t0_82 : ZeroTy Try.prog 82 (.map none) := ZeroTy.of i_82
theorem t0_83 : ZeroTy Try.prog 83 (.nilFunc) := ZeroTy.of i_83
theorem ta_46 : AggTy Try.prog 46 8 := AggTy.of Try.underlying46 rfl i_46
theorem ta_55 : AggTy Try.prog 55 4 := AggTy.of Try.underlying55 rfl i_55
theorem tb_46 : BuildTy Try.prog 46 [(0, 1), (1, 1), (2, 1), (3, 1), (4, 1), (5, 1), (6, 1), (7, 1)] [.int .i64 0, .int .i64 0, .int .i64 0, .int .i64 0, .int .i64 0, .string ⟨#[]⟩, .string ⟨#[]⟩, .string ⟨#[]⟩] := BuildTy.of Try.underlying46 (fun w => by kernel_rfl) i_46
theorem tb_55 : BuildTy Try.prog 55 [(0, 1), (1, 1), (2, 1), (3, 1)] [.int .i64 0, .int .i64 0, .string ⟨#[]⟩, .slice none 0 0] := BuildTy.of Try.underlying55 (fun w => by kernel_rfl) i_55
theorem tb_76 : BuildTy Try.prog 76 [(0, 1), (1, 1)] [.map none, .map none] := BuildTy.of Try.underlying76 (fun w => by kernel_rfl) i_76
theorem tf_46_0 : FieldTy Try.prog 46 0 0 := FieldTy.of Try.underlying46 rfl rfl i_3 (by decide)
theorem tf_46_1 : FieldTy Try.prog 46 1 1 := FieldTy.of Try.underlying46 rfl rfl i_3 (by decide)
theorem tf_46_2 : FieldTy Try.prog 46 2 2 := FieldTy.of Try.underlying46 rfl rfl i_3 (by decide)
theorem tf_46_3 : FieldTy Try.prog 46 3 3 := FieldTy.of Try.underlying46 rfl rfl i_3 (by decide)
theorem tf_46_4 : FieldTy Try.prog 46 4 4 := FieldTy.of Try.underlying46 rfl rfl i_3 (by decide)
theorem tf_46_5 : FieldTy Try.prog 46 5 5 := FieldTy.of Try.underlying46 rfl rfl i_9 (by decide)
theorem tf_46_6 : FieldTy Try.prog 46 6 6 := FieldTy.of Try.underlying46 rfl rfl i_9 (by decide)
theorem tf_46_7 : FieldTy Try.prog 46 7 7 := FieldTy.of Try.underlying46 rfl rfl i_9 (by decide)
theorem tf_55_0 : FieldTy Try.prog 55 0 0 := FieldTy.of Try.underlying55 rfl rfl i_3 (by decide)
theorem tf_55_1 : FieldTy Try.prog 55 1 1 := FieldTy.of Try.underlying55 rfl rfl i_3 (by decide)
theorem tf_55_3 : FieldTy Try.prog 55 3 3 := FieldTy.of Try.underlying55 rfl rfl i_53 (by decide)
theorem tf_76_0 : FieldTy Try.prog 76 0 0 := FieldTy.of Try.underlying76 rfl rfl i_73 (by decide)
theorem tf_76_1 : FieldTy Try.prog 76 1 1 := FieldTy.of Try.underlying76 rfl rfl i_74 (by decide)
theorem tg_22 : GrowTy Try.prog 22 46 8 88 := GrowTy.of Try.underlying22 i_46 rfl rfl (by decide)
theorem tg_24 : GrowTy Try.prog 24 55 4 56 := GrowTy.of Try.underlying24 i_55 rfl rfl (by decide)
theorem tg_41 : GrowTy Try.prog 41 5 1 1 := GrowTy.of Try.underlying41 i_5 rfl rfl (by decide)
theorem ts_24 : ScalTy Try.prog 24 := ScalTy.of Try.underlying24 rfl i_24
theorem ts_3 : ScalTy Try.prog 3 := ScalTy.of Try.underlying3 rfl i_3
theorem ts_63 : ScalTy Try.prog 63 := ScalTy.of Try.underlying63 rfl i_63
theorem ts_73 : ScalTy Try.prog 73 := ScalTy.of Try.underlying73 rfl i_73
theorem ts_74 : ScalTy Try.prog 74 := ScalTy.of Try.underlying74 rfl i_74
theorem ts_82 : ScalTy Try.prog 82 := ScalTy.of Try.underlying82 rfl i_82
theorem ts_83 : ScalTy Try.prog 83 := ScalTy.of Try.underlying83 rfl i_83
theorem ts_9 : ScalTy Try.prog 9 := ScalTy.of Try.underlying9 rfl i_9
theorem tz_24 : ∃ i, Try.prog.info? 24 = some i ∧ i.size = 1 := size_of i_24
theorem tz_46 : ∃ i, Try.prog.info? 46 = some i ∧ i.size = 8 := size_of i_46
theorem tz_53 : ∃ i, Try.prog.info? 53 = some i ∧ i.size = 1 := size_of i_53
theorem tz_55 : ∃ i, Try.prog.info? 55 = some i ∧ i.size = 4 := size_of i_55
theorem tz_63 : ∃ i, Try.prog.info? 63 = some i ∧ i.size = 1 := size_of i_63
theorem tz_82 : ∃ i, Try.prog.info? 82 = some i ∧ i.size = 1 := size_of i_82
theorem tz_83 : ∃ i, Try.prog.info? 83 = some i ∧ i.size = 1 := size_of i_83
set_option maxHeartbeats 40000000 in
set_option maxRecDepth 100000 in
theorem w_law_draws {r : Bool} (h : law_draws = some r) : ARO Try.prog 7 [] (.r (.bool r)) := by
  unfold law_draws at h
  refine ARO.mkF Try.func7 rfl rfl Try.ntmps7 rfl (Nat.le_of_ble_eq_true rfl) fun n0 => ?_
  refine AW.seq_w fun K1 hK1 wK1 => ?_
  refine AW.region ?_
  refine AOps.step rfl rfl rfl (OpQ.spec (sp_assign rfl (.inl rfl)) _) ?_
  refine AOps.nil ?_
  refine hK1 _ ?_
  refine AW.seq_w fun K2 hK2 wK2 => ?_
  refine AW.region ?_
  refine AOps.step rfl rfl rfl (OpQ.spec (sp_build rfl tb_46 (q := [(0, _), (1, _), (3, _), (5, _)]) (by exact ⟨rfl, rfl, rfl, (.inl rfl), rfl, rfl, rfl, (.inl rfl), rfl, rfl, rfl, (.inl rfl), rfl, rfl, rfl, (.inl rfl), trivial⟩) (cs := [.r (.int .i64 (1 : Int)), .r (.int .i64 (1 : Int)), .r (.int .i64 (0 : Int)), .r (.int .i64 (5 : Int)), .r (.int .i64 (0 : Int)), .r (.str [98]), .r (.str []), .r (.str [])]) (by rfl)) _) ?_
  refine AOps.step rfl rfl rfl (ms_lit 101 rfl tg_22 (f := GDrawOp.row) (l := ([(GDrawOp.mk 1 1 0 5 0 [98] [] [])] : List GDrawOp)) ⟨rfl, ⟨_, (.inl rfl), rfl⟩, trivial⟩ rfl (fun _ => rfl) rfl) ?_
  refine AOps.stepIk [] [.own 101 n0] rfl rfl rfl rfl (.inl rfl) (by exact ⟨(.inl rfl), trivial⟩) Try.func8 rfl rfl Try.ntmps8 rfl fun K3 hK3 => ?_
  refine AW.seq_w fun K4 hK4 wK4 => ?_
  refine AW.weak (s' := ⟨[(0, .own 101 n0)], [(101, some (.arr n0 46 8 ([(GDrawOp.mk 1 1 0 5 0 [98] [] [])].map GDrawOp.row)))], (n0 + 1), 12⟩) (by exact Weak.cv ⟨.inl (.inl rfl), trivial⟩ ⟨.inl rfl, trivial⟩ (Nat.le_refl _)) ?_
  refine AW.region ?_
  refine AOps.step rfl rfl rfl (OpQ.spec (sp_assign rfl (.inl rfl)) _) ?_
  refine AOps.step rfl rfl rfl (OpQ.spec (sp_assign rfl (.inl rfl)) _) ?_
  refine AOps.nil ?_
  refine hK4 _ ?_
  refine AW.seq_w fun K5 hK5 wK5 => ?_
  refine AW.seq_w fun K6 hK6 wK6 => ?_
  refine AW.region ?_
  refine AOps.step rfl rfl rfl (OpQ.spec (sp_move rfl (.inl rfl)) _) ?_
  refine AOps.stepIk [] [.own 101 n0] rfl rfl rfl rfl (.inl rfl) (by exact ⟨(.inl rfl), trivial⟩) Try.func15 rfl rfl Try.ntmps15 rfl fun K7 hK7 => ?_
  refine AW.seq_w fun K8 hK8 wK8 => ?_
  refine AW.weak (s' := ⟨[(0, .own 101 n0)], [(101, some (.arr n0 46 8 ([(GDrawOp.mk 1 1 0 5 0 [98] [] [])].map GDrawOp.row)))], (n0 + 1), 31⟩) (by exact Weak.cv ⟨.inl (.inl rfl), trivial⟩ ⟨.inl rfl, trivial⟩ (Nat.le_refl _)) ?_
  refine AW.region ?_
  refine AOps.step rfl rfl rfl (OpQ.spec (sp_assign rfl (.inl rfl)) _) ?_
  refine AOps.nil ?_
  refine hK8 _ ?_
  refine AW.seq_w fun K9 hK9 wK9 => ?_
  refine AW.seq_w fun K10 hK10 wK10 => ?_
  refine AW.region ?_
  refine AOps.step rfl rfl rfl (OpQ.spec (sp_move rfl (.inl rfl)) _) ?_
  refine AOps.step rfl rfl rfl (OpQ.spec (ms_len_own rfl tg_22.slice (.inl rfl) rfl) _) ?_
  refine AOps.step rfl rfl rfl (OpQ.spec (sp_move rfl (.inl rfl)) _) ?_
  refine AOps.nil ?_
  refine hK10 _ ?_
  refine AW.block ?_
  refine AW.loopN 9 ?_
  refine LoopN.step ?_
  refine AW.seq_w fun K11 hK11 wK11 => ?_
  refine AW.region ?_
  refine AOps.step rfl rfl rfl (OpQ.spec (sp_lss rfl (.inl rfl) (.inl rfl)) _) ?_
  refine AOps.nil ?_
  refine hK11 _ ?_
  refine AW.seq_w fun K12 hK12 wK12 => ?_
  refine AW.cond rfl (fun hc1 => ?_) (fun hc1 => by cases hc1)
  refine AW.skip ?_
  refine hK12 _ ?_
  refine AW.seq_w fun K13 hK13 wK13 => ?_
  refine AW.block ?_
  refine AW.seq_w fun K14 hK14 wK14 => ?_
  refine AW.region ?_
  refine AOps.step rfl rfl rfl (OpQ.spec (sp_move rfl (.inl rfl)) _) ?_
  have e1 : @idx (GDrawOp) [(GDrawOp.mk 1 1 0 5 0 [98] [] [])] 0 = some (GDrawOp.mk 1 1 0 5 0 [98] [] []) := by kernel_rfl
  refine AOps.step rfl rfl rfl (OpQ.spec (ms_idx_own rfl tg_22.slice (.inl rfl) rfl (.inl rfl) (fun _ => e1)) _) ?_
  refine AOps.step rfl rfl rfl (OpQ.spec (ms_loadA_own (cs := [.r (.int .i64 ((GDrawOp.mk 1 1 0 5 0 [98] [] []).Clock)), .r (.int .i64 ((GDrawOp.mk 1 1 0 5 0 [98] [] []).Site)), .r (.int .i64 ((GDrawOp.mk 1 1 0 5 0 [98] [] []).Kind)), .r (.int .i64 ((GDrawOp.mk 1 1 0 5 0 [98] [] []).Item)), .r (.int .i64 ((GDrawOp.mk 1 1 0 5 0 [98] [] []).Parent)), .r (.str ((GDrawOp.mk 1 1 0 5 0 [98] [] []).Place)), .r (.str ((GDrawOp.mk 1 1 0 5 0 [98] [] []).Name)), .r (.str ((GDrawOp.mk 1 1 0 5 0 [98] [] []).Value))]) rfl ta_46 (.inl rfl) (fun _ => rfl) (fun _ => e1) rfl) _) ?_
  refine AOps.step rfl rfl rfl (ms_alloc (cs := [.r (.int .i64 (0 : Int)), .r (.int .i64 (0 : Int)), .r (.int .i64 (0 : Int)), .r (.int .i64 (0 : Int)), .r (.int .i64 (0 : Int)), .r (.str []), .r (.str []), .r (.str [])]) 102 rfl t0_46 rfl rfl) ?_
  refine AOps.step rfl rfl rfl (OpQ.spec (sp_assign rfl (.inl rfl)) _) ?_
  refine AOps.step0 rfl rfl (ms_store_box (ds := [.r (.int .i64 (1 : Int)), .r (.int .i64 (1 : Int)), .r (.int .i64 (0 : Int)), .r (.int .i64 (5 : Int)), .r (.int .i64 (0 : Int)), .r (.str [98]), .r (.str []), .r (.str [])]) rfl tz_46 (.inl rfl) rfl (.inl rfl) rfl rfl rfl rfl) ?_
  refine AOps.nil ?_
  refine hK14 _ ?_
  refine AW.seq_w fun K15 hK15 wK15 => ?_
  refine AW.seq_w fun K16 hK16 wK16 => ?_
  refine AW.region ?_
  refine AOps.step rfl rfl rfl (OpQ.spec (ms_loadA_box rfl ta_46 (.inl rfl) rfl rfl) _) ?_
  refine AOps.stepIk [] [.agg [.r (.int .i64 (1 : Int)), .r (.int .i64 (1 : Int)), .r (.int .i64 (0 : Int)), .r (.int .i64 (5 : Int)), .r (.int .i64 (0 : Int)), .r (.str [98]), .r (.str []), .r (.str [])]] rfl rfl rfl rfl (.inl rfl) (by exact ⟨(.inl rfl), trivial⟩) Try.func34 rfl rfl Try.ntmps34 rfl fun K17 hK17 => ?_
  refine AW.seq_w fun K18 hK18 wK18 => ?_
  refine AW.weak (s' := ⟨[(0, .agg [.r (.int .i64 (1 : Int)), .r (.int .i64 (1 : Int)), .r (.int .i64 (0 : Int)), .r (.int .i64 (5 : Int)), .r (.int .i64 (0 : Int)), .r (.str [98]), .r (.str []), .r (.str [])])], [(101, some (.arr n0 46 8 ([(GDrawOp.mk 1 1 0 5 0 [98] [] [])].map GDrawOp.row))), (102, some (.box (n0 + 1) 46 [.r (.int .i64 (1 : Int)), .r (.int .i64 (1 : Int)), .r (.int .i64 (0 : Int)), .r (.int .i64 (5 : Int)), .r (.int .i64 (0 : Int)), .r (.str [98]), .r (.str []), .r (.str [])]))], (n0 + 2), 116⟩) (by exact Weak.cv ⟨.inl (.inl rfl), trivial⟩ ⟨.inl rfl, .inl rfl, trivial⟩ (Nat.le_refl _)) ?_
  refine AW.region ?_
  refine AOps.step rfl rfl rfl (ms_box (cs := [.r (.int .i64 (1 : Int)), .r (.int .i64 (1 : Int)), .r (.int .i64 (0 : Int)), .r (.int .i64 (5 : Int)), .r (.int .i64 (0 : Int)), .r (.str [98]), .r (.str []), .r (.str [])]) 103 rfl (.inl rfl) rfl rfl) ?_
  refine AOps.step rfl rfl rfl (OpQ.spec (sp_assign rfl (.inl rfl)) _) ?_
  refine AOps.nil ?_
  refine hK18 _ ?_
  refine AW.seq_w fun K19 hK19 wK19 => ?_
  refine AW.block ?_
  refine AW.seq_w fun K20 hK20 wK20 => ?_
  refine AW.region ?_
  refine AOps.step rfl rfl rfl (OpQ.spec (sp_fieldAddr_own (ob := .box _ _ _) rfl tf_46_2 (.inl rfl) (fun _ => rfl) rfl) _) ?_
  refine AOps.step rfl rfl rfl (OpQ.spec (ms_load_box (a := .r (.int .i64 (0 : Int))) rfl ts_3 (.inl rfl) rfl rfl) _) ?_
  refine AOps.step rfl rfl rfl (OpQ.spec (sp_neq rfl (.inl rfl) (.inl rfl)) _) ?_
  refine AOps.step rfl rfl rfl (OpQ.spec (sp_move rfl (.inl rfl)) _) ?_
  refine AOps.stepW (.one rfl rfl rfl) rfl rfl (OpQ.spec (OpQ.no (v := .any) rfl) _) ?_
  refine AOps.stepW (.one rfl rfl rfl) rfl rfl (OpQ.spec (OpQ.no (v := .any) rfl) _) ?_
  refine AOps.stepW (.one rfl rfl rfl) rfl rfl (OpQ.spec (OpQ.no (v := .r (.bool false)) rfl) _) ?_
  refine AOps.step rfl rfl rfl (OpQ.spec (sp_and rfl (.inl rfl) (.inr ⟨_, (by exact id), rfl⟩)) _) ?_
  refine AOps.step rfl rfl rfl (OpQ.spec (sp_assign rfl (.inl rfl)) _) ?_
  refine AOps.nil ?_
  refine hK20 _ ?_
  refine AW.cond rfl (fun hc2 => by cases hc2) (fun hc2 => ?_)
  refine AW.seq_w fun K21 hK21 wK21 => ?_
  refine AW.weak (s' := ⟨[(1, .ptr 103 (n0 + 2) 0 0)], [(101, some (.arr n0 46 8 ([(GDrawOp.mk 1 1 0 5 0 [98] [] [])].map GDrawOp.row))), (102, some (.box (n0 + 1) 46 [.r (.int .i64 (1 : Int)), .r (.int .i64 (1 : Int)), .r (.int .i64 (0 : Int)), .r (.int .i64 (5 : Int)), .r (.int .i64 (0 : Int)), .r (.str [98]), .r (.str []), .r (.str [])])), (103, some (.box (n0 + 2) 46 [.r (.int .i64 (1 : Int)), .r (.int .i64 (1 : Int)), .r (.int .i64 (0 : Int)), .r (.int .i64 (5 : Int)), .r (.int .i64 (0 : Int)), .r (.str [98]), .r (.str []), .r (.str [])]))], (n0 + 3), 116⟩) (by exact Weak.cv ⟨.inl (.inl rfl), trivial⟩ ⟨.inl rfl, .inl rfl, .inl rfl, trivial⟩ (Nat.le_refl _)) ?_
  refine AW.region ?_
  refine AOps.step rfl rfl rfl (OpQ.spec (sp_fieldAddr_own (ob := .box _ _ _) rfl tf_46_0 (.inl rfl) (fun _ => rfl) rfl) _) ?_
  refine AOps.step rfl rfl rfl (OpQ.spec (ms_load_box (a := .r (.int .i64 (1 : Int))) rfl ts_3 (.inl rfl) rfl rfl) _) ?_
  refine AOps.step rfl rfl rfl (OpQ.spec (sp_lss rfl (.inl rfl) (.inl rfl)) _) ?_
  refine AOps.step rfl rfl rfl (OpQ.spec (sp_move rfl (.inl rfl)) _) ?_
  refine AOps.stepGT (.one rfl rfl rfl) rfl rfl rfl (OpQ.spec (sp_fieldAddr_own (ob := .box _ _ _) rfl tf_46_0 (.inl rfl) (fun _ => rfl) rfl) _) ?_
  refine AOps.stepGT (.one rfl rfl rfl) rfl rfl rfl (OpQ.spec (ms_load_box (a := .r (.int .i64 (1 : Int))) rfl ts_3 (.inl rfl) rfl rfl) _) ?_
  refine AOps.stepGT (.one rfl rfl rfl) rfl rfl rfl (OpQ.spec (sp_gtr rfl (.inl rfl) (.inl rfl)) _) ?_
  refine AOps.step rfl rfl rfl (OpQ.spec (sp_or rfl (.inl rfl) (.inl rfl)) _) ?_
  refine AOps.step rfl rfl rfl (OpQ.spec (sp_move rfl (.inl rfl)) _) ?_
  refine AOps.stepGT (.one rfl rfl rfl) rfl rfl rfl (OpQ.spec (sp_fieldAddr_own (ob := .box _ _ _) rfl tf_46_1 (.inl rfl) (fun _ => rfl) rfl) _) ?_
  refine AOps.stepGT (.one rfl rfl rfl) rfl rfl rfl (OpQ.spec (ms_load_box (a := .r (.int .i64 (1 : Int))) rfl ts_3 (.inl rfl) rfl rfl) _) ?_
  refine AOps.stepGT (.one rfl rfl rfl) rfl rfl rfl (OpQ.spec (sp_lss rfl (.inl rfl) (.inl rfl)) _) ?_
  refine AOps.step rfl rfl rfl (OpQ.spec (sp_or rfl (.inl rfl) (.inl rfl)) _) ?_
  refine AOps.step rfl rfl rfl (OpQ.spec (sp_move rfl (.inl rfl)) _) ?_
  refine AOps.stepGT (.one rfl rfl rfl) rfl rfl rfl (OpQ.spec (sp_fieldAddr_own (ob := .box _ _ _) rfl tf_46_1 (.inl rfl) (fun _ => rfl) rfl) _) ?_
  refine AOps.stepGT (.one rfl rfl rfl) rfl rfl rfl (OpQ.spec (ms_load_box (a := .r (.int .i64 (1 : Int))) rfl ts_3 (.inl rfl) rfl rfl) _) ?_
  refine AOps.stepGT (.one rfl rfl rfl) rfl rfl rfl (OpQ.spec (sp_gtr rfl (.inl rfl) (.inl rfl)) _) ?_
  refine AOps.step rfl rfl rfl (OpQ.spec (sp_or rfl (.inl rfl) (.inl rfl)) _) ?_
  refine AOps.step rfl rfl rfl (OpQ.spec (sp_move rfl (.inl rfl)) _) ?_
  refine AOps.stepGT (.one rfl rfl rfl) rfl rfl rfl (OpQ.spec (sp_fieldAddr_own (ob := .box _ _ _) rfl tf_46_3 (.inl rfl) (fun _ => rfl) rfl) _) ?_
  refine AOps.stepGT (.one rfl rfl rfl) rfl rfl rfl (OpQ.spec (ms_load_box (a := .r (.int .i64 (5 : Int))) rfl ts_3 (.inl rfl) rfl rfl) _) ?_
  refine AOps.stepGT (.one rfl rfl rfl) rfl rfl rfl (OpQ.spec (sp_lss rfl (.inl rfl) (.inl rfl)) _) ?_
  refine AOps.step rfl rfl rfl (OpQ.spec (sp_or rfl (.inl rfl) (.inl rfl)) _) ?_
  refine AOps.step rfl rfl rfl (OpQ.spec (sp_move rfl (.inl rfl)) _) ?_
  refine AOps.stepGT (.one rfl rfl rfl) rfl rfl rfl (OpQ.spec (sp_fieldAddr_own (ob := .box _ _ _) rfl tf_46_3 (.inl rfl) (fun _ => rfl) rfl) _) ?_
  refine AOps.stepGT (.one rfl rfl rfl) rfl rfl rfl (OpQ.spec (ms_load_box (a := .r (.int .i64 (5 : Int))) rfl ts_3 (.inl rfl) rfl rfl) _) ?_
  refine AOps.stepGT (.one rfl rfl rfl) rfl rfl rfl (OpQ.spec (sp_gtr rfl (.inl rfl) (.inl rfl)) _) ?_
  refine AOps.step rfl rfl rfl (OpQ.spec (sp_or rfl (.inl rfl) (.inl rfl)) _) ?_
  refine AOps.step rfl rfl rfl (OpQ.spec (sp_assign rfl (.inl rfl)) _) ?_
  refine AOps.nil ?_
  refine hK21 _ ?_
  refine AW.cond rfl (fun hc3 => by cases hc3) (fun hc3 => ?_)
  refine AW.seq_w fun K22 hK22 wK22 => ?_
  refine AW.seq_w fun K23 hK23 wK23 => ?_
  refine AW.weak (s' := ⟨[(1, .ptr 103 (n0 + 2) 0 0)], [(101, some (.arr n0 46 8 ([(GDrawOp.mk 1 1 0 5 0 [98] [] [])].map GDrawOp.row))), (102, some (.box (n0 + 1) 46 [.r (.int .i64 (1 : Int)), .r (.int .i64 (1 : Int)), .r (.int .i64 (0 : Int)), .r (.int .i64 (5 : Int)), .r (.int .i64 (0 : Int)), .r (.str [98]), .r (.str []), .r (.str [])])), (103, some (.box (n0 + 2) 46 [.r (.int .i64 (1 : Int)), .r (.int .i64 (1 : Int)), .r (.int .i64 (0 : Int)), .r (.int .i64 (5 : Int)), .r (.int .i64 (0 : Int)), .r (.str [98]), .r (.str []), .r (.str [])]))], (n0 + 3), 116⟩) (by exact Weak.cv ⟨.inl (.inl rfl), trivial⟩ ⟨.inl rfl, .inl rfl, .inl rfl, trivial⟩ (Nat.le_refl _)) ?_
  refine AW.region ?_
  refine AOps.step rfl rfl rfl (OpQ.spec (sp_fieldAddr_own (ob := .box _ _ _) rfl tf_46_2 (.inl rfl) (fun _ => rfl) rfl) _) ?_
  refine AOps.step rfl rfl rfl (OpQ.spec (ms_load_box (a := .r (.int .i64 (0 : Int))) rfl ts_3 (.inl rfl) rfl rfl) _) ?_
  refine AOps.step rfl rfl rfl (OpQ.spec (sp_eql rfl (.inl rfl) (.inl rfl)) _) ?_
  refine AOps.step rfl rfl rfl (OpQ.spec (sp_move rfl (.inl rfl)) _) ?_
  refine AOps.stepGT (.one rfl rfl rfl) rfl rfl rfl (OpQ.spec (sp_fieldAddr_own (ob := .box _ _ _) rfl tf_46_6 (.inl rfl) (fun _ => rfl) rfl) _) ?_
  refine AOps.stepGT (.one rfl rfl rfl) rfl rfl rfl (OpQ.spec (ms_load_box (a := .r (.str [])) rfl ts_9 (.inl rfl) rfl rfl) _) ?_
  refine AOps.stepGT (.one rfl rfl rfl) rfl rfl rfl (OpQ.spec (sp_sneq rfl (.inl rfl) (.inl rfl)) _) ?_
  refine AOps.stepGT (.one rfl rfl rfl) rfl rfl rfl (OpQ.spec (sp_move rfl (.inl rfl)) _) ?_
  refine AOps.stepGT (.one rfl rfl rfl) rfl rfl rfl (OpQ.spec (sp_fieldAddr_own (ob := .box _ _ _) rfl tf_46_7 (.inl rfl) (fun _ => rfl) rfl) _) ?_
  refine AOps.stepGT (.one rfl rfl rfl) rfl rfl rfl (OpQ.spec (ms_load_box (a := .r (.str [])) rfl ts_9 (.inl rfl) rfl rfl) _) ?_
  refine AOps.stepGT (.one rfl rfl rfl) rfl rfl rfl (OpQ.spec (sp_sneq rfl (.inl rfl) (.inl rfl)) _) ?_
  refine AOps.stepGT (.one rfl rfl rfl) rfl rfl rfl (OpQ.spec (sp_or rfl (.inl rfl) (.inl rfl)) _) ?_
  refine AOps.step rfl rfl rfl (OpQ.spec (sp_and rfl (.inl rfl) (.inl rfl)) _) ?_
  refine AOps.step rfl rfl rfl (OpQ.spec (sp_assign rfl (.inl rfl)) _) ?_
  refine AOps.nil ?_
  refine hK23 _ ?_
  refine AW.cond rfl (fun hc4 => by cases hc4) (fun hc4 => ?_)
  refine AW.weak (s' := ⟨[(1, .ptr 103 (n0 + 2) 0 0)], [(101, some (.arr n0 46 8 ([(GDrawOp.mk 1 1 0 5 0 [98] [] [])].map GDrawOp.row))), (102, some (.box (n0 + 1) 46 [.r (.int .i64 (1 : Int)), .r (.int .i64 (1 : Int)), .r (.int .i64 (0 : Int)), .r (.int .i64 (5 : Int)), .r (.int .i64 (0 : Int)), .r (.str [98]), .r (.str []), .r (.str [])])), (103, some (.box (n0 + 2) 46 [.r (.int .i64 (1 : Int)), .r (.int .i64 (1 : Int)), .r (.int .i64 (0 : Int)), .r (.int .i64 (5 : Int)), .r (.int .i64 (0 : Int)), .r (.str [98]), .r (.str []), .r (.str [])]))], (n0 + 3), 116⟩) (by exact Weak.cv ⟨.inl (.inl rfl), trivial⟩ ⟨.inl rfl, .inl rfl, .inl rfl, trivial⟩ (Nat.le_refl _)) ?_
  refine AW.region ?_
  refine AOps.step rfl rfl rfl (OpQ.spec (sp_fieldAddr_own (ob := .box _ _ _) rfl tf_46_2 (.inl rfl) (fun _ => rfl) rfl) _) ?_
  refine AOps.step rfl rfl rfl (OpQ.spec (ms_load_box (a := .r (.int .i64 (0 : Int))) rfl ts_3 (.inl rfl) rfl rfl) _) ?_
  refine AOps.step rfl rfl rfl (OpQ.spec (sp_eql rfl (.inl rfl) (.inl rfl)) _) ?_
  refine AOps.step rfl rfl rfl (OpQ.spec (sp_move rfl (.inl rfl)) _) ?_
  refine AOps.stepW (.one rfl rfl rfl) rfl rfl (OpQ.spec (OpQ.no (v := .any) rfl) _) ?_
  refine AOps.stepW (.one rfl rfl rfl) rfl rfl (OpQ.spec (OpQ.no (v := .any) rfl) _) ?_
  refine AOps.stepW (.one rfl rfl rfl) rfl rfl (OpQ.spec (OpQ.no (v := .r (.bool false)) rfl) _) ?_
  refine AOps.stepW (.one rfl rfl rfl) rfl rfl (OpQ.spec (OpQ.no (v := .r (.bool false)) rfl) _) ?_
  refine AOps.stepW (.two rfl rfl rfl) rfl rfl (OpQ.spec (OpQ.no (v := .any) rfl) _) ?_
  refine AOps.stepW (.two rfl rfl rfl) rfl rfl (OpQ.spec (OpQ.no (v := .any) rfl) _) ?_
  refine AOps.stepW (.two rfl rfl rfl) rfl rfl (OpQ.spec (OpQ.no (v := .r (.bool false)) rfl) _) ?_
  refine AOps.stepW (.one rfl rfl rfl) rfl rfl (OpQ.spec (OpQ.no (v := .r (.bool false)) rfl) _) ?_
  refine AOps.step rfl rfl rfl (OpQ.spec (sp_and rfl (.inl rfl) (.inr ⟨_, (by exact id), rfl⟩)) _) ?_
  refine AOps.step rfl rfl rfl (OpQ.spec (sp_assign rfl (.inl rfl)) _) ?_
  refine AOps.nil ?_
  refine hK22 _ ?_
  refine AW.cond rfl (fun hc5 => by cases hc5) (fun hc5 => ?_)
  refine AW.seq_w fun K24 hK24 wK24 => ?_
  refine AW.weak (s' := ⟨[(1, .ptr 103 (n0 + 2) 0 0)], [(101, some (.arr n0 46 8 ([(GDrawOp.mk 1 1 0 5 0 [98] [] [])].map GDrawOp.row))), (102, some (.box (n0 + 1) 46 [.r (.int .i64 (1 : Int)), .r (.int .i64 (1 : Int)), .r (.int .i64 (0 : Int)), .r (.int .i64 (5 : Int)), .r (.int .i64 (0 : Int)), .r (.str [98]), .r (.str []), .r (.str [])])), (103, some (.box (n0 + 2) 46 [.r (.int .i64 (1 : Int)), .r (.int .i64 (1 : Int)), .r (.int .i64 (0 : Int)), .r (.int .i64 (5 : Int)), .r (.int .i64 (0 : Int)), .r (.str [98]), .r (.str []), .r (.str [])]))], (n0 + 3), 116⟩) (by exact Weak.cv ⟨.inl (.inl rfl), trivial⟩ ⟨.inl rfl, .inl rfl, .inl rfl, trivial⟩ (Nat.le_refl _)) ?_
  refine AW.region ?_
  refine AOps.step rfl rfl rfl (OpQ.spec (sp_fieldAddr_own (ob := .box _ _ _) rfl tf_46_2 (.inl rfl) (fun _ => rfl) rfl) _) ?_
  refine AOps.step rfl rfl rfl (OpQ.spec (ms_load_box (a := .r (.int .i64 (0 : Int))) rfl ts_3 (.inl rfl) rfl rfl) _) ?_
  refine AOps.step rfl rfl rfl (OpQ.spec (sp_eql rfl (.inl rfl) (.inl rfl)) _) ?_
  refine AOps.step rfl rfl rfl (OpQ.spec (sp_move rfl (.inl rfl)) _) ?_
  refine AOps.stepGT (.one rfl rfl rfl) rfl rfl rfl (OpQ.spec (sp_fieldAddr_own (ob := .box _ _ _) rfl tf_46_4 (.inl rfl) (fun _ => rfl) rfl) _) ?_
  refine AOps.stepGT (.one rfl rfl rfl) rfl rfl rfl (OpQ.spec (ms_load_box (a := .r (.int .i64 (0 : Int))) rfl ts_3 (.inl rfl) rfl rfl) _) ?_
  refine AOps.stepGT (.one rfl rfl rfl) rfl rfl rfl (OpQ.spec (sp_lss rfl (.inl rfl) (.inl rfl)) _) ?_
  refine AOps.stepGT (.one rfl rfl rfl) rfl rfl rfl (OpQ.spec (sp_move rfl (.inl rfl)) _) ?_
  refine AOps.stepGT (.one rfl rfl rfl) rfl rfl rfl (OpQ.spec (sp_fieldAddr_own (ob := .box _ _ _) rfl tf_46_4 (.inl rfl) (fun _ => rfl) rfl) _) ?_
  refine AOps.stepGT (.one rfl rfl rfl) rfl rfl rfl (OpQ.spec (ms_load_box (a := .r (.int .i64 (0 : Int))) rfl ts_3 (.inl rfl) rfl rfl) _) ?_
  refine AOps.stepGT (.one rfl rfl rfl) rfl rfl rfl (OpQ.spec (sp_gtr rfl (.inl rfl) (.inl rfl)) _) ?_
  refine AOps.stepGT (.one rfl rfl rfl) rfl rfl rfl (OpQ.spec (sp_or rfl (.inl rfl) (.inl rfl)) _) ?_
  refine AOps.step rfl rfl rfl (OpQ.spec (sp_and rfl (.inl rfl) (.inl rfl)) _) ?_
  refine AOps.step rfl rfl rfl (OpQ.spec (sp_assign rfl (.inl rfl)) _) ?_
  refine AOps.nil ?_
  refine hK24 _ ?_
  refine AW.cond rfl (fun hc6 => by cases hc6) (fun hc6 => ?_)
  refine AW.seq_w fun K25 hK25 wK25 => ?_
  refine AW.seq_w fun K26 hK26 wK26 => ?_
  refine AW.weak (s' := ⟨[(1, .ptr 103 (n0 + 2) 0 0)], [(101, some (.arr n0 46 8 ([(GDrawOp.mk 1 1 0 5 0 [98] [] [])].map GDrawOp.row))), (102, some (.box (n0 + 1) 46 [.r (.int .i64 (1 : Int)), .r (.int .i64 (1 : Int)), .r (.int .i64 (0 : Int)), .r (.int .i64 (5 : Int)), .r (.int .i64 (0 : Int)), .r (.str [98]), .r (.str []), .r (.str [])])), (103, some (.box (n0 + 2) 46 [.r (.int .i64 (1 : Int)), .r (.int .i64 (1 : Int)), .r (.int .i64 (0 : Int)), .r (.int .i64 (5 : Int)), .r (.int .i64 (0 : Int)), .r (.str [98]), .r (.str []), .r (.str [])]))], (n0 + 3), 116⟩) (by exact Weak.cv ⟨.inl (.inl rfl), trivial⟩ ⟨.inl rfl, .inl rfl, .inl rfl, trivial⟩ (Nat.le_refl _)) ?_
  refine AW.region ?_
  refine AOps.step rfl rfl rfl (OpQ.spec (sp_fieldAddr_own (ob := .box _ _ _) rfl tf_46_2 (.inl rfl) (fun _ => rfl) rfl) _) ?_
  refine AOps.step rfl rfl rfl (OpQ.spec (ms_load_box (a := .r (.int .i64 (0 : Int))) rfl ts_3 (.inl rfl) rfl rfl) _) ?_
  refine AOps.step rfl rfl rfl (OpQ.spec (sp_eql rfl (.inl rfl) (.inl rfl)) _) ?_
  refine AOps.step rfl rfl rfl (OpQ.spec (sp_move rfl (.inl rfl)) _) ?_
  refine AOps.stepGT (.one rfl rfl rfl) rfl rfl rfl (OpQ.spec (sp_fieldAddr_own (ob := .box _ _ _) rfl tf_46_5 (.inl rfl) (fun _ => rfl) rfl) _) ?_
  refine AOps.stepGT (.one rfl rfl rfl) rfl rfl rfl (OpQ.spec (ms_load_box (a := .r (.str [98])) rfl ts_9 (.inl rfl) rfl rfl) _) ?_
  refine AOps.stepIGk [] [.r (.str [98])] (.one rfl rfl rfl) rfl rfl rfl rfl (.inl rfl) (by exact ⟨(.inl rfl), trivial⟩) Try.func13 rfl rfl Try.ntmps13 rfl fun K27 hK27 => ?_
  refine AW.seq_w fun K28 hK28 wK28 => ?_
  refine AW.weak (s' := ⟨[(0, .r (.str [98]))], [(101, some (.arr n0 46 8 ([(GDrawOp.mk 1 1 0 5 0 [98] [] [])].map GDrawOp.row))), (102, some (.box (n0 + 1) 46 [.r (.int .i64 (1 : Int)), .r (.int .i64 (1 : Int)), .r (.int .i64 (0 : Int)), .r (.int .i64 (5 : Int)), .r (.int .i64 (0 : Int)), .r (.str [98]), .r (.str []), .r (.str [])])), (103, some (.box (n0 + 2) 46 [.r (.int .i64 (1 : Int)), .r (.int .i64 (1 : Int)), .r (.int .i64 (0 : Int)), .r (.int .i64 (5 : Int)), .r (.int .i64 (0 : Int)), .r (.str [98]), .r (.str []), .r (.str [])]))], (n0 + 3), 35⟩) (by exact Weak.cv ⟨.inl (.inl rfl), trivial⟩ ⟨.inl rfl, .inl rfl, .inl rfl, trivial⟩ (Nat.le_refl _)) ?_
  refine AW.region ?_
  refine AOps.step rfl rfl rfl (OpQ.spec (sp_assign rfl (.inl rfl)) _) ?_
  refine AOps.nil ?_
  refine hK28 _ ?_
  refine AW.seq_w fun K29 hK29 wK29 => ?_
  refine AW.seq_w fun K30 hK30 wK30 => ?_
  refine AW.region ?_
  refine AOps.step rfl rfl rfl (OpQ.spec (sp_move rfl (.inl rfl)) _) ?_
  refine AOps.step rfl rfl rfl (OpQ.spec (sp_seql rfl (.inl rfl) (.inl rfl)) _) ?_
  refine AOps.step rfl rfl rfl (OpQ.spec (sp_move rfl (.inl rfl)) _) ?_
  refine AOps.stepGT (.one rfl rfl rfl) rfl rfl rfl (OpQ.spec (sp_move rfl (.inl rfl)) _) ?_
  refine AOps.stepGT (.one rfl rfl rfl) rfl rfl rfl (OpQ.spec (sp_len_str rfl Try.underlying9 (.inl rfl)) _) ?_
  refine AOps.stepGT (.one rfl rfl rfl) rfl rfl rfl (OpQ.spec (sp_gtr rfl (.inl rfl) (.inl rfl)) _) ?_
  refine AOps.step rfl rfl rfl (OpQ.spec (sp_or rfl (.inl rfl) (.inl rfl)) _) ?_
  refine AOps.step rfl rfl rfl (OpQ.spec (sp_move rfl (.inl rfl)) _) ?_
  refine AOps.stepGT (.one rfl rfl rfl) rfl rfl rfl (OpQ.spec (sp_move rfl (.inl rfl)) _) ?_
  refine AOps.stepGT (.one rfl rfl rfl) rfl rfl rfl (OpQ.spec (sp_move rfl (.inl rfl)) _) ?_
  refine AOps.stepGT (.one rfl rfl rfl) rfl rfl rfl (OpQ.spec (sp_len_str rfl Try.underlying9 (.inl rfl)) _) ?_
  have e2 : chk .i64 (0) = some (0 : Int) := by kernel_rfl
  refine AOps.stepGT (.one rfl rfl rfl) rfl rfl rfl (OpQ.spec (ms_sub rfl (.inl rfl) (.inl rfl) (fun _ => e2)) _) ?_
  have e3 : @idx (UInt8) [98] 0 = some (98 : UInt8) := by kernel_rfl
  refine AOps.stepGT (.one rfl rfl rfl) rfl rfl rfl (OpQ.spec (ms_idx_str rfl Try.underlying9 (.inl rfl) (.inl rfl) (fun _ => e3)) _) ?_
  refine AOps.stepGT (.one rfl rfl rfl) rfl rfl rfl (OpQ.spec (sp_eql rfl (.inl rfl) (.inl rfl)) _) ?_
  refine AOps.step rfl rfl rfl (OpQ.spec (sp_or rfl (.inl rfl) (.inl rfl)) _) ?_
  refine AOps.nil ?_
  refine hK30 _ ?_
  refine AW.cond rfl (fun hc7 => by cases hc7) (fun hc7 => ?_)
  refine AW.skip ?_
  refine hK29 _ ?_
  refine AW.seq_w fun K31 hK31 wK31 => ?_
  refine AW.seq_w fun K32 hK32 wK32 => ?_
  refine AW.weak (s' := ⟨[(0, .r (.str [98]))], [(101, some (.arr n0 46 8 ([(GDrawOp.mk 1 1 0 5 0 [98] [] [])].map GDrawOp.row))), (102, some (.box (n0 + 1) 46 [.r (.int .i64 (1 : Int)), .r (.int .i64 (1 : Int)), .r (.int .i64 (0 : Int)), .r (.int .i64 (5 : Int)), .r (.int .i64 (0 : Int)), .r (.str [98]), .r (.str []), .r (.str [])])), (103, some (.box (n0 + 2) 46 [.r (.int .i64 (1 : Int)), .r (.int .i64 (1 : Int)), .r (.int .i64 (0 : Int)), .r (.int .i64 (5 : Int)), .r (.int .i64 (0 : Int)), .r (.str [98]), .r (.str []), .r (.str [])]))], (n0 + 3), 35⟩) (by exact Weak.cv ⟨.inl (.inl rfl), trivial⟩ ⟨.inl rfl, .inl rfl, .inl rfl, trivial⟩ (Nat.le_refl _)) ?_
  refine AW.region ?_
  refine AOps.step rfl rfl rfl (OpQ.spec (sp_move rfl (.inl rfl)) _) ?_
  refine AOps.step rfl rfl rfl (OpQ.spec (sp_len_str rfl Try.underlying9 (.inl rfl)) _) ?_
  refine AOps.step rfl rfl rfl (OpQ.spec (sp_move rfl (.inl rfl)) _) ?_
  refine AOps.nil ?_
  refine hK32 _ ?_
  refine AW.block ?_
  refine AW.loopN 9 ?_
  refine LoopN.step ?_
  refine AW.seq_w fun K33 hK33 wK33 => ?_
  refine AW.region ?_
  refine AOps.step rfl rfl rfl (OpQ.spec (sp_lss rfl (.inl rfl) (.inl rfl)) _) ?_
  refine AOps.nil ?_
  refine hK33 _ ?_
  refine AW.seq_w fun K34 hK34 wK34 => ?_
  refine AW.cond rfl (fun hc8 => ?_) (fun hc8 => by cases hc8)
  refine AW.skip ?_
  refine hK34 _ ?_
  refine AW.seq_w fun K35 hK35 wK35 => ?_
  refine AW.block ?_
  refine AW.seq_w fun K36 hK36 wK36 => ?_
  refine AW.region ?_
  refine AOps.step rfl rfl rfl (OpQ.spec (sp_move rfl (.inl rfl)) _) ?_
  refine AOps.step rfl rfl rfl (OpQ.spec (sp_assign rfl (.inl rfl)) _) ?_
  refine AOps.nil ?_
  refine hK36 _ ?_
  refine AW.seq_w fun K37 hK37 wK37 => ?_
  refine AW.region ?_
  refine AOps.step rfl rfl rfl (OpQ.spec (sp_move rfl (.inl rfl)) _) ?_
  refine AOps.step rfl rfl rfl (OpQ.spec (sp_move rfl (.inl rfl)) _) ?_
  have e4 : @idx (UInt8) [98] 0 = some (98 : UInt8) := by kernel_rfl
  refine AOps.step rfl rfl rfl (OpQ.spec (ms_idx_str rfl Try.underlying9 (.inl rfl) (.inl rfl) (fun _ => e4)) _) ?_
  refine AOps.step rfl rfl rfl (OpQ.spec (sp_lss rfl (.inl rfl) (.inl rfl)) _) ?_
  refine AOps.step rfl rfl rfl (OpQ.spec (sp_move rfl (.inl rfl)) _) ?_
  refine AOps.stepGT (.one rfl rfl rfl) rfl rfl rfl (OpQ.spec (sp_move rfl (.inl rfl)) _) ?_
  refine AOps.stepGT (.one rfl rfl rfl) rfl rfl rfl (OpQ.spec (sp_move rfl (.inl rfl)) _) ?_
  have e5 : @idx (UInt8) [98] 0 = some (98 : UInt8) := by kernel_rfl
  refine AOps.stepGT (.one rfl rfl rfl) rfl rfl rfl (OpQ.spec (ms_idx_str rfl Try.underlying9 (.inl rfl) (.inl rfl) (fun _ => e5)) _) ?_
  refine AOps.stepGT (.one rfl rfl rfl) rfl rfl rfl (OpQ.spec (sp_gtr rfl (.inl rfl) (.inl rfl)) _) ?_
  refine AOps.step rfl rfl rfl (OpQ.spec (sp_or rfl (.inl rfl) (.inl rfl)) _) ?_
  refine AOps.nil ?_
  refine hK37 _ ?_
  refine AW.cond rfl (fun hc9 => by cases hc9) (fun hc9 => ?_)
  refine AW.skip ?_
  refine hK35 _ ?_
  refine AW.weak (s' := ⟨[(0, .r (.str [98])), (20, .r (.int .i64 (1 : Int))), (21, .r (.int .i64 (0 : Int))), (29, .r (.str [98])), (30, .r (.int .i64 (0 : Int))), (31, .r (.int .u8 (98 : Int))), (32, .r (.bool false))], [(101, some (.arr n0 46 8 ([(GDrawOp.mk 1 1 0 5 0 [98] [] [])].map GDrawOp.row))), (102, some (.box (n0 + 1) 46 [.r (.int .i64 (1 : Int)), .r (.int .i64 (1 : Int)), .r (.int .i64 (0 : Int)), .r (.int .i64 (5 : Int)), .r (.int .i64 (0 : Int)), .r (.str [98]), .r (.str []), .r (.str [])])), (103, some (.box (n0 + 2) 46 [.r (.int .i64 (1 : Int)), .r (.int .i64 (1 : Int)), .r (.int .i64 (0 : Int)), .r (.int .i64 (5 : Int)), .r (.int .i64 (0 : Int)), .r (.str [98]), .r (.str []), .r (.str [])]))], (n0 + 3), 35⟩) (by exact Weak.cv ⟨.inl (.inl rfl), .inl (.inl rfl), .inl (.inl rfl), .inl (.inl rfl), .inl (.inl rfl), .inl (.inl rfl), .inl (.inl rfl), trivial⟩ ⟨.inl rfl, .inl rfl, .inl rfl, trivial⟩ (Nat.le_refl _)) ?_
  refine AW.region ?_
  have e6 : chk .i64 (1) = some (1 : Int) := by kernel_rfl
  refine AOps.step rfl rfl rfl (OpQ.spec (ms_add rfl (.inl rfl) (.inl rfl) (fun _ => e6)) _) ?_
  refine AOps.step rfl rfl rfl (OpQ.spec (sp_move rfl (.inl rfl)) _) ?_
  refine AOps.nil ?_
  refine LoopN.step ?_
  refine AW.seq_w fun K38 hK38 wK38 => ?_
  refine AW.region ?_
  refine AOps.step rfl rfl rfl (OpQ.spec (sp_lss rfl (.inl rfl) (.inl rfl)) _) ?_
  refine AOps.nil ?_
  refine hK38 _ ?_
  refine AW.seq_w fun K39 hK39 wK39 => ?_
  refine AW.cond rfl (fun hc10 => by cases hc10) (fun hc10 => ?_)
  refine AW.exit ?_
  refine hK31 _ ?_
  refine AW.seq_w fun K40 hK40 wK40 => ?_
  refine AW.weak (s' := ⟨[], [(101, some (.arr n0 46 8 ([(GDrawOp.mk 1 1 0 5 0 [98] [] [])].map GDrawOp.row))), (102, some (.box (n0 + 1) 46 [.r (.int .i64 (1 : Int)), .r (.int .i64 (1 : Int)), .r (.int .i64 (0 : Int)), .r (.int .i64 (5 : Int)), .r (.int .i64 (0 : Int)), .r (.str [98]), .r (.str []), .r (.str [])])), (103, some (.box (n0 + 2) 46 [.r (.int .i64 (1 : Int)), .r (.int .i64 (1 : Int)), .r (.int .i64 (0 : Int)), .r (.int .i64 (5 : Int)), .r (.int .i64 (0 : Int)), .r (.str [98]), .r (.str []), .r (.str [])]))], (n0 + 3), 35⟩) (by exact Weak.cv trivial ⟨.inl rfl, .inl rfl, .inl rfl, trivial⟩ (Nat.le_refl _)) ?_
  refine AW.region ?_
  refine AOps.step rfl rfl rfl (OpQ.spec (sp_assign rfl (.inl rfl)) _) ?_
  refine AOps.nil ?_
  refine hK40 _ ?_
  refine AW.ret ?_
  refine RetI.intro (.r (.bool true)) (rfl) ?_
  refine hK27 _ _ _ ?_
  refine AOps.stepGT (.one rfl rfl rfl) rfl rfl rfl (OpQ.spec (sp_not rfl (.inl rfl)) _) ?_
  refine AOps.step rfl rfl rfl (OpQ.spec (sp_and rfl (.inl rfl) (.inl rfl)) _) ?_
  refine AOps.step rfl rfl rfl (OpQ.spec (sp_assign rfl (.inl rfl)) _) ?_
  refine AOps.nil ?_
  refine hK26 _ ?_
  refine AW.cond rfl (fun hc11 => by cases hc11) (fun hc11 => ?_)
  refine AW.weak (s' := ⟨[(1, .ptr 103 (n0 + 2) 0 0)], [(101, some (.arr n0 46 8 ([(GDrawOp.mk 1 1 0 5 0 [98] [] [])].map GDrawOp.row))), (102, some (.box (n0 + 1) 46 [.r (.int .i64 (1 : Int)), .r (.int .i64 (1 : Int)), .r (.int .i64 (0 : Int)), .r (.int .i64 (5 : Int)), .r (.int .i64 (0 : Int)), .r (.str [98]), .r (.str []), .r (.str [])])), (103, some (.box (n0 + 2) 46 [.r (.int .i64 (1 : Int)), .r (.int .i64 (1 : Int)), .r (.int .i64 (0 : Int)), .r (.int .i64 (5 : Int)), .r (.int .i64 (0 : Int)), .r (.str [98]), .r (.str []), .r (.str [])]))], (n0 + 3), 116⟩) (by exact Weak.cv ⟨.inl (.inl rfl), trivial⟩ ⟨.inl rfl, .inl rfl, .inl rfl, trivial⟩ (Nat.le_refl _)) ?_
  refine AW.region ?_
  refine AOps.step rfl rfl rfl (OpQ.spec (sp_fieldAddr_own (ob := .box _ _ _) rfl tf_46_2 (.inl rfl) (fun _ => rfl) rfl) _) ?_
  refine AOps.step rfl rfl rfl (OpQ.spec (ms_load_box (a := .r (.int .i64 (0 : Int))) rfl ts_3 (.inl rfl) rfl rfl) _) ?_
  refine AOps.step rfl rfl rfl (OpQ.spec (sp_eql rfl (.inl rfl) (.inl rfl)) _) ?_
  refine AOps.step rfl rfl rfl (OpQ.spec (sp_move rfl (.inl rfl)) _) ?_
  refine AOps.stepW (.one rfl rfl rfl) rfl rfl (OpQ.spec (OpQ.no (v := .any) rfl) _) ?_
  refine AOps.stepW (.one rfl rfl rfl) rfl rfl (OpQ.spec (OpQ.no (v := .any) rfl) _) ?_
  refine AOps.stepW (.one rfl rfl rfl) rfl rfl (OpQ.spec (OpQ.no (v := .r (.bool false)) rfl) _) ?_
  refine AOps.stepW (.one rfl rfl rfl) rfl rfl (OpQ.spec (OpQ.no (v := .r (.bool false)) rfl) _) ?_
  refine AOps.step rfl rfl rfl (OpQ.spec (sp_and rfl (.inl rfl) (.inr ⟨_, (by exact id), rfl⟩)) _) ?_
  refine AOps.step rfl rfl rfl (OpQ.spec (sp_assign rfl (.inl rfl)) _) ?_
  refine AOps.nil ?_
  refine hK25 _ ?_
  refine AW.cond rfl (fun hc12 => by cases hc12) (fun hc12 => ?_)
  refine AW.seq_w fun K41 hK41 wK41 => ?_
  refine AW.weak (s' := ⟨[(1, .ptr 103 (n0 + 2) 0 0)], [(101, some (.arr n0 46 8 ([(GDrawOp.mk 1 1 0 5 0 [98] [] [])].map GDrawOp.row))), (102, some (.box (n0 + 1) 46 [.r (.int .i64 (1 : Int)), .r (.int .i64 (1 : Int)), .r (.int .i64 (0 : Int)), .r (.int .i64 (5 : Int)), .r (.int .i64 (0 : Int)), .r (.str [98]), .r (.str []), .r (.str [])])), (103, some (.box (n0 + 2) 46 [.r (.int .i64 (1 : Int)), .r (.int .i64 (1 : Int)), .r (.int .i64 (0 : Int)), .r (.int .i64 (5 : Int)), .r (.int .i64 (0 : Int)), .r (.str [98]), .r (.str []), .r (.str [])]))], (n0 + 3), 116⟩) (by exact Weak.cv ⟨.inl (.inl rfl), trivial⟩ ⟨.inl rfl, .inl rfl, .inl rfl, trivial⟩ (Nat.le_refl _)) ?_
  refine AW.region ?_
  refine AOps.step rfl rfl rfl (OpQ.spec (sp_fieldAddr_own (ob := .box _ _ _) rfl tf_46_2 (.inl rfl) (fun _ => rfl) rfl) _) ?_
  refine AOps.step rfl rfl rfl (OpQ.spec (ms_load_box (a := .r (.int .i64 (0 : Int))) rfl ts_3 (.inl rfl) rfl rfl) _) ?_
  refine AOps.step rfl rfl rfl (OpQ.spec (sp_eql rfl (.inl rfl) (.inl rfl)) _) ?_
  refine AOps.step rfl rfl rfl (OpQ.spec (sp_move rfl (.inl rfl)) _) ?_
  refine AOps.stepW (.one rfl rfl rfl) rfl rfl (OpQ.spec (OpQ.no (v := .any) rfl) _) ?_
  refine AOps.stepW (.one rfl rfl rfl) rfl rfl (OpQ.spec (OpQ.no (v := .any) rfl) _) ?_
  refine AOps.stepW (.one rfl rfl rfl) rfl rfl (OpQ.spec (OpQ.no (v := .r (.bool false)) rfl) _) ?_
  refine AOps.step rfl rfl rfl (OpQ.spec (sp_and rfl (.inl rfl) (.inr ⟨_, (by exact id), rfl⟩)) _) ?_
  refine AOps.step rfl rfl rfl (OpQ.spec (sp_move rfl (.inl rfl)) _) ?_
  refine AOps.stepW (.one rfl rfl rfl) rfl rfl (OpQ.spec (OpQ.no (v := .any) rfl) _) ?_
  refine AOps.stepW (.one rfl rfl rfl) rfl rfl (OpQ.spec (OpQ.no (v := .any) rfl) _) ?_
  refine AOps.stepW (.one rfl rfl rfl) rfl rfl (OpQ.spec (OpQ.no (v := .r (.bool false)) rfl) _) ?_
  refine AOps.stepW (.one rfl rfl rfl) rfl rfl (OpQ.spec (OpQ.no (v := .r (.bool false)) rfl) _) ?_
  refine AOps.step rfl rfl rfl (OpQ.spec (sp_and rfl (.inl rfl) (.inr ⟨_, (by exact id), rfl⟩)) _) ?_
  refine AOps.step rfl rfl rfl (OpQ.spec (sp_assign rfl (.inl rfl)) _) ?_
  refine AOps.nil ?_
  refine hK41 _ ?_
  refine AW.cond rfl (fun hc13 => by cases hc13) (fun hc13 => ?_)
  refine AW.skip ?_
  refine hK19 _ ?_
  refine AW.seq_w fun K42 hK42 wK42 => ?_
  refine AW.weak (s' := ⟨[], [(101, some (.arr n0 46 8 ([(GDrawOp.mk 1 1 0 5 0 [98] [] [])].map GDrawOp.row))), (102, some (.box (n0 + 1) 46 [.r (.int .i64 (1 : Int)), .r (.int .i64 (1 : Int)), .r (.int .i64 (0 : Int)), .r (.int .i64 (5 : Int)), .r (.int .i64 (0 : Int)), .r (.str [98]), .r (.str []), .r (.str [])]))], (n0 + 3), 116⟩) (by exact Weak.cv trivial ⟨.inl rfl, .inl rfl, trivial⟩ (Nat.le_refl _)) ?_
  refine AW.region ?_
  refine AOps.step rfl rfl rfl (OpQ.spec (sp_assign rfl (.inl rfl)) _) ?_
  refine AOps.nil ?_
  refine hK42 _ ?_
  refine AW.ret ?_
  refine RetI.intro (.r (.int .i64 (0 : Int))) (rfl) ?_
  refine hK17 _ _ _ ?_
  refine AOps.step rfl rfl rfl (OpQ.spec (sp_assign rfl (.inl rfl)) _) ?_
  refine AOps.nil ?_
  refine hK16 _ ?_
  refine AW.seq_w fun K43 hK43 wK43 => ?_
  refine AW.region ?_
  refine AOps.step rfl rfl rfl (OpQ.spec (sp_move rfl (.inl rfl)) _) ?_
  refine AOps.step rfl rfl rfl (OpQ.spec (sp_neq rfl (.inl rfl) (.inl rfl)) _) ?_
  refine AOps.nil ?_
  refine hK43 _ ?_
  refine AW.cond rfl (fun hc14 => by cases hc14) (fun hc14 => ?_)
  refine AW.skip ?_
  refine hK15 _ ?_
  refine AW.seq_w fun K44 hK44 wK44 => ?_
  refine AW.weak (s' := ⟨[(0, .own 101 n0), (3, .r (.int .i64 (0 : Int))), (4, .ptr 102 (n0 + 1) 0 0), (6, .own 101 n0), (7, .r (.int .i64 (1 : Int))), (8, .r (.int .i64 (0 : Int)))], [(101, some (.arr n0 46 8 ([(GDrawOp.mk 1 1 0 5 0 [98] [] [])].map GDrawOp.row))), (102, some (.box (n0 + 1) 46 [.r (.int .i64 (1 : Int)), .r (.int .i64 (1 : Int)), .r (.int .i64 (0 : Int)), .r (.int .i64 (5 : Int)), .r (.int .i64 (0 : Int)), .r (.str [98]), .r (.str []), .r (.str [])]))], (n0 + 3), 31⟩) (by exact Weak.cv ⟨.inl (.inl rfl), .inl (.inl rfl), .inl (.inl rfl), .inl (.inl rfl), .inl (.inl rfl), .inl (.inl rfl), trivial⟩ ⟨.inl rfl, .inl rfl, trivial⟩ (Nat.le_refl _)) ?_
  refine AW.regionT 9 hmix (by kernel_rfl) rfl rfl ?_
  refine AT.step rfl rfl rfl (sp_move rfl (.inl rfl)) ?_
  refine AT.step rfl rfl rfl (sp_gtr rfl (.inl rfl) (.inl rfl)) ?_
  refine AT.step rfl rfl rfl (sp_move rfl (.inl rfl)) ?_
  refine AT.stepW (.one rfl rfl rfl) rfl rfl (OpQ.no (v := .any) rfl) ?_
  refine AT.stepW (.one rfl rfl rfl) rfl rfl (OpQ.no (v := .any) rfl) ?_
  refine AT.stepW (.one rfl rfl rfl) rfl rfl (OpQ.no (v := .any) rfl) ?_
  refine AT.stepW (.one rfl rfl rfl) rfl rfl (OpQ.no (v := .any) rfl) ?_
  refine AT.stepW (.one rfl rfl rfl) rfl rfl (OpQ.no (v := .any) rfl) ?_
  refine AT.stepW (.one rfl rfl rfl) rfl rfl (OpQ.no (v := .any) rfl) ?_
  refine AT.nil ?_
  refine AOps.stepW (.one rfl rfl rfl) rfl rfl (OpQ.spec (OpQ.no (v := .any) rfl) _) ?_
  refine AOps.stepW (.one rfl rfl rfl) rfl rfl (OpQ.spec (OpQ.no (v := .r (.bool false)) rfl) _) ?_
  refine AOps.step rfl rfl rfl (OpQ.spec (sp_and rfl (.inl rfl) (.inr ⟨_, (by exact id), rfl⟩)) _) ?_
  refine AOps.nil ?_
  refine hK44 _ ?_
  refine AW.cond rfl (fun hc15 => by cases hc15) (fun hc15 => ?_)
  refine AW.skip ?_
  refine hK13 _ ?_
  refine AW.weak (s' := ⟨[(0, .own 101 n0), (6, .own 101 n0), (7, .r (.int .i64 (1 : Int))), (8, .r (.int .i64 (0 : Int)))], [(101, some (.arr n0 46 8 ([(GDrawOp.mk 1 1 0 5 0 [98] [] [])].map GDrawOp.row)))], (n0 + 3), 31⟩) (by exact Weak.cv ⟨.inl (.inl rfl), .inl (.inl rfl), .inl (.inl rfl), .inl (.inl rfl), trivial⟩ ⟨.inl rfl, trivial⟩ (Nat.le_refl _)) ?_
  refine AW.region ?_
  have e7 : chk .i64 (1) = some (1 : Int) := by kernel_rfl
  refine AOps.step rfl rfl rfl (OpQ.spec (ms_add rfl (.inl rfl) (.inl rfl) (fun _ => e7)) _) ?_
  refine AOps.step rfl rfl rfl (OpQ.spec (sp_move rfl (.inl rfl)) _) ?_
  refine AOps.nil ?_
  refine LoopN.step ?_
  refine AW.seq_w fun K45 hK45 wK45 => ?_
  refine AW.region ?_
  refine AOps.step rfl rfl rfl (OpQ.spec (sp_lss rfl (.inl rfl) (.inl rfl)) _) ?_
  refine AOps.nil ?_
  refine hK45 _ ?_
  refine AW.seq_w fun K46 hK46 wK46 => ?_
  refine AW.cond rfl (fun hc16 => by cases hc16) (fun hc16 => ?_)
  refine AW.exit ?_
  refine hK9 _ ?_
  refine AW.seq_w fun K47 hK47 wK47 => ?_
  refine AW.region ?_
  refine AOps.step rfl rfl rfl (OpQ.spec (sp_assign rfl (.inl rfl)) _) ?_
  refine AOps.nil ?_
  refine hK47 _ ?_
  refine AW.ret ?_
  refine RetI.intro (.r (.int .i64 (0 : Int))) (rfl) ?_
  refine hK7 _ _ _ ?_
  refine AOps.step rfl rfl rfl (OpQ.spec (sp_assign rfl (.inl rfl)) _) ?_
  refine AOps.nil ?_
  refine hK6 _ ?_
  refine AW.seq_w fun K48 hK48 wK48 => ?_
  refine AW.region ?_
  refine AOps.step rfl rfl rfl (OpQ.spec (sp_move rfl (.inl rfl)) _) ?_
  refine AOps.step rfl rfl rfl (OpQ.spec (sp_neq rfl (.inl rfl) (.inl rfl)) _) ?_
  refine AOps.nil ?_
  refine hK48 _ ?_
  refine AW.cond rfl (fun hc17 => by cases hc17) (fun hc17 => ?_)
  refine AW.skip ?_
  refine hK5 _ ?_
  refine AW.seq_w fun K49 hK49 wK49 => ?_
  refine AW.region ?_
  refine AOps.step rfl rfl rfl (OpQ.spec (sp_move rfl (.inl rfl)) _) ?_
  refine AOps.stepIk [] [.own 101 n0] rfl rfl rfl rfl (.inl rfl) (by exact ⟨(.inl rfl), trivial⟩) Try.func26 rfl rfl Try.ntmps26 rfl fun K50 hK50 => ?_
  refine AW.seq_w fun K51 hK51 wK51 => ?_
  refine AW.weak (s' := ⟨[(0, .own 101 n0)], [(101, some (.arr n0 46 8 ([(GDrawOp.mk 1 1 0 5 0 [98] [] [])].map GDrawOp.row)))], (n0 + 3), 80⟩) (by exact Weak.cv ⟨.inl (.inl rfl), trivial⟩ ⟨.inl rfl, trivial⟩ (Nat.le_refl _)) ?_
  refine AW.region ?_
  refine AOps.step rfl rfl rfl (OpQ.spec (sp_assign rfl (.inl rfl)) _) ?_
  refine AOps.nil ?_
  refine hK51 _ ?_
  refine AW.seq_w fun K52 hK52 wK52 => ?_
  refine AW.region ?_
  refine AOps.step rfl rfl rfl (OpQ.spec (sp_move rfl (.inl rfl)) _) ?_
  refine AOps.stepIk [] [.own 101 n0] rfl rfl rfl rfl (.inl rfl) (by exact ⟨(.inl rfl), trivial⟩) Try.func37 rfl rfl Try.ntmps37 rfl fun K53 hK53 => ?_
  refine AW.seq_w fun K54 hK54 wK54 => ?_
  refine AW.weak (s' := ⟨[(0, .own 101 n0)], [(101, some (.arr n0 46 8 ([(GDrawOp.mk 1 1 0 5 0 [98] [] [])].map GDrawOp.row)))], (n0 + 3), 64⟩) (by exact Weak.cv ⟨.inl (.inl rfl), trivial⟩ ⟨.inl rfl, trivial⟩ (Nat.le_refl _)) ?_
  refine AW.region ?_
  refine AOps.step rfl rfl rfl (OpQ.spec (sp_assign rfl (.inl rfl)) _) ?_
  refine AOps.nil ?_
  refine hK54 _ ?_
  refine AW.seq_w fun K55 hK55 wK55 => ?_
  refine AW.region ?_
  refine AOps.step rfl rfl rfl (ms_makeMap 104 rfl) ?_
  refine AOps.step rfl rfl rfl (ms_makeMap 105 rfl) ?_
  refine AOps.step rfl rfl rfl (OpQ.spec (sp_build rfl tb_76 (q := [(0, _), (1, _)]) (by exact ⟨rfl, rfl, rfl, (.inl rfl), rfl, rfl, rfl, (.inl rfl), trivial⟩) (cs := [.mref 104 (n0 + 3), .mref 105 (n0 + 4)]) (by rfl)) _) ?_
  refine AOps.step rfl rfl rfl (ms_box (cs := [.mref 104 (n0 + 3), .mref 105 (n0 + 4)]) 106 rfl (.inl rfl) rfl rfl) ?_
  refine AOps.step rfl rfl rfl (OpQ.spec (sp_assign rfl (.inl rfl)) _) ?_
  refine AOps.nil ?_
  refine hK55 _ ?_
  refine AW.seq_w fun K56 hK56 wK56 => ?_
  refine AW.seq_w fun K57 hK57 wK57 => ?_
  refine AW.region ?_
  refine AOps.step rfl rfl rfl (OpQ.spec (sp_move rfl (.inl rfl)) _) ?_
  refine AOps.step rfl rfl rfl (OpQ.spec (ms_len_own rfl tg_22.slice (.inl rfl) rfl) _) ?_
  refine AOps.step rfl rfl rfl (OpQ.spec (sp_move rfl (.inl rfl)) _) ?_
  refine AOps.nil ?_
  refine hK57 _ ?_
  refine AW.block ?_
  refine AW.loopN 9 ?_
  refine LoopN.step ?_
  refine AW.seq_w fun K58 hK58 wK58 => ?_
  refine AW.region ?_
  refine AOps.step rfl rfl rfl (OpQ.spec (sp_lss rfl (.inl rfl) (.inl rfl)) _) ?_
  refine AOps.nil ?_
  refine hK58 _ ?_
  refine AW.seq_w fun K59 hK59 wK59 => ?_
  refine AW.cond rfl (fun hc18 => ?_) (fun hc18 => by cases hc18)
  refine AW.skip ?_
  refine hK59 _ ?_
  refine AW.seq_w fun K60 hK60 wK60 => ?_
  refine AW.block ?_
  refine AW.seq_w fun K61 hK61 wK61 => ?_
  refine AW.region ?_
  have e8 : @idx (GDrawOp) [(GDrawOp.mk 1 1 0 5 0 [98] [] [])] 0 = some (GDrawOp.mk 1 1 0 5 0 [98] [] []) := by kernel_rfl
  refine AOps.step rfl rfl rfl (OpQ.spec (ms_idx_own rfl tg_22.slice (.inl rfl) rfl (.inl rfl) (fun _ => e8)) _) ?_
  refine AOps.step rfl rfl rfl (OpQ.spec (ms_loadA_own (cs := [.r (.int .i64 ((GDrawOp.mk 1 1 0 5 0 [98] [] []).Clock)), .r (.int .i64 ((GDrawOp.mk 1 1 0 5 0 [98] [] []).Site)), .r (.int .i64 ((GDrawOp.mk 1 1 0 5 0 [98] [] []).Kind)), .r (.int .i64 ((GDrawOp.mk 1 1 0 5 0 [98] [] []).Item)), .r (.int .i64 ((GDrawOp.mk 1 1 0 5 0 [98] [] []).Parent)), .r (.str ((GDrawOp.mk 1 1 0 5 0 [98] [] []).Place)), .r (.str ((GDrawOp.mk 1 1 0 5 0 [98] [] []).Name)), .r (.str ((GDrawOp.mk 1 1 0 5 0 [98] [] []).Value))]) rfl ta_46 (.inl rfl) (fun _ => rfl) (fun _ => e8) rfl) _) ?_
  refine AOps.step rfl rfl rfl (ms_alloc (cs := [.r (.int .i64 (0 : Int)), .r (.int .i64 (0 : Int)), .r (.int .i64 (0 : Int)), .r (.int .i64 (0 : Int)), .r (.int .i64 (0 : Int)), .r (.str []), .r (.str []), .r (.str [])]) 107 rfl t0_46 rfl rfl) ?_
  refine AOps.step0 rfl rfl (ms_store_box (ds := [.r (.int .i64 (1 : Int)), .r (.int .i64 (1 : Int)), .r (.int .i64 (0 : Int)), .r (.int .i64 (5 : Int)), .r (.int .i64 (0 : Int)), .r (.str [98]), .r (.str []), .r (.str [])]) rfl tz_46 (.inl rfl) rfl (.inl rfl) rfl rfl rfl rfl) ?_
  refine AOps.nil ?_
  refine hK61 _ ?_
  refine AW.block ?_
  refine AW.seq_w fun K62 hK62 wK62 => ?_
  refine AW.weak (s' := ⟨[(3, .ptr 106 (n0 + 5) 0 0), (5, .ptr 107 (n0 + 6) 0 0), (10, .own 101 n0), (11, .r (.int .i64 (1 : Int))), (12, .r (.int .i64 (0 : Int)))], [(101, some (.arr n0 46 8 ([(GDrawOp.mk 1 1 0 5 0 [98] [] [])].map GDrawOp.row))), (104, some (.mp (n0 + 3) [] [] 0)), (105, some (.mp (n0 + 4) [] [] 0)), (106, some (.box (n0 + 5) 76 [.mref 104 (n0 + 3), .mref 105 (n0 + 4)])), (107, some (.box (n0 + 6) 46 [.r (.int .i64 (1 : Int)), .r (.int .i64 (1 : Int)), .r (.int .i64 (0 : Int)), .r (.int .i64 (5 : Int)), .r (.int .i64 (0 : Int)), .r (.str [98]), .r (.str []), .r (.str [])]))], (n0 + 7), 64⟩) (by exact Weak.cv ⟨.inl (.inl rfl), .inl (.inl rfl), .inl (.inl rfl), .inl (.inl rfl), .inl (.inl rfl), trivial⟩ ⟨.inl rfl, .inl rfl, .inl rfl, .inl rfl, .inl rfl, trivial⟩ (Nat.le_refl _)) ?_
  refine AW.region ?_
  refine AOps.step rfl rfl rfl (OpQ.spec (sp_fieldAddr_own (ob := .box _ _ _) rfl tf_46_2 (.inl rfl) (fun _ => rfl) rfl) _) ?_
  refine AOps.step rfl rfl rfl (OpQ.spec (ms_load_box (a := .r (.int .i64 (0 : Int))) rfl ts_3 (.inl rfl) rfl rfl) _) ?_
  refine AOps.step rfl rfl rfl (OpQ.spec (sp_eql rfl (.inl rfl) (.inl rfl)) _) ?_
  refine AOps.step rfl rfl rfl (OpQ.spec (sp_assign rfl (.inl rfl)) _) ?_
  refine AOps.nil ?_
  refine hK62 _ ?_
  refine AW.cond rfl (fun hc19 => by cases hc19) (fun hc19 => ?_)
  refine AW.seq_w fun K63 hK63 wK63 => ?_
  refine AW.region ?_
  refine AOps.step rfl rfl rfl (OpQ.spec (sp_move rfl (.inl rfl)) _) ?_
  refine AOps.step rfl rfl rfl (OpQ.spec (sp_fieldAddr_own (ob := .box _ _ _) rfl tf_46_4 (.inl rfl) (fun _ => rfl) rfl) _) ?_
  refine AOps.step rfl rfl rfl (OpQ.spec (ms_load_box (a := .r (.int .i64 (0 : Int))) rfl ts_3 (.inl rfl) rfl rfl) _) ?_
  refine AOps.step rfl rfl rfl (OpQ.spec (sp_fieldAddr_own (ob := .box _ _ _) rfl tf_46_3 (.inl rfl) (fun _ => rfl) rfl) _) ?_
  refine AOps.step rfl rfl rfl (OpQ.spec (ms_load_box (a := .r (.int .i64 (5 : Int))) rfl ts_3 (.inl rfl) rfl rfl) _) ?_
  refine AOps.stepIk [] [.ptr 106 (n0 + 5) 0 0, .r (.int .i64 (0 : Int)), .r (.int .i64 (5 : Int))] rfl rfl rfl rfl (.inl rfl) (by exact ⟨(.inl rfl), (.inl rfl), (.inl rfl), trivial⟩) Try.func57 rfl rfl Try.ntmps57 rfl fun K64 hK64 => ?_
  refine AW.seq_w fun K65 hK65 wK65 => ?_
  refine AW.weak (s' := ⟨[(0, .ptr 106 (n0 + 5) 0 0), (1, .r (.int .i64 (0 : Int))), (2, .r (.int .i64 (5 : Int)))], [(101, some (.arr n0 46 8 ([(GDrawOp.mk 1 1 0 5 0 [98] [] [])].map GDrawOp.row))), (104, some (.mp (n0 + 3) [] [] 0)), (105, some (.mp (n0 + 4) [] [] 0)), (106, some (.box (n0 + 5) 76 [.mref 104 (n0 + 3), .mref 105 (n0 + 4)])), (107, some (.box (n0 + 6) 46 [.r (.int .i64 (1 : Int)), .r (.int .i64 (1 : Int)), .r (.int .i64 (0 : Int)), .r (.int .i64 (5 : Int)), .r (.int .i64 (0 : Int)), .r (.str [98]), .r (.str []), .r (.str [])]))], (n0 + 7), 29⟩) (by exact Weak.cv ⟨.inl (.inl rfl), .inl (.inl rfl), .inl (.inl rfl), trivial⟩ ⟨.inl rfl, .inl rfl, .inl rfl, .inl rfl, .inl rfl, trivial⟩ (Nat.le_refl _)) ?_
  refine AW.region ?_
  refine AOps.step rfl rfl rfl (OpQ.spec (sp_assign rfl (.inl rfl)) _) ?_
  refine AOps.nil ?_
  refine hK65 _ ?_
  refine AW.seq_w fun K66 hK66 wK66 => ?_
  refine AW.block ?_
  refine AW.loopN 9 ?_
  refine LoopN.step ?_
  refine AW.seq_w fun K67 hK67 wK67 => ?_
  refine AW.seq_w fun K68 hK68 wK68 => ?_
  refine AW.region ?_
  refine AOps.step rfl rfl rfl (OpQ.spec (sp_move rfl (.inl rfl)) _) ?_
  refine AOps.step rfl rfl rfl (OpQ.spec (sp_gtr rfl (.inl rfl) (.inl rfl)) _) ?_
  refine AOps.nil ?_
  refine hK68 _ ?_
  refine AW.cond rfl (fun hc20 => by cases hc20) (fun hc20 => ?_)
  refine AW.exit ?_
  refine hK66 _ ?_
  refine AW.seq_w fun K69 hK69 wK69 => ?_
  refine AW.region ?_
  refine AOps.step rfl rfl rfl (OpQ.spec (sp_assign rfl (.inl rfl)) _) ?_
  refine AOps.nil ?_
  refine hK69 _ ?_
  refine AW.ret ?_
  refine RetI.intro (.r (.bool false)) (rfl) ?_
  refine hK64 _ _ _ ?_
  refine AOps.step rfl rfl rfl (OpQ.spec (sp_not rfl (.inl rfl)) _) ?_
  refine AOps.step rfl rfl rfl (OpQ.spec (sp_assign rfl (.inl rfl)) _) ?_
  refine AOps.nil ?_
  refine hK63 _ ?_
  refine AW.cond rfl (fun hc21 => ?_) (fun hc21 => by cases hc21)
  refine AW.weak (s' := ⟨[(3, .ptr 106 (n0 + 5) 0 0), (5, .ptr 107 (n0 + 6) 0 0), (10, .own 101 n0), (11, .r (.int .i64 (1 : Int))), (12, .r (.int .i64 (0 : Int)))], [(101, some (.arr n0 46 8 ([(GDrawOp.mk 1 1 0 5 0 [98] [] [])].map GDrawOp.row))), (104, some (.mp (n0 + 3) [] [] 0)), (105, some (.mp (n0 + 4) [] [] 0)), (106, some (.box (n0 + 5) 76 [.mref 104 (n0 + 3), .mref 105 (n0 + 4)])), (107, some (.box (n0 + 6) 46 [.r (.int .i64 (1 : Int)), .r (.int .i64 (1 : Int)), .r (.int .i64 (0 : Int)), .r (.int .i64 (5 : Int)), .r (.int .i64 (0 : Int)), .r (.str [98]), .r (.str []), .r (.str [])]))], (n0 + 7), 64⟩) (by exact Weak.cv ⟨.inl (.inl rfl), .inl (.inl rfl), .inl (.inl rfl), .inl (.inl rfl), .inl (.inl rfl), trivial⟩ ⟨.inl rfl, .inl rfl, .inl rfl, .inl rfl, .inl rfl, trivial⟩ (Nat.le_refl _)) ?_
  refine AW.regionF' [] [0, 1, 2, 3, 4, 5, 6, 7, 8, 9, 10, 11, 12] [13] 14 hmix (by kernel_rfl) rfl rfl rfl rfl rfl ?_
  refine AFl.nil ?_
  refine AF.step rfl rfl rfl (sp_move rfl (.inl rfl)) ?_
  refine AF.step rfl rfl rfl (sp_nilCheck_own (ob := .box _ _ _) rfl (.inl rfl) (fun _ => rfl) rfl) ?_
  refine AF.step rfl rfl rfl (sp_fieldAddr_own (ob := .box _ _ _) rfl tf_76_0 (.inl rfl) (fun _ => rfl) rfl) ?_
  refine AF.step rfl rfl rfl (ms_load_box (a := .mref 104 (n0 + 3)) rfl ts_73 (.inl rfl) rfl rfl) ?_
  refine AF.step rfl rfl rfl (sp_fieldAddr_own (ob := .box _ _ _) rfl tf_46_3 (.inl rfl) (fun _ => rfl) rfl) ?_
  refine AF.step rfl rfl rfl (ms_load_box (a := .r (.int .i64 (5 : Int))) rfl ts_3 (.inl rfl) rfl rfl) ?_
  refine AF.step rfl rfl rfl (sp_fieldAddr_own (ob := .box _ _ _) rfl tf_46_3 (.inl rfl) (fun _ => rfl) rfl) ?_
  refine AF.step rfl rfl rfl (ms_load_box (a := .r (.int .i64 (5 : Int))) rfl ts_3 (.inl rfl) rfl rfl) ?_
  refine AF.step rfl rfl rfl (sp_fieldAddr_own (ob := .box _ _ _) rfl tf_46_4 (.inl rfl) (fun _ => rfl) rfl) ?_
  refine AF.step rfl rfl rfl (ms_load_box (a := .r (.int .i64 (0 : Int))) rfl ts_3 (.inl rfl) rfl rfl) ?_
  refine AF.step rfl rfl rfl (sp_fieldAddr_own (ob := .box _ _ _) rfl tf_46_5 (.inl rfl) (fun _ => rfl) rfl) ?_
  refine AF.step rfl rfl rfl (ms_load_box (a := .r (.str [98])) rfl ts_9 (.inl rfl) rfl rfl) ?_
  refine AF.step rfl rfl rfl (sp_build rfl tb_55 (q := [(0, _), (1, _), (2, _)]) (by exact ⟨rfl, rfl, rfl, (.inl rfl), rfl, rfl, rfl, (.inl rfl), rfl, rfl, rfl, (.inl rfl), trivial⟩) (cs := [.r (.int .i64 (5 : Int)), .r (.int .i64 (0 : Int)), .r (.str [98]), .cst (.slice none 0 0)]) (by rfl)) ?_
  refine AF.nil ?_
  refine AA.step rfl rfl rfl (msA_box (cs := [.r (.int .i64 (5 : Int)), .r (.int .i64 (0 : Int)), .r (.str [98]), .cst (.slice none 0 0)]) 108 rfl (.inl rfl) rfl rfl) ?_
  refine AA.nil ?_
  refine AOps.step0 rfl rfl (ms_mapUpdate_new (.inl rfl) Try.underlying73 Try.underlying3 (.inl rfl) (.inl rfl) (.inl rfl) rfl rfl) ?_
  refine AOps.nil ?_
  refine hK60 _ ?_
  refine AW.weak (s' := ⟨[(3, .ptr 106 (n0 + 5) 0 0), (10, .own 101 n0), (11, .r (.int .i64 (1 : Int))), (12, .r (.int .i64 (0 : Int)))], [(101, some (.arr n0 46 8 ([(GDrawOp.mk 1 1 0 5 0 [98] [] [])].map GDrawOp.row))), (104, some (.mp (n0 + 3) [(5, 0)] [.ptr 108 (n0 + 7) 0 0] 1)), (105, some (.mp (n0 + 4) [] [] 0)), (106, some (.box (n0 + 5) 76 [.mref 104 (n0 + 3), .mref 105 (n0 + 4)])), (108, some (.box (n0 + 7) 55 [.r (.int .i64 (5 : Int)), .r (.int .i64 (0 : Int)), .r (.str [98]), .cst (.slice none 0 0)]))], (n0 + 8), 64⟩) (by exact Weak.cv ⟨.inl (.inl rfl), .inl (.inl rfl), .inl (.inl rfl), .inl (.inl rfl), trivial⟩ ⟨.inl rfl, .inl rfl, .inl rfl, .inl rfl, .inl rfl, trivial⟩ (Nat.le_refl _)) ?_
  refine AW.region ?_
  have e9 : chk .i64 (1) = some (1 : Int) := by kernel_rfl
  refine AOps.step rfl rfl rfl (OpQ.spec (ms_add rfl (.inl rfl) (.inl rfl) (fun _ => e9)) _) ?_
  refine AOps.step rfl rfl rfl (OpQ.spec (sp_move rfl (.inl rfl)) _) ?_
  refine AOps.nil ?_
  refine LoopN.step ?_
  refine AW.seq_w fun K70 hK70 wK70 => ?_
  refine AW.region ?_
  refine AOps.step rfl rfl rfl (OpQ.spec (sp_lss rfl (.inl rfl) (.inl rfl)) _) ?_
  refine AOps.nil ?_
  refine hK70 _ ?_
  refine AW.seq_w fun K71 hK71 wK71 => ?_
  refine AW.cond rfl (fun hc22 => by cases hc22) (fun hc22 => ?_)
  refine AW.exit ?_
  refine hK56 _ ?_
  refine AW.seq_w fun K72 hK72 wK72 => ?_
  refine AW.region ?_
  refine AOps.step rfl rfl rfl (OpQ.spec (sp_move rfl (.inl rfl)) _) ?_
  refine AOps.step rfl rfl rfl (OpQ.spec (sp_assign rfl (.inl rfl)) _) ?_
  refine AOps.nil ?_
  refine hK72 _ ?_
  refine AW.ret ?_
  refine RetI.intro (.ptr 106 (n0 + 5) 0 0) (rfl) ?_
  refine hK53 _ _ _ ?_
  refine AOps.step rfl rfl rfl (OpQ.spec (sp_assign rfl (.inl rfl)) _) ?_
  refine AOps.nil ?_
  refine hK52 _ ?_
  refine AW.seq_w fun K73 hK73 wK73 => ?_
  refine AW.region ?_
  refine AOps.step rfl rfl rfl (ms_makeMap 109 rfl) ?_
  refine AOps.step rfl rfl rfl (ms_alloc (cs := [.cst (.map none)]) 110 rfl t0_82 rfl rfl) ?_
  refine AOps.step0 rfl rfl (ms_store_box (ds := [.mref 109 (n0 + 8)]) rfl tz_82 (.inl rfl) rfl (.inl rfl) rfl rfl rfl rfl) ?_
  refine AOps.nil ?_
  refine hK73 _ ?_
  refine AW.seq_w fun K74 hK74 wK74 => ?_
  refine AW.region ?_
  refine AOps.step rfl rfl rfl (OpQ.spec (sp_assign rfl (.inl rfl)) _) ?_
  refine AOps.nil ?_
  refine hK74 _ ?_
  refine AW.seq_w fun K75 hK75 wK75 => ?_
  refine AW.seq_w fun K76 hK76 wK76 => ?_
  refine AW.region ?_
  refine AOps.step rfl rfl rfl (OpQ.spec (sp_move rfl (.inl rfl)) _) ?_
  refine AOps.step rfl rfl rfl (OpQ.spec (sp_nilCheck_own (ob := .box _ _ _) rfl (.inl rfl) (fun _ => rfl) rfl) _) ?_
  refine AOps.step rfl rfl rfl (OpQ.spec (sp_fieldAddr_own (ob := .box _ _ _) rfl tf_76_0 (.inl rfl) (fun _ => rfl) rfl) _) ?_
  refine AOps.step rfl rfl rfl (OpQ.spec (ms_load_box (a := .mref 104 (n0 + 3)) rfl ts_73 (.inl rfl) rfl rfl) _) ?_
  refine AOps.step rfl rfl rfl (ms_rangeM 111 rfl Try.underlying73 (.inl rfl) rfl) ?_
  refine AOps.nil ?_
  refine hK76 _ ?_
  refine AW.block ?_
  refine AW.loopN 9 ?_
  refine LoopN.step ?_
  refine AW.seq_w fun K77 hK77 wK77 => ?_
  refine AW.weak (s' := ⟨[(3, .ptr 106 (n0 + 5) 0 0), (4, .ptr 110 (n0 + 9) 0 0), (5, .cst (.slice none 0 0)), (20, .ptr 111 (n0 + 10) 0 0)], [(101, some (.arr n0 46 8 ([(GDrawOp.mk 1 1 0 5 0 [98] [] [])].map GDrawOp.row))), (104, some (.mp (n0 + 3) [(5, 0)] [.ptr 108 (n0 + 7) 0 0] 1)), (105, some (.mp (n0 + 4) [] [] 0)), (106, some (.box (n0 + 5) 76 [.mref 104 (n0 + 3), .mref 105 (n0 + 4)])), (108, some (.box (n0 + 7) 55 [.r (.int .i64 (5 : Int)), .r (.int .i64 (0 : Int)), .r (.str [98]), .cst (.slice none 0 0)])), (109, some (.mp (n0 + 8) [] [] 0)), (110, some (.box (n0 + 9) 82 [.mref 109 (n0 + 8)])), (111, some (.mi (n0 + 10) 104 (n0 + 3) 1 [] 1))], (n0 + 11), 80⟩) (by exact Weak.cv ⟨.inl (.inl rfl), .inl (.inl rfl), .inl (.inl rfl), .inl (.inl rfl), trivial⟩ ⟨.inl rfl, .inl rfl, .inl rfl, .inl rfl, .inl rfl, .inl rfl, .inl rfl, .inl rfl, trivial⟩ (Nat.le_refl _)) ?_
  refine AW.region ?_
  refine AOps.step rfl rfl rfl (ms_nextM_t rfl (.inl rfl) rfl rfl rfl rfl) ?_
  refine AOps.step rfl rfl rfl (OpQ.spec (sp_extract (a := .r (.bool true)) rfl (.inl rfl) rfl) _) ?_
  refine AOps.nil ?_
  refine hK77 _ ?_
  refine AW.seq_w fun K78 hK78 wK78 => ?_
  refine AW.cond rfl (fun hc23 => ?_) (fun hc23 => by cases hc23)
  refine AW.skip ?_
  refine hK78 _ ?_
  refine AW.block ?_
  refine AW.seq_w fun K79 hK79 wK79 => ?_
  refine AW.region ?_
  refine AOps.step rfl rfl rfl (OpQ.spec (ms_entryM rfl (.inl rfl) rfl rfl) _) ?_
  refine AOps.step rfl rfl rfl (OpQ.spec (sp_extract (a := .r (.int .i64 (5 : Int))) rfl (.inl rfl) rfl) _) ?_
  refine AOps.step rfl rfl rfl (OpQ.spec (sp_extract (a := .ptr 108 (n0 + 7) 0 0) rfl (.inl rfl) rfl) _) ?_
  refine AOps.step rfl rfl rfl (OpQ.spec (sp_assign rfl (.inl rfl)) _) ?_
  refine AOps.step rfl rfl rfl (OpQ.spec (sp_assign rfl (.inl rfl)) _) ?_
  refine AOps.nil ?_
  refine hK79 _ ?_
  refine AW.seq_w fun K80 hK80 wK80 => ?_
  refine AW.region ?_
  refine AOps.step rfl rfl rfl (OpQ.spec (sp_move rfl (.inl rfl)) _) ?_
  refine AOps.step rfl rfl rfl (OpQ.spec (sp_move rfl (.inl rfl)) _) ?_
  refine AOps.step rfl rfl rfl (OpQ.spec (sp_nilCheck_own (ob := .box _ _ _) rfl (.inl rfl) (fun _ => rfl) rfl) _) ?_
  refine AOps.step rfl rfl rfl (OpQ.spec (sp_fieldAddr_own (ob := .box _ _ _) rfl tf_76_1 (.inl rfl) (fun _ => rfl) rfl) _) ?_
  refine AOps.step rfl rfl rfl (OpQ.spec (ms_load_box (a := .mref 105 (n0 + 4)) rfl ts_74 (.inl rfl) rfl rfl) _) ?_
  refine AOps.step rfl rfl rfl (OpQ.spec (sp_move rfl (.inl rfl)) _) ?_
  refine AOps.step rfl rfl rfl (OpQ.spec (ms_lookup_f (ks := []) (vs := []) (a := .cst (.slice none 0 0)) false (.slice none 0 0) rfl Try.underlying74 Try.underlying3 (fun w => by kernel_rfl) (fun y => .cst _) (.inl rfl) (.inl rfl) rfl rfl) _) ?_
  refine AOps.step rfl rfl rfl (OpQ.spec (sp_nilCheck_own (ob := .box _ _ _) rfl (.inl rfl) (fun _ => rfl) rfl) _) ?_
  refine AOps.step rfl rfl rfl (OpQ.spec (sp_fieldAddr_own (ob := .box _ _ _) rfl tf_55_3 (.inl rfl) (fun _ => rfl) rfl) _) ?_
  refine AOps.step0 rfl rfl (ms_store_box (ds := [.r (.int .i64 (5 : Int)), .r (.int .i64 (0 : Int)), .r (.str [98]), .cst (.slice none 0 0)]) rfl tz_53 (.inl rfl) rfl (.inl rfl) rfl rfl rfl rfl) ?_
  refine AOps.nil ?_
  refine hK80 _ ?_
  refine AW.seq_w fun K81 hK81 wK81 => ?_
  refine AW.weak (s' := ⟨[(3, .ptr 106 (n0 + 5) 0 0), (4, .ptr 110 (n0 + 9) 0 0), (5, .cst (.slice none 0 0)), (7, .ptr 108 (n0 + 7) 0 0), (20, .ptr 111 (n0 + 10) 0 0)], [(101, some (.arr n0 46 8 ([(GDrawOp.mk 1 1 0 5 0 [98] [] [])].map GDrawOp.row))), (104, some (.mp (n0 + 3) [(5, 0)] [.ptr 108 (n0 + 7) 0 0] 1)), (105, some (.mp (n0 + 4) [] [] 0)), (106, some (.box (n0 + 5) 76 [.mref 104 (n0 + 3), .mref 105 (n0 + 4)])), (108, some (.box (n0 + 7) 55 [.r (.int .i64 (5 : Int)), .r (.int .i64 (0 : Int)), .r (.str [98]), .cst (.slice none 0 0)])), (109, some (.mp (n0 + 8) [] [] 0)), (110, some (.box (n0 + 9) 82 [.mref 109 (n0 + 8)])), (111, some (.mi (n0 + 10) 104 (n0 + 3) 1 [0] 1))], (n0 + 11), 80⟩) (by exact Weak.cv ⟨.inl (.inl rfl), .inl (.inl rfl), .inl (.inl rfl), .inl (.inl rfl), .inl (.inl rfl), trivial⟩ ⟨.inl rfl, .inl rfl, .inl rfl, .inl rfl, .inl rfl, .inl rfl, .inl rfl, .inl rfl, trivial⟩ (Nat.le_refl _)) ?_
  have e10 : @app (GDrawItem) 56 [] [(GDrawItem.mk 5 0 [98] [])] = some [(GDrawItem.mk 5 0 [98] [])] := by kernel_rfl
  refine AW.regionP 16 [⟨some 35, (fun _ => .mref 109 (n0 + 8)), none, []⟩, ⟨some 36, (fun _ => .ptr 108 (n0 + 7) 0 0), none, []⟩, ⟨some 37, (fun _ => .ptr 108 (n0 + 7) 0 0), none, []⟩, ⟨some 38, (fun _ => .ptr 108 (n0 + 7) 0 1), none, []⟩, ⟨some 39, (fun _ => .r (.int .i64 (0 : Int))), none, []⟩, ⟨some 40, (fun _ => .mref 109 (n0 + 8)), none, []⟩, ⟨some 41, (fun _ => .ptr 108 (n0 + 7) 0 0), none, []⟩, ⟨some 42, (fun _ => .ptr 108 (n0 + 7) 0 0), none, []⟩, ⟨some 43, (fun _ => .ptr 108 (n0 + 7) 0 1), none, []⟩, ⟨some 44, (fun _ => .r (.int .i64 (0 : Int))), none, []⟩, ⟨some 45, (fun _ => .cst (.slice none 0 0)), none, []⟩, ⟨some 46, (fun _ => .ptr 108 (n0 + 7) 0 0), none, []⟩, ⟨some 47, (fun _ => .ptr 108 (n0 + 7) 0 0), none, []⟩, ⟨some 48, (fun _ => .agg [.r (.int .i64 (5 : Int)), .r (.int .i64 (0 : Int)), .r (.str [98]), .cst (.slice none 0 0)]), none, []⟩, ⟨some 49, (fun G1 => .own 112 (G1 14)), some (112, (fun G1 => some (.arr (G1 14) 55 4 ([(GDrawItem.mk 5 0 [98] [])].map GDrawItem.row)))), [14]⟩, ⟨some 50, (fun G1 => .own 113 (G1 15)), some (113, (fun G1 => some (.arr (G1 15) 55 4 ([(GDrawItem.mk 5 0 [98] [])].map GDrawItem.row)))), [15]⟩] hmix (by kernel_rfl) (by exact ⟨fun _ _ h => ⟨rfl, fun _ _ e => by cases e⟩, fun _ _ h => ⟨rfl, fun _ _ e => by cases e⟩, fun _ _ h => ⟨rfl, fun _ _ e => by cases e⟩, fun _ _ h => ⟨rfl, fun _ _ e => by cases e⟩, fun _ _ h => ⟨rfl, fun _ _ e => by cases e⟩, fun _ _ h => ⟨rfl, fun _ _ e => by cases e⟩, fun _ _ h => ⟨rfl, fun _ _ e => by cases e⟩, fun _ _ h => ⟨rfl, fun _ _ e => by cases e⟩, fun _ _ h => ⟨rfl, fun _ _ e => by cases e⟩, fun _ _ h => ⟨rfl, fun _ _ e => by cases e⟩, fun _ _ h => ⟨rfl, fun _ _ e => by cases e⟩, fun _ _ h => ⟨rfl, fun _ _ e => by cases e⟩, fun _ _ h => ⟨rfl, fun _ _ e => by cases e⟩, fun _ _ h => ⟨rfl, fun _ _ e => by cases e⟩, fun _ _ h => ⟨by simp only [h 14 rfl], fun _ _ e => by cases e; simp only [h 14 rfl]⟩, fun _ _ h => ⟨by simp only [h 15 rfl], fun _ _ e => by cases e; simp only [h 15 rfl]⟩, trivial⟩) rfl (by exact ⟨Ob.quiet (n1 := fun n => n) rfl rfl (by intro d h; cases h; rfl) rfl (fun _ => [(4, .ptr 110 (n0 + 9) 0 0)]) (fun _ => [(110, some (.box (n0 + 9) 82 [.mref 109 (n0 + 8)]))]) (fun D G1 hr => ⟨inE_base rfl rfl, trivial⟩) (fun D G1 hr => ⟨inH_base rfl rfl, trivial⟩) (fun _ _ => rfl) (fun G1 e h' n => OpQ.spec (v := .mref 109 (n0 + 8)) (ms_load_box (a := .mref 109 (n0 + 8)) rfl ts_82 (.inl rfl) rfl rfl) _),
      Ob.quiet (n1 := fun n => n) rfl rfl (by intro d h; cases h; rfl) rfl (fun _ => [(7, .ptr 108 (n0 + 7) 0 0)]) (fun _ => [(108, some (.box (n0 + 7) 55 [.r (.int .i64 (5 : Int)), .r (.int .i64 (0 : Int)), .r (.str [98]), .cst (.slice none 0 0)]))]) (fun D G1 hr => ⟨inE_base rfl rfl, trivial⟩) (fun D G1 hr => ⟨inH_base rfl rfl, trivial⟩) (fun _ _ => rfl) (fun G1 e h' n => OpQ.spec (v := .ptr 108 (n0 + 7) 0 0) (sp_move rfl (.inl rfl)) _),
      Ob.quiet (n1 := fun n => n) rfl rfl (by intro d h; cases h; rfl) rfl (fun _ => [(36, .ptr 108 (n0 + 7) 0 0)]) (fun _ => [(108, some (.box (n0 + 7) 55 [.r (.int .i64 (5 : Int)), .r (.int .i64 (0 : Int)), .r (.str [98]), .cst (.slice none 0 0)]))]) (fun D G1 hr => ⟨inE_op hr 1 rfl rfl (by kernel_rfl) rfl rfl, trivial⟩) (fun D G1 hr => ⟨inH_base rfl rfl, trivial⟩) (fun _ _ => rfl) (fun G1 e h' n => OpQ.spec (v := .ptr 108 (n0 + 7) 0 0) (sp_nilCheck_own (ob := .box _ _ _) rfl (.inl rfl) (fun _ => rfl) rfl) _),
      Ob.quiet (n1 := fun n => n) rfl rfl (by intro d h; cases h; rfl) rfl (fun _ => [(37, .ptr 108 (n0 + 7) 0 0)]) (fun _ => [(108, some (.box (n0 + 7) 55 [.r (.int .i64 (5 : Int)), .r (.int .i64 (0 : Int)), .r (.str [98]), .cst (.slice none 0 0)]))]) (fun D G1 hr => ⟨inE_op hr 2 rfl rfl (by kernel_rfl) rfl rfl, trivial⟩) (fun D G1 hr => ⟨inH_base rfl rfl, trivial⟩) (fun _ _ => rfl) (fun G1 e h' n => OpQ.spec (v := .ptr 108 (n0 + 7) 0 1) (sp_fieldAddr_own (ob := .box _ _ _) rfl tf_55_1 (.inl rfl) (fun _ => rfl) rfl) _),
      Ob.quiet (n1 := fun n => n) rfl rfl (by intro d h; cases h; rfl) rfl (fun _ => [(38, .ptr 108 (n0 + 7) 0 1)]) (fun _ => [(108, some (.box (n0 + 7) 55 [.r (.int .i64 (5 : Int)), .r (.int .i64 (0 : Int)), .r (.str [98]), .cst (.slice none 0 0)]))]) (fun D G1 hr => ⟨inE_op hr 3 rfl rfl (by kernel_rfl) rfl rfl, trivial⟩) (fun D G1 hr => ⟨inH_base rfl rfl, trivial⟩) (fun _ _ => rfl) (fun G1 e h' n => OpQ.spec (v := .r (.int .i64 (0 : Int))) (ms_load_box (a := .r (.int .i64 (0 : Int))) rfl ts_3 (.inl rfl) rfl rfl) _),
      Ob.quiet (n1 := fun n => n) rfl rfl (by intro d h; cases h; rfl) rfl (fun _ => [(4, .ptr 110 (n0 + 9) 0 0)]) (fun _ => [(110, some (.box (n0 + 9) 82 [.mref 109 (n0 + 8)]))]) (fun D G1 hr => ⟨inE_base rfl rfl, trivial⟩) (fun D G1 hr => ⟨inH_base rfl rfl, trivial⟩) (fun _ _ => rfl) (fun G1 e h' n => OpQ.spec (v := .mref 109 (n0 + 8)) (ms_load_box (a := .mref 109 (n0 + 8)) rfl ts_82 (.inl rfl) rfl rfl) _),
      Ob.quiet (n1 := fun n => n) rfl rfl (by intro d h; cases h; rfl) rfl (fun _ => [(7, .ptr 108 (n0 + 7) 0 0)]) (fun _ => [(108, some (.box (n0 + 7) 55 [.r (.int .i64 (5 : Int)), .r (.int .i64 (0 : Int)), .r (.str [98]), .cst (.slice none 0 0)]))]) (fun D G1 hr => ⟨inE_base rfl rfl, trivial⟩) (fun D G1 hr => ⟨inH_base rfl rfl, trivial⟩) (fun _ _ => rfl) (fun G1 e h' n => OpQ.spec (v := .ptr 108 (n0 + 7) 0 0) (sp_move rfl (.inl rfl)) _),
      Ob.quiet (n1 := fun n => n) rfl rfl (by intro d h; cases h; rfl) rfl (fun _ => [(41, .ptr 108 (n0 + 7) 0 0)]) (fun _ => [(108, some (.box (n0 + 7) 55 [.r (.int .i64 (5 : Int)), .r (.int .i64 (0 : Int)), .r (.str [98]), .cst (.slice none 0 0)]))]) (fun D G1 hr => ⟨inE_op hr 6 rfl rfl (by kernel_rfl) rfl rfl, trivial⟩) (fun D G1 hr => ⟨inH_base rfl rfl, trivial⟩) (fun _ _ => rfl) (fun G1 e h' n => OpQ.spec (v := .ptr 108 (n0 + 7) 0 0) (sp_nilCheck_own (ob := .box _ _ _) rfl (.inl rfl) (fun _ => rfl) rfl) _),
      Ob.quiet (n1 := fun n => n) rfl rfl (by intro d h; cases h; rfl) rfl (fun _ => [(42, .ptr 108 (n0 + 7) 0 0)]) (fun _ => [(108, some (.box (n0 + 7) 55 [.r (.int .i64 (5 : Int)), .r (.int .i64 (0 : Int)), .r (.str [98]), .cst (.slice none 0 0)]))]) (fun D G1 hr => ⟨inE_op hr 7 rfl rfl (by kernel_rfl) rfl rfl, trivial⟩) (fun D G1 hr => ⟨inH_base rfl rfl, trivial⟩) (fun _ _ => rfl) (fun G1 e h' n => OpQ.spec (v := .ptr 108 (n0 + 7) 0 1) (sp_fieldAddr_own (ob := .box _ _ _) rfl tf_55_1 (.inl rfl) (fun _ => rfl) rfl) _),
      Ob.quiet (n1 := fun n => n) rfl rfl (by intro d h; cases h; rfl) rfl (fun _ => [(43, .ptr 108 (n0 + 7) 0 1)]) (fun _ => [(108, some (.box (n0 + 7) 55 [.r (.int .i64 (5 : Int)), .r (.int .i64 (0 : Int)), .r (.str [98]), .cst (.slice none 0 0)]))]) (fun D G1 hr => ⟨inE_op hr 8 rfl rfl (by kernel_rfl) rfl rfl, trivial⟩) (fun D G1 hr => ⟨inH_base rfl rfl, trivial⟩) (fun _ _ => rfl) (fun G1 e h' n => OpQ.spec (v := .r (.int .i64 (0 : Int))) (ms_load_box (a := .r (.int .i64 (0 : Int))) rfl ts_3 (.inl rfl) rfl rfl) _),
      Ob.quiet (n1 := fun n => n) rfl rfl (by intro d h; cases h; rfl) rfl (fun _ => [(40, .mref 109 (n0 + 8)), (44, .r (.int .i64 (0 : Int)))]) (fun _ => [(109, some (.mp (n0 + 8) [] [] 0))]) (fun D G1 hr => ⟨inE_op hr 5 rfl rfl (by kernel_rfl) rfl rfl, inE_op hr 9 rfl rfl (by kernel_rfl) rfl rfl, trivial⟩) (fun D G1 hr => ⟨inH_base rfl rfl, trivial⟩) (fun _ _ => rfl) (fun G1 e h' n => OpQ.spec (v := .cst (.slice none 0 0)) (ms_lookup_f (ks := []) (vs := []) (a := .cst (.slice none 0 0)) false (.slice none 0 0) rfl Try.underlying82 Try.underlying3 (fun w => by kernel_rfl) (fun y => .cst _) (.inl rfl) (.inl rfl) rfl rfl) _),
      Ob.quiet (n1 := fun n => n) rfl rfl (by intro d h; cases h; rfl) rfl (fun _ => [(7, .ptr 108 (n0 + 7) 0 0)]) (fun _ => [(108, some (.box (n0 + 7) 55 [.r (.int .i64 (5 : Int)), .r (.int .i64 (0 : Int)), .r (.str [98]), .cst (.slice none 0 0)]))]) (fun D G1 hr => ⟨inE_base rfl rfl, trivial⟩) (fun D G1 hr => ⟨inH_base rfl rfl, trivial⟩) (fun _ _ => rfl) (fun G1 e h' n => OpQ.spec (v := .ptr 108 (n0 + 7) 0 0) (sp_move rfl (.inl rfl)) _),
      Ob.quiet (n1 := fun n => n) rfl rfl (by intro d h; cases h; rfl) rfl (fun _ => [(46, .ptr 108 (n0 + 7) 0 0)]) (fun _ => [(108, some (.box (n0 + 7) 55 [.r (.int .i64 (5 : Int)), .r (.int .i64 (0 : Int)), .r (.str [98]), .cst (.slice none 0 0)]))]) (fun D G1 hr => ⟨inE_op hr 11 rfl rfl (by kernel_rfl) rfl rfl, trivial⟩) (fun D G1 hr => ⟨inH_base rfl rfl, trivial⟩) (fun _ _ => rfl) (fun G1 e h' n => OpQ.spec (v := .ptr 108 (n0 + 7) 0 0) (sp_nilCheck_own (ob := .box _ _ _) rfl (.inl rfl) (fun _ => rfl) rfl) _),
      Ob.quiet (n1 := fun n => n) rfl rfl (by intro d h; cases h; rfl) rfl (fun _ => [(47, .ptr 108 (n0 + 7) 0 0)]) (fun _ => [(108, some (.box (n0 + 7) 55 [.r (.int .i64 (5 : Int)), .r (.int .i64 (0 : Int)), .r (.str [98]), .cst (.slice none 0 0)]))]) (fun D G1 hr => ⟨inE_op hr 12 rfl rfl (by kernel_rfl) rfl rfl, trivial⟩) (fun D G1 hr => ⟨inH_base rfl rfl, trivial⟩) (fun _ _ => rfl) (fun G1 e h' n => OpQ.spec (v := .agg [.r (.int .i64 (5 : Int)), .r (.int .i64 (0 : Int)), .r (.str [98]), .cst (.slice none 0 0)]) (ms_loadA_box rfl ta_55 (.inl rfl) rfl rfl) _),
      Ob.make (n1 := fun n => n + 1) rfl rfl (by intro d h; cases h; rfl) rfl (fun _ => [(48, .agg [.r (.int .i64 (5 : Int)), .r (.int .i64 (0 : Int)), .r (.str [98]), .cst (.slice none 0 0)])]) (fun _ => []) (fun D G1 hr => ⟨inE_op hr 13 rfl rfl (by kernel_rfl) rfl rfl, trivial⟩) (fun D G1 hr => trivial) (fun G1 e h' n => ms_lit 112 rfl tg_24 (f := GDrawItem.row) (l := ([(GDrawItem.mk 5 0 [98] [])] : List GDrawItem)) ⟨rfl, ⟨_, (.inl rfl), rfl⟩, trivial⟩ rfl (fun _ => rfl) rfl),
      Ob.make (n1 := fun n => n + 1) rfl rfl (by intro d h; cases h; rfl) rfl (fun G1 => [(45, .cst (.slice none 0 0)), (49, .own 112 (G1 14))]) (fun G1 => [(112, some (.arr (G1 14) 55 4 ([(GDrawItem.mk 5 0 [98] [])].map GDrawItem.row)))]) (fun D G1 hr => ⟨inE_op hr 10 rfl rfl (by kernel_rfl) rfl rfl, inE_op hr 14 rfl rfl (by kernel_rfl) rfl rfl, trivial⟩) (fun D G1 hr => ⟨inH_op hr 14 rfl rfl (by kernel_rfl) (by kernel_rfl) rfl, trivial⟩) (fun G1 e h' n => ms_app_nil 113 (f := GDrawItem.row) rfl tg_24 (.inl rfl) (.inr (.inl ⟨_, _, (.inl rfl), rfl⟩)) e10),
      trivial⟩) fun G1 n1 => ?_
  refine AOps.weak (s' := ⟨[(3, .ptr 106 (n0 + 5) 0 0), (4, .ptr 110 (n0 + 9) 0 0), (5, .cst (.slice none 0 0)), (7, .ptr 108 (n0 + 7) 0 0), (20, .ptr 111 (n0 + 10) 0 0), (35, .mref 109 (n0 + 8)), (36, .ptr 108 (n0 + 7) 0 0), (37, .ptr 108 (n0 + 7) 0 0), (38, .ptr 108 (n0 + 7) 0 1), (39, .r (.int .i64 (0 : Int))), (40, .mref 109 (n0 + 8)), (41, .ptr 108 (n0 + 7) 0 0), (42, .ptr 108 (n0 + 7) 0 0), (43, .ptr 108 (n0 + 7) 0 1), (44, .r (.int .i64 (0 : Int))), (45, .cst (.slice none 0 0)), (46, .ptr 108 (n0 + 7) 0 0), (47, .ptr 108 (n0 + 7) 0 0), (48, .agg [.r (.int .i64 (5 : Int)), .r (.int .i64 (0 : Int)), .r (.str [98]), .cst (.slice none 0 0)]), (49, .own 112 (G1 14)), (50, .own 113 (G1 15))], [(101, some (.arr n0 46 8 ([(GDrawOp.mk 1 1 0 5 0 [98] [] [])].map GDrawOp.row))), (104, some (.mp (n0 + 3) [(5, 0)] [.ptr 108 (n0 + 7) 0 0] 1)), (105, some (.mp (n0 + 4) [] [] 0)), (106, some (.box (n0 + 5) 76 [.mref 104 (n0 + 3), .mref 105 (n0 + 4)])), (108, some (.box (n0 + 7) 55 [.r (.int .i64 (5 : Int)), .r (.int .i64 (0 : Int)), .r (.str [98]), .cst (.slice none 0 0)])), (109, some (.mp (n0 + 8) [] [] 0)), (110, some (.box (n0 + 9) 82 [.mref 109 (n0 + 8)])), (111, some (.mi (n0 + 10) 104 (n0 + 3) 1 [0] 1)), (112, some (.arr (G1 14) 55 4 ([(GDrawItem.mk 5 0 [98] [])].map GDrawItem.row))), (113, some (.arr (G1 15) 55 4 ([(GDrawItem.mk 5 0 [98] [])].map GDrawItem.row)))], n1, 80⟩) (by exact Weak.cv ⟨.inl (.inl rfl), .inl (.inl rfl), .inl (.inl rfl), .inl (.inl rfl), .inl (.inl rfl), .inl (.inl rfl), .inl (.inl rfl), .inl (.inl rfl), .inl (.inl rfl), .inl (.inl rfl), .inl (.inl rfl), .inl (.inl rfl), .inl (.inl rfl), .inl (.inl rfl), .inl (.inl rfl), .inl (.inl rfl), .inl (.inl rfl), .inl (.inl rfl), .inl (.inl rfl), .inl (.inl rfl), .inl (.inl rfl), trivial⟩ ⟨.inl rfl, .inl rfl, .inl rfl, .inl rfl, .inl rfl, .inl rfl, .inl rfl, .inl rfl, .inl rfl, .inl rfl, trivial⟩ (Nat.le_refl _)) ?_
  refine AOps.step0 rfl rfl (ms_mapUpdate_new (.inl rfl) Try.underlying82 Try.underlying3 (.inl rfl) (.inl rfl) (.inl rfl) rfl rfl) ?_
  refine AOps.nil ?_
  refine hK81 _ ?_
  refine AW.weak (s' := ⟨[(3, .ptr 106 (n0 + 5) 0 0), (4, .ptr 110 (n0 + 9) 0 0), (5, .cst (.slice none 0 0)), (7, .ptr 108 (n0 + 7) 0 0), (20, .ptr 111 (n0 + 10) 0 0)], [(101, some (.arr n0 46 8 ([(GDrawOp.mk 1 1 0 5 0 [98] [] [])].map GDrawOp.row))), (104, some (.mp (n0 + 3) [(5, 0)] [.ptr 108 (n0 + 7) 0 0] 1)), (105, some (.mp (n0 + 4) [] [] 0)), (106, some (.box (n0 + 5) 76 [.mref 104 (n0 + 3), .mref 105 (n0 + 4)])), (108, some (.box (n0 + 7) 55 [.r (.int .i64 (5 : Int)), .r (.int .i64 (0 : Int)), .r (.str [98]), .cst (.slice none 0 0)])), (109, some (.mp (n0 + 8) [(0, 0)] [.own 113 (G1 15)] 1)), (110, some (.box (n0 + 9) 82 [.mref 109 (n0 + 8)])), (111, some (.mi (n0 + 10) 104 (n0 + 3) 1 [0] 1)), (113, some (.arr (G1 15) 55 4 ([(GDrawItem.mk 5 0 [98] [])].map GDrawItem.row)))], n1, 80⟩) (by exact Weak.cv ⟨.inl (.inl rfl), .inl (.inl rfl), .inl (.inl rfl), .inl (.inl rfl), .inl (.inl rfl), trivial⟩ ⟨.inl rfl, .inl rfl, .inl rfl, .inl rfl, .inl rfl, .inl rfl, .inl rfl, .inl rfl, .inl rfl, trivial⟩ (Nat.le_refl _)) ?_
  refine AW.region ?_
  refine AOps.step rfl rfl rfl (OpQ.spec (sp_move rfl (.inl rfl)) _) ?_
  refine AOps.step rfl rfl rfl (OpQ.spec (sp_move rfl (.inl rfl)) _) ?_
  refine AOps.step rfl rfl rfl (OpQ.spec (sp_nilCheck_own (ob := .box _ _ _) rfl (.inl rfl) (fun _ => rfl) rfl) _) ?_
  refine AOps.step rfl rfl rfl (OpQ.spec (ms_loadA_box rfl ta_55 (.inl rfl) rfl rfl) _) ?_
  refine AOps.step rfl rfl rfl (ms_lit 114 rfl tg_24 (f := GDrawItem.row) (l := ([(GDrawItem.mk 5 0 [98] [])] : List GDrawItem)) ⟨rfl, ⟨_, (.inl rfl), rfl⟩, trivial⟩ rfl (fun _ => rfl) rfl) ?_
  have e11 : @app (GDrawItem) 56 [] [(GDrawItem.mk 5 0 [98] [])] = some [(GDrawItem.mk 5 0 [98] [])] := by kernel_rfl
  refine AOps.step rfl rfl rfl (ms_app_nil 115 (f := GDrawItem.row) rfl tg_24 (.inl rfl) (.inr (.inl ⟨_, _, (.inl rfl), rfl⟩)) e11) ?_
  refine AOps.step rfl rfl rfl (OpQ.spec (sp_assign rfl (.inl rfl)) _) ?_
  refine AOps.nil ?_
  refine LoopN.step ?_
  refine AW.seq_w fun K82 hK82 wK82 => ?_
  refine AW.region ?_
  refine AOps.step rfl rfl rfl (ms_nextM_f (k := 0) (born := 0) rfl (.inl rfl) rfl rfl rfl rfl rfl) ?_
  refine AOps.step rfl rfl rfl (OpQ.spec (sp_extract (a := .r (.bool false)) rfl (.inl rfl) rfl) _) ?_
  refine AOps.nil ?_
  refine hK82 _ ?_
  refine AW.seq_w fun K83 hK83 wK83 => ?_
  refine AW.cond rfl (fun hc24 => by cases hc24) (fun hc24 => ?_)
  refine AW.exit ?_
  refine hK75 _ ?_
  refine AW.seq_w fun K84 hK84 wK84 => ?_
  refine AW.weak (s' := ⟨[(4, .ptr 110 (n0 + 9) 0 0), (5, .own 115 (n1 + 1))], [(101, some (.arr n0 46 8 ([(GDrawOp.mk 1 1 0 5 0 [98] [] [])].map GDrawOp.row))), (109, some (.mp (n0 + 8) [(0, 0)] [.own 113 (G1 15)] 1)), (110, some (.box (n0 + 9) 82 [.mref 109 (n0 + 8)])), (113, some (.arr (G1 15) 55 4 ([(GDrawItem.mk 5 0 [98] [])].map GDrawItem.row))), (115, some (.arr (n1 + 1) 55 4 ([(GDrawItem.mk 5 0 [98] [])].map GDrawItem.row)))], (n1 + 2), 80⟩) (by exact Weak.cv ⟨.inl (.inl rfl), .inl (.inl rfl), trivial⟩ ⟨.inl rfl, .inl rfl, .inl rfl, .inl rfl, .inl rfl, trivial⟩ (Nat.le_refl _)) ?_
  refine AW.region ?_
  refine AOps.step rfl rfl rfl (ms_alloc (cs := [.cst (.slice none 0 0)]) 116 rfl t0_24 rfl rfl) ?_
  refine AOps.nil ?_
  refine hK84 _ ?_
  refine AW.seq_w fun K85 hK85 wK85 => ?_
  refine AW.region ?_
  refine AOps.step rfl rfl rfl (ms_makeMap 117 rfl) ?_
  refine AOps.step rfl rfl rfl (ms_alloc (cs := [.cst (.map none)]) 118 rfl t0_63 rfl rfl) ?_
  refine AOps.step0 rfl rfl (ms_store_box (ds := [.mref 117 (n1 + 3)]) rfl tz_63 (.inl rfl) rfl (.inl rfl) rfl rfl rfl rfl) ?_
  refine AOps.nil ?_
  refine hK85 _ ?_
  refine AW.seq_w fun K86 hK86 wK86 => ?_
  refine AW.region ?_
  refine AOps.step rfl rfl rfl (ms_alloc (cs := [.cst (.nilFunc)]) 119 rfl t0_83 rfl rfl) ?_
  refine AOps.nil ?_
  refine hK86 _ ?_
  refine AW.seq_w fun K87 hK87 wK87 => ?_
  refine AW.region ?_
  refine AOps.step rfl rfl rfl (OpQ.spec (sp_makeFunc (bs := [.ptr 110 (n0 + 9) 0 0, .ptr 116 (n1 + 2) 0 0, .ptr 118 (n1 + 4) 0 0, .ptr 119 (n1 + 5) 0 0]) rfl (by exact ⟨(.inl rfl), (.inl rfl), (.inl rfl), (.inl rfl), trivial⟩)) _) ?_
  refine AOps.step0 rfl rfl (ms_store_box (ds := [.fn 44 [.ptr 110 (n0 + 9) 0 0, .ptr 116 (n1 + 2) 0 0, .ptr 118 (n1 + 4) 0 0, .ptr 119 (n1 + 5) 0 0]]) rfl tz_83 (.inl rfl) rfl (.inl rfl) rfl rfl rfl rfl) ?_
  refine AOps.nil ?_
  refine hK87 _ ?_
  refine AW.seq_w fun K88 hK88 wK88 => ?_
  refine AW.region ?_
  refine AOps.step rfl rfl rfl (OpQ.spec (ms_load_box (a := .fn 44 [.ptr 110 (n0 + 9) 0 0, .ptr 116 (n1 + 2) 0 0, .ptr 118 (n1 + 4) 0 0, .ptr 119 (n1 + 5) 0 0]) rfl ts_83 (.inl rfl) rfl rfl) _) ?_
  refine AOps.stepIk [.ptr 110 (n0 + 9) 0 0, .ptr 116 (n1 + 2) 0 0, .ptr 118 (n1 + 4) 0 0, .ptr 119 (n1 + 5) 0 0] [.r (.int .i64 (0 : Int))] rfl rfl rfl rfl (.inl rfl) (by exact ⟨(.inl rfl), trivial⟩) Try.func44 rfl rfl Try.ntmps44 rfl fun K89 hK89 => ?_
  refine AW.seq_w fun K90 hK90 wK90 => ?_
  refine AW.weak (s' := ⟨[(0, .r (.int .i64 (0 : Int))), (1, .ptr 110 (n0 + 9) 0 0), (2, .ptr 116 (n1 + 2) 0 0), (3, .ptr 118 (n1 + 4) 0 0), (4, .ptr 119 (n1 + 5) 0 0)], [(101, some (.arr n0 46 8 ([(GDrawOp.mk 1 1 0 5 0 [98] [] [])].map GDrawOp.row))), (109, some (.mp (n0 + 8) [(0, 0)] [.own 113 (G1 15)] 1)), (110, some (.box (n0 + 9) 82 [.mref 109 (n0 + 8)])), (113, some (.arr (G1 15) 55 4 ([(GDrawItem.mk 5 0 [98] [])].map GDrawItem.row))), (115, some (.arr (n1 + 1) 55 4 ([(GDrawItem.mk 5 0 [98] [])].map GDrawItem.row))), (116, some (.box (n1 + 2) 24 [.cst (.slice none 0 0)])), (117, some (.mp (n1 + 3) [] [] 0)), (118, some (.box (n1 + 4) 63 [.mref 117 (n1 + 3)])), (119, some (.box (n1 + 5) 83 [.fn 44 [.ptr 110 (n0 + 9) 0 0, .ptr 116 (n1 + 2) 0 0, .ptr 118 (n1 + 4) 0 0, .ptr 119 (n1 + 5) 0 0]]))], (n1 + 6), 32⟩) (by exact Weak.cv ⟨.inl (.inl rfl), .inl (.inl rfl), .inl (.inl rfl), .inl (.inl rfl), .inl (.inl rfl), trivial⟩ ⟨.inl rfl, .inl rfl, .inl rfl, .inl rfl, .inl rfl, .inl rfl, .inl rfl, .inl rfl, .inl rfl, trivial⟩ (Nat.le_refl _)) ?_
  refine AW.region ?_
  refine AOps.step rfl rfl rfl (OpQ.spec (ms_load_box (a := .mref 109 (n0 + 8)) rfl ts_82 (.inl rfl) rfl rfl) _) ?_
  refine AOps.step rfl rfl rfl (OpQ.spec (sp_move rfl (.inl rfl)) _) ?_
  refine AOps.step rfl rfl rfl (OpQ.spec (ms_lookup_t (ks := [(0, 0)]) (vs := [.own 113 (G1 15)]) false (.slice none 0 0) rfl Try.underlying82 Try.underlying3 (fun w => by kernel_rfl) (.inl rfl) (.inl rfl) rfl rfl rfl) _) ?_
  refine AOps.stepIk [] [.own 113 (G1 15), .fn 46 []] rfl rfl rfl rfl (.inl rfl) (by exact ⟨(.inl rfl), (.inl rfl), trivial⟩) Try.func45 rfl rfl Try.ntmps45 rfl fun K91 hK91 => ?_
  refine AW.seq_w fun K92 hK92 wK92 => ?_
  refine AW.weak (s' := ⟨[(0, .own 113 (G1 15)), (1, .fn 46 [])], [(101, some (.arr n0 46 8 ([(GDrawOp.mk 1 1 0 5 0 [98] [] [])].map GDrawOp.row))), (109, some (.mp (n0 + 8) [(0, 0)] [.own 113 (G1 15)] 1)), (110, some (.box (n0 + 9) 82 [.mref 109 (n0 + 8)])), (113, some (.arr (G1 15) 55 4 ([(GDrawItem.mk 5 0 [98] [])].map GDrawItem.row))), (115, some (.arr (n1 + 1) 55 4 ([(GDrawItem.mk 5 0 [98] [])].map GDrawItem.row))), (116, some (.box (n1 + 2) 24 [.cst (.slice none 0 0)])), (117, some (.mp (n1 + 3) [] [] 0)), (118, some (.box (n1 + 4) 63 [.mref 117 (n1 + 3)])), (119, some (.box (n1 + 5) 83 [.fn 44 [.ptr 110 (n0 + 9) 0 0, .ptr 116 (n1 + 2) 0 0, .ptr 118 (n1 + 4) 0 0, .ptr 119 (n1 + 5) 0 0]]))], (n1 + 6), 14⟩) (by exact Weak.cv ⟨.inl (.inl rfl), .inl (.inl rfl), trivial⟩ ⟨.inl rfl, .inl rfl, .inl rfl, .inl rfl, .inl rfl, .inl rfl, .inl rfl, .inl rfl, .inl rfl, trivial⟩ (Nat.le_refl _)) ?_
  refine AW.region ?_
  refine AOps.step rfl rfl rfl (OpQ.spec (sp_move rfl (.inl rfl)) _) ?_
  refine AOps.step rfl rfl rfl (OpQ.spec (ms_len_own rfl tg_24.slice (.inl rfl) rfl) _) ?_
  refine AOps.step rfl rfl rfl (OpQ.spec (sp_assign rfl (.inl rfl)) _) ?_
  refine AOps.nil ?_
  refine hK92 _ ?_
  refine AW.region ?_
  refine AOps.step rfl rfl rfl (OpQ.spec (sp_move rfl (.inl rfl)) _) ?_
  refine AOps.step rfl rfl rfl (OpQ.spec (sp_move rfl (.inl rfl)) _) ?_
  refine AOps.step rfl rfl rfl (OpQ.spec (sp_move rfl (.inl rfl)) _) ?_
  refine AOps.step rfl rfl rfl (OpQ.spec (sp_convert_int rfl Try.underlying3 Try.underlying94 (.inl rfl)) _) ?_
  refine AOps.stepIk [] [.r (.int .u64 (1 : Int))] rfl rfl rfl rfl (.inl rfl) (by exact ⟨(.inl rfl), trivial⟩) Try.func60 rfl rfl Try.ntmps60 rfl fun K93 hK93 => ?_
  refine AW.seq_w fun K94 hK94 wK94 => ?_
  refine AW.weak (s' := ⟨[(0, .r (.int .u64 (1 : Int)))], [(101, some (.arr n0 46 8 ([(GDrawOp.mk 1 1 0 5 0 [98] [] [])].map GDrawOp.row))), (109, some (.mp (n0 + 8) [(0, 0)] [.own 113 (G1 15)] 1)), (110, some (.box (n0 + 9) 82 [.mref 109 (n0 + 8)])), (113, some (.arr (G1 15) 55 4 ([(GDrawItem.mk 5 0 [98] [])].map GDrawItem.row))), (115, some (.arr (n1 + 1) 55 4 ([(GDrawItem.mk 5 0 [98] [])].map GDrawItem.row))), (116, some (.box (n1 + 2) 24 [.cst (.slice none 0 0)])), (117, some (.mp (n1 + 3) [] [] 0)), (118, some (.box (n1 + 4) 63 [.mref 117 (n1 + 3)])), (119, some (.box (n1 + 5) 83 [.fn 44 [.ptr 110 (n0 + 9) 0 0, .ptr 116 (n1 + 2) 0 0, .ptr 118 (n1 + 4) 0 0, .ptr 119 (n1 + 5) 0 0]]))], (n1 + 6), 8⟩) (by exact Weak.cv ⟨.inl (.inl rfl), trivial⟩ ⟨.inl rfl, .inl rfl, .inl rfl, .inl rfl, .inl rfl, .inl rfl, .inl rfl, .inl rfl, .inl rfl, trivial⟩ (Nat.le_refl _)) ?_
  refine AW.region ?_
  refine AOps.step rfl rfl rfl (OpQ.spec (sp_assign rfl (.inl rfl)) _) ?_
  refine AOps.nil ?_
  refine hK94 _ ?_
  refine AW.seq_w fun K95 hK95 wK95 => ?_
  refine AW.cond rfl (fun hc25 => by cases hc25) (fun hc25 => ?_)
  refine AW.skip ?_
  refine hK95 _ ?_
  refine AW.seq_w fun K96 hK96 wK96 => ?_
  refine AW.region ?_
  refine AOps.step rfl rfl rfl (OpQ.spec (sp_move rfl (.inl rfl)) _) ?_
  refine AOps.stepIk [] [.r (.int .u64 (1 : Int))] rfl rfl rfl rfl (.inl rfl) (by exact ⟨(.inl rfl), trivial⟩) Try.func79 rfl rfl Try.ntmps79 rfl fun K97 hK97 => ?_
  refine AW.seq_w fun K98 hK98 wK98 => ?_
  refine AW.weak (s' := ⟨[(0, .r (.int .u64 (1 : Int)))], [(101, some (.arr n0 46 8 ([(GDrawOp.mk 1 1 0 5 0 [98] [] [])].map GDrawOp.row))), (109, some (.mp (n0 + 8) [(0, 0)] [.own 113 (G1 15)] 1)), (110, some (.box (n0 + 9) 82 [.mref 109 (n0 + 8)])), (113, some (.arr (G1 15) 55 4 ([(GDrawItem.mk 5 0 [98] [])].map GDrawItem.row))), (115, some (.arr (n1 + 1) 55 4 ([(GDrawItem.mk 5 0 [98] [])].map GDrawItem.row))), (116, some (.box (n1 + 2) 24 [.cst (.slice none 0 0)])), (117, some (.mp (n1 + 3) [] [] 0)), (118, some (.box (n1 + 4) 63 [.mref 117 (n1 + 3)])), (119, some (.box (n1 + 5) 83 [.fn 44 [.ptr 110 (n0 + 9) 0 0, .ptr 116 (n1 + 2) 0 0, .ptr 118 (n1 + 4) 0 0, .ptr 119 (n1 + 5) 0 0]]))], (n1 + 6), 25⟩) (by exact Weak.cv ⟨.inl (.inl rfl), trivial⟩ ⟨.inl rfl, .inl rfl, .inl rfl, .inl rfl, .inl rfl, .inl rfl, .inl rfl, .inl rfl, .inl rfl, trivial⟩ (Nat.le_refl _)) ?_
  refine AW.region ?_
  refine AOps.step rfl rfl rfl (OpQ.spec (sp_assign rfl (.inl rfl)) _) ?_
  refine AOps.nil ?_
  refine hK98 _ ?_
  refine AW.seq_w fun K99 hK99 wK99 => ?_
  refine AW.seq_w fun K100 hK100 wK100 => ?_
  refine AW.region ?_
  refine AOps.step rfl rfl rfl (OpQ.spec (sp_move rfl (.inl rfl)) _) ?_
  refine AOps.step rfl rfl rfl (OpQ.spec (sp_geq rfl (.inl rfl) (.inl rfl)) _) ?_
  refine AOps.nil ?_
  refine hK100 _ ?_
  refine AW.cond rfl (fun hc26 => by cases hc26) (fun hc26 => ?_)
  refine AW.skip ?_
  refine hK99 _ ?_
  refine AW.seq_w fun K101 hK101 wK101 => ?_
  refine AW.seq_w fun K102 hK102 wK102 => ?_
  refine AW.region ?_
  refine AOps.step rfl rfl rfl (OpQ.spec (sp_move rfl (.inl rfl)) _) ?_
  refine AOps.step rfl rfl rfl (OpQ.spec (sp_geq rfl (.inl rfl) (.inl rfl)) _) ?_
  refine AOps.nil ?_
  refine hK102 _ ?_
  refine AW.cond rfl (fun hc27 => by cases hc27) (fun hc27 => ?_)
  refine AW.skip ?_
  refine hK101 _ ?_
  refine AW.seq_w fun K103 hK103 wK103 => ?_
  refine AW.seq_w fun K104 hK104 wK104 => ?_
  refine AW.region ?_
  refine AOps.step rfl rfl rfl (OpQ.spec (sp_move rfl (.inl rfl)) _) ?_
  refine AOps.step rfl rfl rfl (OpQ.spec (sp_geq rfl (.inl rfl) (.inl rfl)) _) ?_
  refine AOps.nil ?_
  refine hK104 _ ?_
  refine AW.cond rfl (fun hc28 => by cases hc28) (fun hc28 => ?_)
  refine AW.skip ?_
  refine hK103 _ ?_
  refine AW.seq_w fun K105 hK105 wK105 => ?_
  refine AW.region ?_
  refine AOps.step rfl rfl rfl (OpQ.spec (sp_move rfl (.inl rfl)) _) ?_
  refine AOps.step rfl rfl rfl (OpQ.spec (sp_move rfl (.inl rfl)) _) ?_
  refine AOps.step rfl rfl rfl (OpQ.spec (sp_convert_int rfl Try.underlying112 Try.underlying5 (.inl rfl)) _) ?_
  have e12 : @idx (UInt8) [0, 1, 2, 2, 3, 3, 3, 3, 4, 4, 4, 4, 4, 4, 4, 4, 5, 5, 5, 5, 5, 5, 5, 5, 5, 5, 5, 5, 5, 5, 5, 5, 6, 6, 6, 6, 6, 6, 6, 6, 6, 6, 6, 6, 6, 6, 6, 6, 6, 6, 6, 6, 6, 6, 6, 6, 6, 6, 6, 6, 6, 6, 6, 6, 7, 7, 7, 7, 7, 7, 7, 7, 7, 7, 7, 7, 7, 7, 7, 7, 7, 7, 7, 7, 7, 7, 7, 7, 7, 7, 7, 7, 7, 7, 7, 7, 7, 7, 7, 7, 7, 7, 7, 7, 7, 7, 7, 7, 7, 7, 7, 7, 7, 7, 7, 7, 7, 7, 7, 7, 7, 7, 7, 7, 7, 7, 7, 7, 8, 8, 8, 8, 8, 8, 8, 8, 8, 8, 8, 8, 8, 8, 8, 8, 8, 8, 8, 8, 8, 8, 8, 8, 8, 8, 8, 8, 8, 8, 8, 8, 8, 8, 8, 8, 8, 8, 8, 8, 8, 8, 8, 8, 8, 8, 8, 8, 8, 8, 8, 8, 8, 8, 8, 8, 8, 8, 8, 8, 8, 8, 8, 8, 8, 8, 8, 8, 8, 8, 8, 8, 8, 8, 8, 8, 8, 8, 8, 8, 8, 8, 8, 8, 8, 8, 8, 8, 8, 8, 8, 8, 8, 8, 8, 8, 8, 8, 8, 8, 8, 8, 8, 8, 8, 8, 8, 8, 8, 8, 8, 8, 8, 8, 8, 8, 8, 8, 8, 8, 8, 8, 8, 8, 8, 8, 8, 8] 1 = some (1 : UInt8) := by kernel_rfl
  refine AOps.step rfl rfl rfl (OpQ.spec (ms_idx_str rfl Try.underlying9 (.inl rfl) (.inl rfl) (fun _ => e12)) _) ?_
  refine AOps.step rfl rfl rfl (OpQ.spec (sp_convert_int rfl Try.underlying5 Try.underlying3 (.inl rfl)) _) ?_
  have e13 : chk .i64 (1) = some (1 : Int) := by kernel_rfl
  refine AOps.step rfl rfl rfl (OpQ.spec (ms_add rfl (.inl rfl) (.inl rfl) (fun _ => e13)) _) ?_
  refine AOps.step rfl rfl rfl (OpQ.spec (sp_assign rfl (.inl rfl)) _) ?_
  refine AOps.nil ?_
  refine hK105 _ ?_
  refine AW.ret ?_
  refine RetI.intro (.r (.int .i64 (1 : Int))) (rfl) ?_
  refine hK97 _ _ _ ?_
  refine AOps.step rfl rfl rfl (OpQ.spec (sp_assign rfl (.inl rfl)) _) ?_
  refine AOps.nil ?_
  refine hK96 _ ?_
  refine AW.ret ?_
  refine RetI.intro (.r (.int .i64 (1 : Int))) (rfl) ?_
  refine hK93 _ _ _ ?_
  refine AOps.step rfl rfl rfl (OpQ.spec (sp_move rfl (.inl rfl)) _) ?_
  refine AOps.stepIk [] [.own 113 (G1 15), .r (.int .i64 (0 : Int)), .r (.int .i64 (1 : Int)), .r (.int .i64 (1 : Int)), .fn 46 []] rfl rfl rfl rfl (.inl rfl) (by exact ⟨(.inl rfl), (.inl rfl), (.inl rfl), (.inl rfl), (.inl rfl), trivial⟩) Try.func65 rfl rfl Try.ntmps65 rfl fun K106 hK106 => ?_
  refine AW.seq_w fun K107 hK107 wK107 => ?_
  refine AW.weak (s' := ⟨[(0, .own 113 (G1 15)), (1, .r (.int .i64 (0 : Int))), (2, .r (.int .i64 (1 : Int))), (3, .r (.int .i64 (1 : Int))), (4, .fn 46 [])], [(101, some (.arr n0 46 8 ([(GDrawOp.mk 1 1 0 5 0 [98] [] [])].map GDrawOp.row))), (109, some (.mp (n0 + 8) [(0, 0)] [.own 113 (G1 15)] 1)), (110, some (.box (n0 + 9) 82 [.mref 109 (n0 + 8)])), (113, some (.arr (G1 15) 55 4 ([(GDrawItem.mk 5 0 [98] [])].map GDrawItem.row))), (115, some (.arr (n1 + 1) 55 4 ([(GDrawItem.mk 5 0 [98] [])].map GDrawItem.row))), (116, some (.box (n1 + 2) 24 [.cst (.slice none 0 0)])), (117, some (.mp (n1 + 3) [] [] 0)), (118, some (.box (n1 + 4) 63 [.mref 117 (n1 + 3)])), (119, some (.box (n1 + 5) 83 [.fn 44 [.ptr 110 (n0 + 9) 0 0, .ptr 116 (n1 + 2) 0 0, .ptr 118 (n1 + 4) 0 0, .ptr 119 (n1 + 5) 0 0]]))], (n1 + 6), 148⟩) (by exact Weak.cv ⟨.inl (.inl rfl), .inl (.inl rfl), .inl (.inl rfl), .inl (.inl rfl), .inl (.inl rfl), trivial⟩ ⟨.inl rfl, .inl rfl, .inl rfl, .inl rfl, .inl rfl, .inl rfl, .inl rfl, .inl rfl, .inl rfl, trivial⟩ (Nat.le_refl _)) ?_
  refine AW.region ?_
  refine AOps.step rfl rfl rfl (OpQ.spec (sp_assign rfl (.inl rfl)) _) ?_
  refine AOps.nil ?_
  refine hK107 _ ?_
  refine AW.seq_w fun K108 hK108 wK108 => ?_
  refine AW.region ?_
  refine AOps.step rfl rfl rfl (OpQ.spec (sp_assign rfl (.inl rfl)) _) ?_
  refine AOps.nil ?_
  refine hK108 _ ?_
  refine AW.block ?_
  refine AW.loopN 9 ?_
  refine LoopN.step ?_
  refine AW.block ?_
  refine AW.seq_w fun K109 hK109 wK109 => ?_
  refine AW.region ?_
  refine AOps.step rfl rfl rfl (OpQ.spec (sp_move rfl (.inl rfl)) _) ?_
  refine AOps.step rfl rfl rfl (OpQ.spec (sp_move rfl (.inl rfl)) _) ?_
  have e14 : chk .i64 (1) = some (1 : Int) := by kernel_rfl
  refine AOps.step rfl rfl rfl (OpQ.spec (ms_sub rfl (.inl rfl) (.inl rfl) (fun _ => e14)) _) ?_
  refine AOps.step rfl rfl rfl (OpQ.spec (sp_assign rfl (.inl rfl)) _) ?_
  refine AOps.nil ?_
  refine hK109 _ ?_
  refine AW.seq_w fun K110 hK110 wK110 => ?_
  refine AW.seq_w fun K111 hK111 wK111 => ?_
  refine AW.region ?_
  refine AOps.step rfl rfl rfl (OpQ.spec (sp_move rfl (.inl rfl)) _) ?_
  refine AOps.step rfl rfl rfl (OpQ.spec (sp_leq rfl (.inl rfl) (.inl rfl)) _) ?_
  refine AOps.nil ?_
  refine hK111 _ ?_
  refine AW.cond rfl (fun hc29 => ?_) (fun hc29 => by cases hc29)
  refine AW.seq_w fun K112 hK112 wK112 => ?_
  refine AW.weak (s' := ⟨[(0, .own 113 (G1 15)), (1, .r (.int .i64 (0 : Int))), (2, .r (.int .i64 (1 : Int))), (4, .fn 46 [])], [(101, some (.arr n0 46 8 ([(GDrawOp.mk 1 1 0 5 0 [98] [] [])].map GDrawOp.row))), (109, some (.mp (n0 + 8) [(0, 0)] [.own 113 (G1 15)] 1)), (110, some (.box (n0 + 9) 82 [.mref 109 (n0 + 8)])), (113, some (.arr (G1 15) 55 4 ([(GDrawItem.mk 5 0 [98] [])].map GDrawItem.row))), (115, some (.arr (n1 + 1) 55 4 ([(GDrawItem.mk 5 0 [98] [])].map GDrawItem.row))), (116, some (.box (n1 + 2) 24 [.cst (.slice none 0 0)])), (117, some (.mp (n1 + 3) [] [] 0)), (118, some (.box (n1 + 4) 63 [.mref 117 (n1 + 3)])), (119, some (.box (n1 + 5) 83 [.fn 44 [.ptr 110 (n0 + 9) 0 0, .ptr 116 (n1 + 2) 0 0, .ptr 118 (n1 + 4) 0 0, .ptr 119 (n1 + 5) 0 0]]))], (n1 + 6), 148⟩) (by exact Weak.cv ⟨.inl (.inl rfl), .inl (.inl rfl), .inl (.inl rfl), .inl (.inl rfl), trivial⟩ ⟨.inl rfl, .inl rfl, .inl rfl, .inl rfl, .inl rfl, .inl rfl, .inl rfl, .inl rfl, .inl rfl, trivial⟩ (Nat.le_refl _)) ?_
  refine AW.region ?_
  refine AOps.step rfl rfl rfl (OpQ.spec (sp_move rfl (.inl rfl)) _) ?_
  refine AOps.step rfl rfl rfl (OpQ.spec (sp_move rfl (.inl rfl)) _) ?_
  refine AOps.step rfl rfl rfl (OpQ.spec (sp_move rfl (.inl rfl)) _) ?_
  refine AOps.step rfl rfl rfl (OpQ.spec (sp_move rfl (.inl rfl)) _) ?_
  refine AOps.stepIk [] [.own 113 (G1 15), .r (.int .i64 (0 : Int)), .r (.int .i64 (1 : Int)), .fn 46 []] rfl rfl rfl rfl (.inl rfl) (by exact ⟨(.inl rfl), (.inl rfl), (.inl rfl), (.inl rfl), trivial⟩) Try.func80 rfl rfl Try.ntmps80 rfl fun K113 hK113 => ?_
  refine AW.seq_w fun K114 hK114 wK114 => ?_
  refine AW.weak (s' := ⟨[(0, .own 113 (G1 15)), (1, .r (.int .i64 (0 : Int))), (2, .r (.int .i64 (1 : Int))), (3, .fn 46 [])], [(101, some (.arr n0 46 8 ([(GDrawOp.mk 1 1 0 5 0 [98] [] [])].map GDrawOp.row))), (109, some (.mp (n0 + 8) [(0, 0)] [.own 113 (G1 15)] 1)), (110, some (.box (n0 + 9) 82 [.mref 109 (n0 + 8)])), (113, some (.arr (G1 15) 55 4 ([(GDrawItem.mk 5 0 [98] [])].map GDrawItem.row))), (115, some (.arr (n1 + 1) 55 4 ([(GDrawItem.mk 5 0 [98] [])].map GDrawItem.row))), (116, some (.box (n1 + 2) 24 [.cst (.slice none 0 0)])), (117, some (.mp (n1 + 3) [] [] 0)), (118, some (.box (n1 + 4) 63 [.mref 117 (n1 + 3)])), (119, some (.box (n1 + 5) 83 [.fn 44 [.ptr 110 (n0 + 9) 0 0, .ptr 116 (n1 + 2) 0 0, .ptr 118 (n1 + 4) 0 0, .ptr 119 (n1 + 5) 0 0]]))], (n1 + 6), 53⟩) (by exact Weak.cv ⟨.inl (.inl rfl), .inl (.inl rfl), .inl (.inl rfl), .inl (.inl rfl), trivial⟩ ⟨.inl rfl, .inl rfl, .inl rfl, .inl rfl, .inl rfl, .inl rfl, .inl rfl, .inl rfl, .inl rfl, trivial⟩ (Nat.le_refl _)) ?_
  refine AW.region ?_
  refine AOps.step rfl rfl rfl (OpQ.spec (sp_move rfl (.inl rfl)) _) ?_
  have e15 : chk .i64 (1) = some (1 : Int) := by kernel_rfl
  refine AOps.step rfl rfl rfl (OpQ.spec (ms_add rfl (.inl rfl) (.inl rfl) (fun _ => e15)) _) ?_
  refine AOps.step rfl rfl rfl (OpQ.spec (sp_assign rfl (.inl rfl)) _) ?_
  refine AOps.nil ?_
  refine hK114 _ ?_
  refine AW.block ?_
  refine AW.loopN 9 ?_
  refine LoopN.step ?_
  refine AW.seq_w fun K115 hK115 wK115 => ?_
  refine AW.seq_w fun K116 hK116 wK116 => ?_
  refine AW.region ?_
  refine AOps.step rfl rfl rfl (OpQ.spec (sp_move rfl (.inl rfl)) _) ?_
  refine AOps.step rfl rfl rfl (OpQ.spec (sp_move rfl (.inl rfl)) _) ?_
  refine AOps.step rfl rfl rfl (OpQ.spec (sp_lss rfl (.inl rfl) (.inl rfl)) _) ?_
  refine AOps.nil ?_
  refine hK116 _ ?_
  refine AW.cond rfl (fun hc30 => by cases hc30) (fun hc30 => ?_)
  refine AW.exit ?_
  refine RetI.introN (.tup []) (⟨_, rfl, trivial⟩) ?_
  refine hK113 _ _ _ ?_
  refine AOps.nil ?_
  refine hK112 _ ?_
  refine AW.ret ?_
  refine RetI.intro (.tup []) (⟨_, rfl, trivial⟩) ?_
  refine hK106 _ _ _ ?_
  refine AOps.nil ?_
  refine RetI.introN (.tup []) (⟨_, rfl, trivial⟩) ?_
  refine hK91 _ _ _ ?_
  refine AOps.nil ?_
  refine hK90 _ ?_
  refine AW.seq_w fun K117 hK117 wK117 => ?_
  refine AW.region ?_
  refine AOps.step rfl rfl rfl (OpQ.spec (ms_load_box (a := .mref 109 (n0 + 8)) rfl ts_82 (.inl rfl) rfl rfl) _) ?_
  refine AOps.step rfl rfl rfl (OpQ.spec (sp_move rfl (.inl rfl)) _) ?_
  refine AOps.step rfl rfl rfl (OpQ.spec (ms_lookup_t (ks := [(0, 0)]) (vs := [.own 113 (G1 15)]) false (.slice none 0 0) rfl Try.underlying82 Try.underlying3 (fun w => by kernel_rfl) (.inl rfl) (.inl rfl) rfl rfl rfl) _) ?_
  refine AOps.step rfl rfl rfl (OpQ.spec (ms_len_own rfl tg_24.slice (.inl rfl) rfl) _) ?_
  refine AOps.step rfl rfl rfl (OpQ.spec (sp_move rfl (.inl rfl)) _) ?_
  refine AOps.nil ?_
  refine hK117 _ ?_
  refine AW.block ?_
  refine AW.loopN 9 ?_
  refine LoopN.step ?_
  refine AW.seq_w fun K118 hK118 wK118 => ?_
  refine AW.region ?_
  refine AOps.step rfl rfl rfl (OpQ.spec (sp_lss rfl (.inl rfl) (.inl rfl)) _) ?_
  refine AOps.nil ?_
  refine hK118 _ ?_
  refine AW.seq_w fun K119 hK119 wK119 => ?_
  refine AW.cond rfl (fun hc31 => ?_) (fun hc31 => by cases hc31)
  refine AW.skip ?_
  refine hK119 _ ?_
  refine AW.seq_w fun K120 hK120 wK120 => ?_
  refine AW.block ?_
  refine AW.seq_w fun K121 hK121 wK121 => ?_
  refine AW.weak (s' := ⟨[(2, .ptr 116 (n1 + 2) 0 0), (3, .ptr 118 (n1 + 4) 0 0), (4, .ptr 119 (n1 + 5) 0 0), (14, .own 113 (G1 15)), (15, .r (.int .i64 (1 : Int))), (16, .r (.int .i64 (0 : Int)))], [(101, some (.arr n0 46 8 ([(GDrawOp.mk 1 1 0 5 0 [98] [] [])].map GDrawOp.row))), (109, some (.mp (n0 + 8) [(0, 0)] [.own 113 (G1 15)] 1)), (110, some (.box (n0 + 9) 82 [.mref 109 (n0 + 8)])), (113, some (.arr (G1 15) 55 4 ([(GDrawItem.mk 5 0 [98] [])].map GDrawItem.row))), (115, some (.arr (n1 + 1) 55 4 ([(GDrawItem.mk 5 0 [98] [])].map GDrawItem.row))), (116, some (.box (n1 + 2) 24 [.cst (.slice none 0 0)])), (117, some (.mp (n1 + 3) [] [] 0)), (118, some (.box (n1 + 4) 63 [.mref 117 (n1 + 3)])), (119, some (.box (n1 + 5) 83 [.fn 44 [.ptr 110 (n0 + 9) 0 0, .ptr 116 (n1 + 2) 0 0, .ptr 118 (n1 + 4) 0 0, .ptr 119 (n1 + 5) 0 0]]))], (n1 + 6), 32⟩) (by exact Weak.cv ⟨.inl (.inl rfl), .inl (.inl rfl), .inl (.inl rfl), .inl (.inl rfl), .inl (.inl rfl), .inl (.inl rfl), trivial⟩ ⟨.inl rfl, .inl rfl, .inl rfl, .inl rfl, .inl rfl, .inl rfl, .inl rfl, .inl rfl, .inl rfl, trivial⟩ (Nat.le_refl _)) ?_
  refine AW.region ?_
  have e16 : @idx (GDrawItem) [(GDrawItem.mk 5 0 [98] [])] 0 = some (GDrawItem.mk 5 0 [98] []) := by kernel_rfl
  refine AOps.step rfl rfl rfl (OpQ.spec (ms_idx_own rfl tg_24.slice (.inl rfl) rfl (.inl rfl) (fun _ => e16)) _) ?_
  refine AOps.step rfl rfl rfl (OpQ.spec (ms_loadA_own (cs := [.r (.int .i64 ((GDrawItem.mk 5 0 [98] []).Item)), .r (.int .i64 ((GDrawItem.mk 5 0 [98] []).Parent)), .r (.str ((GDrawItem.mk 5 0 [98] []).Place)), .r (.sl (((GDrawItem.mk 5 0 [98] []).Attrs).map GAttr.row))]) rfl ta_55 (.inl rfl) (fun _ => rfl) (fun _ => e16) rfl) _) ?_
  refine AOps.step rfl rfl rfl (ms_alloc (cs := [.r (.int .i64 (0 : Int)), .r (.int .i64 (0 : Int)), .r (.str []), .cst (.slice none 0 0)]) 120 rfl t0_55 rfl rfl) ?_
  refine AOps.step0 rfl rfl (ms_store_box (ds := [.r (.int .i64 (5 : Int)), .r (.int .i64 (0 : Int)), .r (.str [98]), .r (.sl [])]) rfl tz_55 (.inl rfl) rfl (.inl rfl) rfl rfl rfl rfl) ?_
  refine AOps.nil ?_
  refine hK121 _ ?_
  refine AW.seq_w fun K122 hK122 wK122 => ?_
  have e17 : @app (GDrawItem) 56 [] [(GDrawItem.mk 5 0 [98] [])] = some [(GDrawItem.mk 5 0 [98] [])] := by kernel_rfl
  refine AW.regionP 8 [⟨some 20, (fun _ => .mref 117 (n1 + 3)), none, []⟩, ⟨some 21, (fun _ => .ptr 120 (n1 + 6) 0 0), none, []⟩, ⟨some 22, (fun _ => .r (.int .i64 (5 : Int))), none, []⟩, ⟨some 23, (fun _ => .cst (.slice none 0 0)), none, []⟩, ⟨some 24, (fun _ => .agg [.r (.int .i64 (5 : Int)), .r (.int .i64 (0 : Int)), .r (.str [98]), .r (.sl [])]), none, []⟩, ⟨some 25, (fun G2 => .own 121 (G2 5)), some (121, (fun G2 => some (.arr (G2 5) 55 4 ([(GDrawItem.mk 5 0 [98] [])].map GDrawItem.row)))), [5]⟩, ⟨some 26, (fun G2 => .own 122 (G2 6)), some (122, (fun G2 => some (.arr (G2 6) 55 4 ([(GDrawItem.mk 5 0 [98] [])].map GDrawItem.row)))), [6]⟩, ⟨none, (fun _ => .any), some (116, (fun G2 => some (.box (n1 + 2) 24 [.own 122 (G2 6)]))), [6]⟩] hmix (by kernel_rfl) (by exact ⟨fun _ _ h => ⟨rfl, fun _ _ e => by cases e⟩, fun _ _ h => ⟨rfl, fun _ _ e => by cases e⟩, fun _ _ h => ⟨rfl, fun _ _ e => by cases e⟩, fun _ _ h => ⟨rfl, fun _ _ e => by cases e⟩, fun _ _ h => ⟨rfl, fun _ _ e => by cases e⟩, fun _ _ h => ⟨by simp only [h 5 rfl], fun _ _ e => by cases e; simp only [h 5 rfl]⟩, fun _ _ h => ⟨by simp only [h 6 rfl], fun _ _ e => by cases e; simp only [h 6 rfl]⟩, fun _ _ h => ⟨rfl, fun _ _ e => by cases e; simp only [h 6 rfl]⟩, trivial⟩) rfl (by exact ⟨Ob.quiet (n1 := fun n => n) rfl rfl (by intro d h; cases h; rfl) rfl (fun _ => [(3, .ptr 118 (n1 + 4) 0 0)]) (fun _ => [(118, some (.box (n1 + 4) 63 [.mref 117 (n1 + 3)]))]) (fun D G2 hr => ⟨inE_base rfl rfl, trivial⟩) (fun D G2 hr => ⟨inH_base rfl rfl, trivial⟩) (fun _ _ => rfl) (fun G2 e h' n => OpQ.spec (v := .mref 117 (n1 + 3)) (ms_load_box (a := .mref 117 (n1 + 3)) rfl ts_63 (.inl rfl) rfl rfl) _),
      Ob.quiet (n1 := fun n => n) rfl rfl (by intro d h; cases h; rfl) rfl (fun _ => [(7, .ptr 120 (n1 + 6) 0 0)]) (fun _ => [(120, some (.box (n1 + 6) 55 [.r (.int .i64 (5 : Int)), .r (.int .i64 (0 : Int)), .r (.str [98]), .r (.sl [])]))]) (fun D G2 hr => ⟨inE_base rfl rfl, trivial⟩) (fun D G2 hr => ⟨inH_base rfl rfl, trivial⟩) (fun _ _ => rfl) (fun G2 e h' n => OpQ.spec (v := .ptr 120 (n1 + 6) 0 0) (sp_fieldAddr_own (ob := .box _ _ _) rfl tf_55_0 (.inl rfl) (fun _ => rfl) rfl) _),
      Ob.quiet (n1 := fun n => n) rfl rfl (by intro d h; cases h; rfl) rfl (fun _ => [(21, .ptr 120 (n1 + 6) 0 0)]) (fun _ => [(120, some (.box (n1 + 6) 55 [.r (.int .i64 (5 : Int)), .r (.int .i64 (0 : Int)), .r (.str [98]), .r (.sl [])]))]) (fun D G2 hr => ⟨inE_op hr 1 rfl rfl (by kernel_rfl) rfl rfl, trivial⟩) (fun D G2 hr => ⟨inH_base rfl rfl, trivial⟩) (fun _ _ => rfl) (fun G2 e h' n => OpQ.spec (v := .r (.int .i64 (5 : Int))) (ms_load_box (a := .r (.int .i64 (5 : Int))) rfl ts_3 (.inl rfl) rfl rfl) _),
      Ob.quiet (n1 := fun n => n) rfl rfl (by intro d h; cases h; rfl) rfl (fun _ => [(2, .ptr 116 (n1 + 2) 0 0)]) (fun _ => [(116, some (.box (n1 + 2) 24 [.cst (.slice none 0 0)]))]) (fun D G2 hr => ⟨inE_base rfl rfl, trivial⟩) (fun D G2 hr => ⟨inH_baseL hr (by kernel_rfl) rfl, trivial⟩) (fun _ _ => rfl) (fun G2 e h' n => OpQ.spec (v := .cst (.slice none 0 0)) (ms_load_box (a := .cst (.slice none 0 0)) rfl ts_24 (.inl rfl) rfl rfl) _),
      Ob.quiet (n1 := fun n => n) rfl rfl (by intro d h; cases h; rfl) rfl (fun _ => [(7, .ptr 120 (n1 + 6) 0 0)]) (fun _ => [(120, some (.box (n1 + 6) 55 [.r (.int .i64 (5 : Int)), .r (.int .i64 (0 : Int)), .r (.str [98]), .r (.sl [])]))]) (fun D G2 hr => ⟨inE_base rfl rfl, trivial⟩) (fun D G2 hr => ⟨inH_base rfl rfl, trivial⟩) (fun _ _ => rfl) (fun G2 e h' n => OpQ.spec (v := .agg [.r (.int .i64 (5 : Int)), .r (.int .i64 (0 : Int)), .r (.str [98]), .r (.sl [])]) (ms_loadA_box rfl ta_55 (.inl rfl) rfl rfl) _),
      Ob.make (n1 := fun n => n + 1) rfl rfl (by intro d h; cases h; rfl) rfl (fun _ => [(24, .agg [.r (.int .i64 (5 : Int)), .r (.int .i64 (0 : Int)), .r (.str [98]), .r (.sl [])])]) (fun _ => []) (fun D G2 hr => ⟨inE_op hr 4 rfl rfl (by kernel_rfl) rfl rfl, trivial⟩) (fun D G2 hr => trivial) (fun G2 e h' n => ms_lit 121 rfl tg_24 (f := GDrawItem.row) (l := ([(GDrawItem.mk 5 0 [98] [])] : List GDrawItem)) ⟨rfl, ⟨_, (.inl rfl), rfl⟩, trivial⟩ rfl (fun _ => rfl) rfl),
      Ob.make (n1 := fun n => n + 1) rfl rfl (by intro d h; cases h; rfl) rfl (fun G2 => [(23, .cst (.slice none 0 0)), (25, .own 121 (G2 5))]) (fun G2 => [(121, some (.arr (G2 5) 55 4 ([(GDrawItem.mk 5 0 [98] [])].map GDrawItem.row)))]) (fun D G2 hr => ⟨inE_op hr 3 rfl rfl (by kernel_rfl) rfl rfl, inE_op hr 5 rfl rfl (by kernel_rfl) rfl rfl, trivial⟩) (fun D G2 hr => ⟨inH_op hr 5 rfl rfl (by kernel_rfl) (by kernel_rfl) rfl, trivial⟩) (fun G2 e h' n => ms_app_nil 122 (f := GDrawItem.row) rfl tg_24 (.inl rfl) (.inr (.inl ⟨_, _, (.inl rfl), rfl⟩)) e17),
      Ob.make (n1 := fun n => n) rfl rfl (by intro d h; cases h) rfl (fun G2 => [(2, .ptr 116 (n1 + 2) 0 0), (26, .own 122 (G2 6))]) (fun G2 => [(116, some (.box (n1 + 2) 24 [.cst (.slice none 0 0)])), (122, some (.arr (G2 6) 55 4 ([(GDrawItem.mk 5 0 [98] [])].map GDrawItem.row)))]) (fun D G2 hr => ⟨inE_base rfl rfl, inE_op hr 6 rfl rfl (by kernel_rfl) rfl rfl, trivial⟩) (fun D G2 hr => ⟨inH_baseL hr (by kernel_rfl) rfl, inH_op hr 6 rfl rfl (by kernel_rfl) (by kernel_rfl) rfl, trivial⟩) (fun G2 e h' n => ms_store_box (ds := [.own 122 (G2 6)]) rfl tz_24 (.inl rfl) rfl (.inl rfl) rfl rfl rfl rfl),
      trivial⟩) fun G2 n2 => ?_
  refine AOps.weak (s' := ⟨[(2, .ptr 116 (n1 + 2) 0 0), (3, .ptr 118 (n1 + 4) 0 0), (4, .ptr 119 (n1 + 5) 0 0), (7, .ptr 120 (n1 + 6) 0 0), (14, .own 113 (G1 15)), (15, .r (.int .i64 (1 : Int))), (16, .r (.int .i64 (0 : Int))), (18, .ptr 113 (G1 15) (0 : Int).toNat 0), (19, .agg [.r (.int .i64 (5 : Int)), .r (.int .i64 (0 : Int)), .r (.str [98]), .r (.sl [])]), (20, .mref 117 (n1 + 3)), (21, .ptr 120 (n1 + 6) 0 0), (22, .r (.int .i64 (5 : Int))), (23, .cst (.slice none 0 0)), (24, .agg [.r (.int .i64 (5 : Int)), .r (.int .i64 (0 : Int)), .r (.str [98]), .r (.sl [])]), (25, .own 121 (G2 5)), (26, .own 122 (G2 6))], [(101, some (.arr n0 46 8 ([(GDrawOp.mk 1 1 0 5 0 [98] [] [])].map GDrawOp.row))), (109, some (.mp (n0 + 8) [(0, 0)] [.own 113 (G1 15)] 1)), (110, some (.box (n0 + 9) 82 [.mref 109 (n0 + 8)])), (113, some (.arr (G1 15) 55 4 ([(GDrawItem.mk 5 0 [98] [])].map GDrawItem.row))), (115, some (.arr (n1 + 1) 55 4 ([(GDrawItem.mk 5 0 [98] [])].map GDrawItem.row))), (116, some (.box (n1 + 2) 24 [.own 122 (G2 6)])), (117, some (.mp (n1 + 3) [] [] 0)), (118, some (.box (n1 + 4) 63 [.mref 117 (n1 + 3)])), (119, some (.box (n1 + 5) 83 [.fn 44 [.ptr 110 (n0 + 9) 0 0, .ptr 116 (n1 + 2) 0 0, .ptr 118 (n1 + 4) 0 0, .ptr 119 (n1 + 5) 0 0]])), (120, some (.box (n1 + 6) 55 [.r (.int .i64 (5 : Int)), .r (.int .i64 (0 : Int)), .r (.str [98]), .r (.sl [])])), (121, some (.arr (G2 5) 55 4 ([(GDrawItem.mk 5 0 [98] [])].map GDrawItem.row))), (122, some (.arr (G2 6) 55 4 ([(GDrawItem.mk 5 0 [98] [])].map GDrawItem.row)))], n2, 32⟩) (by exact Weak.cv ⟨.inl (.inl rfl), .inl (.inl rfl), .inl (.inl rfl), .inl (.inl rfl), .inl (.inl rfl), .inl (.inl rfl), .inl (.inl rfl), .inl (.inl rfl), .inl (.inl rfl), .inl (.inl rfl), .inl (.inl rfl), .inl (.inl rfl), .inl (.inl rfl), .inl (.inl rfl), .inl (.inl rfl), .inl (.inl rfl), trivial⟩ ⟨.inl rfl, .inl rfl, .inl rfl, .inl rfl, .inl rfl, .inl rfl, .inl rfl, .inl rfl, .inl rfl, .inl rfl, .inl rfl, .inl rfl, trivial⟩ (Nat.le_refl _)) ?_
  refine AOps.step0 rfl rfl (ms_mapUpdate_new (.inl rfl) Try.underlying63 Try.underlying3 (.inl rfl) (.inl rfl) (.inl rfl) rfl rfl) ?_
  refine AOps.nil ?_
  refine hK122 _ ?_
  refine AW.weak (s' := ⟨[(2, .ptr 116 (n1 + 2) 0 0), (3, .ptr 118 (n1 + 4) 0 0), (4, .ptr 119 (n1 + 5) 0 0), (7, .ptr 120 (n1 + 6) 0 0), (14, .own 113 (G1 15)), (15, .r (.int .i64 (1 : Int))), (16, .r (.int .i64 (0 : Int)))], [(101, some (.arr n0 46 8 ([(GDrawOp.mk 1 1 0 5 0 [98] [] [])].map GDrawOp.row))), (109, some (.mp (n0 + 8) [(0, 0)] [.own 113 (G1 15)] 1)), (110, some (.box (n0 + 9) 82 [.mref 109 (n0 + 8)])), (113, some (.arr (G1 15) 55 4 ([(GDrawItem.mk 5 0 [98] [])].map GDrawItem.row))), (115, some (.arr (n1 + 1) 55 4 ([(GDrawItem.mk 5 0 [98] [])].map GDrawItem.row))), (116, some (.box (n1 + 2) 24 [.own 122 (G2 6)])), (117, some (.mp (n1 + 3) [(5, 0)] [.r (.bool true)] 1)), (118, some (.box (n1 + 4) 63 [.mref 117 (n1 + 3)])), (119, some (.box (n1 + 5) 83 [.fn 44 [.ptr 110 (n0 + 9) 0 0, .ptr 116 (n1 + 2) 0 0, .ptr 118 (n1 + 4) 0 0, .ptr 119 (n1 + 5) 0 0]])), (120, some (.box (n1 + 6) 55 [.r (.int .i64 (5 : Int)), .r (.int .i64 (0 : Int)), .r (.str [98]), .r (.sl [])])), (122, some (.arr (G2 6) 55 4 ([(GDrawItem.mk 5 0 [98] [])].map GDrawItem.row)))], n2, 32⟩) (by exact Weak.cv ⟨.inl (.inl rfl), .inl (.inl rfl), .inl (.inl rfl), .inl (.inl rfl), .inl (.inl rfl), .inl (.inl rfl), .inl (.inl rfl), trivial⟩ ⟨.inl rfl, .inl rfl, .inl rfl, .inl rfl, .inl rfl, .inl rfl, .inl rfl, .inl rfl, .inl rfl, .inl rfl, .inl rfl, trivial⟩ (Nat.le_refl _)) ?_
  refine AW.region ?_
  refine AOps.step rfl rfl rfl (OpQ.spec (ms_load_box (a := .fn 44 [.ptr 110 (n0 + 9) 0 0, .ptr 116 (n1 + 2) 0 0, .ptr 118 (n1 + 4) 0 0, .ptr 119 (n1 + 5) 0 0]) rfl ts_83 (.inl rfl) rfl rfl) _) ?_
  refine AOps.step rfl rfl rfl (OpQ.spec (sp_fieldAddr_own (ob := .box _ _ _) rfl tf_55_0 (.inl rfl) (fun _ => rfl) rfl) _) ?_
  refine AOps.step rfl rfl rfl (OpQ.spec (ms_load_box (a := .r (.int .i64 (5 : Int))) rfl ts_3 (.inl rfl) rfl rfl) _) ?_
  refine AOps.stepIk [.ptr 110 (n0 + 9) 0 0, .ptr 116 (n1 + 2) 0 0, .ptr 118 (n1 + 4) 0 0, .ptr 119 (n1 + 5) 0 0] [.r (.int .i64 (5 : Int))] rfl rfl rfl rfl (.inl rfl) (by exact ⟨(.inl rfl), trivial⟩) Try.func44 rfl rfl Try.ntmps44 rfl fun K123 hK123 => ?_
  refine AW.seq_w fun K124 hK124 wK124 => ?_
  refine AW.weak (s' := ⟨[(0, .r (.int .i64 (5 : Int))), (1, .ptr 110 (n0 + 9) 0 0), (2, .ptr 116 (n1 + 2) 0 0), (3, .ptr 118 (n1 + 4) 0 0), (4, .ptr 119 (n1 + 5) 0 0)], [(101, some (.arr n0 46 8 ([(GDrawOp.mk 1 1 0 5 0 [98] [] [])].map GDrawOp.row))), (109, some (.mp (n0 + 8) [(0, 0)] [.own 113 (G1 15)] 1)), (110, some (.box (n0 + 9) 82 [.mref 109 (n0 + 8)])), (113, some (.arr (G1 15) 55 4 ([(GDrawItem.mk 5 0 [98] [])].map GDrawItem.row))), (115, some (.arr (n1 + 1) 55 4 ([(GDrawItem.mk 5 0 [98] [])].map GDrawItem.row))), (116, some (.box (n1 + 2) 24 [.own 122 (G2 6)])), (117, some (.mp (n1 + 3) [(5, 0)] [.r (.bool true)] 1)), (118, some (.box (n1 + 4) 63 [.mref 117 (n1 + 3)])), (119, some (.box (n1 + 5) 83 [.fn 44 [.ptr 110 (n0 + 9) 0 0, .ptr 116 (n1 + 2) 0 0, .ptr 118 (n1 + 4) 0 0, .ptr 119 (n1 + 5) 0 0]])), (120, some (.box (n1 + 6) 55 [.r (.int .i64 (5 : Int)), .r (.int .i64 (0 : Int)), .r (.str [98]), .r (.sl [])])), (122, some (.arr (G2 6) 55 4 ([(GDrawItem.mk 5 0 [98] [])].map GDrawItem.row)))], n2, 32⟩) (by exact Weak.cv ⟨.inl (.inl rfl), .inl (.inl rfl), .inl (.inl rfl), .inl (.inl rfl), .inl (.inl rfl), trivial⟩ ⟨.inl rfl, .inl rfl, .inl rfl, .inl rfl, .inl rfl, .inl rfl, .inl rfl, .inl rfl, .inl rfl, .inl rfl, .inl rfl, trivial⟩ (Nat.le_refl _)) ?_
  refine AW.region ?_
  refine AOps.step rfl rfl rfl (OpQ.spec (ms_load_box (a := .mref 109 (n0 + 8)) rfl ts_82 (.inl rfl) rfl rfl) _) ?_
  refine AOps.step rfl rfl rfl (OpQ.spec (sp_move rfl (.inl rfl)) _) ?_
  refine AOps.step rfl rfl rfl (OpQ.spec (ms_lookup_f (ks := [(0, 0)]) (vs := [.own 113 (G1 15)]) (a := .cst (.slice none 0 0)) false (.slice none 0 0) rfl Try.underlying82 Try.underlying3 (fun w => by kernel_rfl) (fun y => .cst _) (.inl rfl) (.inl rfl) rfl rfl) _) ?_
  refine AOps.stepIk [] [.cst (.slice none 0 0), .fn 46 []] rfl rfl rfl rfl (.inl rfl) (by exact ⟨(.inl rfl), (.inl rfl), trivial⟩) Try.func45 rfl rfl Try.ntmps45 rfl fun K125 hK125 => ?_
  refine AW.seq_w fun K126 hK126 wK126 => ?_
  refine AW.weak (s' := ⟨[(0, .cst (.slice none 0 0)), (1, .fn 46 [])], [(101, some (.arr n0 46 8 ([(GDrawOp.mk 1 1 0 5 0 [98] [] [])].map GDrawOp.row))), (109, some (.mp (n0 + 8) [(0, 0)] [.own 113 (G1 15)] 1)), (110, some (.box (n0 + 9) 82 [.mref 109 (n0 + 8)])), (113, some (.arr (G1 15) 55 4 ([(GDrawItem.mk 5 0 [98] [])].map GDrawItem.row))), (115, some (.arr (n1 + 1) 55 4 ([(GDrawItem.mk 5 0 [98] [])].map GDrawItem.row))), (116, some (.box (n1 + 2) 24 [.own 122 (G2 6)])), (117, some (.mp (n1 + 3) [(5, 0)] [.r (.bool true)] 1)), (118, some (.box (n1 + 4) 63 [.mref 117 (n1 + 3)])), (119, some (.box (n1 + 5) 83 [.fn 44 [.ptr 110 (n0 + 9) 0 0, .ptr 116 (n1 + 2) 0 0, .ptr 118 (n1 + 4) 0 0, .ptr 119 (n1 + 5) 0 0]])), (120, some (.box (n1 + 6) 55 [.r (.int .i64 (5 : Int)), .r (.int .i64 (0 : Int)), .r (.str [98]), .r (.sl [])])), (122, some (.arr (G2 6) 55 4 ([(GDrawItem.mk 5 0 [98] [])].map GDrawItem.row)))], n2, 14⟩) (by exact Weak.cv ⟨.inl (.inl rfl), .inl (.inl rfl), trivial⟩ ⟨.inl rfl, .inl rfl, .inl rfl, .inl rfl, .inl rfl, .inl rfl, .inl rfl, .inl rfl, .inl rfl, .inl rfl, .inl rfl, trivial⟩ (Nat.le_refl _)) ?_
  refine AW.region ?_
  refine AOps.step rfl rfl rfl (OpQ.spec (sp_move rfl (.inl rfl)) _) ?_
  refine AOps.step rfl rfl rfl (OpQ.spec (sp_len_nil rfl tg_24.slice (.inl rfl)) _) ?_
  refine AOps.step rfl rfl rfl (OpQ.spec (sp_assign rfl (.inl rfl)) _) ?_
  refine AOps.nil ?_
  refine hK126 _ ?_
  refine AW.region ?_
  refine AOps.step rfl rfl rfl (OpQ.spec (sp_move rfl (.inl rfl)) _) ?_
  refine AOps.step rfl rfl rfl (OpQ.spec (sp_move rfl (.inl rfl)) _) ?_
  refine AOps.step rfl rfl rfl (OpQ.spec (sp_move rfl (.inl rfl)) _) ?_
  refine AOps.step rfl rfl rfl (OpQ.spec (sp_convert_int rfl Try.underlying3 Try.underlying94 (.inl rfl)) _) ?_
  refine AOps.stepIk [] [.r (.int .u64 (0 : Int))] rfl rfl rfl rfl (.inl rfl) (by exact ⟨(.inl rfl), trivial⟩) Try.func60 rfl rfl Try.ntmps60 rfl fun K127 hK127 => ?_
  refine AW.seq_w fun K128 hK128 wK128 => ?_
  refine AW.weak (s' := ⟨[(0, .r (.int .u64 (0 : Int)))], [(101, some (.arr n0 46 8 ([(GDrawOp.mk 1 1 0 5 0 [98] [] [])].map GDrawOp.row))), (109, some (.mp (n0 + 8) [(0, 0)] [.own 113 (G1 15)] 1)), (110, some (.box (n0 + 9) 82 [.mref 109 (n0 + 8)])), (113, some (.arr (G1 15) 55 4 ([(GDrawItem.mk 5 0 [98] [])].map GDrawItem.row))), (115, some (.arr (n1 + 1) 55 4 ([(GDrawItem.mk 5 0 [98] [])].map GDrawItem.row))), (116, some (.box (n1 + 2) 24 [.own 122 (G2 6)])), (117, some (.mp (n1 + 3) [(5, 0)] [.r (.bool true)] 1)), (118, some (.box (n1 + 4) 63 [.mref 117 (n1 + 3)])), (119, some (.box (n1 + 5) 83 [.fn 44 [.ptr 110 (n0 + 9) 0 0, .ptr 116 (n1 + 2) 0 0, .ptr 118 (n1 + 4) 0 0, .ptr 119 (n1 + 5) 0 0]])), (120, some (.box (n1 + 6) 55 [.r (.int .i64 (5 : Int)), .r (.int .i64 (0 : Int)), .r (.str [98]), .r (.sl [])])), (122, some (.arr (G2 6) 55 4 ([(GDrawItem.mk 5 0 [98] [])].map GDrawItem.row)))], n2, 8⟩) (by exact Weak.cv ⟨.inl (.inl rfl), trivial⟩ ⟨.inl rfl, .inl rfl, .inl rfl, .inl rfl, .inl rfl, .inl rfl, .inl rfl, .inl rfl, .inl rfl, .inl rfl, .inl rfl, trivial⟩ (Nat.le_refl _)) ?_
  refine AW.region ?_
  refine AOps.step rfl rfl rfl (OpQ.spec (sp_assign rfl (.inl rfl)) _) ?_
  refine AOps.nil ?_
  refine hK128 _ ?_
  refine AW.seq_w fun K129 hK129 wK129 => ?_
  refine AW.cond rfl (fun hc32 => by cases hc32) (fun hc32 => ?_)
  refine AW.skip ?_
  refine hK129 _ ?_
  refine AW.seq_w fun K130 hK130 wK130 => ?_
  refine AW.region ?_
  refine AOps.step rfl rfl rfl (OpQ.spec (sp_move rfl (.inl rfl)) _) ?_
  refine AOps.stepIk [] [.r (.int .u64 (0 : Int))] rfl rfl rfl rfl (.inl rfl) (by exact ⟨(.inl rfl), trivial⟩) Try.func79 rfl rfl Try.ntmps79 rfl fun K131 hK131 => ?_
  refine AW.seq_w fun K132 hK132 wK132 => ?_
  refine AW.weak (s' := ⟨[(0, .r (.int .u64 (0 : Int)))], [(101, some (.arr n0 46 8 ([(GDrawOp.mk 1 1 0 5 0 [98] [] [])].map GDrawOp.row))), (109, some (.mp (n0 + 8) [(0, 0)] [.own 113 (G1 15)] 1)), (110, some (.box (n0 + 9) 82 [.mref 109 (n0 + 8)])), (113, some (.arr (G1 15) 55 4 ([(GDrawItem.mk 5 0 [98] [])].map GDrawItem.row))), (115, some (.arr (n1 + 1) 55 4 ([(GDrawItem.mk 5 0 [98] [])].map GDrawItem.row))), (116, some (.box (n1 + 2) 24 [.own 122 (G2 6)])), (117, some (.mp (n1 + 3) [(5, 0)] [.r (.bool true)] 1)), (118, some (.box (n1 + 4) 63 [.mref 117 (n1 + 3)])), (119, some (.box (n1 + 5) 83 [.fn 44 [.ptr 110 (n0 + 9) 0 0, .ptr 116 (n1 + 2) 0 0, .ptr 118 (n1 + 4) 0 0, .ptr 119 (n1 + 5) 0 0]])), (120, some (.box (n1 + 6) 55 [.r (.int .i64 (5 : Int)), .r (.int .i64 (0 : Int)), .r (.str [98]), .r (.sl [])])), (122, some (.arr (G2 6) 55 4 ([(GDrawItem.mk 5 0 [98] [])].map GDrawItem.row)))], n2, 25⟩) (by exact Weak.cv ⟨.inl (.inl rfl), trivial⟩ ⟨.inl rfl, .inl rfl, .inl rfl, .inl rfl, .inl rfl, .inl rfl, .inl rfl, .inl rfl, .inl rfl, .inl rfl, .inl rfl, trivial⟩ (Nat.le_refl _)) ?_
  refine AW.region ?_
  refine AOps.step rfl rfl rfl (OpQ.spec (sp_assign rfl (.inl rfl)) _) ?_
  refine AOps.nil ?_
  refine hK132 _ ?_
  refine AW.seq_w fun K133 hK133 wK133 => ?_
  refine AW.seq_w fun K134 hK134 wK134 => ?_
  refine AW.region ?_
  refine AOps.step rfl rfl rfl (OpQ.spec (sp_move rfl (.inl rfl)) _) ?_
  refine AOps.step rfl rfl rfl (OpQ.spec (sp_geq rfl (.inl rfl) (.inl rfl)) _) ?_
  refine AOps.nil ?_
  refine hK134 _ ?_
  refine AW.cond rfl (fun hc33 => by cases hc33) (fun hc33 => ?_)
  refine AW.skip ?_
  refine hK133 _ ?_
  refine AW.seq_w fun K135 hK135 wK135 => ?_
  refine AW.seq_w fun K136 hK136 wK136 => ?_
  refine AW.region ?_
  refine AOps.step rfl rfl rfl (OpQ.spec (sp_move rfl (.inl rfl)) _) ?_
  refine AOps.step rfl rfl rfl (OpQ.spec (sp_geq rfl (.inl rfl) (.inl rfl)) _) ?_
  refine AOps.nil ?_
  refine hK136 _ ?_
  refine AW.cond rfl (fun hc34 => by cases hc34) (fun hc34 => ?_)
  refine AW.skip ?_
  refine hK135 _ ?_
  refine AW.seq_w fun K137 hK137 wK137 => ?_
  refine AW.seq_w fun K138 hK138 wK138 => ?_
  refine AW.region ?_
  refine AOps.step rfl rfl rfl (OpQ.spec (sp_move rfl (.inl rfl)) _) ?_
  refine AOps.step rfl rfl rfl (OpQ.spec (sp_geq rfl (.inl rfl) (.inl rfl)) _) ?_
  refine AOps.nil ?_
  refine hK138 _ ?_
  refine AW.cond rfl (fun hc35 => by cases hc35) (fun hc35 => ?_)
  refine AW.skip ?_
  refine hK137 _ ?_
  refine AW.seq_w fun K139 hK139 wK139 => ?_
  refine AW.region ?_
  refine AOps.step rfl rfl rfl (OpQ.spec (sp_move rfl (.inl rfl)) _) ?_
  refine AOps.step rfl rfl rfl (OpQ.spec (sp_move rfl (.inl rfl)) _) ?_
  refine AOps.step rfl rfl rfl (OpQ.spec (sp_convert_int rfl Try.underlying112 Try.underlying5 (.inl rfl)) _) ?_
  have e18 : @idx (UInt8) [0, 1, 2, 2, 3, 3, 3, 3, 4, 4, 4, 4, 4, 4, 4, 4, 5, 5, 5, 5, 5, 5, 5, 5, 5, 5, 5, 5, 5, 5, 5, 5, 6, 6, 6, 6, 6, 6, 6, 6, 6, 6, 6, 6, 6, 6, 6, 6, 6, 6, 6, 6, 6, 6, 6, 6, 6, 6, 6, 6, 6, 6, 6, 6, 7, 7, 7, 7, 7, 7, 7, 7, 7, 7, 7, 7, 7, 7, 7, 7, 7, 7, 7, 7, 7, 7, 7, 7, 7, 7, 7, 7, 7, 7, 7, 7, 7, 7, 7, 7, 7, 7, 7, 7, 7, 7, 7, 7, 7, 7, 7, 7, 7, 7, 7, 7, 7, 7, 7, 7, 7, 7, 7, 7, 7, 7, 7, 7, 8, 8, 8, 8, 8, 8, 8, 8, 8, 8, 8, 8, 8, 8, 8, 8, 8, 8, 8, 8, 8, 8, 8, 8, 8, 8, 8, 8, 8, 8, 8, 8, 8, 8, 8, 8, 8, 8, 8, 8, 8, 8, 8, 8, 8, 8, 8, 8, 8, 8, 8, 8, 8, 8, 8, 8, 8, 8, 8, 8, 8, 8, 8, 8, 8, 8, 8, 8, 8, 8, 8, 8, 8, 8, 8, 8, 8, 8, 8, 8, 8, 8, 8, 8, 8, 8, 8, 8, 8, 8, 8, 8, 8, 8, 8, 8, 8, 8, 8, 8, 8, 8, 8, 8, 8, 8, 8, 8, 8, 8, 8, 8, 8, 8, 8, 8, 8, 8, 8, 8, 8, 8, 8, 8, 8, 8, 8, 8] 0 = some (0 : UInt8) := by kernel_rfl
  refine AOps.step rfl rfl rfl (OpQ.spec (ms_idx_str rfl Try.underlying9 (.inl rfl) (.inl rfl) (fun _ => e18)) _) ?_
  refine AOps.step rfl rfl rfl (OpQ.spec (sp_convert_int rfl Try.underlying5 Try.underlying3 (.inl rfl)) _) ?_
  have e19 : chk .i64 (0) = some (0 : Int) := by kernel_rfl
  refine AOps.step rfl rfl rfl (OpQ.spec (ms_add rfl (.inl rfl) (.inl rfl) (fun _ => e19)) _) ?_
  refine AOps.step rfl rfl rfl (OpQ.spec (sp_assign rfl (.inl rfl)) _) ?_
  refine AOps.nil ?_
  refine hK139 _ ?_
  refine AW.ret ?_
  refine RetI.intro (.r (.int .i64 (0 : Int))) (rfl) ?_
  refine hK131 _ _ _ ?_
  refine AOps.step rfl rfl rfl (OpQ.spec (sp_assign rfl (.inl rfl)) _) ?_
  refine AOps.nil ?_
  refine hK130 _ ?_
  refine AW.ret ?_
  refine RetI.intro (.r (.int .i64 (0 : Int))) (rfl) ?_
  refine hK127 _ _ _ ?_
  refine AOps.step rfl rfl rfl (OpQ.spec (sp_move rfl (.inl rfl)) _) ?_
  refine AOps.stepIk [] [.cst (.slice none 0 0), .r (.int .i64 (0 : Int)), .r (.int .i64 (0 : Int)), .r (.int .i64 (0 : Int)), .fn 46 []] rfl rfl rfl rfl (.inl rfl) (by exact ⟨(.inl rfl), (.inl rfl), (.inl rfl), (.inl rfl), (.inl rfl), trivial⟩) Try.func65 rfl rfl Try.ntmps65 rfl fun K140 hK140 => ?_
  refine AW.seq_w fun K141 hK141 wK141 => ?_
  refine AW.weak (s' := ⟨[(0, .cst (.slice none 0 0)), (1, .r (.int .i64 (0 : Int))), (2, .r (.int .i64 (0 : Int))), (3, .r (.int .i64 (0 : Int))), (4, .fn 46 [])], [(101, some (.arr n0 46 8 ([(GDrawOp.mk 1 1 0 5 0 [98] [] [])].map GDrawOp.row))), (109, some (.mp (n0 + 8) [(0, 0)] [.own 113 (G1 15)] 1)), (110, some (.box (n0 + 9) 82 [.mref 109 (n0 + 8)])), (113, some (.arr (G1 15) 55 4 ([(GDrawItem.mk 5 0 [98] [])].map GDrawItem.row))), (115, some (.arr (n1 + 1) 55 4 ([(GDrawItem.mk 5 0 [98] [])].map GDrawItem.row))), (116, some (.box (n1 + 2) 24 [.own 122 (G2 6)])), (117, some (.mp (n1 + 3) [(5, 0)] [.r (.bool true)] 1)), (118, some (.box (n1 + 4) 63 [.mref 117 (n1 + 3)])), (119, some (.box (n1 + 5) 83 [.fn 44 [.ptr 110 (n0 + 9) 0 0, .ptr 116 (n1 + 2) 0 0, .ptr 118 (n1 + 4) 0 0, .ptr 119 (n1 + 5) 0 0]])), (120, some (.box (n1 + 6) 55 [.r (.int .i64 (5 : Int)), .r (.int .i64 (0 : Int)), .r (.str [98]), .r (.sl [])])), (122, some (.arr (G2 6) 55 4 ([(GDrawItem.mk 5 0 [98] [])].map GDrawItem.row)))], n2, 148⟩) (by exact Weak.cv ⟨.inl (.inl rfl), .inl (.inl rfl), .inl (.inl rfl), .inl (.inl rfl), .inl (.inl rfl), trivial⟩ ⟨.inl rfl, .inl rfl, .inl rfl, .inl rfl, .inl rfl, .inl rfl, .inl rfl, .inl rfl, .inl rfl, .inl rfl, .inl rfl, trivial⟩ (Nat.le_refl _)) ?_
  refine AW.region ?_
  refine AOps.step rfl rfl rfl (OpQ.spec (sp_assign rfl (.inl rfl)) _) ?_
  refine AOps.nil ?_
  refine hK141 _ ?_
  refine AW.seq_w fun K142 hK142 wK142 => ?_
  refine AW.region ?_
  refine AOps.step rfl rfl rfl (OpQ.spec (sp_assign rfl (.inl rfl)) _) ?_
  refine AOps.nil ?_
  refine hK142 _ ?_
  refine AW.block ?_
  refine AW.loopN 9 ?_
  refine LoopN.step ?_
  refine AW.block ?_
  refine AW.seq_w fun K143 hK143 wK143 => ?_
  refine AW.region ?_
  refine AOps.step rfl rfl rfl (OpQ.spec (sp_move rfl (.inl rfl)) _) ?_
  refine AOps.step rfl rfl rfl (OpQ.spec (sp_move rfl (.inl rfl)) _) ?_
  have e20 : chk .i64 (0) = some (0 : Int) := by kernel_rfl
  refine AOps.step rfl rfl rfl (OpQ.spec (ms_sub rfl (.inl rfl) (.inl rfl) (fun _ => e20)) _) ?_
  refine AOps.step rfl rfl rfl (OpQ.spec (sp_assign rfl (.inl rfl)) _) ?_
  refine AOps.nil ?_
  refine hK143 _ ?_
  refine AW.seq_w fun K144 hK144 wK144 => ?_
  refine AW.seq_w fun K145 hK145 wK145 => ?_
  refine AW.region ?_
  refine AOps.step rfl rfl rfl (OpQ.spec (sp_move rfl (.inl rfl)) _) ?_
  refine AOps.step rfl rfl rfl (OpQ.spec (sp_leq rfl (.inl rfl) (.inl rfl)) _) ?_
  refine AOps.nil ?_
  refine hK145 _ ?_
  refine AW.cond rfl (fun hc36 => ?_) (fun hc36 => by cases hc36)
  refine AW.seq_w fun K146 hK146 wK146 => ?_
  refine AW.weak (s' := ⟨[(0, .cst (.slice none 0 0)), (1, .r (.int .i64 (0 : Int))), (2, .r (.int .i64 (0 : Int))), (4, .fn 46 [])], [(101, some (.arr n0 46 8 ([(GDrawOp.mk 1 1 0 5 0 [98] [] [])].map GDrawOp.row))), (109, some (.mp (n0 + 8) [(0, 0)] [.own 113 (G1 15)] 1)), (110, some (.box (n0 + 9) 82 [.mref 109 (n0 + 8)])), (113, some (.arr (G1 15) 55 4 ([(GDrawItem.mk 5 0 [98] [])].map GDrawItem.row))), (115, some (.arr (n1 + 1) 55 4 ([(GDrawItem.mk 5 0 [98] [])].map GDrawItem.row))), (116, some (.box (n1 + 2) 24 [.own 122 (G2 6)])), (117, some (.mp (n1 + 3) [(5, 0)] [.r (.bool true)] 1)), (118, some (.box (n1 + 4) 63 [.mref 117 (n1 + 3)])), (119, some (.box (n1 + 5) 83 [.fn 44 [.ptr 110 (n0 + 9) 0 0, .ptr 116 (n1 + 2) 0 0, .ptr 118 (n1 + 4) 0 0, .ptr 119 (n1 + 5) 0 0]])), (120, some (.box (n1 + 6) 55 [.r (.int .i64 (5 : Int)), .r (.int .i64 (0 : Int)), .r (.str [98]), .r (.sl [])])), (122, some (.arr (G2 6) 55 4 ([(GDrawItem.mk 5 0 [98] [])].map GDrawItem.row)))], n2, 148⟩) (by exact Weak.cv ⟨.inl (.inl rfl), .inl (.inl rfl), .inl (.inl rfl), .inl (.inl rfl), trivial⟩ ⟨.inl rfl, .inl rfl, .inl rfl, .inl rfl, .inl rfl, .inl rfl, .inl rfl, .inl rfl, .inl rfl, .inl rfl, .inl rfl, trivial⟩ (Nat.le_refl _)) ?_
  refine AW.region ?_
  refine AOps.step rfl rfl rfl (OpQ.spec (sp_move rfl (.inl rfl)) _) ?_
  refine AOps.step rfl rfl rfl (OpQ.spec (sp_move rfl (.inl rfl)) _) ?_
  refine AOps.step rfl rfl rfl (OpQ.spec (sp_move rfl (.inl rfl)) _) ?_
  refine AOps.step rfl rfl rfl (OpQ.spec (sp_move rfl (.inl rfl)) _) ?_
  refine AOps.stepIk [] [.cst (.slice none 0 0), .r (.int .i64 (0 : Int)), .r (.int .i64 (0 : Int)), .fn 46 []] rfl rfl rfl rfl (.inl rfl) (by exact ⟨(.inl rfl), (.inl rfl), (.inl rfl), (.inl rfl), trivial⟩) Try.func80 rfl rfl Try.ntmps80 rfl fun K147 hK147 => ?_
  refine AW.seq_w fun K148 hK148 wK148 => ?_
  refine AW.weak (s' := ⟨[(0, .cst (.slice none 0 0)), (1, .r (.int .i64 (0 : Int))), (2, .r (.int .i64 (0 : Int))), (3, .fn 46 [])], [(101, some (.arr n0 46 8 ([(GDrawOp.mk 1 1 0 5 0 [98] [] [])].map GDrawOp.row))), (109, some (.mp (n0 + 8) [(0, 0)] [.own 113 (G1 15)] 1)), (110, some (.box (n0 + 9) 82 [.mref 109 (n0 + 8)])), (113, some (.arr (G1 15) 55 4 ([(GDrawItem.mk 5 0 [98] [])].map GDrawItem.row))), (115, some (.arr (n1 + 1) 55 4 ([(GDrawItem.mk 5 0 [98] [])].map GDrawItem.row))), (116, some (.box (n1 + 2) 24 [.own 122 (G2 6)])), (117, some (.mp (n1 + 3) [(5, 0)] [.r (.bool true)] 1)), (118, some (.box (n1 + 4) 63 [.mref 117 (n1 + 3)])), (119, some (.box (n1 + 5) 83 [.fn 44 [.ptr 110 (n0 + 9) 0 0, .ptr 116 (n1 + 2) 0 0, .ptr 118 (n1 + 4) 0 0, .ptr 119 (n1 + 5) 0 0]])), (120, some (.box (n1 + 6) 55 [.r (.int .i64 (5 : Int)), .r (.int .i64 (0 : Int)), .r (.str [98]), .r (.sl [])])), (122, some (.arr (G2 6) 55 4 ([(GDrawItem.mk 5 0 [98] [])].map GDrawItem.row)))], n2, 53⟩) (by exact Weak.cv ⟨.inl (.inl rfl), .inl (.inl rfl), .inl (.inl rfl), .inl (.inl rfl), trivial⟩ ⟨.inl rfl, .inl rfl, .inl rfl, .inl rfl, .inl rfl, .inl rfl, .inl rfl, .inl rfl, .inl rfl, .inl rfl, .inl rfl, trivial⟩ (Nat.le_refl _)) ?_
  refine AW.region ?_
  refine AOps.step rfl rfl rfl (OpQ.spec (sp_move rfl (.inl rfl)) _) ?_
  have e21 : chk .i64 (1) = some (1 : Int) := by kernel_rfl
  refine AOps.step rfl rfl rfl (OpQ.spec (ms_add rfl (.inl rfl) (.inl rfl) (fun _ => e21)) _) ?_
  refine AOps.step rfl rfl rfl (OpQ.spec (sp_assign rfl (.inl rfl)) _) ?_
  refine AOps.nil ?_
  refine hK148 _ ?_
  refine AW.block ?_
  refine AW.loopN 9 ?_
  refine LoopN.step ?_
  refine AW.seq_w fun K149 hK149 wK149 => ?_
  refine AW.seq_w fun K150 hK150 wK150 => ?_
  refine AW.region ?_
  refine AOps.step rfl rfl rfl (OpQ.spec (sp_move rfl (.inl rfl)) _) ?_
  refine AOps.step rfl rfl rfl (OpQ.spec (sp_move rfl (.inl rfl)) _) ?_
  refine AOps.step rfl rfl rfl (OpQ.spec (sp_lss rfl (.inl rfl) (.inl rfl)) _) ?_
  refine AOps.nil ?_
  refine hK150 _ ?_
  refine AW.cond rfl (fun hc37 => by cases hc37) (fun hc37 => ?_)
  refine AW.exit ?_
  refine RetI.introN (.tup []) (⟨_, rfl, trivial⟩) ?_
  refine hK147 _ _ _ ?_
  refine AOps.nil ?_
  refine hK146 _ ?_
  refine AW.ret ?_
  refine RetI.intro (.tup []) (⟨_, rfl, trivial⟩) ?_
  refine hK140 _ _ _ ?_
  refine AOps.nil ?_
  refine RetI.introN (.tup []) (⟨_, rfl, trivial⟩) ?_
  refine hK125 _ _ _ ?_
  refine AOps.nil ?_
  refine hK124 _ ?_
  refine AW.seq_w fun K151 hK151 wK151 => ?_
  refine AW.region ?_
  refine AOps.step rfl rfl rfl (OpQ.spec (ms_load_box (a := .mref 109 (n0 + 8)) rfl ts_82 (.inl rfl) rfl rfl) _) ?_
  refine AOps.step rfl rfl rfl (OpQ.spec (sp_move rfl (.inl rfl)) _) ?_
  refine AOps.step rfl rfl rfl (OpQ.spec (ms_lookup_f (ks := [(0, 0)]) (vs := [.own 113 (G1 15)]) (a := .cst (.slice none 0 0)) false (.slice none 0 0) rfl Try.underlying82 Try.underlying3 (fun w => by kernel_rfl) (fun y => .cst _) (.inl rfl) (.inl rfl) rfl rfl) _) ?_
  refine AOps.step rfl rfl rfl (OpQ.spec (sp_len_nil rfl tg_24.slice (.inl rfl)) _) ?_
  refine AOps.step rfl rfl rfl (OpQ.spec (sp_move rfl (.inl rfl)) _) ?_
  refine AOps.nil ?_
  refine hK151 _ ?_
  refine AW.block ?_
  refine AW.loopN 9 ?_
  refine LoopN.step ?_
  refine AW.seq_w fun K152 hK152 wK152 => ?_
  refine AW.region ?_
  refine AOps.step rfl rfl rfl (OpQ.spec (sp_lss rfl (.inl rfl) (.inl rfl)) _) ?_
  refine AOps.nil ?_
  refine hK152 _ ?_
  refine AW.seq_w fun K153 hK153 wK153 => ?_
  refine AW.cond rfl (fun hc38 => by cases hc38) (fun hc38 => ?_)
  refine AW.exit ?_
  refine RetI.introN (.tup []) (⟨_, rfl, trivial⟩) ?_
  refine hK123 _ _ _ ?_
  refine AOps.nil ?_
  refine hK120 _ ?_
  refine AW.region ?_
  have e22 : chk .i64 (1) = some (1 : Int) := by kernel_rfl
  refine AOps.step rfl rfl rfl (OpQ.spec (ms_add rfl (.inl rfl) (.inl rfl) (fun _ => e22)) _) ?_
  refine AOps.step rfl rfl rfl (OpQ.spec (sp_move rfl (.inl rfl)) _) ?_
  refine AOps.nil ?_
  refine LoopN.step ?_
  refine AW.seq_w fun K154 hK154 wK154 => ?_
  refine AW.region ?_
  refine AOps.step rfl rfl rfl (OpQ.spec (sp_lss rfl (.inl rfl) (.inl rfl)) _) ?_
  refine AOps.nil ?_
  refine hK154 _ ?_
  refine AW.seq_w fun K155 hK155 wK155 => ?_
  refine AW.cond rfl (fun hc39 => by cases hc39) (fun hc39 => ?_)
  refine AW.exit ?_
  refine RetI.introN (.tup []) (⟨_, rfl, trivial⟩) ?_
  refine hK89 _ _ _ ?_
  refine AOps.nil ?_
  refine hK88 _ ?_
  refine AW.seq_w fun K156 hK156 wK156 => ?_
  refine AW.weak (s' := ⟨[(5, .own 115 (n1 + 1)), (8, .ptr 116 (n1 + 2) 0 0), (9, .ptr 118 (n1 + 4) 0 0)], [(101, some (.arr n0 46 8 ([(GDrawOp.mk 1 1 0 5 0 [98] [] [])].map GDrawOp.row))), (115, some (.arr (n1 + 1) 55 4 ([(GDrawItem.mk 5 0 [98] [])].map GDrawItem.row))), (116, some (.box (n1 + 2) 24 [.own 122 (G2 6)])), (117, some (.mp (n1 + 3) [(5, 0)] [.r (.bool true)] 1)), (118, some (.box (n1 + 4) 63 [.mref 117 (n1 + 3)])), (122, some (.arr (G2 6) 55 4 ([(GDrawItem.mk 5 0 [98] [])].map GDrawItem.row)))], n2, 80⟩) (by exact Weak.cv ⟨.inl (.inl rfl), .inl (.inl rfl), .inl (.inl rfl), trivial⟩ ⟨.inl rfl, .inl rfl, .inl rfl, .inl rfl, .inl rfl, .inl rfl, trivial⟩ (Nat.le_refl _)) ?_
  refine AW.region ?_
  refine AOps.step rfl rfl rfl (OpQ.spec (sp_move rfl (.inl rfl)) _) ?_
  refine AOps.stepIk [] [.own 115 (n1 + 1), .fn 50 []] rfl rfl rfl rfl (.inl rfl) (by exact ⟨(.inl rfl), (.inl rfl), trivial⟩) Try.func45 rfl rfl Try.ntmps45 rfl fun K157 hK157 => ?_
  refine AW.seq_w fun K158 hK158 wK158 => ?_
  refine AW.weak (s' := ⟨[(0, .own 115 (n1 + 1)), (1, .fn 50 [])], [(101, some (.arr n0 46 8 ([(GDrawOp.mk 1 1 0 5 0 [98] [] [])].map GDrawOp.row))), (115, some (.arr (n1 + 1) 55 4 ([(GDrawItem.mk 5 0 [98] [])].map GDrawItem.row))), (116, some (.box (n1 + 2) 24 [.own 122 (G2 6)])), (117, some (.mp (n1 + 3) [(5, 0)] [.r (.bool true)] 1)), (118, some (.box (n1 + 4) 63 [.mref 117 (n1 + 3)])), (122, some (.arr (G2 6) 55 4 ([(GDrawItem.mk 5 0 [98] [])].map GDrawItem.row)))], n2, 14⟩) (by exact Weak.cv ⟨.inl (.inl rfl), .inl (.inl rfl), trivial⟩ ⟨.inl rfl, .inl rfl, .inl rfl, .inl rfl, .inl rfl, .inl rfl, trivial⟩ (Nat.le_refl _)) ?_
  refine AW.region ?_
  refine AOps.step rfl rfl rfl (OpQ.spec (sp_move rfl (.inl rfl)) _) ?_
  refine AOps.step rfl rfl rfl (OpQ.spec (ms_len_own rfl tg_24.slice (.inl rfl) rfl) _) ?_
  refine AOps.step rfl rfl rfl (OpQ.spec (sp_assign rfl (.inl rfl)) _) ?_
  refine AOps.nil ?_
  refine hK158 _ ?_
  refine AW.region ?_
  refine AOps.step rfl rfl rfl (OpQ.spec (sp_move rfl (.inl rfl)) _) ?_
  refine AOps.step rfl rfl rfl (OpQ.spec (sp_move rfl (.inl rfl)) _) ?_
  refine AOps.step rfl rfl rfl (OpQ.spec (sp_move rfl (.inl rfl)) _) ?_
  refine AOps.step rfl rfl rfl (OpQ.spec (sp_convert_int rfl Try.underlying3 Try.underlying94 (.inl rfl)) _) ?_
  refine AOps.stepIk [] [.r (.int .u64 (1 : Int))] rfl rfl rfl rfl (.inl rfl) (by exact ⟨(.inl rfl), trivial⟩) Try.func60 rfl rfl Try.ntmps60 rfl fun K159 hK159 => ?_
  refine AW.seq_w fun K160 hK160 wK160 => ?_
  refine AW.weak (s' := ⟨[(0, .r (.int .u64 (1 : Int)))], [(101, some (.arr n0 46 8 ([(GDrawOp.mk 1 1 0 5 0 [98] [] [])].map GDrawOp.row))), (115, some (.arr (n1 + 1) 55 4 ([(GDrawItem.mk 5 0 [98] [])].map GDrawItem.row))), (116, some (.box (n1 + 2) 24 [.own 122 (G2 6)])), (117, some (.mp (n1 + 3) [(5, 0)] [.r (.bool true)] 1)), (118, some (.box (n1 + 4) 63 [.mref 117 (n1 + 3)])), (122, some (.arr (G2 6) 55 4 ([(GDrawItem.mk 5 0 [98] [])].map GDrawItem.row)))], n2, 8⟩) (by exact Weak.cv ⟨.inl (.inl rfl), trivial⟩ ⟨.inl rfl, .inl rfl, .inl rfl, .inl rfl, .inl rfl, .inl rfl, trivial⟩ (Nat.le_refl _)) ?_
  refine AW.region ?_
  refine AOps.step rfl rfl rfl (OpQ.spec (sp_assign rfl (.inl rfl)) _) ?_
  refine AOps.nil ?_
  refine hK160 _ ?_
  refine AW.seq_w fun K161 hK161 wK161 => ?_
  refine AW.cond rfl (fun hc40 => by cases hc40) (fun hc40 => ?_)
  refine AW.skip ?_
  refine hK161 _ ?_
  refine AW.seq_w fun K162 hK162 wK162 => ?_
  refine AW.region ?_
  refine AOps.step rfl rfl rfl (OpQ.spec (sp_move rfl (.inl rfl)) _) ?_
  refine AOps.stepIk [] [.r (.int .u64 (1 : Int))] rfl rfl rfl rfl (.inl rfl) (by exact ⟨(.inl rfl), trivial⟩) Try.func79 rfl rfl Try.ntmps79 rfl fun K163 hK163 => ?_
  refine AW.seq_w fun K164 hK164 wK164 => ?_
  refine AW.weak (s' := ⟨[(0, .r (.int .u64 (1 : Int)))], [(101, some (.arr n0 46 8 ([(GDrawOp.mk 1 1 0 5 0 [98] [] [])].map GDrawOp.row))), (115, some (.arr (n1 + 1) 55 4 ([(GDrawItem.mk 5 0 [98] [])].map GDrawItem.row))), (116, some (.box (n1 + 2) 24 [.own 122 (G2 6)])), (117, some (.mp (n1 + 3) [(5, 0)] [.r (.bool true)] 1)), (118, some (.box (n1 + 4) 63 [.mref 117 (n1 + 3)])), (122, some (.arr (G2 6) 55 4 ([(GDrawItem.mk 5 0 [98] [])].map GDrawItem.row)))], n2, 25⟩) (by exact Weak.cv ⟨.inl (.inl rfl), trivial⟩ ⟨.inl rfl, .inl rfl, .inl rfl, .inl rfl, .inl rfl, .inl rfl, trivial⟩ (Nat.le_refl _)) ?_
  refine AW.region ?_
  refine AOps.step rfl rfl rfl (OpQ.spec (sp_assign rfl (.inl rfl)) _) ?_
  refine AOps.nil ?_
  refine hK164 _ ?_
  refine AW.seq_w fun K165 hK165 wK165 => ?_
  refine AW.seq_w fun K166 hK166 wK166 => ?_
  refine AW.region ?_
  refine AOps.step rfl rfl rfl (OpQ.spec (sp_move rfl (.inl rfl)) _) ?_
  refine AOps.step rfl rfl rfl (OpQ.spec (sp_geq rfl (.inl rfl) (.inl rfl)) _) ?_
  refine AOps.nil ?_
  refine hK166 _ ?_
  refine AW.cond rfl (fun hc41 => by cases hc41) (fun hc41 => ?_)
  refine AW.skip ?_
  refine hK165 _ ?_
  refine AW.seq_w fun K167 hK167 wK167 => ?_
  refine AW.seq_w fun K168 hK168 wK168 => ?_
  refine AW.region ?_
  refine AOps.step rfl rfl rfl (OpQ.spec (sp_move rfl (.inl rfl)) _) ?_
  refine AOps.step rfl rfl rfl (OpQ.spec (sp_geq rfl (.inl rfl) (.inl rfl)) _) ?_
  refine AOps.nil ?_
  refine hK168 _ ?_
  refine AW.cond rfl (fun hc42 => by cases hc42) (fun hc42 => ?_)
  refine AW.skip ?_
  refine hK167 _ ?_
  refine AW.seq_w fun K169 hK169 wK169 => ?_
  refine AW.seq_w fun K170 hK170 wK170 => ?_
  refine AW.region ?_
  refine AOps.step rfl rfl rfl (OpQ.spec (sp_move rfl (.inl rfl)) _) ?_
  refine AOps.step rfl rfl rfl (OpQ.spec (sp_geq rfl (.inl rfl) (.inl rfl)) _) ?_
  refine AOps.nil ?_
  refine hK170 _ ?_
  refine AW.cond rfl (fun hc43 => by cases hc43) (fun hc43 => ?_)
  refine AW.skip ?_
  refine hK169 _ ?_
  refine AW.seq_w fun K171 hK171 wK171 => ?_
  refine AW.region ?_
  refine AOps.step rfl rfl rfl (OpQ.spec (sp_move rfl (.inl rfl)) _) ?_
  refine AOps.step rfl rfl rfl (OpQ.spec (sp_move rfl (.inl rfl)) _) ?_
  refine AOps.step rfl rfl rfl (OpQ.spec (sp_convert_int rfl Try.underlying112 Try.underlying5 (.inl rfl)) _) ?_
  have e23 : @idx (UInt8) [0, 1, 2, 2, 3, 3, 3, 3, 4, 4, 4, 4, 4, 4, 4, 4, 5, 5, 5, 5, 5, 5, 5, 5, 5, 5, 5, 5, 5, 5, 5, 5, 6, 6, 6, 6, 6, 6, 6, 6, 6, 6, 6, 6, 6, 6, 6, 6, 6, 6, 6, 6, 6, 6, 6, 6, 6, 6, 6, 6, 6, 6, 6, 6, 7, 7, 7, 7, 7, 7, 7, 7, 7, 7, 7, 7, 7, 7, 7, 7, 7, 7, 7, 7, 7, 7, 7, 7, 7, 7, 7, 7, 7, 7, 7, 7, 7, 7, 7, 7, 7, 7, 7, 7, 7, 7, 7, 7, 7, 7, 7, 7, 7, 7, 7, 7, 7, 7, 7, 7, 7, 7, 7, 7, 7, 7, 7, 7, 8, 8, 8, 8, 8, 8, 8, 8, 8, 8, 8, 8, 8, 8, 8, 8, 8, 8, 8, 8, 8, 8, 8, 8, 8, 8, 8, 8, 8, 8, 8, 8, 8, 8, 8, 8, 8, 8, 8, 8, 8, 8, 8, 8, 8, 8, 8, 8, 8, 8, 8, 8, 8, 8, 8, 8, 8, 8, 8, 8, 8, 8, 8, 8, 8, 8, 8, 8, 8, 8, 8, 8, 8, 8, 8, 8, 8, 8, 8, 8, 8, 8, 8, 8, 8, 8, 8, 8, 8, 8, 8, 8, 8, 8, 8, 8, 8, 8, 8, 8, 8, 8, 8, 8, 8, 8, 8, 8, 8, 8, 8, 8, 8, 8, 8, 8, 8, 8, 8, 8, 8, 8, 8, 8, 8, 8, 8, 8] 1 = some (1 : UInt8) := by kernel_rfl
  refine AOps.step rfl rfl rfl (OpQ.spec (ms_idx_str rfl Try.underlying9 (.inl rfl) (.inl rfl) (fun _ => e23)) _) ?_
  refine AOps.step rfl rfl rfl (OpQ.spec (sp_convert_int rfl Try.underlying5 Try.underlying3 (.inl rfl)) _) ?_
  have e24 : chk .i64 (1) = some (1 : Int) := by kernel_rfl
  refine AOps.step rfl rfl rfl (OpQ.spec (ms_add rfl (.inl rfl) (.inl rfl) (fun _ => e24)) _) ?_
  refine AOps.step rfl rfl rfl (OpQ.spec (sp_assign rfl (.inl rfl)) _) ?_
  refine AOps.nil ?_
  refine hK171 _ ?_
  refine AW.ret ?_
  refine RetI.intro (.r (.int .i64 (1 : Int))) (rfl) ?_
  refine hK163 _ _ _ ?_
  refine AOps.step rfl rfl rfl (OpQ.spec (sp_assign rfl (.inl rfl)) _) ?_
  refine AOps.nil ?_
  refine hK162 _ ?_
  refine AW.ret ?_
  refine RetI.intro (.r (.int .i64 (1 : Int))) (rfl) ?_
  refine hK159 _ _ _ ?_
  refine AOps.step rfl rfl rfl (OpQ.spec (sp_move rfl (.inl rfl)) _) ?_
  refine AOps.stepIk [] [.own 115 (n1 + 1), .r (.int .i64 (0 : Int)), .r (.int .i64 (1 : Int)), .r (.int .i64 (1 : Int)), .fn 50 []] rfl rfl rfl rfl (.inl rfl) (by exact ⟨(.inl rfl), (.inl rfl), (.inl rfl), (.inl rfl), (.inl rfl), trivial⟩) Try.func65 rfl rfl Try.ntmps65 rfl fun K172 hK172 => ?_
  refine AW.seq_w fun K173 hK173 wK173 => ?_
  refine AW.weak (s' := ⟨[(0, .own 115 (n1 + 1)), (1, .r (.int .i64 (0 : Int))), (2, .r (.int .i64 (1 : Int))), (3, .r (.int .i64 (1 : Int))), (4, .fn 50 [])], [(101, some (.arr n0 46 8 ([(GDrawOp.mk 1 1 0 5 0 [98] [] [])].map GDrawOp.row))), (115, some (.arr (n1 + 1) 55 4 ([(GDrawItem.mk 5 0 [98] [])].map GDrawItem.row))), (116, some (.box (n1 + 2) 24 [.own 122 (G2 6)])), (117, some (.mp (n1 + 3) [(5, 0)] [.r (.bool true)] 1)), (118, some (.box (n1 + 4) 63 [.mref 117 (n1 + 3)])), (122, some (.arr (G2 6) 55 4 ([(GDrawItem.mk 5 0 [98] [])].map GDrawItem.row)))], n2, 148⟩) (by exact Weak.cv ⟨.inl (.inl rfl), .inl (.inl rfl), .inl (.inl rfl), .inl (.inl rfl), .inl (.inl rfl), trivial⟩ ⟨.inl rfl, .inl rfl, .inl rfl, .inl rfl, .inl rfl, .inl rfl, trivial⟩ (Nat.le_refl _)) ?_
  refine AW.region ?_
  refine AOps.step rfl rfl rfl (OpQ.spec (sp_assign rfl (.inl rfl)) _) ?_
  refine AOps.nil ?_
  refine hK173 _ ?_
  refine AW.seq_w fun K174 hK174 wK174 => ?_
  refine AW.region ?_
  refine AOps.step rfl rfl rfl (OpQ.spec (sp_assign rfl (.inl rfl)) _) ?_
  refine AOps.nil ?_
  refine hK174 _ ?_
  refine AW.block ?_
  refine AW.loopN 9 ?_
  refine LoopN.step ?_
  refine AW.block ?_
  refine AW.seq_w fun K175 hK175 wK175 => ?_
  refine AW.region ?_
  refine AOps.step rfl rfl rfl (OpQ.spec (sp_move rfl (.inl rfl)) _) ?_
  refine AOps.step rfl rfl rfl (OpQ.spec (sp_move rfl (.inl rfl)) _) ?_
  have e25 : chk .i64 (1) = some (1 : Int) := by kernel_rfl
  refine AOps.step rfl rfl rfl (OpQ.spec (ms_sub rfl (.inl rfl) (.inl rfl) (fun _ => e25)) _) ?_
  refine AOps.step rfl rfl rfl (OpQ.spec (sp_assign rfl (.inl rfl)) _) ?_
  refine AOps.nil ?_
  refine hK175 _ ?_
  refine AW.seq_w fun K176 hK176 wK176 => ?_
  refine AW.seq_w fun K177 hK177 wK177 => ?_
  refine AW.region ?_
  refine AOps.step rfl rfl rfl (OpQ.spec (sp_move rfl (.inl rfl)) _) ?_
  refine AOps.step rfl rfl rfl (OpQ.spec (sp_leq rfl (.inl rfl) (.inl rfl)) _) ?_
  refine AOps.nil ?_
  refine hK177 _ ?_
  refine AW.cond rfl (fun hc44 => ?_) (fun hc44 => by cases hc44)
  refine AW.seq_w fun K178 hK178 wK178 => ?_
  refine AW.weak (s' := ⟨[(0, .own 115 (n1 + 1)), (1, .r (.int .i64 (0 : Int))), (2, .r (.int .i64 (1 : Int))), (4, .fn 50 [])], [(101, some (.arr n0 46 8 ([(GDrawOp.mk 1 1 0 5 0 [98] [] [])].map GDrawOp.row))), (115, some (.arr (n1 + 1) 55 4 ([(GDrawItem.mk 5 0 [98] [])].map GDrawItem.row))), (116, some (.box (n1 + 2) 24 [.own 122 (G2 6)])), (117, some (.mp (n1 + 3) [(5, 0)] [.r (.bool true)] 1)), (118, some (.box (n1 + 4) 63 [.mref 117 (n1 + 3)])), (122, some (.arr (G2 6) 55 4 ([(GDrawItem.mk 5 0 [98] [])].map GDrawItem.row)))], n2, 148⟩) (by exact Weak.cv ⟨.inl (.inl rfl), .inl (.inl rfl), .inl (.inl rfl), .inl (.inl rfl), trivial⟩ ⟨.inl rfl, .inl rfl, .inl rfl, .inl rfl, .inl rfl, .inl rfl, trivial⟩ (Nat.le_refl _)) ?_
  refine AW.region ?_
  refine AOps.step rfl rfl rfl (OpQ.spec (sp_move rfl (.inl rfl)) _) ?_
  refine AOps.step rfl rfl rfl (OpQ.spec (sp_move rfl (.inl rfl)) _) ?_
  refine AOps.step rfl rfl rfl (OpQ.spec (sp_move rfl (.inl rfl)) _) ?_
  refine AOps.step rfl rfl rfl (OpQ.spec (sp_move rfl (.inl rfl)) _) ?_
  refine AOps.stepIk [] [.own 115 (n1 + 1), .r (.int .i64 (0 : Int)), .r (.int .i64 (1 : Int)), .fn 50 []] rfl rfl rfl rfl (.inl rfl) (by exact ⟨(.inl rfl), (.inl rfl), (.inl rfl), (.inl rfl), trivial⟩) Try.func80 rfl rfl Try.ntmps80 rfl fun K179 hK179 => ?_
  refine AW.seq_w fun K180 hK180 wK180 => ?_
  refine AW.weak (s' := ⟨[(0, .own 115 (n1 + 1)), (1, .r (.int .i64 (0 : Int))), (2, .r (.int .i64 (1 : Int))), (3, .fn 50 [])], [(101, some (.arr n0 46 8 ([(GDrawOp.mk 1 1 0 5 0 [98] [] [])].map GDrawOp.row))), (115, some (.arr (n1 + 1) 55 4 ([(GDrawItem.mk 5 0 [98] [])].map GDrawItem.row))), (116, some (.box (n1 + 2) 24 [.own 122 (G2 6)])), (117, some (.mp (n1 + 3) [(5, 0)] [.r (.bool true)] 1)), (118, some (.box (n1 + 4) 63 [.mref 117 (n1 + 3)])), (122, some (.arr (G2 6) 55 4 ([(GDrawItem.mk 5 0 [98] [])].map GDrawItem.row)))], n2, 53⟩) (by exact Weak.cv ⟨.inl (.inl rfl), .inl (.inl rfl), .inl (.inl rfl), .inl (.inl rfl), trivial⟩ ⟨.inl rfl, .inl rfl, .inl rfl, .inl rfl, .inl rfl, .inl rfl, trivial⟩ (Nat.le_refl _)) ?_
  refine AW.region ?_
  refine AOps.step rfl rfl rfl (OpQ.spec (sp_move rfl (.inl rfl)) _) ?_
  have e26 : chk .i64 (1) = some (1 : Int) := by kernel_rfl
  refine AOps.step rfl rfl rfl (OpQ.spec (ms_add rfl (.inl rfl) (.inl rfl) (fun _ => e26)) _) ?_
  refine AOps.step rfl rfl rfl (OpQ.spec (sp_assign rfl (.inl rfl)) _) ?_
  refine AOps.nil ?_
  refine hK180 _ ?_
  refine AW.block ?_
  refine AW.loopN 9 ?_
  refine LoopN.step ?_
  refine AW.seq_w fun K181 hK181 wK181 => ?_
  refine AW.seq_w fun K182 hK182 wK182 => ?_
  refine AW.region ?_
  refine AOps.step rfl rfl rfl (OpQ.spec (sp_move rfl (.inl rfl)) _) ?_
  refine AOps.step rfl rfl rfl (OpQ.spec (sp_move rfl (.inl rfl)) _) ?_
  refine AOps.step rfl rfl rfl (OpQ.spec (sp_lss rfl (.inl rfl) (.inl rfl)) _) ?_
  refine AOps.nil ?_
  refine hK182 _ ?_
  refine AW.cond rfl (fun hc45 => by cases hc45) (fun hc45 => ?_)
  refine AW.exit ?_
  refine RetI.introN (.tup []) (⟨_, rfl, trivial⟩) ?_
  refine hK179 _ _ _ ?_
  refine AOps.nil ?_
  refine hK178 _ ?_
  refine AW.ret ?_
  refine RetI.intro (.tup []) (⟨_, rfl, trivial⟩) ?_
  refine hK172 _ _ _ ?_
  refine AOps.nil ?_
  refine RetI.introN (.tup []) (⟨_, rfl, trivial⟩) ?_
  refine hK157 _ _ _ ?_
  refine AOps.nil ?_
  refine hK156 _ ?_
  refine AW.seq_w fun K183 hK183 wK183 => ?_
  refine AW.seq_w fun K184 hK184 wK184 => ?_
  refine AW.region ?_
  refine AOps.step rfl rfl rfl (OpQ.spec (sp_move rfl (.inl rfl)) _) ?_
  refine AOps.step rfl rfl rfl (OpQ.spec (ms_len_own rfl tg_24.slice (.inl rfl) rfl) _) ?_
  refine AOps.step rfl rfl rfl (OpQ.spec (sp_move rfl (.inl rfl)) _) ?_
  refine AOps.nil ?_
  refine hK184 _ ?_
  refine AW.block ?_
  refine AW.loopN 9 ?_
  refine LoopN.step ?_
  refine AW.seq_w fun K185 hK185 wK185 => ?_
  refine AW.region ?_
  refine AOps.step rfl rfl rfl (OpQ.spec (sp_lss rfl (.inl rfl) (.inl rfl)) _) ?_
  refine AOps.nil ?_
  refine hK185 _ ?_
  refine AW.seq_w fun K186 hK186 wK186 => ?_
  refine AW.cond rfl (fun hc46 => ?_) (fun hc46 => by cases hc46)
  refine AW.skip ?_
  refine hK186 _ ?_
  refine AW.seq_w fun K187 hK187 wK187 => ?_
  refine AW.block ?_
  refine AW.seq_w fun K188 hK188 wK188 => ?_
  refine AW.region ?_
  have e27 : @idx (GDrawItem) [(GDrawItem.mk 5 0 [98] [])] 0 = some (GDrawItem.mk 5 0 [98] []) := by kernel_rfl
  refine AOps.step rfl rfl rfl (OpQ.spec (ms_idx_own rfl tg_24.slice (.inl rfl) rfl (.inl rfl) (fun _ => e27)) _) ?_
  refine AOps.step rfl rfl rfl (OpQ.spec (ms_loadA_own (cs := [.r (.int .i64 ((GDrawItem.mk 5 0 [98] []).Item)), .r (.int .i64 ((GDrawItem.mk 5 0 [98] []).Parent)), .r (.str ((GDrawItem.mk 5 0 [98] []).Place)), .r (.sl (((GDrawItem.mk 5 0 [98] []).Attrs).map GAttr.row))]) rfl ta_55 (.inl rfl) (fun _ => rfl) (fun _ => e27) rfl) _) ?_
  refine AOps.step rfl rfl rfl (ms_alloc (cs := [.r (.int .i64 (0 : Int)), .r (.int .i64 (0 : Int)), .r (.str []), .cst (.slice none 0 0)]) 123 rfl t0_55 rfl rfl) ?_
  refine AOps.step0 rfl rfl (ms_store_box (ds := [.r (.int .i64 (5 : Int)), .r (.int .i64 (0 : Int)), .r (.str [98]), .r (.sl [])]) rfl tz_55 (.inl rfl) rfl (.inl rfl) rfl rfl rfl rfl) ?_
  refine AOps.nil ?_
  refine hK188 _ ?_
  refine AW.seq_w fun K189 hK189 wK189 => ?_
  refine AW.region ?_
  refine AOps.step rfl rfl rfl (OpQ.spec (ms_load_box (a := .mref 117 (n1 + 3)) rfl ts_63 (.inl rfl) rfl rfl) _) ?_
  refine AOps.step rfl rfl rfl (OpQ.spec (sp_fieldAddr_own (ob := .box _ _ _) rfl tf_55_0 (.inl rfl) (fun _ => rfl) rfl) _) ?_
  refine AOps.step rfl rfl rfl (OpQ.spec (ms_load_box (a := .r (.int .i64 (5 : Int))) rfl ts_3 (.inl rfl) rfl rfl) _) ?_
  refine AOps.step rfl rfl rfl (OpQ.spec (ms_lookup_t (ks := [(5, 0)]) (vs := [.r (.bool true)]) false (.bool false) rfl Try.underlying63 Try.underlying3 (fun w => by kernel_rfl) (.inl rfl) (.inl rfl) rfl rfl rfl) _) ?_
  refine AOps.step rfl rfl rfl (OpQ.spec (sp_not rfl (.inl rfl)) _) ?_
  refine AOps.nil ?_
  refine hK189 _ ?_
  refine AW.cond rfl (fun hc47 => by cases hc47) (fun hc47 => ?_)
  refine AW.skip ?_
  refine hK187 _ ?_
  refine AW.weak (s' := ⟨[(8, .ptr 116 (n1 + 2) 0 0), (9, .ptr 118 (n1 + 4) 0 0), (63, .own 115 (n1 + 1)), (64, .r (.int .i64 (1 : Int))), (65, .r (.int .i64 (0 : Int)))], [(101, some (.arr n0 46 8 ([(GDrawOp.mk 1 1 0 5 0 [98] [] [])].map GDrawOp.row))), (115, some (.arr (n1 + 1) 55 4 ([(GDrawItem.mk 5 0 [98] [])].map GDrawItem.row))), (116, some (.box (n1 + 2) 24 [.own 122 (G2 6)])), (117, some (.mp (n1 + 3) [(5, 0)] [.r (.bool true)] 1)), (118, some (.box (n1 + 4) 63 [.mref 117 (n1 + 3)])), (122, some (.arr (G2 6) 55 4 ([(GDrawItem.mk 5 0 [98] [])].map GDrawItem.row)))], (n2 + 1), 80⟩) (by exact Weak.cv ⟨.inl (.inl rfl), .inl (.inl rfl), .inl (.inl rfl), .inl (.inl rfl), .inl (.inl rfl), trivial⟩ ⟨.inl rfl, .inl rfl, .inl rfl, .inl rfl, .inl rfl, .inl rfl, trivial⟩ (Nat.le_refl _)) ?_
  refine AW.region ?_
  have e28 : chk .i64 (1) = some (1 : Int) := by kernel_rfl
  refine AOps.step rfl rfl rfl (OpQ.spec (ms_add rfl (.inl rfl) (.inl rfl) (fun _ => e28)) _) ?_
  refine AOps.step rfl rfl rfl (OpQ.spec (sp_move rfl (.inl rfl)) _) ?_
  refine AOps.nil ?_
  refine LoopN.step ?_
  refine AW.seq_w fun K190 hK190 wK190 => ?_
  refine AW.region ?_
  refine AOps.step rfl rfl rfl (OpQ.spec (sp_lss rfl (.inl rfl) (.inl rfl)) _) ?_
  refine AOps.nil ?_
  refine hK190 _ ?_
  refine AW.seq_w fun K191 hK191 wK191 => ?_
  refine AW.cond rfl (fun hc48 => by cases hc48) (fun hc48 => ?_)
  refine AW.exit ?_
  refine hK183 _ ?_
  refine AW.seq_w fun K192 hK192 wK192 => ?_
  refine AW.region ?_
  refine AOps.step rfl rfl rfl (OpQ.spec (ms_load_box (a := .own 122 (G2 6)) rfl ts_24 (.inl rfl) rfl rfl) _) ?_
  refine AOps.step rfl rfl rfl (OpQ.spec (sp_assign rfl (.inl rfl)) _) ?_
  refine AOps.nil ?_
  refine hK192 _ ?_
  refine AW.ret ?_
  refine RetI.intro (.own 122 (G2 6)) (rfl) ?_
  refine hK50 _ _ _ ?_
  refine AOps.step rfl rfl rfl (OpQ.spec (sp_assign rfl (.inl rfl)) _) ?_
  refine AOps.step rfl rfl rfl (OpQ.spec (sp_assign rfl (.inl rfl)) _) ?_
  refine AOps.nil ?_
  refine hK49 _ ?_
  refine AW.ret ?_
  refine RetI.intro (.tup [.own 122 (G2 6), .r (.int .i64 (0 : Int))]) (⟨_, rfl, ⟨rfl, rfl, trivial⟩⟩) ?_
  refine hK3 _ _ _ ?_
  refine AOps.step rfl rfl rfl (OpQ.spec (sp_move rfl (.inl rfl)) _) ?_
  refine AOps.step rfl rfl rfl (OpQ.spec (sp_extract (a := .own 122 (G2 6)) rfl (.inl rfl) rfl) _) ?_
  refine AOps.step rfl rfl rfl (OpQ.spec (sp_extract (a := .r (.int .i64 (0 : Int))) rfl (.inl rfl) rfl) _) ?_
  refine AOps.step rfl rfl rfl (OpQ.spec (sp_assign rfl (.inl rfl)) _) ?_
  refine AOps.step rfl rfl rfl (OpQ.spec (sp_assign rfl (.inl rfl)) _) ?_
  refine AOps.nil ?_
  refine hK2 _ ?_
  refine AW.seq_w fun K193 hK193 wK193 => ?_
  refine AW.weak (s' := ⟨[(1, .own 122 (G2 6)), (2, .r (.int .i64 (0 : Int)))], [(122, some (.arr (G2 6) 55 4 ([(GDrawItem.mk 5 0 [98] [])].map GDrawItem.row)))], (n2 + 1), 28⟩) (by exact Weak.cv ⟨.inl (.inl rfl), .inl (.inl rfl), trivial⟩ ⟨.inl rfl, trivial⟩ (Nat.le_refl _)) ?_
  refine AW.region ?_
  refine AOps.step rfl rfl rfl (OpQ.spec (sp_move rfl (.inl rfl)) _) ?_
  refine AOps.step rfl rfl rfl (OpQ.spec (sp_eql rfl (.inl rfl) (.inl rfl)) _) ?_
  refine AOps.step rfl rfl rfl (OpQ.spec (sp_move rfl (.inl rfl)) _) ?_
  refine AOps.stepGT (.one rfl rfl rfl) rfl rfl rfl (OpQ.spec (sp_move rfl (.inl rfl)) _) ?_
  refine AOps.stepGT (.one rfl rfl rfl) rfl rfl rfl (OpQ.spec (ms_len_own rfl tg_24.slice (.inl rfl) rfl) _) ?_
  refine AOps.stepGT (.one rfl rfl rfl) rfl rfl rfl (OpQ.spec (sp_eql rfl (.inl rfl) (.inl rfl)) _) ?_
  refine AOps.step rfl rfl rfl (OpQ.spec (sp_and rfl (.inl rfl) (.inl rfl)) _) ?_
  refine AOps.step rfl rfl rfl (OpQ.spec (sp_move rfl (.inl rfl)) _) ?_
  refine AOps.stepGT (.one rfl rfl rfl) rfl rfl rfl (OpQ.spec (sp_move rfl (.inl rfl)) _) ?_
  have e29 : @idx (GDrawItem) [(GDrawItem.mk 5 0 [98] [])] 0 = some (GDrawItem.mk 5 0 [98] []) := by kernel_rfl
  refine AOps.stepGT (.one rfl rfl rfl) rfl rfl rfl (OpQ.spec (ms_idx_own rfl tg_24.slice (.inl rfl) rfl (.inl rfl) (fun _ => e29)) _) ?_
  refine AOps.stepGT (.one rfl rfl rfl) rfl rfl rfl (OpQ.spec (sp_fieldAddr_own (ob := .arr _ _ _ _) rfl tf_55_0 (.inl rfl) (fun _ => rfl) rfl) _) ?_
  refine AOps.stepGT (.one rfl rfl rfl) rfl rfl rfl (OpQ.spec (ms_load_own (d := .int .i64 ((GDrawItem.mk 5 0 [98] []).Item)) rfl ts_3 (.inl rfl) (fun _ => rfl) (fun _ => e29) rfl) _) ?_
  refine AOps.stepGT (.one rfl rfl rfl) rfl rfl rfl (OpQ.spec (sp_eql rfl (.inl rfl) (.inl rfl)) _) ?_
  refine AOps.step rfl rfl rfl (OpQ.spec (sp_and rfl (.inl rfl) (.inl rfl)) _) ?_
  refine AOps.step rfl rfl rfl (OpQ.spec (sp_move rfl (.inl rfl)) _) ?_
  refine AOps.stepGT (.one rfl rfl rfl) rfl rfl rfl (OpQ.spec (sp_move rfl (.inl rfl)) _) ?_
  refine AOps.stepIGk [] [.own 122 (G2 6)] (.one rfl rfl rfl) rfl rfl rfl rfl (.inl rfl) (by exact ⟨(.inl rfl), trivial⟩) Try.func12 rfl rfl Try.ntmps12 rfl fun K194 hK194 => ?_
  refine AW.seq_w fun K195 hK195 wK195 => ?_
  refine AW.weak (s' := ⟨[(0, .own 122 (G2 6))], [(122, some (.arr (G2 6) 55 4 ([(GDrawItem.mk 5 0 [98] [])].map GDrawItem.row)))], (n2 + 1), 27⟩) (by exact Weak.cv ⟨.inl (.inl rfl), trivial⟩ ⟨.inl rfl, trivial⟩ (Nat.le_refl _)) ?_
  refine AW.region ?_
  refine AOps.step rfl rfl rfl (OpQ.spec (sp_assign rfl (.inl rfl)) _) ?_
  refine AOps.nil ?_
  refine hK195 _ ?_
  refine AW.seq_w fun K196 hK196 wK196 => ?_
  refine AW.region ?_
  refine AOps.step rfl rfl rfl (ms_makeMap 124 rfl) ?_
  refine AOps.step0 rfl rfl (ms_mapUpdate_new (.inr rfl) Try.underlying63 Try.underlying3 (.inl rfl) (.inl rfl) (.inl rfl) rfl rfl) ?_
  refine AOps.step rfl rfl rfl (OpQ.spec (sp_move rfl (.inl rfl)) _) ?_
  refine AOps.step rfl rfl rfl (OpQ.spec (sp_assign rfl (.inl rfl)) _) ?_
  refine AOps.nil ?_
  refine hK196 _ ?_
  refine AW.seq_w fun K197 hK197 wK197 => ?_
  refine AW.seq_w fun K198 hK198 wK198 => ?_
  refine AW.region ?_
  refine AOps.step rfl rfl rfl (OpQ.spec (sp_move rfl (.inl rfl)) _) ?_
  refine AOps.step rfl rfl rfl (OpQ.spec (ms_len_own rfl tg_24.slice (.inl rfl) rfl) _) ?_
  refine AOps.step rfl rfl rfl (OpQ.spec (sp_move rfl (.inl rfl)) _) ?_
  refine AOps.nil ?_
  refine hK198 _ ?_
  refine AW.block ?_
  refine AW.loopN 9 ?_
  refine LoopN.step ?_
  refine AW.seq_w fun K199 hK199 wK199 => ?_
  refine AW.region ?_
  refine AOps.step rfl rfl rfl (OpQ.spec (sp_lss rfl (.inl rfl) (.inl rfl)) _) ?_
  refine AOps.nil ?_
  refine hK199 _ ?_
  refine AW.seq_w fun K200 hK200 wK200 => ?_
  refine AW.cond rfl (fun hc49 => ?_) (fun hc49 => by cases hc49)
  refine AW.skip ?_
  refine hK200 _ ?_
  refine AW.seq_w fun K201 hK201 wK201 => ?_
  refine AW.block ?_
  refine AW.seq_w fun K202 hK202 wK202 => ?_
  refine AW.region ?_
  refine AOps.step rfl rfl rfl (OpQ.spec (sp_move rfl (.inl rfl)) _) ?_
  have e30 : @idx (GDrawItem) [(GDrawItem.mk 5 0 [98] [])] 0 = some (GDrawItem.mk 5 0 [98] []) := by kernel_rfl
  refine AOps.step rfl rfl rfl (OpQ.spec (ms_idx_own rfl tg_24.slice (.inl rfl) rfl (.inl rfl) (fun _ => e30)) _) ?_
  refine AOps.step rfl rfl rfl (OpQ.spec (ms_loadA_own (cs := [.r (.int .i64 ((GDrawItem.mk 5 0 [98] []).Item)), .r (.int .i64 ((GDrawItem.mk 5 0 [98] []).Parent)), .r (.str ((GDrawItem.mk 5 0 [98] []).Place)), .r (.sl (((GDrawItem.mk 5 0 [98] []).Attrs).map GAttr.row))]) rfl ta_55 (.inl rfl) (fun _ => rfl) (fun _ => e30) rfl) _) ?_
  refine AOps.step rfl rfl rfl (ms_alloc (cs := [.r (.int .i64 (0 : Int)), .r (.int .i64 (0 : Int)), .r (.str []), .cst (.slice none 0 0)]) 125 rfl t0_55 rfl rfl) ?_
  refine AOps.step rfl rfl rfl (OpQ.spec (sp_assign rfl (.inl rfl)) _) ?_
  refine AOps.step0 rfl rfl (ms_store_box (ds := [.r (.int .i64 (5 : Int)), .r (.int .i64 (0 : Int)), .r (.str [98]), .r (.sl [])]) rfl tz_55 (.inl rfl) rfl (.inl rfl) rfl rfl rfl rfl) ?_
  refine AOps.nil ?_
  refine hK202 _ ?_
  refine AW.seq_w fun K203 hK203 wK203 => ?_
  refine AW.seq_w fun K204 hK204 wK204 => ?_
  refine AW.region ?_
  refine AOps.step rfl rfl rfl (OpQ.spec (sp_move rfl (.inl rfl)) _) ?_
  refine AOps.step rfl rfl rfl (OpQ.spec (sp_fieldAddr_own (ob := .box _ _ _) rfl tf_55_1 (.inl rfl) (fun _ => rfl) rfl) _) ?_
  refine AOps.step rfl rfl rfl (OpQ.spec (ms_load_box (a := .r (.int .i64 (0 : Int))) rfl ts_3 (.inl rfl) rfl rfl) _) ?_
  refine AOps.step rfl rfl rfl (OpQ.spec (ms_lookup_t (ks := [(0, 0)]) (vs := [.r (.bool true)]) false (.bool false) rfl Try.underlying63 Try.underlying3 (fun w => by kernel_rfl) (.inl rfl) (.inl rfl) rfl rfl rfl) _) ?_
  refine AOps.step rfl rfl rfl (OpQ.spec (sp_not rfl (.inl rfl)) _) ?_
  refine AOps.nil ?_
  refine hK204 _ ?_
  refine AW.cond rfl (fun hc50 => by cases hc50) (fun hc50 => ?_)
  refine AW.skip ?_
  refine hK203 _ ?_
  refine AW.weak (s' := ⟨[(0, .own 122 (G2 6)), (3, .mref 124 (n2 + 1)), (5, .ptr 125 (n2 + 2) 0 0), (8, .own 122 (G2 6)), (9, .r (.int .i64 (1 : Int))), (10, .r (.int .i64 (0 : Int)))], [(122, some (.arr (G2 6) 55 4 ([(GDrawItem.mk 5 0 [98] [])].map GDrawItem.row))), (124, some (.mp (n2 + 1) [(0, 0)] [.r (.bool true)] 1)), (125, some (.box (n2 + 2) 55 [.r (.int .i64 (5 : Int)), .r (.int .i64 (0 : Int)), .r (.str [98]), .r (.sl [])]))], (n2 + 3), 27⟩) (by exact Weak.cv ⟨.inl (.inl rfl), .inl (.inl rfl), .inl (.inl rfl), .inl (.inl rfl), .inl (.inl rfl), .inl (.inl rfl), trivial⟩ ⟨.inl rfl, .inl rfl, .inl rfl, trivial⟩ (Nat.le_refl _)) ?_
  refine AW.region ?_
  refine AOps.step rfl rfl rfl (OpQ.spec (sp_move rfl (.inl rfl)) _) ?_
  refine AOps.step rfl rfl rfl (OpQ.spec (sp_fieldAddr_own (ob := .box _ _ _) rfl tf_55_0 (.inl rfl) (fun _ => rfl) rfl) _) ?_
  refine AOps.step rfl rfl rfl (OpQ.spec (ms_load_box (a := .r (.int .i64 (5 : Int))) rfl ts_3 (.inl rfl) rfl rfl) _) ?_
  refine AOps.step0 rfl rfl (ms_mapUpdate_new (.inl rfl) Try.underlying63 Try.underlying3 (.inl rfl) (.inl rfl) (.inl rfl) rfl rfl) ?_
  refine AOps.nil ?_
  refine hK201 _ ?_
  refine AW.region ?_
  have e31 : chk .i64 (1) = some (1 : Int) := by kernel_rfl
  refine AOps.step rfl rfl rfl (OpQ.spec (ms_add rfl (.inl rfl) (.inl rfl) (fun _ => e31)) _) ?_
  refine AOps.step rfl rfl rfl (OpQ.spec (sp_move rfl (.inl rfl)) _) ?_
  refine AOps.nil ?_
  refine LoopN.step ?_
  refine AW.seq_w fun K205 hK205 wK205 => ?_
  refine AW.region ?_
  refine AOps.step rfl rfl rfl (OpQ.spec (sp_lss rfl (.inl rfl) (.inl rfl)) _) ?_
  refine AOps.nil ?_
  refine hK205 _ ?_
  refine AW.seq_w fun K206 hK206 wK206 => ?_
  refine AW.cond rfl (fun hc51 => by cases hc51) (fun hc51 => ?_)
  refine AW.exit ?_
  refine hK197 _ ?_
  refine AW.seq_w fun K207 hK207 wK207 => ?_
  refine AW.weak (s' := ⟨[(0, .own 122 (G2 6))], [(122, some (.arr (G2 6) 55 4 ([(GDrawItem.mk 5 0 [98] [])].map GDrawItem.row)))], (n2 + 3), 27⟩) (by exact Weak.cv ⟨.inl (.inl rfl), trivial⟩ ⟨.inl rfl, trivial⟩ (Nat.le_refl _)) ?_
  refine AW.region ?_
  refine AOps.step rfl rfl rfl (OpQ.spec (sp_move rfl (.inl rfl)) _) ?_
  refine AOps.step rfl rfl rfl (OpQ.spec (ms_len_own rfl tg_24.slice (.inl rfl) rfl) _) ?_
  refine AOps.step rfl rfl rfl (OpQ.spec (sp_assign rfl (.inl rfl)) _) ?_
  refine AOps.nil ?_
  refine hK207 _ ?_
  refine AW.ret ?_
  refine RetI.intro (.r (.int .i64 (1 : Int))) (rfl) ?_
  refine hK194 _ _ _ ?_
  refine AOps.stepGT (.one rfl rfl rfl) rfl rfl rfl (OpQ.spec (sp_eql rfl (.inl rfl) (.inl rfl)) _) ?_
  refine AOps.step rfl rfl rfl (OpQ.spec (sp_and rfl (.inl rfl) (.inl rfl)) _) ?_
  refine AOps.step rfl rfl rfl (OpQ.spec (sp_assign rfl (.inl rfl)) _) ?_
  refine AOps.nil ?_
  refine hK193 _ ?_
  refine AW.ret ?_
  exact retf1 (P := Try.prog) (fun (r : Bool) => .r (.bool r)) h (.inl rfl) (.t (.d rfl))
theorem w_replica_Place {s1 : List UInt8} {r : Bool} (h : replica_Place s1 = some r) : ARO Try.prog 13 [.r (.str s1)] (.r (.bool r)) := by
  unfold replica_Place at h
  refine ARO.mkF Try.func13 rfl rfl Try.ntmps13 rfl (Nat.le_of_ble_eq_true rfl) fun n0 => ?_
  refine AW.seq_w fun K1 hK1 wK1 => ?_
  refine AW.region ?_
  refine AOps.step rfl rfl rfl (OpQ.spec (sp_assign rfl (.inl rfl)) _) ?_
  refine AOps.nil ?_
  refine hK1 _ ?_
  refine AW.seq_w fun K2 hK2 wK2 => ?_
  refine AW.seq_w fun K3 hK3 wK3 => ?_
  refine AW.region ?_
  refine AOps.step rfl rfl rfl (OpQ.spec (sp_move rfl (.inl rfl)) _) ?_
  refine AOps.step rfl rfl rfl (OpQ.spec (sp_seql rfl (.inl rfl) (.inl rfl)) _) ?_
  refine AOps.step rfl rfl rfl (OpQ.spec (sp_move rfl (.inl rfl)) _) ?_
  refine AOps.stepW (.one rfl rfl rfl) rfl rfl (OpQ.spec (sp_move rfl (.inl rfl)) _) ?_
  refine AOps.stepW (.one rfl rfl rfl) rfl rfl (OpQ.spec (sp_len_str rfl Try.underlying9 (.inr ⟨_, (by exact id), rfl⟩)) _) ?_
  refine AOps.stepW (.one rfl rfl rfl) rfl rfl (OpQ.spec (sp_gtr rfl (.inr ⟨_, (by exact id), rfl⟩) (.inl rfl)) _) ?_
  refine AOps.step rfl rfl rfl (OpQ.spec (sp_or rfl (.inl rfl) (.inr ⟨_, (by exact id), rfl⟩)) _) ?_
  refine AOps.step rfl rfl rfl (OpQ.spec (sp_move rfl (.inl rfl)) _) ?_
  refine AOps.stepW (.one rfl rfl rfl) rfl rfl (OpQ.spec (sp_move rfl (.inl rfl)) _) ?_
  refine AOps.stepW (.one rfl rfl rfl) rfl rfl (OpQ.spec (sp_move rfl (.inl rfl)) _) ?_
  refine AOps.stepW (.one rfl rfl rfl) rfl rfl (OpQ.spec (sp_len_str rfl Try.underlying9 (.inr ⟨_, (by exact id), rfl⟩)) _) ?_
  refine ob1k h fun x1 ex1 h1 => ?_
  refine AOps.stepW (.one rfl rfl rfl) rfl rfl (OpQ.spec (ms_sub rfl (.inr ⟨_, (by exact id), rfl⟩) (.inl rfl) (gdt ex1)) _) ?_
  refine ob1k h1 fun ch1 ech1 h2 => ?_
  refine AOps.stepW (.one rfl rfl rfl) rfl rfl (OpQ.spec (ms_idx_str rfl Try.underlying9 (.inr ⟨_, (by exact id), rfl⟩) (.inr ⟨_, (by exact id), rfl⟩) (gdt ech1)) _) ?_
  refine AOps.stepW (.one rfl rfl rfl) rfl rfl (OpQ.spec (sp_eql rfl (.inr ⟨_, (by exact id), rfl⟩) (.inl rfl)) _) ?_
  refine AOps.step rfl rfl rfl (OpQ.spec (sp_or rfl (.inl rfl) (.inr ⟨_, (by exact id), rfl⟩)) _) ?_
  refine AOps.nil ?_
  refine hK3 _ ?_
  refine AW.cond rfl (fun hc1 => ?_) (fun hc1 => ?_)
  · have h3 := ite_t hc1 h2
    refine AW.seq_w fun K4 hK4 wK4 => ?_
    refine AW.weak (s' := ⟨[], [], n0, 35⟩) (by exact Weak.cv trivial trivial (Nat.le_refl _)) ?_
    refine AW.region ?_
    refine AOps.step rfl rfl rfl (OpQ.spec (sp_assign rfl (.inl rfl)) _) ?_
    refine AOps.nil ?_
    refine hK4 _ ?_
    refine AW.ret ?_
    exact retf1 (P := Try.prog) (fun (r : Bool) => .r (.bool r)) h3 (.inl rfl) (.t (.d rfl))
  · have h3 := ite_f hc1 h2
    refine AW.skip ?_
    refine hK2 _ ?_
    refine AW.seq_w fun K5 hK5 wK5 => ?_
    refine AW.seq_w fun K6 hK6 wK6 => ?_
    refine AW.weak (s' := ⟨[(0, .r (.str s1))], [], n0, 35⟩) (by exact Weak.cv ⟨.inl (.inl rfl), trivial⟩ trivial (Nat.le_refl _)) ?_
    refine AW.region ?_
    refine AOps.step rfl rfl rfl (OpQ.spec (sp_move rfl (.inl rfl)) _) ?_
    refine AOps.step rfl rfl rfl (OpQ.spec (sp_len_str rfl Try.underlying9 (.inl rfl)) _) ?_
    refine AOps.step rfl rfl rfl (OpQ.spec (sp_move rfl (.inl rfl)) _) ?_
    refine AOps.nil ?_
    refine hK6 _ ?_
    refine AW.block ?_
    refine jc1k h3 fun o1 hit1 hk1 he1 => ?_
    have J1 : ∀ (u2 : Unit) (i5 : Nat → Nat), o1 = .nrm u2 → K5 ⟨[], [], (i5 0), 35⟩ := by
      intro u2 i5 e
      have h4 := hk1 _ e
      refine hK5 _ ?_
      refine AW.seq_w fun K7 hK7 wK7 => ?_
      refine AW.region ?_
      refine AOps.step rfl rfl rfl (OpQ.spec (sp_assign rfl (.inl rfl)) _) ?_
      refine AOps.nil ?_
      refine hK7 _ ?_
      refine AW.ret ?_
      exact retf1 (P := Try.prog) (fun (r : Bool) => .r (.bool r)) h4 (.inl rfl) (.t (.d rfl))
    refine AW.iter1 (fun (x3 : Int) i3 => ⟨[(0, .r (.str s1)), (20, .r (.int .i64 (s1.length : Int))), (21, .r (.int .i64 x3))], [], (i3 0), 35⟩) (vec [n0]) hit1 ((by exact Weak.cv ⟨.inl (.inl rfl), .inl (.inl rfl), .inl (.inl rfl), trivial⟩ trivial (Nat.le_refl _))) ?_
    intro x3 i3 v1 hv1 hx1
    have h5 : replica_Place_L1 s1 x3 = some v1 := hv1; unfold replica_Place_L1 at h5
    refine AW.seq_w fun K8 hK8 wK8 => ?_
    refine AW.region ?_
    refine AOps.step rfl rfl rfl (OpQ.spec (sp_lss rfl (.inl rfl) (.inl rfl)) _) ?_
    refine AOps.nil ?_
    refine hK8 _ ?_
    refine AW.seq_w fun K9 hK9 wK9 => ?_
    refine AW.cond rfl (fun hc2 => ?_) (fun hc2 => ?_)
    · have h6 := ite_t hc2 h5
      refine AW.skip ?_
      refine hK9 _ ?_
      refine AW.seq_w fun K10 hK10 wK10 => ?_
      refine AW.block ?_
      refine AW.seq_w fun K11 hK11 wK11 => ?_
      refine AW.region ?_
      refine AOps.step rfl rfl rfl (OpQ.spec (sp_move rfl (.inl rfl)) _) ?_
      refine AOps.step rfl rfl rfl (OpQ.spec (sp_assign rfl (.inl rfl)) _) ?_
      refine AOps.nil ?_
      refine hK11 _ ?_
      refine AW.seq_w fun K12 hK12 wK12 => ?_
      refine AW.region ?_
      refine AOps.step rfl rfl rfl (OpQ.spec (sp_move rfl (.inl rfl)) _) ?_
      refine AOps.step rfl rfl rfl (OpQ.spec (sp_move rfl (.inl rfl)) _) ?_
      refine ob1k h6 fun ch2 ech2 h7 => ?_
      refine AOps.step rfl rfl rfl (OpQ.spec (ms_idx_str rfl Try.underlying9 (.inl rfl) (.inl rfl) (fun _ => ech2)) _) ?_
      refine AOps.step rfl rfl rfl (OpQ.spec (sp_lss rfl (.inl rfl) (.inl rfl)) _) ?_
      refine AOps.step rfl rfl rfl (OpQ.spec (sp_move rfl (.inl rfl)) _) ?_
      refine AOps.stepW (.one rfl rfl rfl) rfl rfl (OpQ.spec (sp_move rfl (.inl rfl)) _) ?_
      refine AOps.stepW (.one rfl rfl rfl) rfl rfl (OpQ.spec (sp_move rfl (.inl rfl)) _) ?_
      refine AOps.stepW (.one rfl rfl rfl) rfl rfl (OpQ.spec (ms_idx_str rfl Try.underlying9 (.inr ⟨_, (by exact id), rfl⟩) (.inr ⟨_, (by exact id), rfl⟩) (fun _ => ech2)) _) ?_
      refine AOps.stepW (.one rfl rfl rfl) rfl rfl (OpQ.spec (sp_gtr rfl (.inr ⟨_, (by exact id), rfl⟩) (.inl rfl)) _) ?_
      refine AOps.step rfl rfl rfl (OpQ.spec (sp_or rfl (.inl rfl) (.inr ⟨_, (by exact id), rfl⟩)) _) ?_
      refine AOps.nil ?_
      refine hK12 _ ?_
      refine AW.cond rfl (fun hc3 => ?_) (fun hc3 => ?_)
      · have h8 := ite_t hc3 h7
        refine AW.seq_w fun K13 hK13 wK13 => ?_
        refine AW.weak (s' := ⟨[], [], (i3 0), 35⟩) (by exact Weak.cv trivial trivial (Nat.le_refl _)) ?_
        refine AW.region ?_
        refine AOps.step rfl rfl rfl (OpQ.spec (sp_assign rfl (.inl rfl)) _) ?_
        refine AOps.nil ?_
        refine hK13 _ ?_
        refine AW.ret ?_
        exact retf1 (P := Try.prog) (fun (r : Bool) => .r (.bool r)) (he1 _ (hx1 _ (Option.some.inj h8).symm)) (.inl rfl) (.t (.d rfl))
      · have h8 := ite_f hc3 h7
        refine AW.skip ?_
        refine hK10 _ ?_
        refine AW.weak (s' := ⟨[(0, .r (.str s1)), (20, .r (.int .i64 (s1.length : Int))), (21, .r (.int .i64 x3))], [], (i3 0), 35⟩) (by exact Weak.cv ⟨.inl (.inl rfl), .inl (.inl rfl), .inl (.inl rfl), trivial⟩ trivial (Nat.le_refl _)) ?_
        refine AW.region ?_
        refine ob1k h8 fun x5 ex5 h9 => ?_
        refine AOps.step rfl rfl rfl (OpQ.spec (ms_add rfl (.inl rfl) (.inl rfl) (fun _ => ex5)) _) ?_
        refine AOps.step rfl rfl rfl (OpQ.spec (sp_move rfl (.inl rfl)) _) ?_
        refine AOps.nil ?_
        exact NextQ1.mk h9 (vec [(i3 0)]) ((by exact Weak.cv ⟨.inl (.inl rfl), .inl (.inl rfl), .inl (.inl rfl), trivial⟩ trivial (Nat.le_refl _)))
    · have h6 := ite_f hc2 h5
      refine AW.exit ?_
      exact wK5 _ _ ((by exact Weak.cv trivial trivial (Nat.le_refl _))) (J1 _ (vec [(i3 0)]) (hx1 _ (Option.some.inj h6).symm))
theorem w_replica_Between {a1 : List UInt8} {b1 : List UInt8} {r : (List UInt8) × Int} (h : replica_Between a1 b1 = some r) : ARO Try.prog 19 [.r (.str a1), .r (.str b1)] (.tup [.r (.str r.1), .r (.int .i64 r.2)]) := by
  unfold replica_Between at h
  refine ARO.mkF Try.func19 rfl rfl Try.ntmps19 rfl (Nat.le_of_ble_eq_true rfl) fun n0 => ?_
  refine AW.seq_w fun K1 hK1 wK1 => ?_
  refine AW.region ?_
  refine AOps.step rfl rfl rfl (OpQ.spec (sp_assign rfl (.inl rfl)) _) ?_
  refine AOps.step rfl rfl rfl (OpQ.spec (sp_assign rfl (.inl rfl)) _) ?_
  refine AOps.nil ?_
  refine hK1 _ ?_
  refine AW.seq_w fun K2 hK2 wK2 => ?_
  refine AW.seq_w fun K3 hK3 wK3 => ?_
  refine AW.region ?_
  refine AOps.step rfl rfl rfl (OpQ.spec (sp_move rfl (.inl rfl)) _) ?_
  refine AOps.step rfl rfl rfl (OpQ.spec (sp_sneq rfl (.inl rfl) (.inl rfl)) _) ?_
  refine AOps.step rfl rfl rfl (OpQ.spec (sp_move rfl (.inl rfl)) _) ?_
  refine AOps.stepW (.one rfl rfl rfl) rfl rfl (OpQ.spec (sp_move rfl (.inl rfl)) _) ?_
  refine ob1k h fun r1 er1 h1 => ?_
  refine AOps.stepW (.one rfl rfl rfl) rfl rfl (sp_call (r := .r (.bool r1)) (caps := []) (bs := [.r (.str a1)]) rfl (.inl rfl) rfl ⟨⟨_, (.inr ⟨_, (by exact id), rfl⟩), .d rfl⟩, trivial⟩ (fun hg => w_replica_Place (gdt er1 hg)) rfl) ?_
  refine AOps.stepW (.one rfl rfl rfl) rfl rfl (OpQ.spec (sp_not rfl (.inr ⟨_, (by exact id), rfl⟩)) _) ?_
  refine AOps.step rfl rfl rfl (OpQ.spec (sp_and rfl (.inl rfl) (.inr ⟨_, (by exact id), rfl⟩)) _) ?_
  refine AOps.step rfl rfl rfl (OpQ.spec (sp_move rfl (.inl rfl)) _) ?_
  refine AOps.stepW (.one rfl rfl rfl) rfl rfl (OpQ.spec (sp_move rfl (.inl rfl)) _) ?_
  refine AOps.stepW (.one rfl rfl rfl) rfl rfl (OpQ.spec (sp_sneq rfl (.inr ⟨_, (by exact id), rfl⟩) (.inl rfl)) _) ?_
  refine AOps.stepW (.one rfl rfl rfl) rfl rfl (OpQ.spec (sp_move rfl (.inr ⟨_, (by exact id), rfl⟩)) _) ?_
  refine AOps.stepW (.two rfl rfl rfl) rfl rfl (OpQ.spec (sp_move rfl (.inl rfl)) _) ?_
  refine ob1k h1 fun r2 er2 h2 => ?_
  refine AOps.stepW (.two rfl rfl rfl) rfl rfl (sp_call (r := .r (.bool r2)) (caps := []) (bs := [.r (.str b1)]) rfl (.inl rfl) rfl ⟨⟨_, (.inr ⟨_, (by exact id), rfl⟩), .d rfl⟩, trivial⟩ (fun hg => w_replica_Place (gdt er2 hg)) rfl) ?_
  refine AOps.stepW (.two rfl rfl rfl) rfl rfl (OpQ.spec (sp_not rfl (.inr ⟨_, (by exact id), rfl⟩)) _) ?_
  refine AOps.stepW (.one rfl rfl rfl) rfl rfl (OpQ.spec (sp_and rfl (.inr ⟨_, (by exact id), rfl⟩) (.inr ⟨_, (by exact id), rfl⟩)) _) ?_
  refine AOps.step rfl rfl rfl (OpQ.spec (sp_or rfl (.inl rfl) (.inr ⟨_, (by exact id), rfl⟩)) _) ?_
  refine AOps.nil ?_
  refine hK3 _ ?_
  refine AW.cond rfl (fun hc1 => ?_) (fun hc1 => ?_)
  · have h3 := ite_t hc1 h2
    refine AW.seq_w fun K4 hK4 wK4 => ?_
    refine AW.weak (s' := ⟨[], [], n0, 90⟩) (by exact Weak.cv trivial trivial (Nat.le_refl _)) ?_
    refine AW.region ?_
    refine AOps.step rfl rfl rfl (OpQ.spec (sp_assign rfl (.inl rfl)) _) ?_
    refine AOps.step rfl rfl rfl (OpQ.spec (sp_assign rfl (.inl rfl)) _) ?_
    refine AOps.nil ?_
    refine hK4 _ ?_
    refine AW.ret ?_
    exact retf2 (P := Try.prog) (fun (r : (List UInt8) × Int) => .r (.str r.1)) (fun (r : (List UInt8) × Int) => .r (.int .i64 r.2)) h3 (.inl rfl) (.t (.d rfl)) (.t (.d rfl))
  · have h3 := ite_f hc1 h2
    refine AW.skip ?_
    refine hK2 _ ?_
    refine AW.seq_w fun K5 hK5 wK5 => ?_
    refine AW.seq_w fun K6 hK6 wK6 => ?_
    refine AW.weak (s' := ⟨[(0, .r (.str a1)), (1, .r (.str b1))], [], n0, 90⟩) (by exact Weak.cv ⟨.inl (.inl rfl), .inl (.inl rfl), trivial⟩ trivial (Nat.le_refl _)) ?_
    refine AW.region ?_
    refine AOps.step rfl rfl rfl (OpQ.spec (sp_move rfl (.inl rfl)) _) ?_
    refine AOps.step rfl rfl rfl (OpQ.spec (sp_sneq rfl (.inl rfl) (.inl rfl)) _) ?_
    refine AOps.step rfl rfl rfl (OpQ.spec (sp_move rfl (.inl rfl)) _) ?_
    refine AOps.stepW (.one rfl rfl rfl) rfl rfl (OpQ.spec (sp_move rfl (.inl rfl)) _) ?_
    refine AOps.stepW (.one rfl rfl rfl) rfl rfl (OpQ.spec (sp_sneq rfl (.inr ⟨_, (by exact id), rfl⟩) (.inl rfl)) _) ?_
    refine AOps.step rfl rfl rfl (OpQ.spec (sp_and rfl (.inl rfl) (.inr ⟨_, (by exact id), rfl⟩)) _) ?_
    refine AOps.step rfl rfl rfl (OpQ.spec (sp_move rfl (.inl rfl)) _) ?_
    refine AOps.stepW (.one rfl rfl rfl) rfl rfl (OpQ.spec (sp_move rfl (.inl rfl)) _) ?_
    refine AOps.stepW (.one rfl rfl rfl) rfl rfl (OpQ.spec (sp_move rfl (.inl rfl)) _) ?_
    refine AOps.stepW (.one rfl rfl rfl) rfl rfl (OpQ.spec (sp_sgeq rfl (.inr ⟨_, (by exact id), rfl⟩) (.inr ⟨_, (by exact id), rfl⟩)) _) ?_
    refine AOps.step rfl rfl rfl (OpQ.spec (sp_and rfl (.inl rfl) (.inr ⟨_, (by exact id), rfl⟩)) _) ?_
    refine AOps.nil ?_
    refine hK6 _ ?_
    refine AW.cond rfl (fun hc2 => ?_) (fun hc2 => ?_)
    · have h4 := ite_t hc2 h3
      refine AW.seq_w fun K7 hK7 wK7 => ?_
      refine AW.weak (s' := ⟨[], [], n0, 90⟩) (by exact Weak.cv trivial trivial (Nat.le_refl _)) ?_
      refine AW.region ?_
      refine AOps.step rfl rfl rfl (OpQ.spec (sp_assign rfl (.inl rfl)) _) ?_
      refine AOps.step rfl rfl rfl (OpQ.spec (sp_assign rfl (.inl rfl)) _) ?_
      refine AOps.nil ?_
      refine hK7 _ ?_
      refine AW.ret ?_
      exact retf2 (P := Try.prog) (fun (r : (List UInt8) × Int) => .r (.str r.1)) (fun (r : (List UInt8) × Int) => .r (.int .i64 r.2)) h4 (.inl rfl) (.t (.d rfl)) (.t (.d rfl))
    · have h4 := ite_f hc2 h3
      refine AW.skip ?_
      refine hK5 _ ?_
      refine AW.seq_w fun K8 hK8 wK8 => ?_
      refine AW.weak (s' := ⟨[(0, .r (.str a1)), (1, .r (.str b1))], [], n0, 90⟩) (by exact Weak.cv ⟨.inl (.inl rfl), .inl (.inl rfl), trivial⟩ trivial (Nat.le_refl _)) ?_
      refine AW.region ?_
      refine AOps.step rfl rfl rfl (OpQ.spec (sp_assign rfl (.inl rfl)) _) ?_
      refine AOps.nil ?_
      refine hK8 _ ?_
      refine AW.seq_w fun K9 hK9 wK9 => ?_
      refine AW.seq_w fun K10 hK10 wK10 => ?_
      refine AW.region ?_
      refine AOps.step rfl rfl rfl (OpQ.spec (sp_move rfl (.inl rfl)) _) ?_
      refine AOps.step rfl rfl rfl (OpQ.spec (sp_seql rfl (.inl rfl) (.inl rfl)) _) ?_
      refine AOps.step rfl rfl rfl (OpQ.spec (sp_assign rfl (.inl rfl)) _) ?_
      refine AOps.step rfl rfl rfl (OpQ.spec (sp_assign rfl (.inl rfl)) _) ?_
      refine AOps.nil ?_
      refine hK10 _ ?_
      refine AW.block ?_
      refine jb1k h4 fun o1 hit1 hk1 => ?_
      have J1 : ∀ (out4 : List Int) (i8 : Nat → Nat), o1 = out4 → K9 ⟨[(6, .own 5006 (i8 0))], [(5006, some (.arr (i8 0) 5 1 (out4.map (rInt .u8))))], (i8 1), 90⟩ := by
        intro out4 i8 e
        have h5 := hk1 _ e
        refine hK9 _ ?_
        refine AW.seq_w fun K11 hK11 wK11 => ?_
        refine AW.seq_w fun K12 hK12 wK12 => ?_
        refine AW.region ?_
        refine AOps.step rfl rfl rfl (OpQ.spec (sp_move rfl (.inl rfl)) _) ?_
        refine AOps.step rfl rfl rfl (OpQ.spec (ms_len_own rfl tg_41.slice (.inl rfl) rfl) _) ?_
        refine AOps.step rfl rfl rfl (OpQ.spec (sp_gtr rfl (.inl rfl) (.inl rfl)) _) ?_
        refine AOps.nil ?_
        refine hK12 _ ?_
        refine AW.cond rfl (fun hc3 => ?_) (fun hc3 => ?_)
        · have h6 := ite_t hc3 h5
          refine AW.seq_w fun K13 hK13 wK13 => ?_
          refine AW.region ?_
          refine AOps.step rfl rfl rfl (OpQ.spec (sp_assign rfl (.inl rfl)) _) ?_
          refine AOps.step rfl rfl rfl (OpQ.spec (sp_assign rfl (.inl rfl)) _) ?_
          refine AOps.nil ?_
          refine hK13 _ ?_
          refine AW.ret ?_
          exact retf2 (P := Try.prog) (fun (r : (List UInt8) × Int) => .r (.str r.1)) (fun (r : (List UInt8) × Int) => .r (.int .i64 r.2)) h6 (.inl rfl) (.t (.d rfl)) (.t (.d rfl))
        · have h6 := ite_f hc3 h5
          refine AW.skip ?_
          refine hK11 _ ?_
          refine AW.seq_w fun K14 hK14 wK14 => ?_
          refine AW.region ?_
          refine AOps.step rfl rfl rfl (OpQ.spec (sp_move rfl (.inl rfl)) _) ?_
          refine AOps.step rfl rfl rfl (ms_str (ys := out4) rfl Try.underlying41 Try.underlying5 Try.underlying9 (.inr (.inl ⟨_, _, (.inl rfl), rfl⟩))) ?_
          refine AOps.step rfl rfl rfl (OpQ.spec (sp_assign rfl (.inl rfl)) _) ?_
          refine AOps.step rfl rfl rfl (OpQ.spec (sp_assign rfl (.inl rfl)) _) ?_
          refine AOps.nil ?_
          refine hK14 _ ?_
          refine AW.ret ?_
          exact retf2 (P := Try.prog) (fun (r : (List UInt8) × Int) => .r (.str r.1)) (fun (r : (List UInt8) × Int) => .r (.int .i64 r.2)) h6 (.inl rfl) (.t (.d rfl)) (.t (.d rfl))
      refine AW.iter3 (fun (i4 : Int) (open2 : Bool) (out2 : List Int) i5 => ⟨[(0, .r (.str a1)), (1, .r (.str b1)), (6, .own 5006 (i5 0)), (7, .r (.int .i64 i4)), (8, .r (.bool open2))], [(5006, some (.arr (i5 0) 5 1 (out2.map (rInt .u8))))], (i5 1), 90⟩) (vec [n0, (n0 + 1)]) hit1 (Weak.trans (Weak.trans (Weak.adopt 6 5006 5 1 (by decide) rfl) (by exact Weak.cv (e' := [(0, .r (.str a1)), (1, .r (.str b1)), (6, .own 5006 n0), (7, .r (.int .i64 0)), (8, .r (.bool (decide (b1 = [])))), (38, .r (.str b1)), (39, .r (.bool (decide (b1 = []))))]) (h' := [(5006, some (.arr n0 5 1 (([] : List Int).map (rInt .u8))))]) ⟨.inl (.inl rfl), .inl (.inl rfl), .inl (.inl rfl), .inl (.inl rfl), .inl (.inl rfl), .inl (.inl rfl), .inl (.inl rfl), trivial⟩ ⟨.inl rfl, trivial⟩ (Nat.le_refl _))) (by exact Weak.cv ⟨.inl (.inl rfl), .inl (.inl rfl), .inl (.inl rfl), .inl (.inl rfl), .inl (.inl rfl), trivial⟩ ⟨.inl rfl, trivial⟩ (Nat.le_refl _))) ?_
      intro i4 open2 out2 i5 v1 hv1 hx1
      have h7 : replica_Between_L1 a1 b1 i4 open2 out2 = some v1 := hv1; unfold replica_Between_L1 at h7
      refine AW.seq_w fun K15 hK15 wK15 => ?_
      refine AW.block ?_
      refine AW.seq_w fun K16 hK16 wK16 => ?_
      refine AW.region ?_
      refine AOps.step rfl rfl rfl (OpQ.spec (sp_assign rfl (.inl rfl)) _) ?_
      refine AOps.step rfl rfl rfl (OpQ.spec (sp_assign rfl (.inl rfl)) _) ?_
      refine AOps.nil ?_
      refine hK16 _ ?_
      refine AW.seq_w fun K17 hK17 wK17 => ?_
      refine AW.seq_w fun K18 hK18 wK18 => ?_
      refine AW.region ?_
      refine AOps.step rfl rfl rfl (OpQ.spec (sp_move rfl (.inl rfl)) _) ?_
      refine AOps.step rfl rfl rfl (OpQ.spec (sp_move rfl (.inl rfl)) _) ?_
      refine AOps.step rfl rfl rfl (OpQ.spec (sp_len_str rfl Try.underlying9 (.inl rfl)) _) ?_
      refine AOps.step rfl rfl rfl (OpQ.spec (sp_lss rfl (.inl rfl) (.inl rfl)) _) ?_
      refine AOps.nil ?_
      refine hK18 _ ?_
      refine jb1k h7 fun p1 hp1 hk2 => ?_
      have J2 : ∀ (x1 : Int) (i9 : Nat → Nat), p1 = x1 → K17 ⟨[(0, .r (.str a1)), (1, .r (.str b1)), (6, .own 5006 (i5 0)), (7, .r (.int .i64 i4)), (8, .r (.bool open2)), (9, .r (.int .i64 x1)), (10, .r (.int .i64 26))], [(5006, some (.arr (i5 0) 5 1 (out2.map (rInt .u8))))], (i9 0), 90⟩ := by
        intro x1 i9 e
        have h8 := hk2 _ e
        refine hK17 _ ?_
        refine AW.seq_w fun K19 hK19 wK19 => ?_
        refine AW.seq_w fun K20 hK20 wK20 => ?_
        refine AW.region ?_
        refine AOps.step rfl rfl rfl (OpQ.spec (sp_move rfl (.inl rfl)) _) ?_
        refine AOps.step rfl rfl rfl (OpQ.spec (sp_not rfl (.inl rfl)) _) ?_
        refine AOps.nil ?_
        refine hK20 _ ?_
        refine jb1k h8 fun p2 hp2 hk3 => ?_
        have J3 : ∀ (y1 : Int) (i10 : Nat → Nat), p2 = y1 → K19 ⟨[(0, .r (.str a1)), (1, .r (.str b1)), (6, .own 5006 (i5 0)), (7, .r (.int .i64 i4)), (8, .r (.bool open2)), (9, .r (.int .i64 x1)), (10, .r (.int .i64 y1))], [(5006, some (.arr (i5 0) 5 1 (out2.map (rInt .u8))))], (i10 0), 90⟩ := by
          intro y1 i10 e
          have h9 := hk3 _ e
          refine hK19 _ ?_
          refine AW.seq_w fun K21 hK21 wK21 => ?_
          refine AW.seq_w fun K22 hK22 wK22 => ?_
          refine AW.region ?_
          refine AOps.step rfl rfl rfl (OpQ.spec (sp_move rfl (.inl rfl)) _) ?_
          refine AOps.step rfl rfl rfl (OpQ.spec (sp_move rfl (.inl rfl)) _) ?_
          refine ob1k h9 fun x2 ex2 h10 => ?_
          refine AOps.step rfl rfl rfl (OpQ.spec (ms_sub rfl (.inl rfl) (.inl rfl) (fun _ => ex2)) _) ?_
          refine AOps.step rfl rfl rfl (OpQ.spec (sp_geq rfl (.inl rfl) (.inl rfl)) _) ?_
          refine AOps.nil ?_
          refine hK22 _ ?_
          refine AW.cond rfl (fun hc4 => ?_) (fun hc4 => ?_)
          · have h11 := ite_t hc4 h10
            refine AW.seq_w fun K23 hK23 wK23 => ?_
            refine AW.region ?_
            refine AOps.step rfl rfl rfl (OpQ.spec (sp_move rfl (.inl rfl)) _) ?_
            refine AOps.step rfl rfl rfl (OpQ.spec (sp_move rfl (.inl rfl)) _) ?_
            refine ob1k h11 fun x3 ex3 h12 => ?_
            refine AOps.step rfl rfl rfl (OpQ.spec (ms_add rfl (.inl rfl) (.inl rfl) (fun _ => ex3)) _) ?_
            refine AOps.step rfl rfl rfl (OpQ.spec (sp_move rfl (.inl rfl)) _) ?_
            refine AOps.step rfl rfl rfl (OpQ.spec (sp_move rfl (.inl rfl)) _) ?_
            refine AOps.step rfl rfl rfl (OpQ.spec (ms_sub rfl (.inl rfl) (.inl rfl) (fun _ => ex2)) _) ?_
            refine ob1k h12 fun x4 ex4 h13 => ?_
            refine AOps.step rfl rfl rfl (OpQ.spec (ms_quo rfl (.inl rfl) (.inl rfl) (fun _ => ex4)) _) ?_
            refine ob1k h13 fun x5 ex5 h14 => ?_
            refine AOps.step rfl rfl rfl (OpQ.spec (ms_add rfl (.inl rfl) (.inl rfl) (fun _ => ex5)) _) ?_
            refine AOps.step rfl rfl rfl (OpQ.spec (sp_convert_int rfl Try.underlying3 Try.underlying5 (.inl rfl)) _) ?_
            refine AOps.step rfl rfl rfl (ms_lit 71 rfl tg_41 (f := (rInt .u8)) (l := ([(IntKind.u8.wrap x5)] : List Int)) ⟨rfl, ⟨_, (.inl rfl), rfl⟩, trivial⟩ rfl (fun _ => rfl) rfl) ?_
            refine ob1k h14 fun out5 eout5 h15 => ?_
            refine AOps.step rfl rfl rfl (ms_app rfl tg_41 (.inl rfl) rfl (.inr (.inl ⟨_, _, (.inl rfl), rfl⟩)) eout5) ?_
            refine AOps.step rfl rfl rfl (OpQ.spec (sp_assign rfl (.inl rfl)) _) ?_
            refine AOps.nil ?_
            refine hK23 _ ?_
            refine AW.exit ?_
            exact wK9 _ _ ((by exact Weak.cv ⟨.inl (.inl rfl), trivial⟩ ⟨.inl rfl, trivial⟩ (Nat.le_refl _))) (J1 _ (vec [((i10 0) + 1), ((i10 0) + 2)]) (hx1 _ (Option.some.inj h15).symm))
          · have h11 := ite_f hc4 h10
            refine AW.skip ?_
            refine hK21 _ ?_
            refine AW.seq_w fun K24 hK24 wK24 => ?_
            refine AW.region ?_
            refine AOps.step rfl rfl rfl (OpQ.spec (sp_move rfl (.inl rfl)) _) ?_
            refine AOps.step rfl rfl rfl (OpQ.spec (sp_move rfl (.inl rfl)) _) ?_
            refine ob1k h11 fun x6 ex6 h16 => ?_
            refine AOps.step rfl rfl rfl (OpQ.spec (ms_add rfl (.inl rfl) (.inl rfl) (fun _ => ex6)) _) ?_
            refine AOps.step rfl rfl rfl (OpQ.spec (sp_convert_int rfl Try.underlying3 Try.underlying5 (.inl rfl)) _) ?_
            refine AOps.step rfl rfl rfl (ms_lit 77 rfl tg_41 (f := (rInt .u8)) (l := ([(IntKind.u8.wrap x6)] : List Int)) ⟨rfl, ⟨_, (.inl rfl), rfl⟩, trivial⟩ rfl (fun _ => rfl) rfl) ?_
            refine ob1k h16 fun out6 eout6 h17 => ?_
            refine AOps.step rfl rfl rfl (ms_app rfl tg_41 (.inl rfl) rfl (.inr (.inl ⟨_, _, (.inl rfl), rfl⟩)) eout6) ?_
            refine AOps.step rfl rfl rfl (OpQ.spec (sp_assign rfl (.inl rfl)) _) ?_
            refine AOps.nil ?_
            refine hK24 _ ?_
            refine AW.weak (s' := ⟨[(0, .r (.str a1)), (1, .r (.str b1)), (6, .own 5006 ((i10 0) + 1)), (7, .r (.int .i64 i4)), (8, .r (.bool open2)), (9, .r (.int .i64 x1)), (10, .r (.int .i64 y1))], [(5006, some (.arr ((i10 0) + 1) 5 1 (out6.map (rInt .u8))))], ((i10 0) + 2), 90⟩) (by exact Weak.cv ⟨.inl (.inl rfl), .inl (.inl rfl), .inl (.inl rfl), .inl (.inl rfl), .inl (.inl rfl), .inl (.inl rfl), .inl (.inl rfl), trivial⟩ ⟨.inl rfl, trivial⟩ (Nat.le_refl _)) ?_
            refine AW.region ?_
            refine AOps.step rfl rfl rfl (OpQ.spec (sp_move rfl (.inl rfl)) _) ?_
            refine AOps.step rfl rfl rfl (OpQ.spec (sp_move rfl (.inl rfl)) _) ?_
            refine AOps.stepW (.one rfl rfl rfl) rfl rfl (OpQ.spec (sp_move rfl (.inl rfl)) _) ?_
            refine AOps.stepW (.one rfl rfl rfl) rfl rfl (OpQ.spec (sp_move rfl (.inl rfl)) _) ?_
            refine AOps.stepW (.one rfl rfl rfl) rfl rfl (OpQ.spec (sp_gtr rfl (.inr ⟨_, (by exact id), rfl⟩) (.inr ⟨_, (by exact id), rfl⟩)) _) ?_
            refine AOps.step rfl rfl rfl (OpQ.spec (sp_or rfl (.inl rfl) (.inr ⟨_, (by exact id), rfl⟩)) _) ?_
            refine AOps.step rfl rfl rfl (OpQ.spec (sp_assign rfl (.inl rfl)) _) ?_
            refine AOps.nil ?_
            refine hK15 _ ?_
            refine AW.region ?_
            refine AOps.step rfl rfl rfl (OpQ.spec (sp_move rfl (.inl rfl)) _) ?_
            refine ob1k h17 fun i11 ei11 h18 => ?_
            refine AOps.step rfl rfl rfl (OpQ.spec (ms_add rfl (.inl rfl) (.inl rfl) (fun _ => ei11)) _) ?_
            refine AOps.step rfl rfl rfl (OpQ.spec (sp_assign rfl (.inl rfl)) _) ?_
            refine AOps.nil ?_
            exact NextQ3.mk h18 (vec [((i10 0) + 1), ((i10 0) + 2)]) ((by exact Weak.cv ⟨.inl (.inl rfl), .inl (.inl rfl), .inl (.inl rfl), .inl (.inl rfl), .inl (.inl rfl), trivial⟩ ⟨.inl rfl, trivial⟩ (Nat.le_refl _)))
        refine AW.cond rfl (fun hc5 => ?_) (fun hc5 => ?_)
        · have h19 := ite_t hc5 hp2
          refine AW.region ?_
          refine AOps.step rfl rfl rfl (OpQ.spec (sp_move rfl (.inl rfl)) _) ?_
          refine AOps.step rfl rfl rfl (OpQ.spec (sp_move rfl (.inl rfl)) _) ?_
          refine ob1k h19 fun ch1 ech1 h20 => ?_
          refine AOps.step rfl rfl rfl (OpQ.spec (ms_idx_str rfl Try.underlying9 (.inl rfl) (.inl rfl) (fun _ => ech1)) _) ?_
          refine AOps.step rfl rfl rfl (OpQ.spec (sp_subw rfl (.inl rfl) (.inl rfl)) _) ?_
          refine AOps.step rfl rfl rfl (OpQ.spec (sp_convert_int rfl Try.underlying5 Try.underlying3 (.inl rfl)) _) ?_
          refine AOps.step rfl rfl rfl (OpQ.spec (sp_assign rfl (.inl rfl)) _) ?_
          refine AOps.nil ?_
          exact wK19 _ _ ((by exact Weak.cv ⟨.inl (.inl rfl), .inl (.inl rfl), .inl (.inl rfl), .inl (.inl rfl), .inl (.inl rfl), .inl (.inl rfl), .inl (.inl rfl), trivial⟩ ⟨.inl rfl, trivial⟩ (Nat.le_refl _))) (J3 _ (vec [(i9 0)]) (Option.some.inj h20).symm)
        · have h19 := ite_f hc5 hp2
          refine AW.skip ?_
          exact wK19 _ _ ((by exact Weak.cv ⟨.inl (.inl rfl), .inl (.inl rfl), .inl (.inl rfl), .inl (.inl rfl), .inl (.inl rfl), .inl (.inl rfl), .inl (.inl rfl), trivial⟩ ⟨.inl rfl, trivial⟩ (Nat.le_refl _))) (J3 _ (vec [(i9 0)]) (Option.some.inj h19).symm)
      refine AW.cond rfl (fun hc6 => ?_) (fun hc6 => ?_)
      · have h21 := ite_t hc6 hp1
        refine AW.region ?_
        refine AOps.step rfl rfl rfl (OpQ.spec (sp_move rfl (.inl rfl)) _) ?_
        refine AOps.step rfl rfl rfl (OpQ.spec (sp_move rfl (.inl rfl)) _) ?_
        refine ob1k h21 fun ch2 ech2 h22 => ?_
        refine AOps.step rfl rfl rfl (OpQ.spec (ms_idx_str rfl Try.underlying9 (.inl rfl) (.inl rfl) (fun _ => ech2)) _) ?_
        refine AOps.step rfl rfl rfl (OpQ.spec (sp_subw rfl (.inl rfl) (.inl rfl)) _) ?_
        refine AOps.step rfl rfl rfl (OpQ.spec (sp_convert_int rfl Try.underlying5 Try.underlying3 (.inl rfl)) _) ?_
        refine AOps.step rfl rfl rfl (OpQ.spec (sp_assign rfl (.inl rfl)) _) ?_
        refine AOps.nil ?_
        exact wK17 _ _ ((by exact Weak.cv ⟨.inl (.inl rfl), .inl (.inl rfl), .inl (.inl rfl), .inl (.inl rfl), .inl (.inl rfl), .inl (.inl rfl), .inl (.inl rfl), trivial⟩ ⟨.inl rfl, trivial⟩ (Nat.le_refl _))) (J2 _ (vec [(i5 1)]) (Option.some.inj h22).symm)
      · have h21 := ite_f hc6 hp1
        refine AW.skip ?_
        exact wK17 _ _ ((by exact Weak.cv ⟨.inl (.inl rfl), .inl (.inl rfl), .inl (.inl rfl), .inl (.inl rfl), .inl (.inl rfl), .inl (.inl rfl), .inl (.inl rfl), trivial⟩ ⟨.inl rfl, trivial⟩ (Nat.le_refl _))) (J2 _ (vec [(i5 1)]) (Option.some.inj h21).symm)
theorem w_ref_Place {s1 : List UInt8} {r : Bool} (h : ref_Place s1 = some r) : ARO Try.prog 14 [.r (.str s1)] (.r (.bool r)) := by
  unfold ref_Place at h
  refine ARO.mkF Try.func14 rfl rfl Try.ntmps14 rfl (Nat.le_of_ble_eq_true rfl) fun n0 => ?_
  refine AW.seq_w fun K1 hK1 wK1 => ?_
  refine AW.region ?_
  refine AOps.step rfl rfl rfl (OpQ.spec (sp_assign rfl (.inl rfl)) _) ?_
  refine AOps.nil ?_
  refine hK1 _ ?_
  refine AW.seq_w fun K2 hK2 wK2 => ?_
  refine AW.seq_w fun K3 hK3 wK3 => ?_
  refine AW.region ?_
  refine AOps.step rfl rfl rfl (OpQ.spec (sp_move rfl (.inl rfl)) _) ?_
  refine AOps.step rfl rfl rfl (OpQ.spec (sp_len_str rfl Try.underlying9 (.inl rfl)) _) ?_
  refine AOps.step rfl rfl rfl (OpQ.spec (sp_move rfl (.inl rfl)) _) ?_
  refine AOps.nil ?_
  refine hK3 _ ?_
  refine AW.block ?_
  refine jc1k h fun o1 hit1 hk1 he1 => ?_
  have J1 : ∀ (u2 : Unit) (i5 : Nat → Nat), o1 = .nrm u2 → K2 ⟨[(0, .r (.str s1))], [], (i5 0), 36⟩ := by
    intro u2 i5 e
    have h1 := hk1 _ e
    refine hK2 _ ?_
    refine AW.seq_w fun K4 hK4 wK4 => ?_
    refine AW.region ?_
    refine AOps.step rfl rfl rfl (OpQ.spec (sp_move rfl (.inl rfl)) _) ?_
    refine AOps.step rfl rfl rfl (OpQ.spec (sp_len_str rfl Try.underlying9 (.inl rfl)) _) ?_
    refine AOps.step rfl rfl rfl (OpQ.spec (sp_geq rfl (.inl rfl) (.inl rfl)) _) ?_
    refine AOps.step rfl rfl rfl (OpQ.spec (sp_move rfl (.inl rfl)) _) ?_
    refine AOps.stepW (.one rfl rfl rfl) rfl rfl (OpQ.spec (sp_move rfl (.inl rfl)) _) ?_
    refine AOps.stepW (.one rfl rfl rfl) rfl rfl (OpQ.spec (sp_len_str rfl Try.underlying9 (.inr ⟨_, (by exact id), rfl⟩)) _) ?_
    refine AOps.stepW (.one rfl rfl rfl) rfl rfl (OpQ.spec (sp_leq rfl (.inr ⟨_, (by exact id), rfl⟩) (.inl rfl)) _) ?_
    refine AOps.step rfl rfl rfl (OpQ.spec (sp_and rfl (.inl rfl) (.inr ⟨_, (by exact id), rfl⟩)) _) ?_
    refine AOps.step rfl rfl rfl (OpQ.spec (sp_move rfl (.inl rfl)) _) ?_
    refine AOps.stepW (.one rfl rfl rfl) rfl rfl (OpQ.spec (sp_move rfl (.inl rfl)) _) ?_
    refine AOps.stepW (.one rfl rfl rfl) rfl rfl (OpQ.spec (sp_move rfl (.inl rfl)) _) ?_
    refine AOps.stepW (.one rfl rfl rfl) rfl rfl (OpQ.spec (sp_len_str rfl Try.underlying9 (.inr ⟨_, (by exact id), rfl⟩)) _) ?_
    refine ob1k h1 fun x4 ex4 h2 => ?_
    refine AOps.stepW (.one rfl rfl rfl) rfl rfl (OpQ.spec (ms_sub rfl (.inr ⟨_, (by exact id), rfl⟩) (.inl rfl) (gdt ex4)) _) ?_
    refine ob1k h2 fun ch1 ech1 h3 => ?_
    refine AOps.stepW (.one rfl rfl rfl) rfl rfl (OpQ.spec (ms_idx_str rfl Try.underlying9 (.inr ⟨_, (by exact id), rfl⟩) (.inr ⟨_, (by exact id), rfl⟩) (gdt ech1)) _) ?_
    refine AOps.stepW (.one rfl rfl rfl) rfl rfl (OpQ.spec (sp_neq rfl (.inr ⟨_, (by exact id), rfl⟩) (.inl rfl)) _) ?_
    refine AOps.step rfl rfl rfl (OpQ.spec (sp_and rfl (.inl rfl) (.inr ⟨_, (by exact id), rfl⟩)) _) ?_
    refine AOps.step rfl rfl rfl (OpQ.spec (sp_assign rfl (.inl rfl)) _) ?_
    refine AOps.nil ?_
    refine hK4 _ ?_
    refine AW.ret ?_
    exact retf1 (P := Try.prog) (fun (r : Bool) => .r (.bool r)) h3 (.inl rfl) (.t (.d rfl))
  refine AW.iter1 (fun (x2 : Int) i3 => ⟨[(0, .r (.str s1)), (5, .r (.int .i64 (s1.length : Int))), (6, .r (.int .i64 x2))], [], (i3 0), 36⟩) (vec [n0]) hit1 ((by exact Weak.cv ⟨.inl (.inl rfl), .inl (.inl rfl), .inl (.inl rfl), trivial⟩ trivial (Nat.le_refl _))) ?_
  intro x2 i3 v1 hv1 hx1
  have h4 : ref_Place_L1 s1 x2 = some v1 := hv1; unfold ref_Place_L1 at h4
  refine AW.seq_w fun K5 hK5 wK5 => ?_
  refine AW.region ?_
  refine AOps.step rfl rfl rfl (OpQ.spec (sp_lss rfl (.inl rfl) (.inl rfl)) _) ?_
  refine AOps.nil ?_
  refine hK5 _ ?_
  refine AW.seq_w fun K6 hK6 wK6 => ?_
  refine AW.cond rfl (fun hc1 => ?_) (fun hc1 => ?_)
  · have h5 := ite_t hc1 h4
    refine AW.skip ?_
    refine hK6 _ ?_
    refine AW.seq_w fun K7 hK7 wK7 => ?_
    refine AW.block ?_
    refine AW.seq_w fun K8 hK8 wK8 => ?_
    refine AW.region ?_
    refine AOps.step rfl rfl rfl (OpQ.spec (sp_move rfl (.inl rfl)) _) ?_
    refine AOps.step rfl rfl rfl (OpQ.spec (sp_assign rfl (.inl rfl)) _) ?_
    refine AOps.nil ?_
    refine hK8 _ ?_
    refine AW.seq_w fun K9 hK9 wK9 => ?_
    refine AW.region ?_
    refine AOps.step rfl rfl rfl (OpQ.spec (sp_move rfl (.inl rfl)) _) ?_
    refine AOps.step rfl rfl rfl (OpQ.spec (sp_move rfl (.inl rfl)) _) ?_
    refine ob1k h5 fun ch2 ech2 h6 => ?_
    refine AOps.step rfl rfl rfl (OpQ.spec (ms_idx_str rfl Try.underlying9 (.inl rfl) (.inl rfl) (fun _ => ech2)) _) ?_
    refine AOps.step rfl rfl rfl (OpQ.spec (sp_lss rfl (.inl rfl) (.inl rfl)) _) ?_
    refine AOps.step rfl rfl rfl (OpQ.spec (sp_move rfl (.inl rfl)) _) ?_
    refine AOps.stepW (.one rfl rfl rfl) rfl rfl (OpQ.spec (sp_move rfl (.inl rfl)) _) ?_
    refine AOps.stepW (.one rfl rfl rfl) rfl rfl (OpQ.spec (sp_move rfl (.inl rfl)) _) ?_
    refine AOps.stepW (.one rfl rfl rfl) rfl rfl (OpQ.spec (ms_idx_str rfl Try.underlying9 (.inr ⟨_, (by exact id), rfl⟩) (.inr ⟨_, (by exact id), rfl⟩) (fun _ => ech2)) _) ?_
    refine AOps.stepW (.one rfl rfl rfl) rfl rfl (OpQ.spec (sp_gtr rfl (.inr ⟨_, (by exact id), rfl⟩) (.inl rfl)) _) ?_
    refine AOps.step rfl rfl rfl (OpQ.spec (sp_or rfl (.inl rfl) (.inr ⟨_, (by exact id), rfl⟩)) _) ?_
    refine AOps.nil ?_
    refine hK9 _ ?_
    refine AW.cond rfl (fun hc2 => ?_) (fun hc2 => ?_)
    · have h7 := ite_t hc2 h6
      refine AW.seq_w fun K10 hK10 wK10 => ?_
      refine AW.weak (s' := ⟨[], [], (i3 0), 36⟩) (by exact Weak.cv trivial trivial (Nat.le_refl _)) ?_
      refine AW.region ?_
      refine AOps.step rfl rfl rfl (OpQ.spec (sp_assign rfl (.inl rfl)) _) ?_
      refine AOps.nil ?_
      refine hK10 _ ?_
      refine AW.ret ?_
      exact retf1 (P := Try.prog) (fun (r : Bool) => .r (.bool r)) (he1 _ (hx1 _ (Option.some.inj h7).symm)) (.inl rfl) (.t (.d rfl))
    · have h7 := ite_f hc2 h6
      refine AW.skip ?_
      refine hK7 _ ?_
      refine AW.weak (s' := ⟨[(0, .r (.str s1)), (5, .r (.int .i64 (s1.length : Int))), (6, .r (.int .i64 x2))], [], (i3 0), 36⟩) (by exact Weak.cv ⟨.inl (.inl rfl), .inl (.inl rfl), .inl (.inl rfl), trivial⟩ trivial (Nat.le_refl _)) ?_
      refine AW.region ?_
      refine ob1k h7 fun x5 ex5 h8 => ?_
      refine AOps.step rfl rfl rfl (OpQ.spec (ms_add rfl (.inl rfl) (.inl rfl) (fun _ => ex5)) _) ?_
      refine AOps.step rfl rfl rfl (OpQ.spec (sp_move rfl (.inl rfl)) _) ?_
      refine AOps.nil ?_
      exact NextQ1.mk h8 (vec [(i3 0)]) ((by exact Weak.cv ⟨.inl (.inl rfl), .inl (.inl rfl), .inl (.inl rfl), trivial⟩ trivial (Nat.le_refl _)))
  · have h5 := ite_f hc1 h4
    refine AW.exit ?_
    exact wK2 _ _ ((by exact Weak.cv ⟨.inl (.inl rfl), trivial⟩ trivial (Nat.le_refl _))) (J1 _ (vec [(i3 0)]) (hx1 _ (Option.some.inj h5).symm))
theorem w_law_ReplicaBetweenMatches {a1 : List UInt8} {b1 : List UInt8} {r : Bool} (h : law_ReplicaBetweenMatches a1 b1 = some r) : ARO Try.prog 5 [.r (.str a1), .r (.str b1)] (.r (.bool r)) := by
  unfold law_ReplicaBetweenMatches at h
  refine ARO.mkF Try.func5 rfl rfl Try.ntmps5 rfl (Nat.le_of_ble_eq_true rfl) fun n0 => ?_
  refine AW.seq_w fun K1 hK1 wK1 => ?_
  refine AW.region ?_
  refine AOps.step rfl rfl rfl (OpQ.spec (sp_assign rfl (.inl rfl)) _) ?_
  refine AOps.nil ?_
  refine hK1 _ ?_
  refine AW.seq_w fun K2 hK2 wK2 => ?_
  refine AW.seq_w fun K3 hK3 wK3 => ?_
  refine AW.region ?_
  refine ob1k h fun r1 er1 h1 => ?_
  refine AOps.step rfl rfl rfl (sp_call (r := .r (.bool r1)) (caps := []) (bs := []) rfl (.inl rfl) rfl trivial (fun _ => w_law_draws (er1)) rfl) ?_
  refine AOps.step rfl rfl rfl (OpQ.spec (sp_not rfl (.inl rfl)) _) ?_
  refine AOps.nil ?_
  refine hK3 _ ?_
  refine AW.cond rfl (fun hc1 => ?_) (fun hc1 => ?_)
  · have h2 := ite_t hc1 h1
    refine AW.seq_w fun K4 hK4 wK4 => ?_
    refine AW.region ?_
    refine AOps.step rfl rfl rfl (OpQ.spec (sp_assign rfl (.inl rfl)) _) ?_
    refine AOps.nil ?_
    refine hK4 _ ?_
    refine AW.ret ?_
    exact retf1 (P := Try.prog) (fun (r : Bool) => .r (.bool r)) h2 (.inl rfl) (.t (.d rfl))
  · have h2 := ite_f hc1 h1
    refine AW.skip ?_
    refine hK2 _ ?_
    refine AW.seq_w fun K5 hK5 wK5 => ?_
    refine AW.region ?_
    refine AOps.step rfl rfl rfl (OpQ.spec (sp_move rfl (.inl rfl)) _) ?_
    refine AOps.step rfl rfl rfl (OpQ.spec (sp_move rfl (.inl rfl)) _) ?_
    refine ob2k h2 fun r2 r3 er2 h3 => ?_
    refine AOps.step rfl rfl rfl (sp_call (r := .tup [.r (.str r2), .r (.int .i64 r3)]) (caps := []) (bs := [.r (.str a1), .r (.str b1)]) rfl (.inl rfl) rfl ⟨⟨_, (.inl rfl), .d rfl⟩, ⟨_, (.inl rfl), .d rfl⟩, trivial⟩ (fun _ => w_replica_Between (er2)) rfl) ?_
    refine AOps.step rfl rfl rfl (OpQ.spec (sp_move rfl (.inl rfl)) _) ?_
    refine AOps.step rfl rfl rfl (OpQ.spec (sp_extract (a := .r (.str r2)) rfl (.inl rfl) rfl) _) ?_
    refine AOps.step rfl rfl rfl (OpQ.spec (sp_extract (a := .r (.int .i64 r3)) rfl (.inl rfl) rfl) _) ?_
    refine AOps.step rfl rfl rfl (OpQ.spec (sp_assign rfl (.inl rfl)) _) ?_
    refine AOps.step rfl rfl rfl (OpQ.spec (sp_assign rfl (.inl rfl)) _) ?_
    refine AOps.nil ?_
    refine hK5 _ ?_
    refine AW.seq_w fun K6 hK6 wK6 => ?_
    refine AW.seq_w fun K7 hK7 wK7 => ?_
    refine AW.weak (s' := ⟨[(0, .r (.str a1)), (1, .r (.str b1)), (5, .r (.str r2)), (6, .r (.int .i64 r3))], [], n0, 126⟩) (by exact Weak.cv ⟨.inl (.inl rfl), .inl (.inl rfl), .inl (.inl rfl), .inl (.inl rfl), trivial⟩ trivial (Nat.le_refl _)) ?_
    refine AW.region ?_
    refine AOps.step rfl rfl rfl (OpQ.spec (sp_move rfl (.inl rfl)) _) ?_
    refine AOps.step rfl rfl rfl (OpQ.spec (sp_sneq rfl (.inl rfl) (.inl rfl)) _) ?_
    refine AOps.step rfl rfl rfl (OpQ.spec (sp_move rfl (.inl rfl)) _) ?_
    refine AOps.stepW (.one rfl rfl rfl) rfl rfl (OpQ.spec (sp_move rfl (.inl rfl)) _) ?_
    refine ob1k h3 fun r4 er4 h4 => ?_
    refine AOps.stepW (.one rfl rfl rfl) rfl rfl (sp_call (r := .r (.bool r4)) (caps := []) (bs := [.r (.str a1)]) rfl (.inl rfl) rfl ⟨⟨_, (.inr ⟨_, (by exact id), rfl⟩), .d rfl⟩, trivial⟩ (fun hg => w_ref_Place (gdt er4 hg)) rfl) ?_
    refine AOps.stepW (.one rfl rfl rfl) rfl rfl (OpQ.spec (sp_not rfl (.inr ⟨_, (by exact id), rfl⟩)) _) ?_
    refine AOps.step rfl rfl rfl (OpQ.spec (sp_and rfl (.inl rfl) (.inr ⟨_, (by exact id), rfl⟩)) _) ?_
    refine AOps.step rfl rfl rfl (OpQ.spec (sp_move rfl (.inl rfl)) _) ?_
    refine AOps.stepW (.one rfl rfl rfl) rfl rfl (OpQ.spec (sp_move rfl (.inl rfl)) _) ?_
    refine AOps.stepW (.one rfl rfl rfl) rfl rfl (OpQ.spec (sp_sneq rfl (.inr ⟨_, (by exact id), rfl⟩) (.inl rfl)) _) ?_
    refine AOps.stepW (.one rfl rfl rfl) rfl rfl (OpQ.spec (sp_move rfl (.inr ⟨_, (by exact id), rfl⟩)) _) ?_
    refine AOps.stepW (.two rfl rfl rfl) rfl rfl (OpQ.spec (sp_move rfl (.inl rfl)) _) ?_
    refine ob1k h4 fun r5 er5 h5 => ?_
    refine AOps.stepW (.two rfl rfl rfl) rfl rfl (sp_call (r := .r (.bool r5)) (caps := []) (bs := [.r (.str b1)]) rfl (.inl rfl) rfl ⟨⟨_, (.inr ⟨_, (by exact id), rfl⟩), .d rfl⟩, trivial⟩ (fun hg => w_ref_Place (gdt er5 hg)) rfl) ?_
    refine AOps.stepW (.two rfl rfl rfl) rfl rfl (OpQ.spec (sp_not rfl (.inr ⟨_, (by exact id), rfl⟩)) _) ?_
    refine AOps.stepW (.one rfl rfl rfl) rfl rfl (OpQ.spec (sp_and rfl (.inr ⟨_, (by exact id), rfl⟩) (.inr ⟨_, (by exact id), rfl⟩)) _) ?_
    refine AOps.step rfl rfl rfl (OpQ.spec (sp_or rfl (.inl rfl) (.inr ⟨_, (by exact id), rfl⟩)) _) ?_
    refine AOps.nil ?_
    refine hK7 _ ?_
    refine AW.cond rfl (fun hc2 => ?_) (fun hc2 => ?_)
    · have h6 := ite_t hc2 h5
      refine AW.seq_w fun K8 hK8 wK8 => ?_
      refine AW.weak (s' := ⟨[(5, .r (.str r2)), (6, .r (.int .i64 r3))], [], n0, 126⟩) (by exact Weak.cv ⟨.inl (.inl rfl), .inl (.inl rfl), trivial⟩ trivial (Nat.le_refl _)) ?_
      refine AW.region ?_
      refine AOps.step rfl rfl rfl (OpQ.spec (sp_move rfl (.inl rfl)) _) ?_
      refine AOps.step rfl rfl rfl (OpQ.spec (sp_eql rfl (.inl rfl) (.inl rfl)) _) ?_
      refine AOps.step rfl rfl rfl (OpQ.spec (sp_move rfl (.inl rfl)) _) ?_
      refine AOps.stepW (.one rfl rfl rfl) rfl rfl (OpQ.spec (sp_move rfl (.inl rfl)) _) ?_
      refine AOps.stepW (.one rfl rfl rfl) rfl rfl (OpQ.spec (sp_seql rfl (.inr ⟨_, (by exact id), rfl⟩) (.inl rfl)) _) ?_
      refine AOps.step rfl rfl rfl (OpQ.spec (sp_and rfl (.inl rfl) (.inr ⟨_, (by exact id), rfl⟩)) _) ?_
      refine AOps.step rfl rfl rfl (OpQ.spec (sp_assign rfl (.inl rfl)) _) ?_
      refine AOps.nil ?_
      refine hK8 _ ?_
      refine AW.ret ?_
      exact retf1 (P := Try.prog) (fun (r : Bool) => .r (.bool r)) h6 (.inl rfl) (.t (.d rfl))
    · have h6 := ite_f hc2 h5
      refine AW.skip ?_
      refine hK6 _ ?_
      refine AW.seq_w fun K9 hK9 wK9 => ?_
      refine AW.seq_w fun K10 hK10 wK10 => ?_
      refine AW.weak (s' := ⟨[(0, .r (.str a1)), (1, .r (.str b1)), (5, .r (.str r2)), (6, .r (.int .i64 r3))], [], n0, 126⟩) (by exact Weak.cv ⟨.inl (.inl rfl), .inl (.inl rfl), .inl (.inl rfl), .inl (.inl rfl), trivial⟩ trivial (Nat.le_refl _)) ?_
      refine AW.region ?_
      refine AOps.step rfl rfl rfl (OpQ.spec (sp_move rfl (.inl rfl)) _) ?_
      refine AOps.step rfl rfl rfl (OpQ.spec (sp_sneq rfl (.inl rfl) (.inl rfl)) _) ?_
      refine AOps.step rfl rfl rfl (OpQ.spec (sp_move rfl (.inl rfl)) _) ?_
      refine AOps.stepW (.one rfl rfl rfl) rfl rfl (OpQ.spec (sp_move rfl (.inl rfl)) _) ?_
      refine AOps.stepW (.one rfl rfl rfl) rfl rfl (OpQ.spec (sp_sneq rfl (.inr ⟨_, (by exact id), rfl⟩) (.inl rfl)) _) ?_
      refine AOps.step rfl rfl rfl (OpQ.spec (sp_and rfl (.inl rfl) (.inr ⟨_, (by exact id), rfl⟩)) _) ?_
      refine AOps.step rfl rfl rfl (OpQ.spec (sp_move rfl (.inl rfl)) _) ?_
      refine AOps.stepW (.one rfl rfl rfl) rfl rfl (OpQ.spec (sp_move rfl (.inl rfl)) _) ?_
      refine AOps.stepW (.one rfl rfl rfl) rfl rfl (OpQ.spec (sp_move rfl (.inl rfl)) _) ?_
      refine AOps.stepW (.one rfl rfl rfl) rfl rfl (OpQ.spec (sp_sgeq rfl (.inr ⟨_, (by exact id), rfl⟩) (.inr ⟨_, (by exact id), rfl⟩)) _) ?_
      refine AOps.step rfl rfl rfl (OpQ.spec (sp_and rfl (.inl rfl) (.inr ⟨_, (by exact id), rfl⟩)) _) ?_
      refine AOps.nil ?_
      refine hK10 _ ?_
      refine AW.cond rfl (fun hc3 => ?_) (fun hc3 => ?_)
      · have h7 := ite_t hc3 h6
        refine AW.seq_w fun K11 hK11 wK11 => ?_
        refine AW.weak (s' := ⟨[(5, .r (.str r2)), (6, .r (.int .i64 r3))], [], n0, 126⟩) (by exact Weak.cv ⟨.inl (.inl rfl), .inl (.inl rfl), trivial⟩ trivial (Nat.le_refl _)) ?_
        refine AW.region ?_
        refine AOps.step rfl rfl rfl (OpQ.spec (sp_move rfl (.inl rfl)) _) ?_
        refine AOps.step rfl rfl rfl (OpQ.spec (sp_eql rfl (.inl rfl) (.inl rfl)) _) ?_
        refine AOps.step rfl rfl rfl (OpQ.spec (sp_move rfl (.inl rfl)) _) ?_
        refine AOps.stepW (.one rfl rfl rfl) rfl rfl (OpQ.spec (sp_move rfl (.inl rfl)) _) ?_
        refine AOps.stepW (.one rfl rfl rfl) rfl rfl (OpQ.spec (sp_seql rfl (.inr ⟨_, (by exact id), rfl⟩) (.inl rfl)) _) ?_
        refine AOps.step rfl rfl rfl (OpQ.spec (sp_and rfl (.inl rfl) (.inr ⟨_, (by exact id), rfl⟩)) _) ?_
        refine AOps.step rfl rfl rfl (OpQ.spec (sp_assign rfl (.inl rfl)) _) ?_
        refine AOps.nil ?_
        refine hK11 _ ?_
        refine AW.ret ?_
        exact retf1 (P := Try.prog) (fun (r : Bool) => .r (.bool r)) h7 (.inl rfl) (.t (.d rfl))
      · have h7 := ite_f hc3 h6
        refine AW.skip ?_
        refine hK9 _ ?_
        refine AW.seq_w fun K12 hK12 wK12 => ?_
        refine AW.weak (s' := ⟨[(0, .r (.str a1)), (1, .r (.str b1)), (5, .r (.str r2)), (6, .r (.int .i64 r3))], [], n0, 126⟩) (by exact Weak.cv ⟨.inl (.inl rfl), .inl (.inl rfl), .inl (.inl rfl), .inl (.inl rfl), trivial⟩ trivial (Nat.le_refl _)) ?_
        refine AW.region ?_
        refine AOps.step rfl rfl rfl (OpQ.spec (sp_assign rfl (.inl rfl)) _) ?_
        refine AOps.nil ?_
        refine hK12 _ ?_
        refine AW.seq_w fun K13 hK13 wK13 => ?_
        refine AW.seq_w fun K14 hK14 wK14 => ?_
        refine AW.region ?_
        refine AOps.step rfl rfl rfl (OpQ.spec (sp_assign rfl (.inl rfl)) _) ?_
        refine AOps.nil ?_
        refine hK14 _ ?_
        refine AW.block ?_
        refine jb1k h7 fun o1 hit1 hk1 => ?_
        have J1 : ∀ (want4 : List Int) (i8 : Nat → Nat), o1 = want4 → K13 ⟨[(5, .r (.str r2)), (6, .r (.int .i64 r3)), (7, .own 5007 (i8 0))], [(5007, some (.arr (i8 0) 5 1 (want4.map (rInt .u8))))], (i8 1), 126⟩ := by
          intro want4 i8 e
          have h8 := hk1 _ e
          refine hK13 _ ?_
          refine AW.seq_w fun K15 hK15 wK15 => ?_
          refine AW.seq_w fun K16 hK16 wK16 => ?_
          refine AW.region ?_
          refine AOps.step rfl rfl rfl (OpQ.spec (sp_move rfl (.inl rfl)) _) ?_
          refine AOps.step rfl rfl rfl (OpQ.spec (ms_len_own rfl tg_41.slice (.inl rfl) rfl) _) ?_
          refine AOps.step rfl rfl rfl (OpQ.spec (sp_gtr rfl (.inl rfl) (.inl rfl)) _) ?_
          refine AOps.nil ?_
          refine hK16 _ ?_
          refine AW.cond rfl (fun hc4 => ?_) (fun hc4 => ?_)
          · have h9 := ite_t hc4 h8
            refine AW.seq_w fun K17 hK17 wK17 => ?_
            refine AW.region ?_
            refine AOps.step rfl rfl rfl (OpQ.spec (sp_move rfl (.inl rfl)) _) ?_
            refine AOps.step rfl rfl rfl (OpQ.spec (sp_eql rfl (.inl rfl) (.inl rfl)) _) ?_
            refine AOps.step rfl rfl rfl (OpQ.spec (sp_move rfl (.inl rfl)) _) ?_
            refine AOps.stepW (.one rfl rfl rfl) rfl rfl (OpQ.spec (sp_move rfl (.inl rfl)) _) ?_
            refine AOps.stepW (.one rfl rfl rfl) rfl rfl (OpQ.spec (sp_seql rfl (.inr ⟨_, (by exact id), rfl⟩) (.inl rfl)) _) ?_
            refine AOps.step rfl rfl rfl (OpQ.spec (sp_and rfl (.inl rfl) (.inr ⟨_, (by exact id), rfl⟩)) _) ?_
            refine AOps.step rfl rfl rfl (OpQ.spec (sp_assign rfl (.inl rfl)) _) ?_
            refine AOps.nil ?_
            refine hK17 _ ?_
            refine AW.ret ?_
            exact retf1 (P := Try.prog) (fun (r : Bool) => .r (.bool r)) h9 (.inl rfl) (.t (.d rfl))
          · have h9 := ite_f hc4 h8
            refine AW.skip ?_
            refine hK15 _ ?_
            refine AW.seq_w fun K18 hK18 wK18 => ?_
            refine AW.region ?_
            refine AOps.step rfl rfl rfl (OpQ.spec (sp_move rfl (.inl rfl)) _) ?_
            refine AOps.step rfl rfl rfl (OpQ.spec (sp_eql rfl (.inl rfl) (.inl rfl)) _) ?_
            refine AOps.step rfl rfl rfl (OpQ.spec (sp_move rfl (.inl rfl)) _) ?_
            refine AOps.stepW (.one rfl rfl rfl) rfl rfl (OpQ.spec (sp_move rfl (.inl rfl)) _) ?_
            refine AOps.stepW (.one rfl rfl rfl) rfl rfl (OpQ.spec (sp_move rfl (.inl rfl)) _) ?_
            refine AOps.stepW (.one rfl rfl rfl) rfl rfl (OpQ.spec (ms_strQ (ys := want4) rfl Try.underlying41 Try.underlying5 Try.underlying9 (.inr (.inl ⟨_, _, _, (.inr ⟨_, (by exact id), rfl⟩), rfl⟩))) _) ?_
            refine AOps.stepW (.one rfl rfl rfl) rfl rfl (OpQ.spec (sp_seql rfl (.inr ⟨_, (by exact id), rfl⟩) (.inr ⟨_, (by exact id), rfl⟩)) _) ?_
            refine AOps.step rfl rfl rfl (OpQ.spec (sp_and rfl (.inl rfl) (.inr ⟨_, (by exact id), rfl⟩)) _) ?_
            refine AOps.step rfl rfl rfl (OpQ.spec (sp_assign rfl (.inl rfl)) _) ?_
            refine AOps.nil ?_
            refine hK18 _ ?_
            refine AW.ret ?_
            exact retf1 (P := Try.prog) (fun (r : Bool) => .r (.bool r)) h9 (.inl rfl) (.t (.d rfl))
        refine AW.iter2 (fun (i4 : Int) (want2 : List Int) i5 => ⟨[(0, .r (.str a1)), (1, .r (.str b1)), (5, .r (.str r2)), (6, .r (.int .i64 r3)), (7, .own 5007 (i5 0)), (8, .r (.int .i64 i4))], [(5007, some (.arr (i5 0) 5 1 (want2.map (rInt .u8))))], (i5 1), 126⟩) (vec [n0, (n0 + 1)]) hit1 (Weak.trans (Weak.trans (Weak.adopt 7 5007 5 1 (by decide) rfl) (by exact Weak.cv (e' := [(0, .r (.str a1)), (1, .r (.str b1)), (5, .r (.str r2)), (6, .r (.int .i64 r3)), (7, .own 5007 n0), (8, .r (.int .i64 0))]) (h' := [(5007, some (.arr n0 5 1 (([] : List Int).map (rInt .u8))))]) ⟨.inl (.inl rfl), .inl (.inl rfl), .inl (.inl rfl), .inl (.inl rfl), .inl (.inl rfl), .inl (.inl rfl), trivial⟩ ⟨.inl rfl, trivial⟩ (Nat.le_refl _))) (by exact Weak.cv ⟨.inl (.inl rfl), .inl (.inl rfl), .inl (.inl rfl), .inl (.inl rfl), .inl (.inl rfl), .inl (.inl rfl), trivial⟩ ⟨.inl rfl, trivial⟩ (Nat.le_refl _))) ?_
        intro i4 want2 i5 v1 hv1 hx1
        have h10 : law_ReplicaBetweenMatches_L1 a1 b1 i4 want2 = some v1 := hv1; unfold law_ReplicaBetweenMatches_L1 at h10
        refine AW.seq_w fun K19 hK19 wK19 => ?_
        refine AW.block ?_
        refine AW.seq_w fun K20 hK20 wK20 => ?_
        refine AW.region ?_
        refine AOps.step rfl rfl rfl (OpQ.spec (sp_assign rfl (.inl rfl)) _) ?_
        refine AOps.step rfl rfl rfl (OpQ.spec (sp_assign rfl (.inl rfl)) _) ?_
        refine AOps.nil ?_
        refine hK20 _ ?_
        refine AW.seq_w fun K21 hK21 wK21 => ?_
        refine AW.seq_w fun K22 hK22 wK22 => ?_
        refine AW.region ?_
        refine AOps.step rfl rfl rfl (OpQ.spec (sp_move rfl (.inl rfl)) _) ?_
        refine AOps.step rfl rfl rfl (OpQ.spec (sp_move rfl (.inl rfl)) _) ?_
        refine AOps.step rfl rfl rfl (OpQ.spec (sp_len_str rfl Try.underlying9 (.inl rfl)) _) ?_
        refine AOps.step rfl rfl rfl (OpQ.spec (sp_lss rfl (.inl rfl) (.inl rfl)) _) ?_
        refine AOps.nil ?_
        refine hK22 _ ?_
        refine jb1k h10 fun p1 hp1 hk2 => ?_
        have J2 : ∀ (x1 : Int) (i9 : Nat → Nat), p1 = x1 → K21 ⟨[(0, .r (.str a1)), (1, .r (.str b1)), (5, .r (.str r2)), (6, .r (.int .i64 r3)), (7, .own 5007 (i5 0)), (8, .r (.int .i64 i4)), (9, .r (.int .i64 x1)), (10, .r (.int .i64 26))], [(5007, some (.arr (i5 0) 5 1 (want2.map (rInt .u8))))], (i9 0), 126⟩ := by
          intro x1 i9 e
          have h11 := hk2 _ e
          refine hK21 _ ?_
          refine AW.seq_w fun K23 hK23 wK23 => ?_
          refine AW.seq_w fun K24 hK24 wK24 => ?_
          refine AW.regionQ hmix (by kernel_rfl) ?_
          refine AQ.step rfl rfl rfl (sp_move rfl (.inl rfl)) ?_
          refine AQ.step rfl rfl rfl (sp_sneq rfl (.inl rfl) (.inl rfl)) ?_
          refine AQ.step rfl rfl rfl (sp_move rfl (.inl rfl)) ?_
          refine AQ.stepW (.one rfl rfl rfl) rfl rfl (sp_move rfl (.inl rfl)) ?_
          refine AQ.stepW (.one rfl rfl rfl) rfl rfl (sp_len_str rfl Try.underlying9 (.inr ⟨_, (by exact id), rfl⟩)) ?_
          refine AQ.stepW (.one rfl rfl rfl) rfl rfl (sp_move rfl (.inl rfl)) ?_
          refine AQ.stepW (.one rfl rfl rfl) rfl rfl (sp_gtr rfl (.inr ⟨_, (by exact id), rfl⟩) (.inr ⟨_, (by exact id), rfl⟩)) ?_
          refine AQ.step rfl rfl rfl (sp_and rfl (.inl rfl) (.inr ⟨_, (by exact id), rfl⟩)) ?_
          refine AQ.step rfl rfl rfl (sp_move rfl (.inl rfl)) ?_
          refine AQ.stepW (.one rfl rfl rfl) rfl rfl (sp_move rfl (.inl rfl)) ?_
          refine AQ.stepW (.one rfl rfl rfl) rfl rfl (ms_strQ (ys := want2) rfl Try.underlying41 Try.underlying5 Try.underlying9 (.inr (.inl ⟨_, _, _, (.inr ⟨_, (by exact id), rfl⟩), rfl⟩))) ?_
          refine AQ.stepW (.one rfl rfl rfl) rfl rfl (sp_move rfl (.inl rfl)) ?_
          refine AQ.stepW (.one rfl rfl rfl) rfl rfl (sp_move rfl (.inl rfl)) ?_
          refine ob1k h11 fun s1 es1 h12 => ?_
          refine AQ.stepW (.one rfl rfl rfl) rfl rfl (ms_slice_str rfl Try.underlying9 (.inr ⟨_, (by exact id), rfl⟩) (by exact rfl) (by exact ⟨_, (.inr ⟨_, (by exact id), rfl⟩)⟩) (gdt es1)) ?_
          refine AQ.stepW (.one rfl rfl rfl) rfl rfl (sp_seql rfl (.inr ⟨_, (by exact id), rfl⟩) (.inr ⟨_, (by exact id), rfl⟩)) ?_
          refine AQ.step rfl rfl rfl (sp_and rfl (.inl rfl) (.inr ⟨_, (by exact id), rfl⟩)) ?_
          refine AQ.nil ?_
          refine hK24 _ ?_
          refine jb1k h12 fun p2 hp2 hk3 => ?_
          have J3 : ∀ (y1 : Int) (i10 : Nat → Nat), p2 = y1 → K23 ⟨[(0, .r (.str a1)), (1, .r (.str b1)), (5, .r (.str r2)), (6, .r (.int .i64 r3)), (7, .own 5007 (i5 0)), (8, .r (.int .i64 i4)), (9, .r (.int .i64 x1)), (10, .r (.int .i64 y1))], [(5007, some (.arr (i5 0) 5 1 (want2.map (rInt .u8))))], (i10 0), 126⟩ := by
            intro y1 i10 e
            have h13 := hk3 _ e
            refine hK23 _ ?_
            refine AW.seq_w fun K25 hK25 wK25 => ?_
            refine AW.seq_w fun K26 hK26 wK26 => ?_
            refine AW.region ?_
            refine AOps.step rfl rfl rfl (OpQ.spec (sp_move rfl (.inl rfl)) _) ?_
            refine AOps.step rfl rfl rfl (OpQ.spec (sp_move rfl (.inl rfl)) _) ?_
            refine ob1k h13 fun x2 ex2 h14 => ?_
            refine AOps.step rfl rfl rfl (OpQ.spec (ms_sub rfl (.inl rfl) (.inl rfl) (fun _ => ex2)) _) ?_
            refine AOps.step rfl rfl rfl (OpQ.spec (sp_gtr rfl (.inl rfl) (.inl rfl)) _) ?_
            refine AOps.nil ?_
            refine hK26 _ ?_
            refine AW.cond rfl (fun hc5 => ?_) (fun hc5 => ?_)
            · have h15 := ite_t hc5 h14
              refine AW.seq_w fun K27 hK27 wK27 => ?_
              refine AW.region ?_
              refine AOps.step rfl rfl rfl (OpQ.spec (sp_move rfl (.inl rfl)) _) ?_
              refine AOps.step rfl rfl rfl (OpQ.spec (sp_move rfl (.inl rfl)) _) ?_
              refine AOps.step rfl rfl rfl (OpQ.spec (sp_move rfl (.inl rfl)) _) ?_
              refine ob1k h15 fun x3 ex3 h16 => ?_
              refine AOps.step rfl rfl rfl (OpQ.spec (ms_add rfl (.inl rfl) (.inl rfl) (fun _ => ex3)) _) ?_
              refine ob1k h16 fun x4 ex4 h17 => ?_
              refine AOps.step rfl rfl rfl (OpQ.spec (ms_quo rfl (.inl rfl) (.inl rfl) (fun _ => ex4)) _) ?_
              refine ob1k h17 fun x5 ex5 h18 => ?_
              refine AOps.step rfl rfl rfl (OpQ.spec (ms_add rfl (.inl rfl) (.inl rfl) (fun _ => ex5)) _) ?_
              refine AOps.step rfl rfl rfl (OpQ.spec (sp_convert_int rfl Try.underlying3 Try.underlying5 (.inl rfl)) _) ?_
              refine AOps.step rfl rfl rfl (ms_lit 101 rfl tg_41 (f := (rInt .u8)) (l := ([(IntKind.u8.wrap x5)] : List Int)) ⟨rfl, ⟨_, (.inl rfl), rfl⟩, trivial⟩ rfl (fun _ => rfl) rfl) ?_
              refine ob1k h18 fun want5 ewant5 h19 => ?_
              refine AOps.step rfl rfl rfl (ms_app rfl tg_41 (.inl rfl) rfl (.inr (.inl ⟨_, _, (.inl rfl), rfl⟩)) ewant5) ?_
              refine AOps.step rfl rfl rfl (OpQ.spec (sp_assign rfl (.inl rfl)) _) ?_
              refine AOps.nil ?_
              refine hK27 _ ?_
              refine AW.exit ?_
              exact wK13 _ _ ((by exact Weak.cv ⟨.inl (.inl rfl), .inl (.inl rfl), .inl (.inl rfl), trivial⟩ ⟨.inl rfl, trivial⟩ (Nat.le_refl _))) (J1 _ (vec [((i10 0) + 1), ((i10 0) + 2)]) (hx1 _ (Option.some.inj h19).symm))
            · have h15 := ite_f hc5 h14
              refine AW.skip ?_
              refine hK25 _ ?_
              refine AW.region ?_
              refine AOps.step rfl rfl rfl (OpQ.spec (sp_move rfl (.inl rfl)) _) ?_
              refine AOps.step rfl rfl rfl (OpQ.spec (sp_move rfl (.inl rfl)) _) ?_
              refine ob1k h15 fun x6 ex6 h20 => ?_
              refine AOps.step rfl rfl rfl (OpQ.spec (ms_add rfl (.inl rfl) (.inl rfl) (fun _ => ex6)) _) ?_
              refine AOps.step rfl rfl rfl (OpQ.spec (sp_convert_int rfl Try.underlying3 Try.underlying5 (.inl rfl)) _) ?_
              refine AOps.step rfl rfl rfl (ms_lit 107 rfl tg_41 (f := (rInt .u8)) (l := ([(IntKind.u8.wrap x6)] : List Int)) ⟨rfl, ⟨_, (.inl rfl), rfl⟩, trivial⟩ rfl (fun _ => rfl) rfl) ?_
              refine ob1k h20 fun want6 ewant6 h21 => ?_
              refine AOps.step rfl rfl rfl (ms_app rfl tg_41 (.inl rfl) rfl (.inr (.inl ⟨_, _, (.inl rfl), rfl⟩)) ewant6) ?_
              refine AOps.step rfl rfl rfl (OpQ.spec (sp_assign rfl (.inl rfl)) _) ?_
              refine AOps.nil ?_
              refine hK19 _ ?_
              refine AW.weak (s' := ⟨[(0, .r (.str a1)), (1, .r (.str b1)), (5, .r (.str r2)), (6, .r (.int .i64 r3)), (7, .own 5007 ((i10 0) + 1)), (8, .r (.int .i64 i4))], [(5007, some (.arr ((i10 0) + 1) 5 1 (want6.map (rInt .u8))))], ((i10 0) + 2), 126⟩) (by exact Weak.cv ⟨.inl (.inl rfl), .inl (.inl rfl), .inl (.inl rfl), .inl (.inl rfl), .inl (.inl rfl), .inl (.inl rfl), trivial⟩ ⟨.inl rfl, trivial⟩ (Nat.le_refl _)) ?_
              refine AW.region ?_
              refine AOps.step rfl rfl rfl (OpQ.spec (sp_move rfl (.inl rfl)) _) ?_
              refine ob1k h21 fun i11 ei11 h22 => ?_
              refine AOps.step rfl rfl rfl (OpQ.spec (ms_add rfl (.inl rfl) (.inl rfl) (fun _ => ei11)) _) ?_
              refine AOps.step rfl rfl rfl (OpQ.spec (sp_assign rfl (.inl rfl)) _) ?_
              refine AOps.nil ?_
              exact NextQ2.mk h22 (vec [((i10 0) + 1), ((i10 0) + 2)]) ((by exact Weak.cv ⟨.inl (.inl rfl), .inl (.inl rfl), .inl (.inl rfl), .inl (.inl rfl), .inl (.inl rfl), .inl (.inl rfl), trivial⟩ ⟨.inl rfl, trivial⟩ (Nat.le_refl _)))
          refine AW.cond rfl (fun hc6 => ?_) (fun hc6 => ?_)
          · have h23 := ite_t hc6 hp2
            refine AW.region ?_
            refine AOps.step rfl rfl rfl (OpQ.spec (sp_move rfl (.inl rfl)) _) ?_
            refine AOps.step rfl rfl rfl (OpQ.spec (sp_move rfl (.inl rfl)) _) ?_
            refine ob1k h23 fun ch1 ech1 h24 => ?_
            refine AOps.step rfl rfl rfl (OpQ.spec (ms_idx_str rfl Try.underlying9 (.inl rfl) (.inl rfl) (fun _ => ech1)) _) ?_
            refine AOps.step rfl rfl rfl (OpQ.spec (sp_convert_int rfl Try.underlying5 Try.underlying3 (.inl rfl)) _) ?_
            refine ob1k h24 fun y2 ey2 h25 => ?_
            refine AOps.step rfl rfl rfl (OpQ.spec (ms_sub rfl (.inl rfl) (.inl rfl) (fun _ => ey2)) _) ?_
            refine AOps.step rfl rfl rfl (OpQ.spec (sp_assign rfl (.inl rfl)) _) ?_
            refine AOps.nil ?_
            exact wK23 _ _ ((by exact Weak.cv ⟨.inl (.inl rfl), .inl (.inl rfl), .inl (.inl rfl), .inl (.inl rfl), .inl (.inl rfl), .inl (.inl rfl), .inl (.inl rfl), .inl (.inl rfl), trivial⟩ ⟨.inl rfl, trivial⟩ (Nat.le_refl _))) (J3 _ (vec [(i9 0)]) (Option.some.inj h25).symm)
          · have h23 := ite_f hc6 hp2
            refine AW.skip ?_
            exact wK23 _ _ ((by exact Weak.cv ⟨.inl (.inl rfl), .inl (.inl rfl), .inl (.inl rfl), .inl (.inl rfl), .inl (.inl rfl), .inl (.inl rfl), .inl (.inl rfl), .inl (.inl rfl), trivial⟩ ⟨.inl rfl, trivial⟩ (Nat.le_refl _))) (J3 _ (vec [(i9 0)]) (Option.some.inj h23).symm)
        refine AW.cond rfl (fun hc7 => ?_) (fun hc7 => ?_)
        · have h26 := ite_t hc7 hp1
          refine AW.region ?_
          refine AOps.step rfl rfl rfl (OpQ.spec (sp_move rfl (.inl rfl)) _) ?_
          refine AOps.step rfl rfl rfl (OpQ.spec (sp_move rfl (.inl rfl)) _) ?_
          refine ob1k h26 fun ch2 ech2 h27 => ?_
          refine AOps.step rfl rfl rfl (OpQ.spec (ms_idx_str rfl Try.underlying9 (.inl rfl) (.inl rfl) (fun _ => ech2)) _) ?_
          refine AOps.step rfl rfl rfl (OpQ.spec (sp_convert_int rfl Try.underlying5 Try.underlying3 (.inl rfl)) _) ?_
          refine ob1k h27 fun x7 ex7 h28 => ?_
          refine AOps.step rfl rfl rfl (OpQ.spec (ms_sub rfl (.inl rfl) (.inl rfl) (fun _ => ex7)) _) ?_
          refine AOps.step rfl rfl rfl (OpQ.spec (sp_assign rfl (.inl rfl)) _) ?_
          refine AOps.nil ?_
          exact wK21 _ _ ((by exact Weak.cv ⟨.inl (.inl rfl), .inl (.inl rfl), .inl (.inl rfl), .inl (.inl rfl), .inl (.inl rfl), .inl (.inl rfl), .inl (.inl rfl), .inl (.inl rfl), trivial⟩ ⟨.inl rfl, trivial⟩ (Nat.le_refl _))) (J2 _ (vec [(i5 1)]) (Option.some.inj h28).symm)
        · have h26 := ite_f hc7 hp1
          refine AW.skip ?_
          exact wK21 _ _ ((by exact Weak.cv ⟨.inl (.inl rfl), .inl (.inl rfl), .inl (.inl rfl), .inl (.inl rfl), .inl (.inl rfl), .inl (.inl rfl), .inl (.inl rfl), .inl (.inl rfl), trivial⟩ ⟨.inl rfl, trivial⟩ (Nat.le_refl _))) (J2 _ (vec [(i5 1)]) (Option.some.inj h26).symm)
end Go.Proofs.Ytelkfhdgmbahgaa.Al
