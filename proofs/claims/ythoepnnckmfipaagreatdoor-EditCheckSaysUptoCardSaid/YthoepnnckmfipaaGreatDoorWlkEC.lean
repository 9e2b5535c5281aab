/- Walks, as printed. -/
import Derived.Test.YthoepnnckmfipaaGreatDoorPL1
import Derived.Test.YthoepnnckmfipaaGreatDoorProg
set_option maxHeartbeats 4000000
set_option maxRecDepth 20000
set_option linter.unusedVariables false
namespace Go.Proofs.YthoepnnckmfipaaGreatDoor.Al
open Go.Proofs Go.Proofs.Tryz
theorem hmix : prog.follows .mixedOrders = true := by kernel_rfl
theorem i_138 : (prog.info? 138).map (fun i => (i.zero, i.size, i.bytes)) = some (some (.agg #[.int .i64 0, .int .i64 0, .int .i64 0, .int .i64 0]), 4, 32) := by kernel_rfl
theorem i_140 : (prog.info? 140).map (fun i => (i.zero, i.size, i.bytes)) = some (some (.agg #[.int .i64 0, .int .i64 0, .int .i64 0, .int .i64 0, .int .i64 0, .string ⟨#[]⟩, .string ⟨#[]⟩, .string ⟨#[]⟩]), 8, 88) := by kernel_rfl
theorem i_143 : (prog.info? 143).map (fun i => (i.zero, i.size, i.bytes)) = some (some (.agg #[.slice none 0 0, .slice none 0 0]), 2, 48) := by kernel_rfl
theorem i_144 : (prog.info? 144).map (fun i => (i.zero, i.size, i.bytes)) = some (some (.agg #[.slice none 0 0, .slice none 0 0]), 2, 48) := by kernel_rfl
theorem i_178 : (prog.info? 178).map (fun i => (i.zero, i.size, i.bytes)) = some (some (.agg #[.int .i64 0, .int .i64 0, .string ⟨#[]⟩, .int .i64 0, .slice none 0 0]), 5, 64) := by kernel_rfl
theorem i_180 : (prog.info? 180).map (fun i => (i.zero, i.size, i.bytes)) = some (some (.agg #[.int .i64 0, .int .i64 0]), 2, 16) := by kernel_rfl
theorem i_213 : (prog.info? 213).map (fun i => (i.zero, i.size, i.bytes)) = some (some (.agg #[.int .u8 0, .int .u8 0]), 2, 2) := by kernel_rfl
theorem i_26 : (prog.info? 26).map (fun i => (i.zero, i.size, i.bytes)) = some (some (.slice none 0 0), 1, 24) := by kernel_rfl
theorem i_27 : (prog.info? 27).map (fun i => (i.zero, i.size, i.bytes)) = some (some (.slice none 0 0), 1, 24) := by kernel_rfl
theorem i_28 : (prog.info? 28).map (fun i => (i.zero, i.size, i.bytes)) = some (some (.slice none 0 0), 1, 24) := by kernel_rfl
theorem i_29 : (prog.info? 29).map (fun i => (i.zero, i.size, i.bytes)) = some (some (.slice none 0 0), 1, 24) := by kernel_rfl
theorem i_3 : (prog.info? 3).map (fun i => (i.zero, i.size, i.bytes)) = some (some (.int .i64 0), 1, 8) := by kernel_rfl
theorem i_31 : (prog.info? 31).map (fun i => (i.zero, i.size, i.bytes)) = some (some (.agg #[.int .i64 0, .int .i64 0, .slice none 0 0, .slice none 0 0]), 4, 64) := by kernel_rfl
theorem i_32 : (prog.info? 32).map (fun i => (i.zero, i.size, i.bytes)) = some (some (.slice none 0 0), 1, 24) := by kernel_rfl
theorem i_34 : (prog.info? 34).map (fun i => (i.zero, i.size, i.bytes)) = some (some (.agg #[.int .i64 0, .int .i64 0, .slice none 0 0, .slice none 0 0, .int .i64 0, .int .i64 0, .slice none 0 0, .slice none 0 0, .slice none 0 0]), 9, 152) := by kernel_rfl
theorem i_35 : (prog.info? 35).map (fun i => (i.zero, i.size, i.bytes)) = some (some (.slice none 0 0), 1, 24) := by kernel_rfl
theorem i_36 : (prog.info? 36).map (fun i => (i.zero, i.size, i.bytes)) = some (some (.slice none 0 0), 1, 24) := by kernel_rfl
theorem i_38 : (prog.info? 38).map (fun i => (i.zero, i.size, i.bytes)) = some (some (.agg #[.slice none 0 0, .slice none 0 0, .slice none 0 0, .slice none 0 0, .slice none 0 0]), 5, 120) := by kernel_rfl
theorem i_4 : (prog.info? 4).map (fun i => (i.zero, i.size, i.bytes)) = some (some (.bool false), 1, 1) := by kernel_rfl
theorem i_40 : (prog.info? 40).map (fun i => (i.zero, i.size, i.bytes)) = some (some (.agg #[.int .i64 0, .int .i64 0, .int .i64 0, .int .i64 0, .slice none 0 0, .slice none 0 0, .int .i64 0, .int .i64 0, .slice none 0 0, .slice none 0 0, .slice none 0 0, .slice none 0 0, .slice none 0 0, .slice none 0 0, .slice none 0 0, .slice none 0 0, .slice none 0 0, .slice none 0 0, .slice none 0 0]), 19, 360) := by kernel_rfl
theorem i_43 : (prog.info? 43).map (fun i => (i.zero, i.size, i.bytes)) = some (some (.slice none 0 0), 1, 24) := by kernel_rfl
theorem i_45 : (prog.info? 45).map (fun i => (i.zero, i.size, i.bytes)) = some (some (.agg #[.slice none 0 0]), 1, 24) := by kernel_rfl
theorem i_5 : (prog.info? 5).map (fun i => (i.zero, i.size, i.bytes)) = some (some (.int .u8 0), 1, 1) := by kernel_rfl
theorem i_60 : (prog.info? 60).map (fun i => (i.zero, i.size, i.bytes)) = some (some (.agg #[.int .i64 0, .int .i64 0, .slice none 0 0]), 3, 40) := by kernel_rfl
theorem i_67 : (prog.info? 67).map (fun i => (i.zero, i.size, i.bytes)) = some (some (.agg #[.string ⟨#[]⟩, .string ⟨#[]⟩]), 2, 32) := by kernel_rfl
theorem i_88 : (prog.info? 88).map (fun i => (i.zero, i.size, i.bytes)) = some (some (.agg #[.bool false, .bool false, .bool false, .bool false, .bool false]), 5, 5) := by kernel_rfl
theorem i_9 : (prog.info? 9).map (fun i => (i.zero, i.size, i.bytes)) = some (some (.string ⟨#[]⟩), 1, 16) := by kernel_rfl
theorem i_98 : (prog.info? 98).map (fun i => (i.zero, i.size, i.bytes)) = some (some (.agg #[.int .i64 0, .int .i64 0, .slice none 0 0, .slice none 0 0]), 4, 64) := by kernel_rfl
theorem t0_138 : ZeroTy prog 138 (.agg #[.int .i64 0, .int .i64 0, .int .i64 0, .int .i64 0]) := ZeroTy.of i_138
theorem t0_140 : ZeroTy prog 140 (.agg #[.int .i64 0, .int .i64 0, .int .i64 0, .int .i64 0, .int .i64 0, .string ⟨#[]⟩, .string ⟨#[]⟩, .string ⟨#[]⟩]) := ZeroTy.of i_140
theorem t0_178 : ZeroTy prog 178 (.agg #[.int .i64 0, .int .i64 0, .string ⟨#[]⟩, .int .i64 0, .slice none 0 0]) := ZeroTy.of i_178
theorem t0_180 : ZeroTy prog 180 (.agg #[.int .i64 0, .int .i64 0]) := ZeroTy.of i_180
theorem t0_213 : ZeroTy prog 213 (.agg #[.int .u8 0, .int .u8 0]) := ZeroTy.of i_213
theorem t0_26 : ZeroTy prog 26 (.slice none 0 0) := ZeroTy.of i_26
theorem t0_31 : ZeroTy prog 31 (.agg #[.int .i64 0, .int .i64 0, .slice none 0 0, .slice none 0 0]) := ZeroTy.of i_31
theorem t0_34 : ZeroTy prog 34 (.agg #[.int .i64 0, .int .i64 0, .slice none 0 0, .slice none 0 0, .int .i64 0, .int .i64 0, .slice none 0 0, .slice none 0 0, .slice none 0 0]) := ZeroTy.of i_34
theorem t0_38 : ZeroTy prog 38 (.agg #[.slice none 0 0, .slice none 0 0, .slice none 0 0, .slice none 0 0, .slice none 0 0]) := ZeroTy.of i_38
theorem t0_40 : ZeroTy prog 40 (.agg #[.int .i64 0, .int .i64 0, .int .i64 0, .int .i64 0, .slice none 0 0, .slice none 0 0, .int .i64 0, .int .i64 0, .slice none 0 0, .slice none 0 0, .slice none 0 0, .slice none 0 0, .slice none 0 0, .slice none 0 0, .slice none 0 0, .slice none 0 0, .slice none 0 0, .slice none 0 0, .slice none 0 0]) := ZeroTy.of i_40
theorem t0_45 : ZeroTy prog 45 (.agg #[.slice none 0 0]) := ZeroTy.of i_45
theorem t0_60 : ZeroTy prog 60 (.agg #[.int .i64 0, .int .i64 0, .slice none 0 0]) := ZeroTy.of i_60
theorem t0_67 : ZeroTy prog 67 (.agg #[.string ⟨#[]⟩, .string ⟨#[]⟩]) := ZeroTy.of i_67
theorem t0_88 : ZeroTy prog 88 (.agg #[.bool false, .bool false, .bool false, .bool false, .bool false]) := ZeroTy.of i_88
theorem t0_98 : ZeroTy prog 98 (.agg #[.int .i64 0, .int .i64 0, .slice none 0 0, .slice none 0 0]) := ZeroTy.of i_98
theorem ta_138 : AggTy prog 138 4 := AggTy.of underlying138 rfl i_138
theorem ta_140 : AggTy prog 140 8 := AggTy.of underlying140 rfl i_140
theorem ta_178 : AggTy prog 178 5 := AggTy.of underlying178 rfl i_178
theorem ta_180 : AggTy prog 180 2 := AggTy.of underlying180 rfl i_180
theorem ta_213 : AggTy prog 213 2 := AggTy.of underlying213 rfl i_213
theorem ta_31 : AggTy prog 31 4 := AggTy.of underlying31 rfl i_31
theorem ta_34 : AggTy prog 34 9 := AggTy.of underlying34 rfl i_34
theorem ta_38 : AggTy prog 38 5 := AggTy.of underlying38 rfl i_38
theorem ta_40 : AggTy prog 40 19 := AggTy.of underlying40 rfl i_40
theorem ta_45 : AggTy prog 45 1 := AggTy.of underlying45 rfl i_45
theorem ta_60 : AggTy prog 60 3 := AggTy.of underlying60 rfl i_60
theorem ta_67 : AggTy prog 67 2 := AggTy.of underlying67 rfl i_67
theorem ta_98 : AggTy prog 98 4 := AggTy.of underlying98 rfl i_98
theorem tab_g0 : theTabs 0 = some (tabFirst.flatMap (rInt .u8)) := by kernel_rfl
theorem tab_g1 : theTabs 1 = some (tabAccept.flatMap Utf8_AcceptRange.row) := by kernel_rfl
theorem tb_143 : BuildArr prog 143 [(0, 1), (1, 1)] [.slice none 0 0, .slice none 0 0] := BuildArr.of (n := 2) (e := 36) underlying143 i_36 (placesB (by decide)) i_143
theorem tb_144 : BuildArr prog 144 [(0, 1), (1, 1)] [.slice none 0 0, .slice none 0 0] := BuildArr.of (n := 2) (e := 29) underlying144 i_29 (placesB (by decide)) i_144
theorem tb_31 : BuildTy prog 31 [(0, 1), (1, 1), (2, 1), (3, 1)] [.int .i64 0, .int .i64 0, .slice none 0 0, .slice none 0 0] := BuildTy.of underlying31 (fun w => by kernel_rfl) i_31
theorem tb_34 : BuildTy prog 34 [(0, 1), (1, 1), (2, 1), (3, 1), (4, 4), (8, 1)] [.int .i64 0, .int .i64 0, .slice none 0 0, .slice none 0 0, .int .i64 0, .int .i64 0, .slice none 0 0, .slice none 0 0, .slice none 0 0] := BuildTy.of underlying34 (fun w => by kernel_rfl) i_34
theorem tb_40 : BuildTy prog 40 [(0, 1), (1, 1), (2, 9), (11, 1), (12, 1), (13, 5), (18, 1)] [.int .i64 0, .int .i64 0, .int .i64 0, .int .i64 0, .slice none 0 0, .slice none 0 0, .int .i64 0, .int .i64 0, .slice none 0 0, .slice none 0 0, .slice none 0 0, .slice none 0 0, .slice none 0 0, .slice none 0 0, .slice none 0 0, .slice none 0 0, .slice none 0 0, .slice none 0 0, .slice none 0 0] := BuildTy.of underlying40 (fun w => by kernel_rfl) i_40
theorem tb_45 : BuildTy prog 45 [(0, 1)] [.slice none 0 0] := BuildTy.of underlying45 (fun w => by kernel_rfl) i_45
theorem tb_60 : BuildTy prog 60 [(0, 1), (1, 1), (2, 1)] [.int .i64 0, .int .i64 0, .slice none 0 0] := BuildTy.of underlying60 (fun w => by kernel_rfl) i_60
theorem tb_67 : BuildTy prog 67 [(0, 1), (1, 1)] [.string ⟨#[]⟩, .string ⟨#[]⟩] := BuildTy.of underlying67 (fun w => by kernel_rfl) i_67
theorem tb_88 : BuildArr prog 88 [(0, 1), (1, 1), (2, 1), (3, 1), (4, 1)] [.bool false, .bool false, .bool false, .bool false, .bool false] := BuildArr.of (n := 5) (e := 4) underlying88 i_4 (placesB (by decide)) i_88
theorem te_138 : EqTy prog 138 [some (.int .i64), some (.int .i64), some (.int .i64), some (.int .i64)] := EqTy.of underlying138 (by kernel_rfl) (by kernel_rfl) (by exact ⟨rfl, rfl, underlying3, rfl, rfl, underlying3, rfl, rfl, underlying3, rfl, rfl, underlying3, trivial⟩)
theorem te_140 : EqTy prog 140 [some (.int .i64), some (.int .i64), some (.int .i64), some (.int .i64), some (.int .i64), some .string, some .string, some .string] := EqTy.of underlying140 (by kernel_rfl) (by kernel_rfl) (by exact ⟨rfl, rfl, underlying3, rfl, rfl, underlying3, rfl, rfl, underlying3, rfl, rfl, underlying3, rfl, rfl, underlying3, rfl, rfl, underlying9, rfl, rfl, underlying9, rfl, rfl, underlying9, trivial⟩)
theorem te_67 : EqTy prog 67 [some .string, some .string] := EqTy.of underlying67 (by kernel_rfl) (by kernel_rfl) (by exact ⟨rfl, rfl, underlying9, rfl, rfl, underlying9, trivial⟩)
theorem tf_138_0 : FieldTy prog 138 0 0 := FieldTy.of underlying138 rfl rfl i_3 (by decide)
theorem tf_138_1 : FieldTy prog 138 1 1 := FieldTy.of underlying138 rfl rfl i_3 (by decide)
theorem tf_138_2 : FieldTy prog 138 2 2 := FieldTy.of underlying138 rfl rfl i_3 (by decide)
theorem tf_138_3 : FieldTy prog 138 3 3 := FieldTy.of underlying138 rfl rfl i_3 (by decide)
theorem tf_140_0 : FieldTy prog 140 0 0 := FieldTy.of underlying140 rfl rfl i_3 (by decide)
theorem tf_140_1 : FieldTy prog 140 1 1 := FieldTy.of underlying140 rfl rfl i_3 (by decide)
theorem tf_140_2 : FieldTy prog 140 2 2 := FieldTy.of underlying140 rfl rfl i_3 (by decide)
theorem tf_140_3 : FieldTy prog 140 3 3 := FieldTy.of underlying140 rfl rfl i_3 (by decide)
theorem tf_140_4 : FieldTy prog 140 4 4 := FieldTy.of underlying140 rfl rfl i_3 (by decide)
theorem tf_140_5 : FieldTy prog 140 5 5 := FieldTy.of underlying140 rfl rfl i_9 (by decide)
theorem tf_140_6 : FieldTy prog 140 6 6 := FieldTy.of underlying140 rfl rfl i_9 (by decide)
theorem tf_140_7 : FieldTy prog 140 7 7 := FieldTy.of underlying140 rfl rfl i_9 (by decide)
theorem tf_178_0 : FieldTy prog 178 0 0 := FieldTy.of underlying178 rfl rfl i_3 (by decide)
theorem tf_178_1 : FieldTy prog 178 1 1 := FieldTy.of underlying178 rfl rfl i_3 (by decide)
theorem tf_178_2 : FieldTy prog 178 2 2 := FieldTy.of underlying178 rfl rfl i_9 (by decide)
theorem tf_178_3 : FieldTy prog 178 3 3 := FieldTy.of underlying178 rfl rfl i_3 (by decide)
theorem tf_178_4 : FieldTy prog 178 4 4 := FieldTy.of underlying178 rfl rfl i_26 (by decide)
theorem tf_180_0 : FieldTy prog 180 0 0 := FieldTy.of underlying180 rfl rfl i_3 (by decide)
theorem tf_180_1 : FieldTy prog 180 1 1 := FieldTy.of underlying180 rfl rfl i_3 (by decide)
theorem tf_213_0 : FieldTy prog 213 0 0 := FieldTy.of underlying213 rfl rfl i_5 (by decide)
theorem tf_213_1 : FieldTy prog 213 1 1 := FieldTy.of underlying213 rfl rfl i_5 (by decide)
theorem tf_31_0 : FieldTy prog 31 0 0 := FieldTy.of underlying31 rfl rfl i_3 (by decide)
theorem tf_31_1 : FieldTy prog 31 1 1 := FieldTy.of underlying31 rfl rfl i_3 (by decide)
theorem tf_31_2 : FieldTy prog 31 2 2 := FieldTy.of underlying31 rfl rfl i_28 (by decide)
theorem tf_31_3 : FieldTy prog 31 3 3 := FieldTy.of underlying31 rfl rfl i_29 (by decide)
theorem tf_34_0 : FieldTy prog 34 0 0 := FieldTy.of underlying34 rfl rfl i_3 (by decide)
theorem tf_34_1 : FieldTy prog 34 1 1 := FieldTy.of underlying34 rfl rfl i_3 (by decide)
theorem tf_34_2 : FieldTy prog 34 2 2 := FieldTy.of underlying34 rfl rfl i_26 (by decide)
theorem tf_34_3 : FieldTy prog 34 3 3 := FieldTy.of underlying34 rfl rfl i_27 (by decide)
theorem tf_34_4 : FieldTy prog 34 4 4 := FieldTy.of underlying34 rfl rfl i_31 (by decide)
theorem tf_34_5 : FieldTy prog 34 5 8 := FieldTy.of underlying34 rfl rfl i_32 (by decide)
theorem tf_38_0 : FieldTy prog 38 0 0 := FieldTy.of underlying38 rfl rfl i_36 (by decide)
theorem tf_38_1 : FieldTy prog 38 1 1 := FieldTy.of underlying38 rfl rfl i_36 (by decide)
theorem tf_38_2 : FieldTy prog 38 2 2 := FieldTy.of underlying38 rfl rfl i_28 (by decide)
theorem tf_38_3 : FieldTy prog 38 3 3 := FieldTy.of underlying38 rfl rfl i_29 (by decide)
theorem tf_38_4 : FieldTy prog 38 4 4 := FieldTy.of underlying38 rfl rfl i_29 (by decide)
theorem tf_40_0 : FieldTy prog 40 0 0 := FieldTy.of underlying40 rfl rfl i_3 (by decide)
theorem tf_40_1 : FieldTy prog 40 1 1 := FieldTy.of underlying40 rfl rfl i_3 (by decide)
theorem tf_40_2 : FieldTy prog 40 2 2 := FieldTy.of underlying40 rfl rfl i_34 (by decide)
theorem tf_40_3 : FieldTy prog 40 3 11 := FieldTy.of underlying40 rfl rfl i_26 (by decide)
theorem tf_40_4 : FieldTy prog 40 4 12 := FieldTy.of underlying40 rfl rfl i_35 (by decide)
theorem tf_40_5 : FieldTy prog 40 5 13 := FieldTy.of underlying40 rfl rfl i_38 (by decide)
theorem tf_40_6 : FieldTy prog 40 6 18 := FieldTy.of underlying40 rfl rfl i_32 (by decide)
theorem tf_45_0 : FieldTy prog 45 0 0 := FieldTy.of underlying45 rfl rfl i_43 (by decide)
theorem tf_60_0 : FieldTy prog 60 0 0 := FieldTy.of underlying60 rfl rfl i_3 (by decide)
theorem tf_60_1 : FieldTy prog 60 1 1 := FieldTy.of underlying60 rfl rfl i_3 (by decide)
theorem tf_60_2 : FieldTy prog 60 2 2 := FieldTy.of underlying60 rfl rfl i_26 (by decide)
theorem tf_67_0 : FieldTy prog 67 0 0 := FieldTy.of underlying67 rfl rfl i_9 (by decide)
theorem tf_67_1 : FieldTy prog 67 1 1 := FieldTy.of underlying67 rfl rfl i_9 (by decide)
theorem tf_98_0 : FieldTy prog 98 0 0 := FieldTy.of underlying98 rfl rfl i_3 (by decide)
theorem tf_98_1 : FieldTy prog 98 1 1 := FieldTy.of underlying98 rfl rfl i_3 (by decide)
theorem tf_98_2 : FieldTy prog 98 2 2 := FieldTy.of underlying98 rfl rfl i_26 (by decide)
theorem tf_98_3 : FieldTy prog 98 3 3 := FieldTy.of underlying98 rfl rfl i_27 (by decide)
theorem tg_22 : GrowTy prog 22 40 19 360 := GrowTy.of underlying22 i_40 rfl rfl (by decide)
theorem tg_26 : GrowTy prog 26 67 2 32 := GrowTy.of underlying26 i_67 rfl rfl (by decide)
theorem tg_27 : GrowTy prog 27 60 3 40 := GrowTy.of underlying27 i_60 rfl rfl (by decide)
theorem tg_28 : GrowTy prog 28 178 5 64 := GrowTy.of underlying28 i_178 rfl rfl (by decide)
theorem tg_29 : GrowTy prog 29 138 4 32 := GrowTy.of underlying29 i_138 rfl rfl (by decide)
theorem tg_32 : GrowTy prog 32 140 8 88 := GrowTy.of underlying32 i_140 rfl rfl (by decide)
theorem tg_35 : GrowTy prog 35 98 4 64 := GrowTy.of underlying35 i_98 rfl rfl (by decide)
theorem tg_36 : GrowTy prog 36 180 2 16 := GrowTy.of underlying36 i_180 rfl rfl (by decide)
theorem tg_43 : GrowTy prog 43 34 9 152 := GrowTy.of underlying43 i_34 rfl rfl (by decide)
theorem tg_72 : GrowTy prog 72 3 1 8 := GrowTy.of underlying72 i_3 rfl rfl (by decide)
theorem tq_143 : ArrTy prog 143 2 36 := ArrTy.of underlying143 (ScalTy.of underlying36 rfl i_36)
theorem tq_144 : ArrTy prog 144 2 29 := ArrTy.of underlying144 (ScalTy.of underlying29 rfl i_29)
theorem tr_34 : ZRow prog 34 [.int .i64 0, .int .i64 0, .sl [], .sl [], .int .i64 0, .int .i64 0, .sl [], .sl [], .sl []] := ZRow.of i_34 rfl
theorem tr_60 : ZRow prog 60 [.int .i64 0, .int .i64 0, .sl []] := ZRow.of i_60 rfl
theorem ts_26 : ScalTy prog 26 := ScalTy.of underlying26 rfl i_26
theorem ts_27 : ScalTy prog 27 := ScalTy.of underlying27 rfl i_27
theorem ts_28 : ScalTy prog 28 := ScalTy.of underlying28 rfl i_28
theorem ts_29 : ScalTy prog 29 := ScalTy.of underlying29 rfl i_29
theorem ts_3 : ScalTy prog 3 := ScalTy.of underlying3 rfl i_3
theorem ts_32 : ScalTy prog 32 := ScalTy.of underlying32 rfl i_32
theorem ts_35 : ScalTy prog 35 := ScalTy.of underlying35 rfl i_35
theorem ts_36 : ScalTy prog 36 := ScalTy.of underlying36 rfl i_36
theorem ts_4 : ScalTy prog 4 := ScalTy.of underlying4 rfl i_4
theorem ts_43 : ScalTy prog 43 := ScalTy.of underlying43 rfl i_43
theorem ts_5 : ScalTy prog 5 := ScalTy.of underlying5 rfl i_5
theorem ts_9 : ScalTy prog 9 := ScalTy.of underlying9 rfl i_9
theorem tt_210 : TabTy prog 210 256 5 1 := ⟨underlying210, size_of i_5⟩
theorem tt_214 : TabTy prog 214 16 213 2 := ⟨underlying214, size_of i_213⟩
theorem tt_88 : TabTy prog 88 5 4 1 := ⟨underlying88, size_of i_4⟩
theorem tz_138 : ∃ i, prog.info? 138 = some i ∧ i.size = 4 := size_of i_138
theorem tz_140 : ∃ i, prog.info? 140 = some i ∧ i.size = 8 := size_of i_140
theorem tz_178 : ∃ i, prog.info? 178 = some i ∧ i.size = 5 := size_of i_178
theorem tz_180 : ∃ i, prog.info? 180 = some i ∧ i.size = 2 := size_of i_180
theorem tz_213 : ∃ i, prog.info? 213 = some i ∧ i.size = 2 := size_of i_213
theorem tz_26 : ∃ i, prog.info? 26 = some i ∧ i.size = 1 := size_of i_26
theorem tz_27 : ∃ i, prog.info? 27 = some i ∧ i.size = 1 := size_of i_27
theorem tz_28 : ∃ i, prog.info? 28 = some i ∧ i.size = 1 := size_of i_28
theorem tz_29 : ∃ i, prog.info? 29 = some i ∧ i.size = 1 := size_of i_29
theorem tz_31 : ∃ i, prog.info? 31 = some i ∧ i.size = 4 := size_of i_31
theorem tz_32 : ∃ i, prog.info? 32 = some i ∧ i.size = 1 := size_of i_32
theorem tz_34 : ∃ i, prog.info? 34 = some i ∧ i.size = 9 := size_of i_34
theorem tz_38 : ∃ i, prog.info? 38 = some i ∧ i.size = 5 := size_of i_38
theorem tz_40 : ∃ i, prog.info? 40 = some i ∧ i.size = 19 := size_of i_40
theorem tz_45 : ∃ i, prog.info? 45 = some i ∧ i.size = 1 := size_of i_45
theorem tz_60 : ∃ i, prog.info? 60 = some i ∧ i.size = 3 := size_of i_60
theorem tz_67 : ∃ i, prog.info? 67 = some i ∧ i.size = 2 := size_of i_67
theorem tz_88 : ∃ i, prog.info? 88 = some i ∧ i.size = 5 := size_of i_88
theorem tz_98 : ∃ i, prog.info? 98 = some i ∧ i.size = 4 := size_of i_98
@[reducible] def qa (l : List GAttr) : AV := .r (.sl (l.map GAttr.row))
@[reducible] def qb (l : List GRect) : AV := .r (.sl (l.map GRect.row))
@[reducible] def qc (l : List GCell) : AV := .r (.sl (l.map GCell.row))
@[reducible] def qd (l : List GElem) : AV := .r (.sl (l.map GElem.row))
@[reducible] def qe (l : List GDrawOp) : AV := .r (.sl (l.map GDrawOp.row))
@[reducible] def qf (l : List GAxisStep) : AV := .r (.sl (l.map GAxisStep.row))
@[reducible] def qg (l : List GNode) : AV := .r (.sl (l.map GNode.row))
@[reducible] def qh (l : List GStep) : AV := .r (.sl (l.map GStep.row))
@[reducible] def qi (l : List GOp) : AV := .r (.sl (l.map GOp.row))
theorem w_doc_First {r : GDoc} (h : doc_First = some r) : ARO prog 33 [] (.agg [qg r.Nodes]) := by
 unfold doc_First at h
 refine ARO.mkF func33 rfl rfl ntmps33 rfl (Nat.le_of_ble_eq_true rfl) fun n0 => ?_
 refine aS fun K1 hK1 wK1 => (aR (AOps.step rfl rfl rfl (ms_alloc (cs := [.cst (.slice none 0 0)]) 0 rfl t0_45 rfl rfl) (aZ (hK1 _ ?_))))
 refine aS fun K2 hK2 wK2 => (aR ?_)
 refine sQ rfl (sp_build rfl tb_60 (q := [(1, _)]) (by exact ⟨rfl, rfl, rfl, iL, trivial⟩) (cs := [rI (0), rI (2), .cst (.slice none 0 0)]) (by rfl)) ?_
 refine AOps.step rfl rfl rfl (ms_lit 2 rfl tg_27 (f := GElem.row) (l := ([(GElem.mk 0 2 [])] : List GElem)) ⟨rfl, ⟨_, iL, rfl⟩, trivial⟩ rfl (fun _ => rfl) rfl) ?_
 refine sQ rfl (sp_build rfl tb_34 (q := [(0, _), (1, _), (3, _)]) (by exact ⟨rfl, rfl, rfl, iL, rfl, rfl, rfl, iL, rfl, rfl, rfl, iL, trivial⟩) (cs := [rI (1), rI (0), .cst (.slice none 0 0), .own 2 (n0 + 1), rI (0), rI (0), .cst (.slice none 0 0), .cst (.slice none 0 0), .cst (.slice none 0 0)]) (by rfl)) ?_
 refine sQ rfl (sp_build rfl tb_60 (q := [(0, _)]) (by exact ⟨rfl, rfl, rfl, iL, trivial⟩) (cs := [rI (10), rI (0), .cst (.slice none 0 0)]) (by rfl)) ?_
 refine AOps.step rfl rfl rfl (ms_lit 5 rfl tg_27 (f := GElem.row) (l := ([(GElem.mk 10 0 [])] : List GElem)) ⟨rfl, ⟨_, iL, rfl⟩, trivial⟩ rfl (fun _ => rfl) rfl) ?_
 refine sQ rfl (sp_build rfl tb_34 (q := [(0, _), (1, _), (3, _)]) (by exact ⟨rfl, rfl, rfl, iL, rfl, rfl, rfl, iL, rfl, rfl, rfl, iL, trivial⟩) (cs := [rI (2), rI (1), .cst (.slice none 0 0), .own 5 (n0 + 2), rI (0), rI (0), .cst (.slice none 0 0), .cst (.slice none 0 0), .cst (.slice none 0 0)]) (by rfl)) ?_
 refine AOps.weak (by exact Weak.frz (e' := [(0, .ptr 0 n0 0 0), (1, .agg [rI (0), rI (2), .cst (.slice none 0 0)]), (2, .r (.sl ([(GElem.mk 0 2 [])].map GElem.row))), (3, .agg [rI (1), rI (0), .cst (.slice none 0 0), .r (.sl ([(GElem.mk 0 2 [])].map GElem.row)), rI (0), rI (0), .cst (.slice none 0 0), .cst (.slice none 0 0), .cst (.slice none 0 0)]), (4, .agg [rI (10), rI (0), .cst (.slice none 0 0)]), (5, .own 5 (n0 + 2)), (6, .agg [rI (2), rI (1), .cst (.slice none 0 0), .own 5 (n0 + 2), rI (0), rI (0), .cst (.slice none 0 0), .cst (.slice none 0 0), .cst (.slice none 0 0)])]) (h' := [(0, some (.box n0 45 [.cst (.slice none 0 0)])), (5, some (.arr (n0 + 2) 60 3 ([(GElem.mk 10 0 [])].map GElem.row)))]) 2 rfl ⟨jL, jL, .inl (.inr (.inr ⟨rfl, rfl⟩)), .inr ⟨_, _, rfl, rfl, ⟨.inl rfl, .inl rfl, .inl rfl, .inr (.inr ⟨rfl, rfl⟩), .inl rfl, .inl rfl, .inl rfl, .inl rfl, .inl rfl, trivial⟩⟩, jL, jL, jL, trivial⟩ ⟨rfl, .inl rfl, rfl, .inl rfl, trivial⟩) ?_
 refine AOps.weak (by exact Weak.frz (e' := [(0, .ptr 0 n0 0 0), (1, .agg [rI (0), rI (2), .cst (.slice none 0 0)]), (2, .r (.sl ([(GElem.mk 0 2 [])].map GElem.row))), (3, .agg [rI (1), rI (0), .cst (.slice none 0 0), .r (.sl ([(GElem.mk 0 2 [])].map GElem.row)), rI (0), rI (0), .cst (.slice none 0 0), .cst (.slice none 0 0), .cst (.slice none 0 0)]), (4, .agg [rI (10), rI (0), .cst (.slice none 0 0)]), (5, .r (.sl ([(GElem.mk 10 0 [])].map GElem.row))), (6, .agg [rI (2), rI (1), .cst (.slice none 0 0), .r (.sl ([(GElem.mk 10 0 [])].map GElem.row)), rI (0), rI (0), .cst (.slice none 0 0), .cst (.slice none 0 0), .cst (.slice none 0 0)])]) (h' := [(0, some (.box n0 45 [.cst (.slice none 0 0)]))]) 5 rfl ⟨jL, jL, jL, jL, jL, .inl (.inr (.inr ⟨rfl, rfl⟩)), .inr ⟨_, _, rfl, rfl, ⟨.inl rfl, .inl rfl, .inl rfl, .inr (.inr ⟨rfl, rfl⟩), .inl rfl, .inl rfl, .inl rfl, .inl rfl, .inl rfl, trivial⟩⟩, trivial⟩ ⟨rfl, .inl rfl, trivial⟩) ?_
 refine AOps.step rfl rfl rfl (ms_lit 7 rfl tg_43 (f := GNode.row) (l := ([(GNode.mk 1 0 [] [(GElem.mk 0 2 [])] (GGrid.mk 0 0 [] []) []), (GNode.mk 2 1 [] [(GElem.mk 10 0 [])] (GGrid.mk 0 0 [] []) [])] : List GNode)) ⟨rfl, ⟨_, iL, rfl⟩, rfl, ⟨_, iL, rfl⟩, trivial⟩ rfl (fun _ => rfl) rfl) ?_
 refine sQ rfl (sp_build rfl tb_45 (q := [(0, _)]) (by exact ⟨rfl, rfl, rfl, iL, trivial⟩) (cs := [.own 7 (n0 + 3)]) (by rfl)) ?_
 refine AOps.step0 rfl rfl (ms_store_box (ds := [.own 7 (n0 + 3)]) rfl tz_45 iL rfl iL rfl rfl rfl rfl) (aZ (hK2 _ ?_))
 refine AW.ret ?_
 exact retf1 (P := prog) (fun (r : GDoc) => .agg [qg r.Nodes]) h iL (.a ta_45 rfl rfl rfl (.agg (by exact ⟨.own rfl, trivial⟩)))
theorem w_law_on {name1 : List UInt8} {r : (List GAttr)} (h : law_on name1 = some r) : ARO prog 34 [.r (.str name1)] (qa r) := by
 unfold law_on at h
 refine ARO.mkF func34 rfl rfl ntmps34 rfl (Nat.le_of_ble_eq_true rfl) fun n0 => ?_
 refine aS fun K1 hK1 wK1 => (aR (sA rfl rfl (aZ (hK1 _ ?_))))
 refine aS fun K2 hK2 wK2 => (aR (sM rfl rfl ?_))
 refine sQ rfl (sp_build rfl tb_67 (q := [(0, _), (1, _)]) (by exact ⟨rfl, rfl, rfl, iL, rfl, rfl, rfl, iL, trivial⟩) (cs := [.r (.str name1), .r (.str [111, 110])]) (by rfl)) ?_
 refine AOps.step rfl rfl rfl (ms_lit 5 rfl tg_26 (f := GAttr.row) (l := ([(GAttr.mk name1 [111, 110])] : List GAttr)) ⟨rfl, ⟨_, iL, rfl⟩, trivial⟩ rfl (fun _ => rfl) rfl) (sA rfl rfl (aZ (hK2 _ ?_)))
 refine AW.ret ?_
 exact retf1 (P := prog) (fun (r : (List GAttr)) => qa r) h iL (.t (.one (.own rfl)))
theorem w_attr_Name {s1 : List UInt8} {r : Bool} (h : attr_Name s1 = some r) : ARO prog 166 [.r (.str s1)] (rB (r)) := by
 unfold attr_Name at h
 refine ARO.mkF func166 rfl rfl ntmps166 rfl (Nat.le_of_ble_eq_true rfl) fun n0 => ?_
 refine aS fun K1 hK1 wK1 => (aR (sA rfl rfl (aZ (hK1 _ ?_))))
 refine aS fun K2 hK2 wK2 => (aS fun K3 hK3 wK3 => (aR (sM rfl rfl (sQ rfl (sp_seql rfl iL iL) (sM rfl rfl (sV rfl rfl rfl (sp_move rfl iL) (sV rfl rfl rfl (sp_len_str rfl underlying9 (iR rfl)) (sV rfl rfl rfl (sp_gtr rfl (iR rfl) iL) (sQ rfl (sp_or rfl iL (iR rfl)) (sM rfl rfl (sV rfl rfl rfl (sp_move rfl iL) (ob1k h fun ch1 ech1 h1 => (sV rfl rfl rfl (ms_idx_str rfl underlying9 (iR rfl) iL (gdt ech1)) (sV rfl rfl rfl (sp_lss rfl (iR rfl) iL) (sQ rfl (sp_or rfl iL (iR rfl)) (sM rfl rfl (sV rfl rfl rfl (sp_move rfl iL) (ob1k h1 fun ch2 ech2 h2 => (sV rfl rfl rfl (ms_idx_str rfl underlying9 (iR rfl) iL (gdt ech2)) (sV rfl rfl rfl (sp_gtr rfl (iR rfl) iL) (sQ rfl (sp_or rfl iL (iR rfl)) (aZ (hK3 _ ?_)))))))))))))))))))))))
 refine aC rfl (fun hc1 => ?_) (fun hc1 => ?_)
 ·have h3 := ite_t hc1 h2
  refine aS fun K4 hK4 wK4 => ?_
  refine AW.weak (s' := ⟨[], [], n0, 53⟩) (by exact Weak.cv trivial trivial nL) ?_
  refine aR (sA rfl rfl (aZ (hK4 _ ?_)))
  refine AW.ret ?_
  exact retf1 (P := prog) (fun (r : Bool) => rB (r)) h3 iL (.t (.d rfl))
 ·have h3 := ite_f hc1 h2
  refine AW.skip ?_
  refine hK2 _ ?_
  refine aS fun K5 hK5 wK5 => (aS fun K6 hK6 wK6 => ?_)
  refine AW.weak (s' := ⟨[(0, .r (.str s1))], [], n0, 53⟩) (by exact Weak.cv ⟨jL, trivial⟩ trivial nL) ?_
  refine aR (sM rfl rfl (sQ rfl (sp_len_str rfl underlying9 iL) (sM rfl rfl (aZ (hK6 _ ?_)))))
  refine AW.block ?_
  refine jc1k h3 fun o1 hit1 hk1 he1 => ?_
  have J1 : ∀ (u2 : Unit) (i5 : Nat → Nat), o1 = .nrm u2 → K5 ⟨[], [], (i5 0), 53⟩ := by
   intro u2 i5 e
   have h4 := hk1 _ e
   refine hK5 _ ?_
   refine aS fun K7 hK7 wK7 => (aR (sA rfl rfl (aZ (hK7 _ ?_))))
   refine AW.ret ?_
   exact retf1 (P := prog) (fun (r : Bool) => rB (r)) h4 iL (.t (.d rfl))
  refine AW.iter1 (fun (x2 : Int) i3 => ⟨[(0, .r (.str s1)), (23, rI ((s1.length : Int))), (24, rI (x2))], [], (i3 0), 53⟩) (vec [n0]) hit1 ((by exact Weak.cv ⟨jL, jL, jL, trivial⟩ trivial nL)) ?_
  intro x2 i3 v1 hv1 hx1
  have h5 : attr_Name_L1 s1 x2 = some v1 := hv1; unfold attr_Name_L1 at h5
  refine aS fun K8 hK8 wK8 => (aR (sQ rfl (sp_lss rfl iL iL) (aZ (hK8 _ ?_))))
  refine aS fun K9 hK9 wK9 => ?_
  refine aC rfl (fun hc2 => ?_) (fun hc2 => ?_)
  ·have h6 := ite_t hc2 h5
   refine AW.skip ?_
   refine hK9 _ ?_
   refine aS fun K10 hK10 wK10 => (AW.block (aS fun K11 hK11 wK11 => (aR (sM rfl rfl (sA rfl rfl (aZ (hK11 _ ?_)))))))
   refine aS fun K12 hK12 wK12 => (aR (sM rfl rfl (sM rfl rfl (ob1k h6 fun c1 ec1 h7 => (sQ rfl (ms_idx_str rfl underlying9 iL iL (fun _ => ec1)) (sA rfl rfl (aZ (hK12 _ ?_))))))))
   refine aS fun K13 hK13 wK13 => (aR (sM rfl rfl (sQ rfl (sp_lss rfl iL iL) (sM rfl rfl (sV rfl rfl rfl (sp_move rfl iL) (sV rfl rfl rfl (sp_gtr rfl (iR rfl) iL) (sQ rfl (sp_or rfl iL (iR rfl)) (sM rfl rfl (sV rfl rfl rfl (sp_move rfl iL) (sV rfl rfl rfl (sp_lss rfl (iR rfl) iL) (sV rfl rfl rfl (sp_move rfl (iR rfl)) ?_)))))))))))
   refine sW (.two rfl rfl rfl) rfl (sp_move rfl iL) ?_
   refine sW (.two rfl rfl rfl) rfl (sp_gtr rfl (iR rfl) iL) ?_
   refine sV rfl rfl rfl (sp_or rfl (iR rfl) (iR rfl)) (sQ rfl (sp_and rfl iL (iR rfl)) (sM rfl rfl (sV rfl rfl rfl (sp_move rfl iL) (sV rfl rfl rfl (sp_neq rfl (iR rfl) iL) (sQ rfl (sp_and rfl iL (iR rfl)) (sM rfl rfl (sV rfl rfl rfl (sp_move rfl iL) (sV rfl rfl rfl (sp_neq rfl (iR rfl) iL) (sQ rfl (sp_and rfl iL (iR rfl)) (aZ (hK13 _ ?_)))))))))))
   refine aC rfl (fun hc3 => ?_) (fun hc3 => ?_)
   ·have h8 := ite_t hc3 h7
    refine aS fun K14 hK14 wK14 => ?_
    refine AW.weak (s' := ⟨[], [], (i3 0), 53⟩) (by exact Weak.cv trivial trivial nL) ?_
    refine aR (sA rfl rfl (aZ (hK14 _ ?_)))
    refine AW.ret ?_
    exact retf1 (P := prog) (fun (r : Bool) => rB (r)) (he1 _ (hx1 _ (Option.some.inj h8).symm)) iL (.t (.d rfl))
   ·have h8 := ite_f hc3 h7
    refine AW.skip ?_
    refine hK10 _ ?_
    refine AW.weak (s' := ⟨[(0, .r (.str s1)), (23, rI ((s1.length : Int))), (24, rI (x2))], [], (i3 0), 53⟩) (by exact Weak.cv ⟨jL, jL, jL, trivial⟩ trivial nL) ?_
    refine aR (ob1k h8 fun x4 ex4 h9 => (sQ rfl (ms_add rfl iL iL (fun _ => ex4)) (sM rfl rfl ?_)))
    refine AOps.nil ?_
    exact NextQ1.mk h9 (vec [(i3 0)]) ((by exact Weak.cv ⟨jL, jL, jL, trivial⟩ trivial nL))
  ·have h6 := ite_f hc2 h5
   refine AW.exit ?_
   exact wK5 _ _ ((by exact Weak.cv trivial trivial nL)) (J1 _ (vec [(i3 0)]) (hx1 _ (Option.some.inj h6).symm))
theorem w_attr_Value {s1 : List UInt8} {r : Bool} (h : attr_Value s1 = some r) : ARO prog 122 [.r (.str s1)] (rB (r)) := by
 unfold attr_Value at h
 refine ARO.mkF func122 rfl rfl ntmps122 rfl (Nat.le_of_ble_eq_true rfl) fun n0 => ?_
 refine aS fun K1 hK1 wK1 => (aR (sA rfl rfl (aZ (hK1 _ ?_))))
 refine aS fun K2 hK2 wK2 => (aS fun K3 hK3 wK3 => (aR (sM rfl rfl (sQ rfl (sp_seql rfl iL iL) (sM rfl rfl (sV rfl rfl rfl (sp_move rfl iL) (sV rfl rfl rfl (sp_len_str rfl underlying9 (iR rfl)) (sV rfl rfl rfl (sp_gtr rfl (iR rfl) iL) (sQ rfl (sp_or rfl iL (iR rfl)) (aZ (hK3 _ ?_)))))))))))
 refine aC rfl (fun hc1 => ?_) (fun hc1 => ?_)
 ·have h1 := ite_t hc1 h
  refine aS fun K4 hK4 wK4 => ?_
  refine AW.weak (s' := ⟨[], [], n0, 27⟩) (by exact Weak.cv trivial trivial nL) ?_
  refine aR (sA rfl rfl (aZ (hK4 _ ?_)))
  refine AW.ret ?_
  exact retf1 (P := prog) (fun (r : Bool) => rB (r)) h1 iL (.t (.d rfl))
 ·have h1 := ite_f hc1 h
  refine AW.skip ?_
  refine hK2 _ ?_
  refine aS fun K5 hK5 wK5 => (aS fun K6 hK6 wK6 => (aR (sM rfl rfl (sQ rfl (sp_len_str rfl underlying9 iL) (sM rfl rfl (aZ (hK6 _ ?_)))))))
  refine AW.block ?_
  refine jc1k h1 fun o1 hit1 hk1 he1 => ?_
  have J1 : ∀ (u2 : Unit) (i5 : Nat → Nat), o1 = .nrm u2 → K5 ⟨[], [], (i5 0), 27⟩ := by
   intro u2 i5 e
   have h2 := hk1 _ e
   refine hK5 _ ?_
   refine aS fun K7 hK7 wK7 => (aR (sA rfl rfl (aZ (hK7 _ ?_))))
   refine AW.ret ?_
   exact retf1 (P := prog) (fun (r : Bool) => rB (r)) h2 iL (.t (.d rfl))
  refine AW.iter1 (fun (x2 : Int) i3 => ⟨[(0, .r (.str s1)), (12, rI ((s1.length : Int))), (13, rI (x2))], [], (i3 0), 27⟩) (vec [n0]) hit1 ((by exact Weak.cv ⟨jL, jL, jL, trivial⟩ trivial nL)) ?_
  intro x2 i3 v1 hv1 hx1
  have h3 : attr_Value_L1 s1 x2 = some v1 := hv1; unfold attr_Value_L1 at h3
  refine aS fun K8 hK8 wK8 => (aR (sQ rfl (sp_lss rfl iL iL) (aZ (hK8 _ ?_))))
  refine aS fun K9 hK9 wK9 => ?_
  refine aC rfl (fun hc2 => ?_) (fun hc2 => ?_)
  ·have h4 := ite_t hc2 h3
   refine AW.skip ?_
   refine hK9 _ ?_
   refine aS fun K10 hK10 wK10 => (AW.block (aS fun K11 hK11 wK11 => (aR (sM rfl rfl (sA rfl rfl (aZ (hK11 _ ?_)))))))
   refine aS fun K12 hK12 wK12 => (aR (sM rfl rfl (sM rfl rfl (ob1k h4 fun ch1 ech1 h5 => (sQ rfl (ms_idx_str rfl underlying9 iL iL (fun _ => ech1)) (sQ rfl (sp_lss rfl iL iL) (sM rfl rfl (sV rfl rfl rfl (sp_move rfl iL) (sV rfl rfl rfl (sp_move rfl iL) (sV rfl rfl rfl (ms_idx_str rfl underlying9 (iR rfl) (iR rfl) (fun _ => ech1)) (sV rfl rfl rfl (sp_gtr rfl (iR rfl) iL) (sQ rfl (sp_or rfl iL (iR rfl)) (aZ (hK12 _ ?_))))))))))))))
   refine aC rfl (fun hc3 => ?_) (fun hc3 => ?_)
   ·have h6 := ite_t hc3 h5
    refine aS fun K13 hK13 wK13 => ?_
    refine AW.weak (s' := ⟨[], [], (i3 0), 27⟩) (by exact Weak.cv trivial trivial nL) ?_
    refine aR (sA rfl rfl (aZ (hK13 _ ?_)))
    refine AW.ret ?_
    exact retf1 (P := prog) (fun (r : Bool) => rB (r)) (he1 _ (hx1 _ (Option.some.inj h6).symm)) iL (.t (.d rfl))
   ·have h6 := ite_f hc3 h5
    refine AW.skip ?_
    refine hK10 _ ?_
    refine AW.weak (s' := ⟨[(0, .r (.str s1)), (12, rI ((s1.length : Int))), (13, rI (x2))], [], (i3 0), 27⟩) (by exact Weak.cv ⟨jL, jL, jL, trivial⟩ trivial nL) ?_
    refine aR (ob1k h6 fun x4 ex4 h7 => (sQ rfl (ms_add rfl iL iL (fun _ => ex4)) (sM rfl rfl ?_)))
    refine AOps.nil ?_
    exact NextQ1.mk h7 (vec [(i3 0)]) ((by exact Weak.cv ⟨jL, jL, jL, trivial⟩ trivial nL))
  ·have h4 := ite_f hc2 h3
   refine AW.exit ?_
   exact wK5 _ _ ((by exact Weak.cv trivial trivial nL)) (J1 _ (vec [(i3 0)]) (hx1 _ (Option.some.inj h4).symm))
theorem w_attr_check {l1 : List GAttr} {empty1 : Bool} {r : Int} (h : attr_check l1 empty1 = some r) : ARO prog 111 [qa l1, rB (empty1)] (rI (r)) := by
 unfold attr_check at h
 refine ARO.mkF func111 rfl rfl ntmps111 rfl (Nat.le_of_ble_eq_true rfl) fun n0 => ?_
 refine aS fun K1 hK1 wK1 => (aR (sA rfl rfl (aZ (hK1 _ ?_))))
 refine aS fun K2 hK2 wK2 => (aS fun K3 hK3 wK3 => (aR (sM rfl rfl (sQ rfl (ms_len rfl tg_26.slice iL) (sM rfl rfl (aZ (hK3 _ ?_)))))))
 refine AW.block ?_
 refine jc1k h fun o1 hit1 hk1 he1 => ?_
 have J1 : ∀ (u2 : Unit) (i5 : Nat → Nat), o1 = .nrm u2 → K2 ⟨[], [], (i5 0), 48⟩ := by
  intro u2 i5 e
  have h1 := hk1 _ e
  refine hK2 _ ?_
  refine aS fun K4 hK4 wK4 => (aR (sA rfl rfl (aZ (hK4 _ ?_))))
  refine AW.ret ?_
  exact retf1 (P := prog) (fun (r : Int) => rI (r)) h1 iL (.t (.d rfl))
 refine AW.iter1 (fun (x2 : Int) i3 => ⟨[(0, qa l1), (1, rB (empty1)), (7, qa l1), (8, rI ((l1.length : Int))), (9, rI (x2))], [], (i3 0), 48⟩) (vec [n0]) hit1 ((by exact Weak.cv ⟨jL, jL, jL, jL, jL, trivial⟩ trivial nL)) ?_
 intro x2 i3 v1 hv1 hx1
 have h2 : attr_check_L1 l1 empty1 x2 = some v1 := hv1; unfold attr_check_L1 at h2
 refine aS fun K5 hK5 wK5 => (aR (sQ rfl (sp_lss rfl iL iL) (aZ (hK5 _ ?_))))
 refine aS fun K6 hK6 wK6 => ?_
 refine aC rfl (fun hc1 => ?_) (fun hc1 => ?_)
 ·have h3 := ite_t hc1 h2
  refine AW.skip ?_
  refine hK6 _ ?_
  refine aS fun K7 hK7 wK7 => (AW.block (aS fun K8 hK8 wK8 => (aR (sM rfl rfl (ob1k h3 fun x4 ex4 h4 => (sQ rfl (ms_idx rfl tg_26.slice iL iL (fun _ => rfl) (fun _ => ex4)) (sQ rfl (ms_loadA (cs := [.r (.str x4.Name), .r (.str x4.Value)]) rfl ta_67 iL rfl rfl) (AOps.step rfl rfl rfl (ms_alloc (cs := [.r (.str []), .r (.str [])]) 6 rfl t0_67 rfl rfl) (sA rfl rfl (AOps.step0 rfl rfl (ms_store_box (ds := [.r (.str x4.Name), .r (.str x4.Value)]) rfl tz_67 iL rfl iL rfl rfl rfl rfl) (aZ (hK8 _ ?_))))))))))))
  refine AW.block (aS fun K9 hK9 wK9 => (aR (sQ rfl (fB rfl tf_67_0 iL fR rfl) (sQ rfl (ms_load_box (a := .r (.str x4.Name)) rfl ts_9 iL rfl rfl) (ob1k h4 fun r1 er1 h5 => (AOps.step rfl rfl rfl (sp_call (r := rB (r1)) (caps := []) (bs := [.r (.str x4.Name)]) rfl iL rfl ⟨⟨_, iL, .d rfl⟩, trivial⟩ (fun _ => w_attr_Name (er1)) rfl) (sQ rfl (sp_not rfl iL) (sA rfl rfl (aZ (hK9 _ ?_))))))))))
  refine aC rfl (fun hc2 => ?_) (fun hc2 => ?_)
  ·have h6 := ite_t hc2 h5
   refine aS fun K10 hK10 wK10 => ?_
   refine AW.weak (s' := ⟨[], [], ((i3 0) + 1), 48⟩) (by exact Weak.cv trivial trivial nL) ?_
   refine aR (sA rfl rfl (aZ (hK10 _ ?_)))
   refine AW.ret ?_
   exact retf1 (P := prog) (fun (r : Int) => rI (r)) (he1 _ (hx1 _ (Option.some.inj h6).symm)) iL (.t (.d rfl))
  ·have h6 := ite_f hc2 h5
   refine aS fun K11 hK11 wK11 => ?_
   refine AW.weak (s' := ⟨[(0, qa l1), (1, rB (empty1)), (5, rI (x2)), (6, .ptr 6 (i3 0) 0 0), (7, qa l1), (8, rI ((l1.length : Int))), (9, rI (x2))], [(6, some (.box (i3 0) 67 [.r (.str x4.Name), .r (.str x4.Value)]))], ((i3 0) + 1), 48⟩) (by exact Weak.cv ⟨jL, jL, jL, jL, jL, jL, jL, trivial⟩ ⟨.inl rfl, trivial⟩ nL) ?_
   refine aR (sQ rfl (fB rfl tf_67_1 iL fR rfl) (sQ rfl (ms_load_box (a := .r (.str x4.Value)) rfl ts_9 iL rfl rfl) (ob1k h6 fun r2 er2 h7 => (AOps.step rfl rfl rfl (sp_call (r := rB (r2)) (caps := []) (bs := [.r (.str x4.Value)]) rfl iL rfl ⟨⟨_, iL, .d rfl⟩, trivial⟩ (fun _ => w_attr_Value (er2)) rfl) (sQ rfl (sp_not rfl iL) (sM rfl rfl (sV rfl rfl rfl (sp_move rfl iL) (sV rfl rfl rfl (sp_move rfl (iR rfl)) ?_))))))))
   refine sW (.two rfl rfl rfl) rfl (fB rfl tf_67_1 iL fR rfl) ?_
   refine sW (.two rfl rfl rfl) rfl (ms_load_box (a := .r (.str x4.Value)) rfl ts_9 (iR rfl) rfl rfl) ?_
   refine sW (.two rfl rfl rfl) rfl (sp_seql rfl (iR rfl) iL) ?_
   refine sV rfl rfl rfl (sp_and rfl (iR rfl) (iR rfl)) (sV rfl rfl rfl (sp_not rfl (iR rfl)) (sQ rfl (sp_and rfl iL (iR rfl)) (sA rfl rfl (aZ (hK11 _ ?_)))))
   refine aC rfl (fun hc3 => ?_) (fun hc3 => ?_)
   ·have h8 := ite_t hc3 h7
    refine aS fun K12 hK12 wK12 => ?_
    refine AW.weak (s' := ⟨[], [], ((i3 0) + 1), 48⟩) (by exact Weak.cv trivial trivial nL) ?_
    refine aR (sA rfl rfl (aZ (hK12 _ ?_)))
    refine AW.ret ?_
    exact retf1 (P := prog) (fun (r : Int) => rI (r)) (he1 _ (hx1 _ (Option.some.inj h8).symm)) iL (.t (.d rfl))
   ·have h8 := ite_f hc3 h7
    refine aS fun K13 hK13 wK13 => ?_
    refine AW.regionQ hmix (by kernel_rfl) ?_
    refine AQ.step rfl rfl rfl (sp_move rfl iL) (AQ.step rfl rfl rfl (sp_gtr rfl iL iL) (AQ.step rfl rfl rfl (sp_move rfl iL) ?_))
    refine AQ.stepW (.one rfl rfl rfl) rfl rfl (fB rfl tf_67_0 iL fR rfl) ?_
    refine AQ.stepW (.one rfl rfl rfl) rfl rfl (ms_load_box (a := .r (.str x4.Name)) rfl ts_9 (iR rfl) rfl rfl) ?_
    refine AQ.stepW (.one rfl rfl rfl) rfl rfl (sp_move rfl iL) ?_
    refine AQ.stepW (.one rfl rfl rfl) rfl rfl (sp_move rfl iL) ?_
    refine ob1k h8 fun x5 ex5 h9 => ?_
    refine AQ.stepW (.one rfl rfl rfl) rfl rfl (ms_sub rfl (iR rfl) iL (gdt ex5)) ?_
    refine ob1k h9 fun x6 ex6 h10 => ?_
    refine AQ.stepW (.one rfl rfl rfl) rfl rfl (ms_idx rfl tg_26.slice (iR rfl) (iR rfl) (fun _ => rfl) (gdt ex6)) ?_
    refine AQ.stepW (.one rfl rfl rfl) rfl rfl (sp_fieldAddr_ro rfl tf_67_0 (iR rfl)) ?_
    refine AQ.stepW (.one rfl rfl rfl) rfl rfl (ms_load (d := .str x6.Name) rfl ts_9 (iR rfl) rfl) ?_
    refine AQ.stepW (.one rfl rfl rfl) rfl rfl (sp_sleq rfl (iR rfl) (iR rfl)) ?_
    refine AQ.step rfl rfl rfl (sp_and rfl iL (iR rfl)) (AQ.step rfl rfl rfl (sp_assign rfl iL) ?_)
    refine AQ.nil ?_
    refine hK13 _ ?_
    refine aC rfl (fun hc4 => ?_) (fun hc4 => ?_)
    ·have h11 := ite_t hc4 h10
     refine aS fun K14 hK14 wK14 => ?_
     refine AW.weak (s' := ⟨[], [], ((i3 0) + 1), 48⟩) (by exact Weak.cv trivial trivial nL) ?_
     refine aR (sA rfl rfl (aZ (hK14 _ ?_)))
     refine AW.ret ?_
     exact retf1 (P := prog) (fun (r : Int) => rI (r)) (he1 _ (hx1 _ (Option.some.inj h11).symm)) iL (.t (.d rfl))
    ·have h11 := ite_f hc4 h10
     refine AW.skip ?_
     refine hK7 _ ?_
     refine AW.weak (s' := ⟨[(0, qa l1), (1, rB (empty1)), (7, qa l1), (8, rI ((l1.length : Int))), (9, rI (x2))], [], ((i3 0) + 1), 48⟩) (by exact Weak.cv ⟨jL, jL, jL, jL, jL, trivial⟩ trivial nL) ?_
     refine aR (ob1k h11 fun x7 ex7 h12 => (sQ rfl (ms_add rfl iL iL (fun _ => ex7)) (sM rfl rfl ?_)))
     refine AOps.nil ?_
     exact NextQ1.mk h12 (vec [((i3 0) + 1)]) ((by exact Weak.cv ⟨jL, jL, jL, jL, jL, trivial⟩ trivial nL))
 ·have h3 := ite_f hc1 h2
  refine AW.exit ?_
  exact wK2 _ _ ((by exact Weak.cv trivial trivial nL)) (J1 _ (vec [(i3 0)]) (hx1 _ (Option.some.inj h3).symm))
theorem w_attr_Check {l1 : List GAttr} {r : Int} (h : attr_Check l1 = some r) : ARO prog 102 [qa l1] (rI (r)) := by
 unfold attr_Check at h
 refine ARO.mkF func102 rfl rfl ntmps102 rfl (Nat.le_of_ble_eq_true rfl) fun n0 => ?_
 refine aS fun K1 hK1 wK1 => (aR (sA rfl rfl (aZ (hK1 _ ?_))))
 refine aS fun K2 hK2 wK2 => (aR (sM rfl rfl (ob1k h fun r1 er1 h1 => (AOps.step rfl rfl rfl (sp_call (r := rI (r1)) (caps := []) (bs := [qa l1, rB (false)]) rfl iL rfl ⟨⟨_, iL, .d rfl⟩, ⟨_, iL, .d rfl⟩, trivial⟩ (fun _ => w_attr_check (er1)) rfl) (sA rfl rfl (aZ (hK2 _ ?_)))))))
 refine AW.ret ?_
 exact retf1 (P := prog) (fun (r : Int) => rI (r)) h1 iL (.t (.d rfl))
theorem w_doc_Texts {kind1 : Int} {r : Bool} (h : doc_Texts kind1 = some r) : ARO prog 103 [rI (kind1)] (rB (r)) := by
 unfold doc_Texts at h
 refine ARO.mkF func103 rfl rfl ntmps103 rfl (Nat.le_of_ble_eq_true rfl) fun n0 => ?_
 refine aS fun K1 hK1 wK1 => (aR (sA rfl rfl (aZ (hK1 _ ?_))))
 refine aS fun K2 hK2 wK2 => (aR (sM rfl rfl (sQ rfl (sp_eql rfl iL iL) (sM rfl rfl (sV rfl rfl rfl (sp_move rfl iL) (sV rfl rfl rfl (sp_eql rfl (iR rfl) iL) (sQ rfl (sp_or rfl iL (iR rfl)) (sM rfl rfl (sV rfl rfl rfl (sp_move rfl iL) (sV rfl rfl rfl (sp_eql rfl (iR rfl) iL) (sQ rfl (sp_or rfl iL (iR rfl)) (sM rfl rfl (sV rfl rfl rfl (sp_move rfl iL) (sV rfl rfl rfl (sp_eql rfl (iR rfl) iL) (sQ rfl (sp_or rfl iL (iR rfl)) (sA rfl rfl (aZ (hK2 _ ?_))))))))))))))))))
 refine AW.ret ?_
 exact retf1 (P := prog) (fun (r : Bool) => rB (r)) h iL (.t (.d rfl))
theorem w_doc_Lists {kind1 : Int} {r : Bool} (h : doc_Lists kind1 = some r) : ARO prog 104 [rI (kind1)] (rB (r)) := by
 unfold doc_Lists at h
 refine ARO.mkF func104 rfl rfl ntmps104 rfl (Nat.le_of_ble_eq_true rfl) fun n0 => ?_
 refine aS fun K1 hK1 wK1 => (aR (sA rfl rfl (aZ (hK1 _ ?_))))
 refine aS fun K2 hK2 wK2 => (aR (sM rfl rfl (sQ rfl (sp_eql rfl iL iL) (sM rfl rfl (sV rfl rfl rfl (sp_move rfl iL) (sV rfl rfl rfl (sp_eql rfl (iR rfl) iL) (sQ rfl (sp_or rfl iL (iR rfl)) (sA rfl rfl (aZ (hK2 _ ?_))))))))))
 refine AW.ret ?_
 exact retf1 (P := prog) (fun (r : Bool) => rB (r)) h iL (.t (.d rfl))
theorem w_doc_Grids {kind1 : Int} {r : Bool} (h : doc_Grids kind1 = some r) : ARO prog 105 [rI (kind1)] (rB (r)) := by
 unfold doc_Grids at h
 refine ARO.mkF func105 rfl rfl ntmps105 rfl (Nat.le_of_ble_eq_true rfl) fun n0 => ?_
 refine aS fun K1 hK1 wK1 => (aR (sA rfl rfl (aZ (hK1 _ ?_))))
 refine aS fun K2 hK2 wK2 => (aR (sM rfl rfl (sQ rfl (sp_eql rfl iL iL) (sM rfl rfl (sV rfl rfl rfl (sp_move rfl iL) (sV rfl rfl rfl (sp_eql rfl (iR rfl) iL) (sQ rfl (sp_or rfl iL (iR rfl)) (sA rfl rfl (aZ (hK2 _ ?_))))))))))
 refine AW.ret ?_
 exact retf1 (P := prog) (fun (r : Bool) => rB (r)) h iL (.t (.d rfl))
theorem w_slices_Equal_api_Rect_api_Rect {s11 : List GRect} {s21 : List GRect} {r : Bool} (h : slices_Equal_api_Rect_api_Rect s11 s21 = some r) : ARO prog 159 [qb s11, qb s21] (rB (r)) := by
 unfold slices_Equal_api_Rect_api_Rect at h
 refine ARO.mkF func159 rfl rfl ntmps159 rfl (Nat.le_of_ble_eq_true rfl) fun n0 => ?_
 refine aS fun K1 hK1 wK1 => (aR (sA rfl rfl (aZ (hK1 _ ?_))))
 refine aS fun K2 hK2 wK2 => (aS fun K3 hK3 wK3 => (aR (sM rfl rfl (sQ rfl (ms_len rfl tg_29.slice iL) (sM rfl rfl (sQ rfl (ms_len rfl tg_29.slice iL) (sQ rfl (sp_neq rfl iL iL) (aZ (hK3 _ ?_)))))))))
 refine aC rfl (fun hc1 => ?_) (fun hc1 => ?_)
 ·have h1 := ite_t hc1 h
  refine aS fun K4 hK4 wK4 => (aR (sA rfl rfl (aZ (hK4 _ ?_))))
  refine AW.ret ?_
  exact retf1 (P := prog) (fun (r : Bool) => rB (r)) h1 iL (.t (.d rfl))
 ·have h1 := ite_f hc1 h
  refine AW.skip ?_
  refine hK2 _ ?_
  refine aS fun K5 hK5 wK5 => (aS fun K6 hK6 wK6 => (aR (sM rfl rfl (sQ rfl (ms_len rfl tg_29.slice iL) (sM rfl rfl (aZ (hK6 _ ?_)))))))
  refine AW.block ?_
  refine jc1k h1 fun o1 hit1 hk1 he1 => ?_
  have J1 : ∀ (u2 : Unit) (i5 : Nat → Nat), o1 = .nrm u2 → K5 ⟨[], [], (i5 0), 26⟩ := by
   intro u2 i5 e
   have h2 := hk1 _ e
   refine hK5 _ ?_
   refine aS fun K7 hK7 wK7 => (aR (sA rfl rfl (aZ (hK7 _ ?_))))
   refine AW.ret ?_
   exact retf1 (P := prog) (fun (r : Bool) => rB (r)) h2 iL (.t (.d rfl))
  refine AW.iter1 (fun (x2 : Int) i3 => ⟨[(0, qb s11), (1, qb s21), (12, rI ((s11.length : Int))), (13, rI (x2))], [], (i3 0), 26⟩) (vec [n0]) hit1 ((by exact Weak.cv ⟨jL, jL, jL, jL, trivial⟩ trivial nL)) ?_
  intro x2 i3 v1 hv1 hx1
  have h3 : slices_Equal_api_Rect_api_Rect_L1 s11 s21 x2 = some v1 := hv1; unfold slices_Equal_api_Rect_api_Rect_L1 at h3
  refine aS fun K8 hK8 wK8 => (aR (sQ rfl (sp_lss rfl iL iL) (aZ (hK8 _ ?_))))
  refine aS fun K9 hK9 wK9 => ?_
  refine aC rfl (fun hc2 => ?_) (fun hc2 => ?_)
  ·have h4 := ite_t hc2 h3
   refine AW.skip ?_
   refine hK9 _ ?_
   refine aS fun K10 hK10 wK10 => (AW.block (aS fun K11 hK11 wK11 => (aR (sM rfl rfl (sA rfl rfl (aZ (hK11 _ ?_)))))))
   refine aS fun K12 hK12 wK12 => ?_
   refine AW.regionQ hmix (by kernel_rfl) ?_
   refine AQ.step rfl rfl rfl (sp_move rfl iL) (AQ.step rfl rfl rfl (sp_move rfl iL) (ob1k h4 fun x4 ex4 h5 => (AQ.step rfl rfl rfl (ms_idx rfl tg_29.slice iL iL (fun _ => rfl) (fun _ => ex4)) (AQ.step rfl rfl rfl (ms_loadA (cs := [rI (x4.Row), rI (x4.Col), rI (x4.H), rI (x4.W)]) rfl ta_138 iL rfl rfl) (AQ.step rfl rfl rfl (sp_move rfl iL) (AQ.step rfl rfl rfl (sp_move rfl iL) (ob1k h5 fun x5 ex5 h6 => (AQ.step rfl rfl rfl (ms_idx rfl tg_29.slice iL iL (fun _ => rfl) (fun _ => ex5)) (AQ.step rfl rfl rfl (ms_loadA (cs := [rI (x5.Row), rI (x5.Col), rI (x5.H), rI (x5.W)]) rfl ta_138 iL rfl rfl) (AQ.step rfl rfl rfl (sp_aggneq rfl te_138 iL iL rfl) ?_))))))))))
   refine AQ.nil ?_
   refine hK12 _ ?_
   refine aC rfl (fun hc3 => ?_) (fun hc3 => ?_)
   ·have h7 := ite_t hc3 h6
    refine aS fun K13 hK13 wK13 => ?_
    refine AW.weak (s' := ⟨[], [], (i3 0), 26⟩) (by exact Weak.cv trivial trivial nL) ?_
    refine aR (sA rfl rfl (aZ (hK13 _ ?_)))
    refine AW.ret ?_
    exact retf1 (P := prog) (fun (r : Bool) => rB (r)) (he1 _ (hx1 _ (Option.some.inj h7).symm)) iL (.t (.d rfl))
   ·have h7 := ite_f hc3 h6
    refine AW.skip ?_
    refine hK10 _ ?_
    refine AW.weak (s' := ⟨[(0, qb s11), (1, qb s21), (12, rI ((s11.length : Int))), (13, rI (x2))], [], (i3 0), 26⟩) (by exact Weak.cv ⟨jL, jL, jL, jL, trivial⟩ trivial nL) ?_
    refine aR (ob1k h7 fun x6 ex6 h8 => (sQ rfl (ms_add rfl iL iL (fun _ => ex6)) (sM rfl rfl ?_)))
    refine AOps.nil ?_
    exact NextQ1.mk h8 (vec [(i3 0)]) ((by exact Weak.cv ⟨jL, jL, jL, jL, trivial⟩ trivial nL))
  ·have h4 := ite_f hc2 h3
   refine AW.exit ?_
   exact wK5 _ _ ((by exact Weak.cv trivial trivial nL)) (J1 _ (vec [(i3 0)]) (hx1 _ (Option.some.inj h4).symm))
theorem w_attr_Same {a1 : List GAttr} {b1 : List GAttr} {r : Bool} (h : attr_Same a1 b1 = some r) : ARO prog 113 [qa a1, qa b1] (rB (r)) := by
 unfold attr_Same at h
 refine ARO.mkF func113 rfl rfl ntmps113 rfl (Nat.le_of_ble_eq_true rfl) fun n0 => ?_
 refine aS fun K1 hK1 wK1 => (aR (sA rfl rfl (aZ (hK1 _ ?_))))
 refine aS fun K2 hK2 wK2 => (aS fun K3 hK3 wK3 => (aR (sM rfl rfl (sQ rfl (ms_len rfl tg_26.slice iL) (sM rfl rfl (sQ rfl (ms_len rfl tg_26.slice iL) (sQ rfl (sp_neq rfl iL iL) (aZ (hK3 _ ?_)))))))))
 refine aC rfl (fun hc1 => ?_) (fun hc1 => ?_)
 ·have h1 := ite_t hc1 h
  refine aS fun K4 hK4 wK4 => (aR (sA rfl rfl (aZ (hK4 _ ?_))))
  refine AW.ret ?_
  exact retf1 (P := prog) (fun (r : Bool) => rB (r)) h1 iL (.t (.d rfl))
 ·have h1 := ite_f hc1 h
  refine AW.skip ?_
  refine hK2 _ ?_
  refine aS fun K5 hK5 wK5 => (aS fun K6 hK6 wK6 => (aR (sM rfl rfl (sQ rfl (ms_len rfl tg_26.slice iL) (sM rfl rfl (aZ (hK6 _ ?_)))))))
  refine AW.block ?_
  refine jc1k h1 fun o1 hit1 hk1 he1 => ?_
  have J1 : ∀ (u2 : Unit) (i5 : Nat → Nat), o1 = .nrm u2 → K5 ⟨[], [], (i5 0), 26⟩ := by
   intro u2 i5 e
   have h2 := hk1 _ e
   refine hK5 _ ?_
   refine aS fun K7 hK7 wK7 => (aR (sA rfl rfl (aZ (hK7 _ ?_))))
   refine AW.ret ?_
   exact retf1 (P := prog) (fun (r : Bool) => rB (r)) h2 iL (.t (.d rfl))
  refine AW.iter1 (fun (x2 : Int) i3 => ⟨[(0, qa a1), (1, qa b1), (12, rI ((a1.length : Int))), (13, rI (x2))], [], (i3 0), 26⟩) (vec [n0]) hit1 ((by exact Weak.cv ⟨jL, jL, jL, jL, trivial⟩ trivial nL)) ?_
  intro x2 i3 v1 hv1 hx1
  have h3 : attr_Same_L1 a1 b1 x2 = some v1 := hv1; unfold attr_Same_L1 at h3
  refine aS fun K8 hK8 wK8 => (aR (sQ rfl (sp_lss rfl iL iL) (aZ (hK8 _ ?_))))
  refine aS fun K9 hK9 wK9 => ?_
  refine aC rfl (fun hc2 => ?_) (fun hc2 => ?_)
  ·have h4 := ite_t hc2 h3
   refine AW.skip ?_
   refine hK9 _ ?_
   refine aS fun K10 hK10 wK10 => (AW.block (aS fun K11 hK11 wK11 => (aR (sM rfl rfl (sA rfl rfl (aZ (hK11 _ ?_)))))))
   refine aS fun K12 hK12 wK12 => ?_
   refine AW.regionQ hmix (by kernel_rfl) ?_
   refine AQ.step rfl rfl rfl (sp_move rfl iL) (AQ.step rfl rfl rfl (sp_move rfl iL) (ob1k h4 fun x4 ex4 h5 => (AQ.step rfl rfl rfl (ms_idx rfl tg_26.slice iL iL (fun _ => rfl) (fun _ => ex4)) (AQ.step rfl rfl rfl (ms_loadA (cs := [.r (.str x4.Name), .r (.str x4.Value)]) rfl ta_67 iL rfl rfl) (AQ.step rfl rfl rfl (sp_move rfl iL) (AQ.step rfl rfl rfl (sp_move rfl iL) (ob1k h5 fun x5 ex5 h6 => (AQ.step rfl rfl rfl (ms_idx rfl tg_26.slice iL iL (fun _ => rfl) (fun _ => ex5)) (AQ.step rfl rfl rfl (ms_loadA (cs := [.r (.str x5.Name), .r (.str x5.Value)]) rfl ta_67 iL rfl rfl) (AQ.step rfl rfl rfl (sp_aggneq rfl te_67 iL iL rfl) ?_))))))))))
   refine AQ.nil ?_
   refine hK12 _ ?_
   refine aC rfl (fun hc3 => ?_) (fun hc3 => ?_)
   ·have h7 := ite_t hc3 h6
    refine aS fun K13 hK13 wK13 => ?_
    refine AW.weak (s' := ⟨[], [], (i3 0), 26⟩) (by exact Weak.cv trivial trivial nL) ?_
    refine aR (sA rfl rfl (aZ (hK13 _ ?_)))
    refine AW.ret ?_
    exact retf1 (P := prog) (fun (r : Bool) => rB (r)) (he1 _ (hx1 _ (Option.some.inj h7).symm)) iL (.t (.d rfl))
   ·have h7 := ite_f hc3 h6
    refine AW.skip ?_
    refine hK10 _ ?_
    refine AW.weak (s' := ⟨[(0, qa a1), (1, qa b1), (12, rI ((a1.length : Int))), (13, rI (x2))], [], (i3 0), 26⟩) (by exact Weak.cv ⟨jL, jL, jL, jL, trivial⟩ trivial nL) ?_
    refine aR (ob1k h7 fun x6 ex6 h8 => (sQ rfl (ms_add rfl iL iL (fun _ => ex6)) (sM rfl rfl ?_)))
    refine AOps.nil ?_
    exact NextQ1.mk h8 (vec [(i3 0)]) ((by exact Weak.cv ⟨jL, jL, jL, jL, trivial⟩ trivial nL))
  ·have h4 := ite_f hc2 h3
   refine AW.exit ?_
   exact wK5 _ _ ((by exact Weak.cv trivial trivial nL)) (J1 _ (vec [(i3 0)]) (hx1 _ (Option.some.inj h4).symm))
theorem w_grid_SameCell {a1 : GCell} {b1 : GCell} {r : Bool} (h : grid_SameCell a1 b1 = some r) : ARO prog 161 [.agg [rI (a1.Row), rI (a1.Col), .r (.str a1.Text), rI (a1.Ref), qa a1.Attrs], .agg [rI (b1.Row), rI (b1.Col), .r (.str b1.Text), rI (b1.Ref), qa b1.Attrs]] (rB (r)) := by
 unfold grid_SameCell at h
 refine ARO.mkF func161 rfl rfl ntmps161 rfl (Nat.le_of_ble_eq_true rfl) fun n0 => ?_
 refine aS fun K1 hK1 wK1 => (aR (AOps.step rfl rfl rfl (ms_box (cs := [rI (a1.Row), rI (a1.Col), .r (.str a1.Text), rI (a1.Ref), qa a1.Attrs]) 2 rfl iL rfl rfl) (AOps.step rfl rfl rfl (ms_box (cs := [rI (b1.Row), rI (b1.Col), .r (.str b1.Text), rI (b1.Ref), qa b1.Attrs]) 3 rfl iL rfl rfl) (sA rfl rfl (aZ (hK1 _ ?_))))))
 refine aS fun K2 hK2 wK2 => (aR (sQ rfl (fB rfl tf_178_0 iL fR rfl) (sQ rfl (ms_load_box (a := rI (a1.Row)) rfl ts_3 iL rfl rfl) (sQ rfl (fB rfl tf_178_0 iL fR rfl) (sQ rfl (ms_load_box (a := rI (b1.Row)) rfl ts_3 iL rfl rfl) (sQ rfl (sp_eql rfl iL iL) (sM rfl rfl (sV rfl rfl rfl (fB rfl tf_178_1 iL fR rfl) (sV rfl rfl rfl (ms_load_box (a := rI (a1.Col)) rfl ts_3 (iR rfl) rfl rfl) (sV rfl rfl rfl (fB rfl tf_178_1 iL fR rfl) (sV rfl rfl rfl (ms_load_box (a := rI (b1.Col)) rfl ts_3 (iR rfl) rfl rfl) (sV rfl rfl rfl (sp_eql rfl (iR rfl) (iR rfl)) (sQ rfl (sp_and rfl iL (iR rfl)) (sM rfl rfl (sV rfl rfl rfl (fB rfl tf_178_2 iL fR rfl) (sV rfl rfl rfl (ms_load_box (a := .r (.str a1.Text)) rfl ts_9 (iR rfl) rfl rfl) (sV rfl rfl rfl (fB rfl tf_178_2 iL fR rfl) (sV rfl rfl rfl (ms_load_box (a := .r (.str b1.Text)) rfl ts_9 (iR rfl) rfl rfl) (sV rfl rfl rfl (sp_seql rfl (iR rfl) (iR rfl)) (sQ rfl (sp_and rfl iL (iR rfl)) (sM rfl rfl (sV rfl rfl rfl (fB rfl tf_178_3 iL fR rfl) (sV rfl rfl rfl (ms_load_box (a := rI (a1.Ref)) rfl ts_3 (iR rfl) rfl rfl) (sV rfl rfl rfl (fB rfl tf_178_3 iL fR rfl) (sV rfl rfl rfl (ms_load_box (a := rI (b1.Ref)) rfl ts_3 (iR rfl) rfl rfl) (sV rfl rfl rfl (sp_eql rfl (iR rfl) (iR rfl)) (sQ rfl (sp_and rfl iL (iR rfl)) (sM rfl rfl (sV rfl rfl rfl (fB rfl tf_178_4 iL fR rfl) ?_)))))))))))))))))))))))))))))
 refine sV rfl rfl rfl (ms_load_box (a := qa a1.Attrs) rfl ts_26 (iR rfl) rfl rfl) (sV rfl rfl rfl (fB rfl tf_178_4 iL fR rfl) (sV rfl rfl rfl (ms_load_box (a := qa b1.Attrs) rfl ts_26 (iR rfl) rfl rfl) (ob1k h fun r1 er1 h1 => ?_)))
 refine AOps.stepW (.one rfl rfl rfl) rfl rfl (sp_call (r := rB (r1)) (caps := []) (bs := [qa a1.Attrs, qa b1.Attrs]) rfl iL rfl ⟨⟨_, (iR rfl), .d rfl⟩, ⟨_, (iR rfl), .d rfl⟩, trivial⟩ (fun hg => w_attr_Same (gdt er1 hg)) rfl) ?_
 refine sQ rfl (sp_and rfl iL (iR rfl)) (sA rfl rfl (aZ (hK2 _ ?_)))
 refine AW.ret ?_
 exact retf1 (P := prog) (fun (r : Bool) => rB (r)) h1 iL (.t (.d rfl))
theorem w_slices_EqualFunc_api_Cell_api_Cell_api_Cell_api_Cell__SameCell {s11 : List GCell} {s21 : List GCell} {r : Bool} (h : slices_EqualFunc_api_Cell_api_Cell_api_Cell_api_Cell__SameCell s11 s21 = some r) : ARO prog 160 [qc s11, qc s21, .fn 161 []] (rB (r)) := by
 unfold slices_EqualFunc_api_Cell_api_Cell_api_Cell_api_Cell__SameCell at h
 refine ARO.mkF func160 rfl rfl ntmps160 rfl (Nat.le_of_ble_eq_true rfl) fun n0 => ?_
 refine aS fun K1 hK1 wK1 => (aR (sA rfl rfl (aZ (hK1 _ ?_))))
 refine aS fun K2 hK2 wK2 => (aS fun K3 hK3 wK3 => (aR (sM rfl rfl (sQ rfl (ms_len rfl tg_28.slice iL) (sM rfl rfl (sQ rfl (ms_len rfl tg_28.slice iL) (sQ rfl (sp_neq rfl iL iL) (aZ (hK3 _ ?_)))))))))
 refine aC rfl (fun hc1 => ?_) (fun hc1 => ?_)
 ·have h1 := ite_t hc1 h
  refine aS fun K4 hK4 wK4 => ?_
  refine AW.weak (s' := ⟨[], [], n0, 32⟩) (by exact Weak.cv trivial trivial nL) ?_
  refine aR (sA rfl rfl (aZ (hK4 _ ?_)))
  refine AW.ret ?_
  exact retf1 (P := prog) (fun (r : Bool) => rB (r)) h1 iL (.t (.d rfl))
 ·have h1 := ite_f hc1 h
  refine AW.skip ?_
  refine hK2 _ ?_
  refine aS fun K5 hK5 wK5 => (aS fun K6 hK6 wK6 => (aR (sM rfl rfl (sQ rfl (ms_len rfl tg_28.slice iL) (sM rfl rfl (aZ (hK6 _ ?_)))))))
  refine AW.block ?_
  refine jc1k h1 fun o1 hit1 hk1 he1 => ?_
  have J1 : ∀ (u2 : Unit) (i5 : Nat → Nat), o1 = .nrm u2 → K5 ⟨[], [], (i5 0), 32⟩ := by
   intro u2 i5 e
   have h2 := hk1 _ e
   refine hK5 _ ?_
   refine aS fun K7 hK7 wK7 => (aR (sA rfl rfl (aZ (hK7 _ ?_))))
   refine AW.ret ?_
   exact retf1 (P := prog) (fun (r : Bool) => rB (r)) h2 iL (.t (.d rfl))
  refine AW.iter1 (fun (x2 : Int) i3 => ⟨[(1, qc s21), (2, .fn 161 []), (15, qc s11), (16, rI ((s11.length : Int))), (17, rI (x2))], [], (i3 0), 32⟩) (vec [n0]) hit1 ((by exact Weak.cv ⟨jL, jL, jL, jL, jL, trivial⟩ trivial nL)) ?_
  intro x2 i3 v1 hv1 hx1
  have h3 : slices_EqualFunc_api_Cell_api_Cell_api_Cell_api_Cell__SameCell_L1 s11 s21 x2 = some v1 := hv1; unfold slices_EqualFunc_api_Cell_api_Cell_api_Cell_api_Cell__SameCell_L1 at h3
  refine aS fun K8 hK8 wK8 => (aR (sQ rfl (sp_lss rfl iL iL) (aZ (hK8 _ ?_))))
  refine aS fun K9 hK9 wK9 => ?_
  refine aC rfl (fun hc2 => ?_) (fun hc2 => ?_)
  ·have h4 := ite_t hc2 h3
   refine AW.skip ?_
   refine hK9 _ ?_
   refine aS fun K10 hK10 wK10 => (AW.block (aS fun K11 hK11 wK11 => (aR (sM rfl rfl (ob1k h4 fun x4 ex4 h5 => (sQ rfl (ms_idx rfl tg_28.slice iL iL (fun _ => rfl) (fun _ => ex4)) (sQ rfl (ms_loadA (cs := [rI (x4.Row), rI (x4.Col), .r (.str x4.Text), rI (x4.Ref), qa x4.Attrs]) rfl ta_178 iL rfl rfl) (AOps.step rfl rfl rfl (ms_alloc (cs := [rI (0), rI (0), .r (.str []), rI (0), .cst (.slice none 0 0)]) 8 rfl t0_178 rfl rfl) (sA rfl rfl (AOps.step0 rfl rfl (ms_store_box (ds := [rI (x4.Row), rI (x4.Col), .r (.str x4.Text), rI (x4.Ref), qa x4.Attrs]) rfl tz_178 iL rfl iL rfl rfl rfl rfl) (aZ (hK11 _ ?_))))))))))))
   refine aS fun K12 hK12 wK12 => (aR (sM rfl rfl (sM rfl rfl (ob1k h5 fun x5 ex5 h6 => (sQ rfl (ms_idx rfl tg_28.slice iL iL (fun _ => rfl) (fun _ => ex5)) (sQ rfl (ms_loadA (cs := [rI (x5.Row), rI (x5.Col), .r (.str x5.Text), rI (x5.Ref), qa x5.Attrs]) rfl ta_178 iL rfl rfl) (AOps.step rfl rfl rfl (ms_alloc (cs := [rI (0), rI (0), .r (.str []), rI (0), .cst (.slice none 0 0)]) 9 rfl t0_178 rfl rfl) (AOps.step0 rfl rfl (ms_store_box (ds := [rI (x5.Row), rI (x5.Col), .r (.str x5.Text), rI (x5.Ref), qa x5.Attrs]) rfl tz_178 iL rfl iL rfl rfl rfl rfl) (aZ (hK12 _ ?_))))))))))
   refine aS fun K13 hK13 wK13 => ?_
   refine AW.weak (s' := ⟨[(1, qc s21), (2, .fn 161 []), (8, .ptr 8 (i3 0) 0 0), (9, .ptr 9 ((i3 0) + 1) 0 0), (15, qc s11), (16, rI ((s11.length : Int))), (17, rI (x2))], [(8, some (.box (i3 0) 178 [rI (x4.Row), rI (x4.Col), .r (.str x4.Text), rI (x4.Ref), qa x4.Attrs])), (9, some (.box ((i3 0) + 1) 178 [rI (x5.Row), rI (x5.Col), .r (.str x5.Text), rI (x5.Ref), qa x5.Attrs]))], ((i3 0) + 2), 32⟩) (by exact Weak.cv ⟨jL, jL, jL, jL, jL, jL, jL, trivial⟩ ⟨.inl rfl, .inl rfl, trivial⟩ nL) ?_
   refine aR (sM rfl rfl (sQ rfl (ms_loadA_box rfl ta_178 iL rfl rfl) (sQ rfl (ms_loadA_box rfl ta_178 iL rfl rfl) (ob1k h6 fun r1 er1 h7 => (AOps.step rfl rfl rfl (sp_call (r := rB (r1)) (caps := []) (bs := [.agg [rI (x4.Row), rI (x4.Col), .r (.str x4.Text), rI (x4.Ref), qa x4.Attrs], .agg [rI (x5.Row), rI (x5.Col), .r (.str x5.Text), rI (x5.Ref), qa x5.Attrs]]) rfl iL rfl ⟨⟨_, iL, .g (cs := [.int .i64 x4.Row, .int .i64 x4.Col, .str x4.Text, .int .i64 x4.Ref, .sl (x4.Attrs.map GAttr.row)]) rfl rfl⟩, ⟨_, iL, .g (cs := [.int .i64 x5.Row, .int .i64 x5.Col, .str x5.Text, .int .i64 x5.Ref, .sl (x5.Attrs.map GAttr.row)]) rfl rfl⟩, trivial⟩ (fun _ => w_grid_SameCell (er1)) rfl) (sQ rfl (sp_not rfl iL) (aZ (hK13 _ ?_))))))))
   refine aC rfl (fun hc3 => ?_) (fun hc3 => ?_)
   ·have h8 := ite_t hc3 h7
    refine aS fun K14 hK14 wK14 => ?_
    refine AW.weak (s' := ⟨[], [], ((i3 0) + 2), 32⟩) (by exact Weak.cv trivial trivial nL) ?_
    refine aR (sA rfl rfl (aZ (hK14 _ ?_)))
    refine AW.ret ?_
    exact retf1 (P := prog) (fun (r : Bool) => rB (r)) (he1 _ (hx1 _ (Option.some.inj h8).symm)) iL (.t (.d rfl))
   ·have h8 := ite_f hc3 h7
    refine AW.skip ?_
    refine hK10 _ ?_
    refine aR (ob1k h8 fun x6 ex6 h9 => (sQ rfl (ms_add rfl iL iL (fun _ => ex6)) (sM rfl rfl ?_)))
    refine AOps.nil ?_
    exact NextQ1.mk h9 (vec [((i3 0) + 2)]) ((by exact Weak.cv ⟨jL, jL, jL, jL, jL, trivial⟩ trivial nL))
  ·have h4 := ite_f hc2 h3
   refine AW.exit ?_
   exact wK5 _ _ ((by exact Weak.cv trivial trivial nL)) (J1 _ (vec [(i3 0)]) (hx1 _ (Option.some.inj h4).symm))
theorem w_grid_Same {a1 : GGrid} {b1 : GGrid} {r : Bool} (h : grid_Same a1 b1 = some r) : ARO prog 106 [.agg [rI (a1.Rows), rI (a1.Cols), qc a1.Cells, qb a1.Merges], .agg [rI (b1.Rows), rI (b1.Cols), qc b1.Cells, qb b1.Merges]] (rB (r)) := by
 unfold grid_Same at h
 refine ARO.mkF func106 rfl rfl ntmps106 rfl (Nat.le_of_ble_eq_true rfl) fun n0 => ?_
 refine aS fun K1 hK1 wK1 => (aR (AOps.step rfl rfl rfl (ms_box (cs := [rI (a1.Rows), rI (a1.Cols), qc a1.Cells, qb a1.Merges]) 2 rfl iL rfl rfl) (AOps.step rfl rfl rfl (ms_box (cs := [rI (b1.Rows), rI (b1.Cols), qc b1.Cells, qb b1.Merges]) 3 rfl iL rfl rfl) (sA rfl rfl (aZ (hK1 _ ?_))))))
 refine aS fun K2 hK2 wK2 => (aR (sQ rfl (fB rfl tf_31_0 iL fR rfl) (sQ rfl (ms_load_box (a := rI (a1.Rows)) rfl ts_3 iL rfl rfl) (sQ rfl (fB rfl tf_31_0 iL fR rfl) (sQ rfl (ms_load_box (a := rI (b1.Rows)) rfl ts_3 iL rfl rfl) (sQ rfl (sp_eql rfl iL iL) (sM rfl rfl (sV rfl rfl rfl (fB rfl tf_31_1 iL fR rfl) (sV rfl rfl rfl (ms_load_box (a := rI (a1.Cols)) rfl ts_3 (iR rfl) rfl rfl) (sV rfl rfl rfl (fB rfl tf_31_1 iL fR rfl) (sV rfl rfl rfl (ms_load_box (a := rI (b1.Cols)) rfl ts_3 (iR rfl) rfl rfl) (sV rfl rfl rfl (sp_eql rfl (iR rfl) (iR rfl)) (sQ rfl (sp_and rfl iL (iR rfl)) (sM rfl rfl (sV rfl rfl rfl (fB rfl tf_31_3 iL fR rfl) (sV rfl rfl rfl (ms_load_box (a := qb a1.Merges) rfl ts_29 (iR rfl) rfl rfl) (sV rfl rfl rfl (fB rfl tf_31_3 iL fR rfl) (sV rfl rfl rfl (ms_load_box (a := qb b1.Merges) rfl ts_29 (iR rfl) rfl rfl) (ob1k h fun r1 er1 h1 => ?_)))))))))))))))))))
 refine AOps.stepW (.one rfl rfl rfl) rfl rfl (sp_call (r := rB (r1)) (caps := []) (bs := [qb a1.Merges, qb b1.Merges]) rfl iL rfl ⟨⟨_, (iR rfl), .d rfl⟩, ⟨_, (iR rfl), .d rfl⟩, trivial⟩ (fun hg => w_slices_Equal_api_Rect_api_Rect (gdt er1 hg)) rfl) ?_
 refine sQ rfl (sp_and rfl iL (iR rfl)) (sM rfl rfl (sV rfl rfl rfl (fB rfl tf_31_2 iL fR rfl) (sV rfl rfl rfl (ms_load_box (a := qc a1.Cells) rfl ts_28 (iR rfl) rfl rfl) (sV rfl rfl rfl (fB rfl tf_31_2 iL fR rfl) (sV rfl rfl rfl (ms_load_box (a := qc b1.Cells) rfl ts_28 (iR rfl) rfl rfl) (ob1k h1 fun r2 er2 h2 => ?_))))))
 refine AOps.stepW (.one rfl rfl rfl) rfl rfl (sp_call (r := rB (r2)) (caps := []) (bs := [qc a1.Cells, qc b1.Cells, .fn 161 []]) rfl iL rfl ⟨⟨_, (iR rfl), .d rfl⟩, ⟨_, (iR rfl), .d rfl⟩, ⟨_, iL, .one (.closed (.fn 161 []) rfl)⟩, trivial⟩ (fun hg => w_slices_EqualFunc_api_Cell_api_Cell_api_Cell_api_Cell__SameCell (gdt er2 hg)) rfl) ?_
 refine sQ rfl (sp_and rfl iL (iR rfl)) (sA rfl rfl (aZ (hK2 _ ?_)))
 refine AW.ret ?_
 exact retf1 (P := prog) (fun (r : Bool) => rB (r)) h2 iL (.t (.d rfl))
theorem w_doc_Draws {kind1 : Int} {r : Bool} (h : doc_Draws kind1 = some r) : ARO prog 107 [rI (kind1)] (rB (r)) := by
 unfold doc_Draws at h
 refine ARO.mkF func107 rfl rfl ntmps107 rfl (Nat.le_of_ble_eq_true rfl) fun n0 => ?_
 refine aS fun K1 hK1 wK1 => (aR (sA rfl rfl (aZ (hK1 _ ?_))))
 refine aS fun K2 hK2 wK2 => (aR (sM rfl rfl (sQ rfl (sp_eql rfl iL iL) (sM rfl rfl (sV rfl rfl rfl (sp_move rfl iL) (sV rfl rfl rfl (sp_eql rfl (iR rfl) iL) (sQ rfl (sp_or rfl iL (iR rfl)) (sM rfl rfl (sV rfl rfl rfl (sp_move rfl iL) (sV rfl rfl rfl (sp_eql rfl (iR rfl) iL) (sQ rfl (sp_or rfl iL (iR rfl)) (sA rfl rfl (aZ (hK2 _ ?_))))))))))))))
 refine AW.ret ?_
 exact retf1 (P := prog) (fun (r : Bool) => rB (r)) h iL (.t (.d rfl))
theorem w_flow_Char {c1 : Int} {r : Bool} (h : flow_Char c1 = some r) : ARO prog 125 [rI (c1)] (rB (r)) := by
 unfold flow_Char at h
 refine ARO.mkF func125 rfl rfl ntmps125 rfl (Nat.le_of_ble_eq_true rfl) fun n0 => ?_
 refine aS fun K1 hK1 wK1 => (aR (sA rfl rfl (aZ (hK1 _ ?_))))
 refine aS fun K2 hK2 wK2 => (aR (sM rfl rfl (sQ rfl (sp_eql rfl iL iL) (sM rfl rfl (sV rfl rfl rfl (sp_move rfl iL) (sV rfl rfl rfl (sp_eql rfl (iR rfl) iL) (sQ rfl (sp_or rfl iL (iR rfl)) (sM rfl rfl (sV rfl rfl rfl (sp_move rfl iL) (sV rfl rfl rfl (sp_geq rfl (iR rfl) iL) (sV rfl rfl rfl (sp_move rfl (iR rfl)) ?_)))))))))))
 refine sW (.two rfl rfl rfl) rfl (sp_move rfl iL) ?_
 refine sW (.two rfl rfl rfl) rfl (sp_lss rfl (iR rfl) iL) ?_
 refine sV rfl rfl rfl (sp_and rfl (iR rfl) (iR rfl)) (sQ rfl (sp_or rfl iL (iR rfl)) (sM rfl rfl (sV rfl rfl rfl (sp_move rfl iL) (sV rfl rfl rfl (sp_geq rfl (iR rfl) iL) (sV rfl rfl rfl (sp_move rfl (iR rfl)) ?_)))))
 refine sW (.two rfl rfl rfl) rfl (sp_move rfl iL) ?_
 refine sW (.two rfl rfl rfl) rfl (sp_lss rfl (iR rfl) iL) ?_
 refine sV rfl rfl rfl (sp_and rfl (iR rfl) (iR rfl)) (sQ rfl (sp_or rfl iL (iR rfl)) (sM rfl rfl (sV rfl rfl rfl (sp_move rfl iL) (sV rfl rfl rfl (sp_gtr rfl (iR rfl) iL) (sV rfl rfl rfl (sp_move rfl (iR rfl)) ?_)))))
 refine sW (.two rfl rfl rfl) rfl (sp_move rfl iL) ?_
 refine sW (.two rfl rfl rfl) rfl (sp_leq rfl (iR rfl) iL) ?_
 refine sV rfl rfl rfl (sp_and rfl (iR rfl) (iR rfl)) (sQ rfl (sp_or rfl iL (iR rfl)) (sA rfl rfl (aZ (hK2 _ ?_))))
 refine AW.ret ?_
 exact retf1 (P := prog) (fun (r : Bool) => rB (r)) h iL (.t (.d rfl))
theorem w_flow_elem {x1 : GElem} {r : Int} (h : flow_elem x1 = some r) : ARO prog 142 [.agg [rI (x1.Char), rI (x1.Ref), qa x1.Attrs]] (rI (r)) := by
 unfold flow_elem at h
 refine ARO.mkF func142 rfl rfl ntmps142 rfl (Nat.le_of_ble_eq_true rfl) fun n0 => ?_
 refine aS fun K1 hK1 wK1 => (aR (AOps.step rfl rfl rfl (ms_box (cs := [rI (x1.Char), rI (x1.Ref), qa x1.Attrs]) 1 rfl iL rfl rfl) (sA rfl rfl (aZ (hK1 _ ?_)))))
 refine aS fun K2 hK2 wK2 => (AW.block (aS fun K3 hK3 wK3 => (aR (sQ rfl (fB rfl tf_60_0 iL fR rfl) (sQ rfl (ms_load_box (a := rI (x1.Char)) rfl ts_3 iL rfl rfl) (sQ rfl (sp_neq rfl iL iL) (sQ rfl (fB rfl tf_60_1 iL fR rfl) (sQ rfl (ms_load_box (a := rI (x1.Ref)) rfl ts_3 iL rfl rfl) (sQ rfl (sp_neq rfl iL iL) (sQ rfl (sp_beql rfl underlying4 iL iL) (sA rfl rfl (aZ (hK3 _ ?_)))))))))))))
 refine aC rfl (fun hc1 => ?_) (fun hc1 => ?_)
 ·have h1 := ite_t hc1 h
  refine aS fun K4 hK4 wK4 => ?_
  refine AW.weak (s' := ⟨[], [], (n0 + 1), 37⟩) (by exact Weak.cv trivial trivial nL) ?_
  refine aR (sA rfl rfl (aZ (hK4 _ ?_)))
  refine AW.ret ?_
  exact retf1 (P := prog) (fun (r : Int) => rI (r)) h1 iL (.t (.d rfl))
 ·have h1 := ite_f hc1 h
  refine aS fun K5 hK5 wK5 => (aS fun K6 hK6 wK6 => ?_)
  refine AW.weak (s' := ⟨[(1, .ptr 1 n0 0 0)], [(1, some (.box n0 60 [rI (x1.Char), rI (x1.Ref), qa x1.Attrs]))], (n0 + 1), 37⟩) (by exact Weak.cv ⟨jL, trivial⟩ ⟨.inl rfl, trivial⟩ nL) ?_
  refine aR (sQ rfl (fB rfl tf_60_1 iL fR rfl) (sQ rfl (ms_load_box (a := rI (x1.Ref)) rfl ts_3 iL rfl rfl) (sQ rfl (sp_eql rfl iL iL) (sM rfl rfl (sV rfl rfl rfl (fB rfl tf_60_0 iL fR rfl) (sV rfl rfl rfl (ms_load_box (a := rI (x1.Char)) rfl ts_3 (iR rfl) rfl rfl) (ob1k h1 fun r1 er1 h2 => ?_)))))))
  refine AOps.stepW (.one rfl rfl rfl) rfl rfl (sp_call (r := rB (r1)) (caps := []) (bs := [rI (x1.Char)]) rfl iL rfl ⟨⟨_, (iR rfl), .d rfl⟩, trivial⟩ (fun hg => w_flow_Char (gdt er1 hg)) rfl) ?_
  refine sV rfl rfl rfl (sp_not rfl (iR rfl)) (sQ rfl (sp_and rfl iL (iR rfl)) (sA rfl rfl (aZ (hK6 _ ?_))))
  refine jb1k h2 fun p1 hp1 hk1 => ?_
  have J1 : ∀ (x2 : Bool) (i1 : Nat → Nat), p1 = x2 → K5 ⟨[(1, .ptr 1 n0 0 0), (11, rB (x2))], [(1, some (.box n0 60 [rI (x1.Char), rI (x1.Ref), qa x1.Attrs]))], (i1 0), 37⟩ := by
   intro x2 i1 e
   have h3 := hk1 _ e
   refine hK5 _ ?_
   refine aC rfl (fun hc2 => ?_) (fun hc2 => ?_)
   ·have h4 := ite_t hc2 h3
    refine aS fun K7 hK7 wK7 => (aR (sA rfl rfl (aZ (hK7 _ ?_))))
    refine AW.ret ?_
    exact retf1 (P := prog) (fun (r : Int) => rI (r)) h4 iL (.t (.d rfl))
   ·have h4 := ite_f hc2 h3
    refine AW.skip ?_
    refine hK2 _ ?_
    refine aS fun K8 hK8 wK8 => (aR (sQ rfl (fB rfl tf_60_2 iL fR rfl) (sQ rfl (ms_load_box (a := qa x1.Attrs) rfl ts_26 iL rfl rfl) (ob1k h4 fun r2 er2 h5 => (AOps.step rfl rfl rfl (sp_call (r := rI (r2)) (caps := []) (bs := [qa x1.Attrs]) rfl iL rfl ⟨⟨_, iL, .d rfl⟩, trivial⟩ (fun _ => w_attr_Check (er2)) rfl) (sA rfl rfl (aZ (hK8 _ ?_))))))))
    refine AW.ret ?_
    exact retf1 (P := prog) (fun (r : Int) => rI (r)) h5 iL (.t (.d rfl))
  refine aC rfl (fun hc3 => ?_) (fun hc3 => ?_)
  ·have h6 := ite_t hc3 hp1
   refine AW.skip ?_
   exact wK5 _ _ ((by exact Weak.cv ⟨jL, jL, trivial⟩ ⟨.inl rfl, trivial⟩ nL)) (J1 _ (vec [(n0 + 1)]) (Option.some.inj h6).symm)
  ·have h6 := ite_f hc3 hp1
   refine AW.weak (s' := ⟨[(1, .ptr 1 n0 0 0)], [(1, some (.box n0 60 [rI (x1.Char), rI (x1.Ref), qa x1.Attrs]))], (n0 + 1), 37⟩) (by exact Weak.cv ⟨jL, trivial⟩ ⟨.inl rfl, trivial⟩ nL) ?_
   refine aR (sQ rfl (fB rfl tf_60_1 iL fR rfl) (sQ rfl (ms_load_box (a := rI (x1.Ref)) rfl ts_3 iL rfl rfl) (sQ rfl (sp_neq rfl iL iL) (sM rfl rfl (sV rfl rfl rfl (fB rfl tf_60_1 iL fR rfl) (sV rfl rfl rfl (ms_load_box (a := rI (x1.Ref)) rfl ts_3 (iR rfl) rfl rfl) (sV rfl rfl rfl (sp_lss rfl (iR rfl) iL) (sV rfl rfl rfl (sp_move rfl (iR rfl)) ?_))))))))
   refine sW (.two rfl rfl rfl) rfl (fB rfl tf_60_1 iL fR rfl) ?_
   refine sW (.two rfl rfl rfl) rfl (ms_load_box (a := rI (x1.Ref)) rfl ts_3 (iR rfl) rfl rfl) ?_
   refine sW (.two rfl rfl rfl) rfl (sp_gtr rfl (iR rfl) iL) ?_
   refine sV rfl rfl rfl (sp_or rfl (iR rfl) (iR rfl)) (sQ rfl (sp_and rfl iL (iR rfl)) (sA rfl rfl ?_))
   refine AOps.nil ?_
   exact wK5 _ _ ((by exact Weak.cv ⟨jL, jL, trivial⟩ ⟨.inl rfl, trivial⟩ nL)) (J1 _ (vec [(n0 + 1)]) (Option.some.inj h6).symm)
theorem w_flow_Check {f1 : List GElem} {text1 : Bool} {r : Int} (h : flow_Check f1 text1 = some r) : ARO prog 108 [qd f1, rB (text1)] (rI (r)) := by
 unfold flow_Check at h
 refine ARO.mkF func108 rfl rfl ntmps108 rfl (Nat.le_of_ble_eq_true rfl) fun n0 => ?_
 refine aS fun K1 hK1 wK1 => (aR (sA rfl rfl (aZ (hK1 _ ?_))))
 refine aS fun K2 hK2 wK2 => (aS fun K3 hK3 wK3 => (aR (sM rfl rfl (sQ rfl (ms_len rfl tg_27.slice iL) (sM rfl rfl (aZ (hK3 _ ?_)))))))
 refine AW.block ?_
 refine jc1k h fun o1 hit1 hk1 he1 => ?_
 have J1 : ∀ (u2 : Unit) (i5 : Nat → Nat), o1 = .nrm u2 → K2 ⟨[(0, qd f1), (1, rB (text1))], [], (i5 0), 43⟩ := by
  intro u2 i5 e
  have h1 := hk1 _ e
  refine hK2 _ ?_
  refine aS fun K4 hK4 wK4 => (aS fun K5 hK5 wK5 => (aR (sM rfl rfl (sM rfl rfl (sV rfl rfl rfl (sp_move rfl iL) (sV rfl rfl rfl (ms_len rfl tg_27.slice (iR rfl)) (sV rfl rfl rfl (sp_eql rfl (iR rfl) iL) (sV rfl rfl rfl (sp_move rfl (iR rfl)) ?_))))))))
  refine sW (.two rfl rfl rfl) rfl (sp_move rfl iL) ?_
  refine sW (.two rfl rfl rfl) rfl (sp_move rfl iL) ?_
  refine sW (.two rfl rfl rfl) rfl (ms_len rfl tg_27.slice (iR rfl)) ?_
  refine ob1k h1 fun x4 ex4 h2 => ?_
  refine sW (.two rfl rfl rfl) rfl (ms_sub rfl (iR rfl) iL (gdt ex4)) ?_
  refine ob1k h2 fun x5 ex5 h3 => ?_
  refine sW (.two rfl rfl rfl) rfl (ms_idx rfl tg_27.slice (iR rfl) (iR rfl) (fun _ => rfl) (gdt ex5)) ?_
  refine sW (.two rfl rfl rfl) rfl (sp_fieldAddr_ro rfl tf_60_0 (iR rfl)) ?_
  refine sW (.two rfl rfl rfl) rfl (ms_load (d := .int .i64 x5.Char) rfl ts_3 (iR rfl) rfl) ?_
  refine sW (.two rfl rfl rfl) rfl (sp_neq rfl (iR rfl) iL) ?_
  refine sV rfl rfl rfl (sp_or rfl (iR rfl) (iR rfl)) (sQ rfl (sp_and rfl iL (iR rfl)) (aZ (hK5 _ ?_)))
  refine aC rfl (fun hc1 => ?_) (fun hc1 => ?_)
  ·have h4 := ite_t hc1 h3
   refine aS fun K6 hK6 wK6 => ?_
   refine AW.weak (s' := ⟨[], [], (i5 0), 43⟩) (by exact Weak.cv trivial trivial nL) ?_
   refine aR (sA rfl rfl (aZ (hK6 _ ?_)))
   refine AW.ret ?_
   exact retf1 (P := prog) (fun (r : Int) => rI (r)) h4 iL (.t (.d rfl))
  ·have h4 := ite_f hc1 h3
   refine AW.skip ?_
   refine hK4 _ ?_
   refine aS fun K7 hK7 wK7 => ?_
   refine AW.weak (s' := ⟨[], [], (i5 0), 43⟩) (by exact Weak.cv trivial trivial nL) ?_
   refine aR (sA rfl rfl (aZ (hK7 _ ?_)))
   refine AW.ret ?_
   exact retf1 (P := prog) (fun (r : Int) => rI (r)) h4 iL (.t (.d rfl))
 refine AW.iter1 (fun (x2 : Int) i3 => ⟨[(0, qd f1), (1, rB (text1)), (8, qd f1), (9, rI ((f1.length : Int))), (10, rI (x2))], [], (i3 0), 43⟩) (vec [n0]) hit1 ((by exact Weak.cv ⟨jL, jL, jL, jL, jL, trivial⟩ trivial nL)) ?_
 intro x2 i3 v1 hv1 hx1
 have h5 : flow_Check_L1 f1 text1 x2 = some v1 := hv1; unfold flow_Check_L1 at h5
 refine aS fun K8 hK8 wK8 => (aR (sQ rfl (sp_lss rfl iL iL) (aZ (hK8 _ ?_))))
 refine aS fun K9 hK9 wK9 => ?_
 refine aC rfl (fun hc2 => ?_) (fun hc2 => ?_)
 ·have h6 := ite_t hc2 h5
  refine AW.skip ?_
  refine hK9 _ ?_
  refine aS fun K10 hK10 wK10 => (AW.block (aS fun K11 hK11 wK11 => (aR (ob1k h6 fun x6 ex6 h7 => (sQ rfl (ms_idx rfl tg_27.slice iL iL (fun _ => rfl) (fun _ => ex6)) (sQ rfl (ms_loadA (cs := [rI (x6.Char), rI (x6.Ref), qa x6.Attrs]) rfl ta_60 iL rfl rfl) (AOps.step rfl rfl rfl (ms_alloc (cs := [rI (0), rI (0), .cst (.slice none 0 0)]) 6 rfl t0_60 rfl rfl) (AOps.step0 rfl rfl (ms_store_box (ds := [rI (x6.Char), rI (x6.Ref), qa x6.Attrs]) rfl tz_60 iL rfl iL rfl rfl rfl rfl) (aZ (hK11 _ ?_))))))))))
  refine aS fun K12 hK12 wK12 => (aS fun K13 hK13 wK13 => (aR (sQ rfl (ms_loadA_box rfl ta_60 iL rfl rfl) (ob1k h7 fun e1 ee1 h8 => (AOps.step rfl rfl rfl (sp_call (r := rI (e1)) (caps := []) (bs := [.agg [rI (x6.Char), rI (x6.Ref), qa x6.Attrs]]) rfl iL rfl ⟨⟨_, iL, .g (cs := [.int .i64 x6.Char, .int .i64 x6.Ref, .sl (x6.Attrs.map GAttr.row)]) rfl rfl⟩, trivial⟩ (fun _ => w_flow_elem (ee1)) rfl) (sA rfl rfl (aZ (hK13 _ ?_))))))))
  refine aS fun K14 hK14 wK14 => (aR (sM rfl rfl (sQ rfl (sp_neq rfl iL iL) (aZ (hK14 _ ?_)))))
  refine aC rfl (fun hc3 => ?_) (fun hc3 => ?_)
  ·have h9 := ite_t hc3 h8
   refine aS fun K15 hK15 wK15 => ?_
   refine AW.weak (s' := ⟨[(7, rI (e1))], [], ((i3 0) + 1), 43⟩) (by exact Weak.cv ⟨jL, trivial⟩ trivial nL) ?_
   refine aR (sM rfl rfl (sA rfl rfl (aZ (hK15 _ ?_))))
   refine AW.ret ?_
   exact retf1 (P := prog) (fun (r : Int) => rI (r)) (he1 _ (hx1 _ (Option.some.inj h9).symm)) iL (.t (.d rfl))
  ·have h9 := ite_f hc3 h8
   refine AW.skip ?_
   refine hK12 _ ?_
   refine aS fun K16 hK16 wK16 => (aR (sM rfl rfl (sQ rfl (sp_not rfl iL) (sM rfl rfl (sV rfl rfl rfl (fB rfl tf_60_1 iL fR rfl) (sV rfl rfl rfl (ms_load_box (a := rI (x6.Ref)) rfl ts_3 (iR rfl) rfl rfl) (sV rfl rfl rfl (sp_eql rfl (iR rfl) iL) (sQ rfl (sp_and rfl iL (iR rfl)) (aZ (hK16 _ ?_))))))))))
   refine aC rfl (fun hc4 => ?_) (fun hc4 => ?_)
   ·have h10 := ite_t hc4 h9
    refine aS fun K17 hK17 wK17 => ?_
    refine AW.weak (s' := ⟨[], [], ((i3 0) + 1), 43⟩) (by exact Weak.cv trivial trivial nL) ?_
    refine aR (sA rfl rfl (aZ (hK17 _ ?_)))
    refine AW.ret ?_
    exact retf1 (P := prog) (fun (r : Int) => rI (r)) (he1 _ (hx1 _ (Option.some.inj h10).symm)) iL (.t (.d rfl))
   ·have h10 := ite_f hc4 h9
    refine AW.skip ?_
    refine hK10 _ ?_
    refine AW.weak (s' := ⟨[(0, qd f1), (1, rB (text1)), (8, qd f1), (9, rI ((f1.length : Int))), (10, rI (x2))], [], ((i3 0) + 1), 43⟩) (by exact Weak.cv ⟨jL, jL, jL, jL, jL, trivial⟩ trivial nL) ?_
    refine aR (ob1k h10 fun x7 ex7 h11 => (sQ rfl (ms_add rfl iL iL (fun _ => ex7)) (sM rfl rfl ?_)))
    refine AOps.nil ?_
    exact NextQ1.mk h11 (vec [((i3 0) + 1)]) ((by exact Weak.cv ⟨jL, jL, jL, jL, jL, trivial⟩ trivial nL))
 ·have h6 := ite_f hc2 h5
  refine AW.exit ?_
  exact wK2 _ _ ((by exact Weak.cv ⟨jL, jL, trivial⟩ trivial nL)) (J1 _ (vec [(i3 0)]) (hx1 _ (Option.some.inj h6).symm))
theorem w_unicode_utf8_decodeRuneInStringSlow {s1 : List UInt8} {r : Int × Int} (h : unicode_utf8_decodeRuneInStringSlow s1 = some r) : ARO prog 137 [.r (.str s1)] (.tup [.r (.int .i32 r.1), rI (r.2)]) := by
 unfold unicode_utf8_decodeRuneInStringSlow at h
 refine ARO.mkF func137 rfl rfl ntmps137 rfl (Nat.le_of_ble_eq_true rfl) fun n0 => ?_
 refine aS fun K1 hK1 wK1 => (aR (sA rfl rfl (sA rfl rfl (aZ (hK1 _ ?_)))))
 refine aS fun K2 hK2 wK2 => (aR (sM rfl rfl (sQ rfl (sp_len_str rfl underlying9 iL) (sA rfl rfl (aZ (hK2 _ ?_))))))
 refine aS fun K3 hK3 wK3 => (aS fun K4 hK4 wK4 => (aR (sM rfl rfl (sQ rfl (sp_lss rfl iL iL) (aZ (hK4 _ ?_))))))
 refine aC rfl (fun hc1 => ?_) (fun hc1 => ?_)
 ·have h1 := ite_t hc1 h
  refine aS fun K5 hK5 wK5 => (aR (sA rfl rfl (sA rfl rfl (aZ (hK5 _ ?_)))))
  refine AW.ret ?_
  exact retf2 (P := prog) (fun (r : Int × Int) => .r (.int .i32 r.1)) (fun (r : Int × Int) => rI (r.2)) h1 iL (.t (.d rfl)) (.t (.d rfl))
 ·have h1 := ite_f hc1 h
  refine AW.skip ?_
  refine hK3 _ ?_
  refine aS fun K6 hK6 wK6 => (aR (sM rfl rfl (ob1k h1 fun s01 es01 h2 => (sQ rfl (ms_idx_str rfl underlying9 iL iL (fun _ => es01)) (sA rfl rfl (aZ (hK6 _ ?_)))))))
  refine aS fun K7 hK7 wK7 => (aR (sM rfl rfl (ob1k h2 fun x1 ex1 h3 => ?_)))
  refine sQ rfl (ms_idx_tab (f := (rInt .u8)) (l := tabFirst) rfl tt_210 tab_g0 (by kernel_rfl) iL (fun _ => rfl) (by decide) (fun _ => ex1)) ?_
  refine sQ rfl (ms_load (d := .int .u8 x1) rfl ts_5 iL rfl) (sA rfl rfl (aZ (hK7 _ ?_)))
  refine aS fun K8 hK8 wK8 => (aS fun K9 hK9 wK9 => ?_)
  refine AW.weak (s' := ⟨[(0, .r (.str s1)), (4, rI ((s1.length : Int))), (5, .r (.int .u8 (s01.toNat : Int))), (6, .r (.int .u8 x1))], [], n0, 117⟩) (by exact Weak.cv ⟨jL, jL, jL, jL, trivial⟩ trivial nL) ?_
  refine aR (sM rfl rfl (sQ rfl (sp_geq rfl iL iL) (aZ (hK9 _ ?_))))
  refine aC rfl (fun hc2 => ?_) (fun hc2 => ?_)
  ·have h4 := ite_t hc2 h3
   refine aS fun K10 hK10 wK10 => (aR (sM rfl rfl (sQ rfl (sp_convert_int rfl underlying5 underlying21 iL) (sQ rfl (sp_shl (b := 31) rfl iL iL) (sQ rfl (sp_shr (b := 31) rfl iL iL) (sA rfl rfl (aZ (hK10 _ ?_))))))))
   refine aS fun K11 hK11 wK11 => ?_
   refine AW.weak (s' := ⟨[(0, .r (.str s1)), (7, .r (.int .i32 (shrC .i32 (shlC .i32 (IntKind.i32.wrap x1) 31) 31)))], [], n0, 117⟩) (by exact Weak.cv ⟨jL, jL, trivial⟩ trivial nL) ?_
   refine aR (sM rfl rfl (sQ rfl (ms_idx_str rfl underlying9 iL iL (fun _ => es01)) (sQ rfl (sp_convert_int rfl underlying5 underlying21 iL) (sM rfl rfl (sQ rfl (sp_bAndNot rfl iL iL) (sM rfl rfl (sQ rfl (sp_bAnd rfl iL iL) (sQ rfl (sp_bOr rfl iL iL) (sA rfl rfl (sA rfl rfl (aZ (hK11 _ ?_))))))))))))
   refine AW.ret ?_
   exact retf2 (P := prog) (fun (r : Int × Int) => .r (.int .i32 r.1)) (fun (r : Int × Int) => rI (r.2)) h4 iL (.t (.d rfl)) (.t (.d rfl))
  ·have h4 := ite_f hc2 h3
   refine AW.skip ?_
   refine hK8 _ ?_
   refine aS fun K12 hK12 wK12 => (aR (sM rfl rfl (sQ rfl (sp_bAnd rfl iL iL) (sQ rfl (sp_convert_int rfl underlying5 underlying3 iL) (sA rfl rfl (aZ (hK12 _ ?_)))))))
   refine aS fun K13 hK13 wK13 => (aR (sM rfl rfl (sQ rfl (sp_shr (b := 4) rfl iL iL) (ob1k h4 fun x2 ex2 h5 => ?_))))
   refine sQ rfl (ms_idx_tab (f := Utf8_AcceptRange.row) (l := tabAccept) rfl tt_214 tab_g1 (by kernel_rfl) iL (fun _ => rfl) (by decide) (fun _ => ex2)) ?_
   refine sQ rfl (ms_loadA (cs := [.r (.int .u8 x2.lo), .r (.int .u8 x2.hi)]) rfl ta_213 iL rfl rfl) (AOps.step rfl rfl rfl (ms_alloc (cs := [.r (.int .u8 0), .r (.int .u8 0)]) 9 rfl t0_213 rfl rfl) (AOps.step0 rfl rfl (ms_store_box (ds := [.r (.int .u8 x2.lo), .r (.int .u8 x2.hi)]) rfl tz_213 iL rfl iL rfl rfl rfl rfl) (aZ (hK13 _ ?_))))
   refine aS fun K14 hK14 wK14 => (aS fun K15 hK15 wK15 => ?_)
   refine AW.weak (s' := ⟨[(0, .r (.str s1)), (4, rI ((s1.length : Int))), (5, .r (.int .u8 (s01.toNat : Int))), (8, rI ((IntKind.i64.wrap (bAnd .u8 x1 7)))), (9, .ptr 9 n0 0 0)], [(9, some (.box n0 213 [.r (.int .u8 x2.lo), .r (.int .u8 x2.hi)]))], (n0 + 1), 117⟩) (by exact Weak.cv ⟨jL, jL, jL, jL, jL, trivial⟩ ⟨.inl rfl, trivial⟩ nL) ?_
   refine aR (sM rfl rfl (sM rfl rfl (sQ rfl (sp_lss rfl iL iL) (aZ (hK15 _ ?_)))))
   refine aC rfl (fun hc3 => ?_) (fun hc3 => ?_)
   ·have h6 := ite_t hc3 h5
    refine aS fun K16 hK16 wK16 => (aR (sA rfl rfl (sA rfl rfl (aZ (hK16 _ ?_)))))
    refine AW.ret ?_
    exact retf2 (P := prog) (fun (r : Int × Int) => .r (.int .i32 r.1)) (fun (r : Int × Int) => rI (r.2)) h6 iL (.t (.d rfl)) (.t (.d rfl))
   ·have h6 := ite_f hc3 h5
    refine AW.skip ?_
    refine hK14 _ ?_
    refine aS fun K17 hK17 wK17 => (aR (sM rfl rfl (ob1k h6 fun s11 es11 h7 => (sQ rfl (ms_idx_str rfl underlying9 iL iL (fun _ => es11)) (sA rfl rfl (aZ (hK17 _ ?_)))))))
    refine aS fun K18 hK18 wK18 => (aS fun K19 hK19 wK19 => (aR (sM rfl rfl (sQ rfl (fB rfl tf_213_0 iL fR rfl) (sQ rfl (ms_load_box (a := .r (.int .u8 x2.lo)) rfl ts_5 iL rfl rfl) (sQ rfl (sp_lss rfl iL iL) (sM rfl rfl (sV rfl rfl rfl (fB rfl tf_213_1 iL fR rfl) (sV rfl rfl rfl (ms_load_box (a := .r (.int .u8 x2.hi)) rfl ts_5 (iR rfl) rfl rfl) (sV rfl rfl rfl (sp_move rfl iL) (sV rfl rfl rfl (sp_lss rfl (iR rfl) (iR rfl)) (sQ rfl (sp_or rfl iL (iR rfl)) (aZ (hK19 _ ?_))))))))))))))
    refine aC rfl (fun hc4 => ?_) (fun hc4 => ?_)
    ·have h8 := ite_t hc4 h7
     refine aS fun K20 hK20 wK20 => ?_
     refine AW.weak (s' := ⟨[], [], (n0 + 1), 117⟩) (by exact Weak.cv trivial trivial nL) ?_
     refine aR (sA rfl rfl (sA rfl rfl (aZ (hK20 _ ?_))))
     refine AW.ret ?_
     exact retf2 (P := prog) (fun (r : Int × Int) => .r (.int .i32 r.1)) (fun (r : Int × Int) => rI (r.2)) h8 iL (.t (.d rfl)) (.t (.d rfl))
    ·have h8 := ite_f hc4 h7
     refine AW.skip ?_
     refine hK18 _ ?_
     refine aS fun K21 hK21 wK21 => (aS fun K22 hK22 wK22 => ?_)
     refine AW.weak (s' := ⟨[(0, .r (.str s1)), (5, .r (.int .u8 (s01.toNat : Int))), (8, rI ((IntKind.i64.wrap (bAnd .u8 x1 7)))), (10, .r (.int .u8 (s11.toNat : Int)))], [], (n0 + 1), 117⟩) (by exact Weak.cv ⟨jL, jL, jL, jL, trivial⟩ trivial nL) ?_
     refine aR (sM rfl rfl (sQ rfl (sp_leq rfl iL iL) (aZ (hK22 _ ?_))))
     refine aC rfl (fun hc5 => ?_) (fun hc5 => ?_)
     ·have h9 := ite_t hc5 h8
      refine aS fun K23 hK23 wK23 => (aR (sM rfl rfl (sQ rfl (sp_bAnd rfl iL iL) (sQ rfl (sp_convert_int rfl underlying5 underlying21 iL) (sQ rfl (sp_shl (b := 6) rfl iL iL) (sM rfl rfl (sQ rfl (sp_bAnd rfl iL iL) (sQ rfl (sp_convert_int rfl underlying5 underlying21 iL) (sQ rfl (sp_bOr rfl iL iL) (sA rfl rfl (sA rfl rfl (aZ (hK23 _ ?_)))))))))))))
      refine AW.ret ?_
      exact retf2 (P := prog) (fun (r : Int × Int) => .r (.int .i32 r.1)) (fun (r : Int × Int) => rI (r.2)) h9 iL (.t (.d rfl)) (.t (.d rfl))
     ·have h9 := ite_f hc5 h8
      refine AW.skip ?_
      refine hK21 _ ?_
      refine aS fun K24 hK24 wK24 => (aR (sM rfl rfl (ob1k h9 fun s21 es21 h10 => (sQ rfl (ms_idx_str rfl underlying9 iL iL (fun _ => es21)) (sA rfl rfl (aZ (hK24 _ ?_)))))))
      refine aS fun K25 hK25 wK25 => (aS fun K26 hK26 wK26 => (aR (sM rfl rfl (sQ rfl (sp_lss rfl iL iL) (sM rfl rfl (sV rfl rfl rfl (sp_move rfl iL) (sV rfl rfl rfl (sp_lss rfl iL (iR rfl)) (sQ rfl (sp_or rfl iL (iR rfl)) (aZ (hK26 _ ?_))))))))))
      refine aC rfl (fun hc6 => ?_) (fun hc6 => ?_)
      ·have h11 := ite_t hc6 h10
       refine aS fun K27 hK27 wK27 => ?_
       refine AW.weak (s' := ⟨[], [], (n0 + 1), 117⟩) (by exact Weak.cv trivial trivial nL) ?_
       refine aR (sA rfl rfl (sA rfl rfl (aZ (hK27 _ ?_))))
       refine AW.ret ?_
       exact retf2 (P := prog) (fun (r : Int × Int) => .r (.int .i32 r.1)) (fun (r : Int × Int) => rI (r.2)) h11 iL (.t (.d rfl)) (.t (.d rfl))
      ·have h11 := ite_f hc6 h10
       refine AW.skip ?_
       refine hK25 _ ?_
       refine aS fun K28 hK28 wK28 => (aS fun K29 hK29 wK29 => ?_)
       refine AW.weak (s' := ⟨[(0, .r (.str s1)), (5, .r (.int .u8 (s01.toNat : Int))), (8, rI ((IntKind.i64.wrap (bAnd .u8 x1 7)))), (10, .r (.int .u8 (s11.toNat : Int))), (11, .r (.int .u8 (s21.toNat : Int)))], [], (n0 + 1), 117⟩) (by exact Weak.cv ⟨jL, jL, jL, jL, jL, trivial⟩ trivial nL) ?_
       refine aR (sM rfl rfl (sQ rfl (sp_leq rfl iL iL) (aZ (hK29 _ ?_))))
       refine aC rfl (fun hc7 => ?_) (fun hc7 => ?_)
       ·have h12 := ite_t hc7 h11
        refine aS fun K30 hK30 wK30 => (aR (sM rfl rfl (sQ rfl (sp_bAnd rfl iL iL) (sQ rfl (sp_convert_int rfl underlying5 underlying21 iL) (sQ rfl (sp_shl (b := 12) rfl iL iL) (sM rfl rfl (sQ rfl (sp_bAnd rfl iL iL) (sQ rfl (sp_convert_int rfl underlying5 underlying21 iL) (sQ rfl (sp_shl (b := 6) rfl iL iL) (sQ rfl (sp_bOr rfl iL iL) (sM rfl rfl (sQ rfl (sp_bAnd rfl iL iL) (sQ rfl (sp_convert_int rfl underlying5 underlying21 iL) (sQ rfl (sp_bOr rfl iL iL) (sA rfl rfl (sA rfl rfl (aZ (hK30 _ ?_))))))))))))))))))
        refine AW.ret ?_
        exact retf2 (P := prog) (fun (r : Int × Int) => .r (.int .i32 r.1)) (fun (r : Int × Int) => rI (r.2)) h12 iL (.t (.d rfl)) (.t (.d rfl))
       ·have h12 := ite_f hc7 h11
        refine AW.skip ?_
        refine hK28 _ ?_
        refine aS fun K31 hK31 wK31 => (aR (sM rfl rfl (ob1k h12 fun s31 es31 h13 => (sQ rfl (ms_idx_str rfl underlying9 iL iL (fun _ => es31)) (sA rfl rfl (aZ (hK31 _ ?_)))))))
        refine aS fun K32 hK32 wK32 => (aS fun K33 hK33 wK33 => (aR (sM rfl rfl (sQ rfl (sp_lss rfl iL iL) (sM rfl rfl (sV rfl rfl rfl (sp_move rfl iL) (sV rfl rfl rfl (sp_lss rfl iL (iR rfl)) (sQ rfl (sp_or rfl iL (iR rfl)) (aZ (hK33 _ ?_))))))))))
        refine aC rfl (fun hc8 => ?_) (fun hc8 => ?_)
        ·have h14 := ite_t hc8 h13
         refine aS fun K34 hK34 wK34 => ?_
         refine AW.weak (s' := ⟨[], [], (n0 + 1), 117⟩) (by exact Weak.cv trivial trivial nL) ?_
         refine aR (sA rfl rfl (sA rfl rfl (aZ (hK34 _ ?_))))
         refine AW.ret ?_
         exact retf2 (P := prog) (fun (r : Int × Int) => .r (.int .i32 r.1)) (fun (r : Int × Int) => rI (r.2)) h14 iL (.t (.d rfl)) (.t (.d rfl))
        ·have h14 := ite_f hc8 h13
         refine AW.skip ?_
         refine hK32 _ ?_
         refine aS fun K35 hK35 wK35 => ?_
         refine AW.weak (s' := ⟨[(5, .r (.int .u8 (s01.toNat : Int))), (10, .r (.int .u8 (s11.toNat : Int))), (11, .r (.int .u8 (s21.toNat : Int))), (12, .r (.int .u8 (s31.toNat : Int)))], [], (n0 + 1), 117⟩) (by exact Weak.cv ⟨jL, jL, jL, jL, trivial⟩ trivial nL) ?_
         refine aR (sM rfl rfl (sQ rfl (sp_bAnd rfl iL iL) (sQ rfl (sp_convert_int rfl underlying5 underlying21 iL) (sQ rfl (sp_shl (b := 18) rfl iL iL) (sM rfl rfl (sQ rfl (sp_bAnd rfl iL iL) (sQ rfl (sp_convert_int rfl underlying5 underlying21 iL) (sQ rfl (sp_shl (b := 12) rfl iL iL) (sQ rfl (sp_bOr rfl iL iL) (sM rfl rfl (sQ rfl (sp_bAnd rfl iL iL) (sQ rfl (sp_convert_int rfl underlying5 underlying21 iL) (sQ rfl (sp_shl (b := 6) rfl iL iL) (sQ rfl (sp_bOr rfl iL iL) (sM rfl rfl (sQ rfl (sp_bAnd rfl iL iL) (sQ rfl (sp_convert_int rfl underlying5 underlying21 iL) (sQ rfl (sp_bOr rfl iL iL) (sA rfl rfl (sA rfl rfl (aZ (hK35 _ ?_))))))))))))))))))))))
         refine AW.ret ?_
         exact retf2 (P := prog) (fun (r : Int × Int) => .r (.int .i32 r.1)) (fun (r : Int × Int) => rI (r.2)) h14 iL (.t (.d rfl)) (.t (.d rfl))
theorem w_unicode_utf8_DecodeRuneInString {s1 : List UInt8} {r : Int × Int} (h : unicode_utf8_DecodeRuneInString s1 = some r) : ARO prog 60 [.r (.str s1)] (.tup [.r (.int .i32 r.1), rI (r.2)]) := by
 unfold unicode_utf8_DecodeRuneInString at h
 refine ARO.mkF func60 rfl rfl ntmps60 rfl (Nat.le_of_ble_eq_true rfl) fun n0 => ?_
 refine aS fun K1 hK1 wK1 => (aR (sA rfl rfl (sA rfl rfl (aZ (hK1 _ ?_)))))
 refine aS fun K2 hK2 wK2 => (aS fun K3 hK3 wK3 => (aR (sM rfl rfl (sQ rfl (sp_sneq rfl iL iL) (sM rfl rfl (sV rfl rfl rfl (sp_move rfl iL) (ob1k h fun ch1 ech1 h1 => (sV rfl rfl rfl (ms_idx_str rfl underlying9 (iR rfl) iL (gdt ech1)) (sV rfl rfl rfl (sp_lss rfl (iR rfl) iL) (sQ rfl (sp_and rfl iL (iR rfl)) (aZ (hK3 _ ?_))))))))))))
 refine aC rfl (fun hc1 => ?_) (fun hc1 => ?_)
 ·have h2 := ite_t hc1 h1
  refine aS fun K4 hK4 wK4 => ?_
  refine AW.weak (s' := ⟨[(0, .r (.str s1))], [], n0, 19⟩) (by exact Weak.cv ⟨jL, trivial⟩ trivial nL) ?_
  refine aR (sM rfl rfl (ob1k h2 fun ch2 ech2 h3 => (sQ rfl (ms_idx_str rfl underlying9 iL iL (fun _ => ech2)) (sQ rfl (sp_convert_int rfl underlying5 underlying21 iL) (sA rfl rfl (sA rfl rfl (aZ (hK4 _ ?_))))))))
  refine AW.ret ?_
  exact retf2 (P := prog) (fun (r : Int × Int) => .r (.int .i32 r.1)) (fun (r : Int × Int) => rI (r.2)) h3 iL (.t (.d rfl)) (.t (.d rfl))
 ·have h2 := ite_f hc1 h1
  refine AW.weak (s' := ⟨[(0, .r (.str s1))], [], n0, 19⟩) (by exact Weak.cv ⟨jL, trivial⟩ trivial nL) ?_
  refine aR (sM rfl rfl (ob2k h2 fun r1 r2 er1 h4 => (AOps.step rfl rfl rfl (sp_call (r := .tup [.r (.int .i32 r1), rI (r2)]) (caps := []) (bs := [.r (.str s1)]) rfl iL rfl ⟨⟨_, iL, .d rfl⟩, trivial⟩ (fun _ => w_unicode_utf8_decodeRuneInStringSlow (er1)) rfl) (sM rfl rfl (sQ rfl (sp_extract (a := .r (.int .i32 r1)) rfl iL rfl) (sQ rfl (sp_extract (a := rI (r2)) rfl iL rfl) (sA rfl rfl (sA rfl rfl (aZ (hK2 _ ?_))))))))))
  refine AW.ret ?_
  exact retf2 (P := prog) (fun (r : Int × Int) => .r (.int .i32 r.1)) (fun (r : Int × Int) => rI (r.2)) h4 iL (.t (.d rfl)) (.t (.d rfl))
theorem w_grid_Text {s1 : List UInt8} {r : Bool} (h : grid_Text s1 = some r) : ARO prog 167 [.r (.str s1)] (rB (r)) := by
 unfold grid_Text at h
 refine ARO.mkF func167 rfl rfl ntmps167 rfl (Nat.le_of_ble_eq_true rfl) fun n0 => ?_
 refine aS fun K1 hK1 wK1 => (aR (sA rfl rfl (aZ (hK1 _ ?_))))
 refine aS fun K2 hK2 wK2 => (AW.block ?_)
 refine jc1k h fun o1 hit1 hk1 he1 => ?_
 have J1 : ∀ (u2 : Unit) (i5 : Nat → Nat), o1 = .nrm u2 → K2 ⟨[], [], (i5 0), 31⟩ := by
  intro u2 i5 e
  have h1 := hk1 _ e
  refine hK2 _ ?_
  refine aS fun K3 hK3 wK3 => (aR (sA rfl rfl (aZ (hK3 _ ?_))))
  refine AW.ret ?_
  exact retf1 (P := prog) (fun (r : Bool) => rB (r)) h1 iL (.t (.d rfl))
 refine AW.iter1 (fun (s3 : List UInt8) i3 => ⟨[(0, .r (.str s3))], [], (i3 0), 31⟩) (vec [n0]) hit1 ((by exact Weak.cv ⟨jL, trivial⟩ trivial nL)) ?_
 intro s3 i3 v1 hv1 hx1
 have h2 : grid_Text_L1 s3 = some v1 := hv1; unfold grid_Text_L1 at h2
 refine aS fun K4 hK4 wK4 => (aS fun K5 hK5 wK5 => (aR (sM rfl rfl (sQ rfl (sp_sneq rfl iL iL) (aZ (hK5 _ ?_))))))
 refine aC rfl (fun hc1 => ?_) (fun hc1 => ?_)
 ·have h3 := ite_t hc1 h2
  refine AW.skip ?_
  refine hK4 _ ?_
  refine AW.block (aS fun K6 hK6 wK6 => (aR (sM rfl rfl (ob2k h3 fun r1 r2 er1 h4 => (AOps.step rfl rfl rfl (sp_call (r := .tup [.r (.int .i32 r1), rI (r2)]) (caps := []) (bs := [.r (.str s3)]) rfl iL rfl ⟨⟨_, iL, .d rfl⟩, trivial⟩ (fun _ => w_unicode_utf8_DecodeRuneInString (er1)) rfl) (sM rfl rfl (sQ rfl (sp_extract (a := .r (.int .i32 r1)) rfl iL rfl) (sQ rfl (sp_extract (a := rI (r2)) rfl iL rfl) (sA rfl rfl (sA rfl rfl (aZ (hK6 _ ?_))))))))))))
  refine aS fun K7 hK7 wK7 => (aS fun K8 hK8 wK8 => (aR (sM rfl rfl (sQ rfl (sp_eql rfl iL iL) (sM rfl rfl (sV rfl rfl rfl (sp_move rfl iL) (sV rfl rfl rfl (sp_eql rfl (iR rfl) iL) (sQ rfl (sp_and rfl iL (iR rfl)) (sM rfl rfl (sV rfl rfl rfl (sp_move rfl iL) (sV rfl rfl rfl (sp_eql rfl (iR rfl) iL) (sQ rfl (sp_or rfl iL (iR rfl)) (sM rfl rfl (sV rfl rfl rfl (sp_move rfl iL) (sV rfl rfl rfl (sp_convert_int rfl underlying21 underlying3 (iR rfl)) (ob1k h4 fun r3 er3 h5 => ?_))))))))))))))))
  refine AOps.stepW (.one rfl rfl rfl) rfl rfl (sp_call (r := rB (r3)) (caps := []) (bs := [rI ((IntKind.i64.wrap r1))]) rfl iL rfl ⟨⟨_, (iR rfl), .d rfl⟩, trivial⟩ (fun hg => w_flow_Char (gdt er3 hg)) rfl) ?_
  refine sV rfl rfl rfl (sp_not rfl (iR rfl)) (sQ rfl (sp_or rfl iL (iR rfl)) (aZ (hK8 _ ?_)))
  refine aC rfl (fun hc2 => ?_) (fun hc2 => ?_)
  ·have h6 := ite_t hc2 h5
   refine aS fun K9 hK9 wK9 => ?_
   refine AW.weak (s' := ⟨[], [], (i3 0), 31⟩) (by exact Weak.cv trivial trivial nL) ?_
   refine aR (sA rfl rfl (aZ (hK9 _ ?_)))
   refine AW.ret ?_
   exact retf1 (P := prog) (fun (r : Bool) => rB (r)) (he1 _ (hx1 _ (Option.some.inj h6).symm)) iL (.t (.d rfl))
  ·have h6 := ite_f hc2 h5
   refine AW.skip ?_
   refine hK7 _ ?_
   refine AW.weak (s' := ⟨[(0, .r (.str s3)), (4, rI (r2))], [], (i3 0), 31⟩) (by exact Weak.cv ⟨jL, jL, trivial⟩ trivial nL) ?_
   refine aR (sM rfl rfl (sM rfl rfl (ob1k h6 fun s5 es5 h7 => ?_)))
   refine sQ rfl (ms_slice_str rfl underlying9 iL (by exact ⟨_, iL⟩) (by exact rfl) (fun _ => es5)) ?_
   refine sA rfl rfl ?_
   refine AOps.nil ?_
   exact NextQ1.mk h7 (vec [(i3 0)]) ((by exact Weak.cv ⟨jL, trivial⟩ trivial nL))
 ·have h3 := ite_f hc1 h2
  refine AW.exit ?_
  exact wK2 _ _ ((by exact Weak.cv trivial trivial nL)) (J1 _ (vec [(i3 0)]) (hx1 _ (Option.some.inj h3).symm))
theorem w_grid_empty {c1 : GCell} {r : Bool} (h : grid_empty c1 = some r) : ARO prog 168 [.agg [rI (c1.Row), rI (c1.Col), .r (.str c1.Text), rI (c1.Ref), qa c1.Attrs]] (rB (r)) := by
 unfold grid_empty at h
 refine ARO.mkF func168 rfl rfl ntmps168 rfl (Nat.le_of_ble_eq_true rfl) fun n0 => ?_
 refine aS fun K1 hK1 wK1 => (aR (AOps.step rfl rfl rfl (ms_box (cs := [rI (c1.Row), rI (c1.Col), .r (.str c1.Text), rI (c1.Ref), qa c1.Attrs]) 1 rfl iL rfl rfl) (sA rfl rfl (aZ (hK1 _ ?_)))))
 refine aS fun K2 hK2 wK2 => (aR (sQ rfl (fB rfl tf_178_2 iL fR rfl) (sQ rfl (ms_load_box (a := .r (.str c1.Text)) rfl ts_9 iL rfl rfl) (sQ rfl (sp_seql rfl iL iL) (sM rfl rfl (sV rfl rfl rfl (fB rfl tf_178_3 iL fR rfl) (sV rfl rfl rfl (ms_load_box (a := rI (c1.Ref)) rfl ts_3 (iR rfl) rfl rfl) (sV rfl rfl rfl (sp_eql rfl (iR rfl) iL) (sQ rfl (sp_and rfl iL (iR rfl)) (sM rfl rfl (sV rfl rfl rfl (fB rfl tf_178_4 iL fR rfl) (sV rfl rfl rfl (ms_load_box (a := qa c1.Attrs) rfl ts_26 (iR rfl) rfl rfl) (sV rfl rfl rfl (ms_len rfl tg_26.slice (iR rfl)) (sV rfl rfl rfl (sp_eql rfl (iR rfl) iL) (sQ rfl (sp_and rfl iL (iR rfl)) (sA rfl rfl (aZ (hK2 _ ?_))))))))))))))))))
 refine AW.ret ?_
 exact retf1 (P := prog) (fun (r : Bool) => rB (r)) h iL (.t (.d rfl))
theorem w_cmp_isNaN_int {x1 : Int} {r : Bool} (h : cmp_isNaN_int x1 = some r) : ARO prog 204 [rI (x1)] (rB (r)) := by
 unfold cmp_isNaN_int at h
 refine ARO.mkF func204 rfl rfl ntmps204 rfl (Nat.le_of_ble_eq_true rfl) fun n0 => ?_
 refine aS fun K1 hK1 wK1 => (aR (sA rfl rfl (aZ (hK1 _ ?_))))
 refine aS fun K2 hK2 wK2 => (aR (sM rfl rfl (sM rfl rfl (sQ rfl (sp_neq rfl iL iL) (sA rfl rfl (aZ (hK2 _ ?_)))))))
 refine AW.ret ?_
 exact retf1 (P := prog) (fun (r : Bool) => rB (r)) h iL (.t (.d rfl))
theorem w_cmp_Compare_int {x1 : Int} {y1 : Int} {r : Int} (h : cmp_Compare_int x1 y1 = some r) : ARO prog 172 [rI (x1), rI (y1)] (rI (r)) := by
 unfold cmp_Compare_int at h
 refine ARO.mkF func172 rfl rfl ntmps172 rfl (Nat.le_of_ble_eq_true rfl) fun n0 => ?_
 refine aS fun K1 hK1 wK1 => (aR (sA rfl rfl (aZ (hK1 _ ?_))))
 refine aS fun K2 hK2 wK2 => (aR (sM rfl rfl (ob1k h fun xNaN1 exNaN1 h1 => (AOps.step rfl rfl rfl (sp_call (r := rB (xNaN1)) (caps := []) (bs := [rI (x1)]) rfl iL rfl ⟨⟨_, iL, .d rfl⟩, trivial⟩ (fun _ => w_cmp_isNaN_int (exNaN1)) rfl) (sA rfl rfl (aZ (hK2 _ ?_)))))))
 refine aS fun K3 hK3 wK3 => (aR (sM rfl rfl (ob1k h1 fun yNaN1 eyNaN1 h2 => (AOps.step rfl rfl rfl (sp_call (r := rB (yNaN1)) (caps := []) (bs := [rI (y1)]) rfl iL rfl ⟨⟨_, iL, .d rfl⟩, trivial⟩ (fun _ => w_cmp_isNaN_int (eyNaN1)) rfl) (sA rfl rfl (aZ (hK3 _ ?_)))))))
 refine aS fun K4 hK4 wK4 => (aS fun K5 hK5 wK5 => (aR (sM rfl rfl (aZ (hK5 _ ?_)))))
 refine aC rfl (fun hc1 => ?_) (fun hc1 => ?_)
 ·have h3 := ite_t hc1 h2
  refine aS fun K6 hK6 wK6 => (aS fun K7 hK7 wK7 => ?_)
  refine AW.weak (s' := ⟨[(6, rB (yNaN1))], [], n0, 20⟩) (by exact Weak.cv ⟨jL, trivial⟩ trivial nL) ?_
  refine aR (sM rfl rfl (aZ (hK7 _ ?_)))
  refine aC rfl (fun hc2 => ?_) (fun hc2 => ?_)
  ·have h4 := ite_t hc2 h3
   refine aS fun K8 hK8 wK8 => (aR (sA rfl rfl (aZ (hK8 _ ?_))))
   refine AW.ret ?_
   exact retf1 (P := prog) (fun (r : Int) => rI (r)) h4 iL (.t (.d rfl))
  ·have h4 := ite_f hc2 h3
   refine AW.skip ?_
   refine hK6 _ ?_
   refine aS fun K9 hK9 wK9 => (aR (sA rfl rfl (aZ (hK9 _ ?_))))
   refine AW.ret ?_
   exact retf1 (P := prog) (fun (r : Int) => rI (r)) h4 iL (.t (.d rfl))
 ·have h3 := ite_f hc1 h2
  refine AW.skip ?_
  refine hK4 _ ?_
  refine aS fun K10 hK10 wK10 => (aS fun K11 hK11 wK11 => (aR (sM rfl rfl (aZ (hK11 _ ?_)))))
  refine aC rfl (fun hc3 => ?_) (fun hc3 => ?_)
  ·have h5 := ite_t hc3 h3
   refine aS fun K12 hK12 wK12 => ?_
   refine AW.weak (s' := ⟨[], [], n0, 20⟩) (by exact Weak.cv trivial trivial nL) ?_
   refine aR (sA rfl rfl (aZ (hK12 _ ?_)))
   refine AW.ret ?_
   exact retf1 (P := prog) (fun (r : Int) => rI (r)) h5 iL (.t (.d rfl))
  ·have h5 := ite_f hc3 h3
   refine AW.skip ?_
   refine hK10 _ ?_
   refine aS fun K13 hK13 wK13 => (aS fun K14 hK14 wK14 => ?_)
   refine AW.weak (s' := ⟨[(0, rI (x1)), (1, rI (y1))], [], n0, 20⟩) (by exact Weak.cv ⟨jL, jL, trivial⟩ trivial nL) ?_
   refine aR (sM rfl rfl (sM rfl rfl (sQ rfl (sp_lss rfl iL iL) (aZ (hK14 _ ?_)))))
   refine aC rfl (fun hc4 => ?_) (fun hc4 => ?_)
   ·have h6 := ite_t hc4 h5
    refine aS fun K15 hK15 wK15 => (aR (sA rfl rfl (aZ (hK15 _ ?_))))
    refine AW.ret ?_
    exact retf1 (P := prog) (fun (r : Int) => rI (r)) h6 iL (.t (.d rfl))
   ·have h6 := ite_f hc4 h5
    refine AW.skip ?_
    refine hK13 _ ?_
    refine aS fun K16 hK16 wK16 => (aS fun K17 hK17 wK17 => (aR (sM rfl rfl (sM rfl rfl (sQ rfl (sp_gtr rfl iL iL) (aZ (hK17 _ ?_)))))))
    refine aC rfl (fun hc5 => ?_) (fun hc5 => ?_)
    ·have h7 := ite_t hc5 h6
     refine aS fun K18 hK18 wK18 => (aR (sA rfl rfl (aZ (hK18 _ ?_))))
     refine AW.ret ?_
     exact retf1 (P := prog) (fun (r : Int) => rI (r)) h7 iL (.t (.d rfl))
    ·have h7 := ite_f hc5 h6
     refine AW.skip ?_
     refine hK16 _ ?_
     refine aS fun K19 hK19 wK19 => (aR (sA rfl rfl (aZ (hK19 _ ?_))))
     refine AW.ret ?_
     exact retf1 (P := prog) (fun (r : Int) => rI (r)) h7 iL (.t (.d rfl))
theorem w_cmp_Or_int {vals1 : List Int} {r : Int} (h : cmp_Or_int vals1 = some r) : ARO prog 171 [.r (.sl (vals1.map (rInt .i64)))] (rI (r)) := by
 unfold cmp_Or_int at h
 refine ARO.mkF func171 rfl rfl ntmps171 rfl (Nat.le_of_ble_eq_true rfl) fun n0 => ?_
 refine aS fun K1 hK1 wK1 => (aR (sA rfl rfl (aZ (hK1 _ ?_))))
 refine aS fun K2 hK2 wK2 => (aR (sA rfl rfl (aZ (hK2 _ ?_))))
 refine aS fun K3 hK3 wK3 => (aS fun K4 hK4 wK4 => (aR (sM rfl rfl (sQ rfl (ms_len rfl tg_72.slice iL) (sM rfl rfl (aZ (hK4 _ ?_)))))))
 refine AW.block ?_
 refine jc1k h fun o1 hit1 hk1 he1 => ?_
 have J1 : ∀ (u2 : Unit) (i5 : Nat → Nat), o1 = .nrm u2 → K3 ⟨[(3, rI (0))], [], (i5 0), 18⟩ := by
  intro u2 i5 e
  have h1 := hk1 _ e
  refine hK3 _ ?_
  refine aS fun K5 hK5 wK5 => (aR (sM rfl rfl (sA rfl rfl (aZ (hK5 _ ?_)))))
  refine AW.ret ?_
  exact retf1 (P := prog) (fun (r : Int) => rI (r)) h1 iL (.t (.d rfl))
 refine AW.iter1 (fun (x2 : Int) i3 => ⟨[(3, rI (0)), (6, .r (.sl (vals1.map (rInt .i64)))), (7, rI ((vals1.length : Int))), (8, rI (x2))], [], (i3 0), 18⟩) (vec [n0]) hit1 ((by exact Weak.cv ⟨jL, jL, jL, jL, trivial⟩ trivial nL)) ?_
 intro x2 i3 v1 hv1 hx1
 have h2 : cmp_Or_int_L1 vals1 x2 = some v1 := hv1; unfold cmp_Or_int_L1 at h2
 refine aS fun K6 hK6 wK6 => (aR (sQ rfl (sp_lss rfl iL iL) (aZ (hK6 _ ?_))))
 refine aS fun K7 hK7 wK7 => ?_
 refine aC rfl (fun hc1 => ?_) (fun hc1 => ?_)
 ·have h3 := ite_t hc1 h2
  refine AW.skip ?_
  refine hK7 _ ?_
  refine aS fun K8 hK8 wK8 => (AW.block (aS fun K9 hK9 wK9 => (aR (ob1k h3 fun x4 ex4 h4 => (sQ rfl (ms_idx rfl tg_72.slice iL iL (fun _ => rfl) (fun _ => ex4)) (sQ rfl (ms_load (d := .int .i64 x4) rfl ts_3 iL rfl) (sA rfl rfl (aZ (hK9 _ ?_)))))))))
  refine aS fun K10 hK10 wK10 => (aR (sM rfl rfl (sM rfl rfl (sQ rfl (sp_neq rfl iL iL) (aZ (hK10 _ ?_))))))
  refine aC rfl (fun hc2 => ?_) (fun hc2 => ?_)
  ·have h5 := ite_t hc2 h4
   refine aS fun K11 hK11 wK11 => ?_
   refine AW.weak (s' := ⟨[(5, rI (x4))], [], (i3 0), 18⟩) (by exact Weak.cv ⟨jL, trivial⟩ trivial nL) ?_
   refine aR (sM rfl rfl (sA rfl rfl (aZ (hK11 _ ?_))))
   refine AW.ret ?_
   exact retf1 (P := prog) (fun (r : Int) => rI (r)) (he1 _ (hx1 _ (Option.some.inj h5).symm)) iL (.t (.d rfl))
  ·have h5 := ite_f hc2 h4
   refine AW.skip ?_
   refine hK8 _ ?_
   refine aR (ob1k h5 fun x5 ex5 h6 => (sQ rfl (ms_add rfl iL iL (fun _ => ex5)) (sM rfl rfl ?_)))
   refine AOps.nil ?_
   exact NextQ1.mk h6 (vec [(i3 0)]) ((by exact Weak.cv ⟨jL, jL, jL, jL, trivial⟩ trivial nL))
 ·have h3 := ite_f hc1 h2
  refine AW.exit ?_
  exact wK3 _ _ ((by exact Weak.cv ⟨jL, trivial⟩ trivial nL)) (J1 _ (vec [(i3 0)]) (hx1 _ (Option.some.inj h3).symm))
theorem w_grid_order {a1 : GCell} {b1 : GCell} {r : Int} (h : grid_order a1 b1 = some r) : ARO prog 169 [.agg [rI (a1.Row), rI (a1.Col), .r (.str a1.Text), rI (a1.Ref), qa a1.Attrs], .agg [rI (b1.Row), rI (b1.Col), .r (.str b1.Text), rI (b1.Ref), qa b1.Attrs]] (rI (r)) := by
 unfold grid_order at h
 refine ARO.mkF func169 rfl rfl ntmps169 rfl (Nat.le_of_ble_eq_true rfl) fun n0 => ?_
 refine aS fun K1 hK1 wK1 => (aR (AOps.step rfl rfl rfl (ms_box (cs := [rI (a1.Row), rI (a1.Col), .r (.str a1.Text), rI (a1.Ref), qa a1.Attrs]) 2 rfl iL rfl rfl) (AOps.step rfl rfl rfl (ms_box (cs := [rI (b1.Row), rI (b1.Col), .r (.str b1.Text), rI (b1.Ref), qa b1.Attrs]) 3 rfl iL rfl rfl) (sA rfl rfl (aZ (hK1 _ ?_))))))
 refine aS fun K2 hK2 wK2 => (ob1k h fun r1 er1 h1 => ?_)
 refine AW.regionP 9 [⟨some 5, (fun _ => .ptr 2 n0 0 0), none, []⟩, ⟨some 6, (fun _ => rI (a1.Row)), none, []⟩, ⟨some 7, (fun _ => .ptr 3 (n0 + 1) 0 0), none, []⟩, ⟨some 8, (fun _ => rI (b1.Row)), none, []⟩, ⟨some 9, (fun _ => rI (r1)), none, []⟩, ⟨some 10, (fun _ => .ptr 2 n0 0 1), none, []⟩, ⟨some 11, (fun _ => rI (a1.Col)), none, []⟩, ⟨some 12, (fun _ => .ptr 3 (n0 + 1) 0 1), none, []⟩, ⟨some 13, (fun _ => rI (b1.Col)), none, []⟩] hmix (by kernel_rfl) (by exact ⟨fun _ _ h => ⟨rfl, fun _ _ e => by cases e⟩, fun _ _ h => ⟨rfl, fun _ _ e => by cases e⟩, fun _ _ h => ⟨rfl, fun _ _ e => by cases e⟩, fun _ _ h => ⟨rfl, fun _ _ e => by cases e⟩, fun _ _ h => ⟨rfl, fun _ _ e => by cases e⟩, fun _ _ h => ⟨rfl, fun _ _ e => by cases e⟩, fun _ _ h => ⟨rfl, fun _ _ e => by cases e⟩, fun _ _ h => ⟨rfl, fun _ _ e => by cases e⟩, fun _ _ h => ⟨rfl, fun _ _ e => by cases e⟩, trivial⟩) rfl (by exact ⟨Ob.quiet (n1 := fun n => n) rfl rfl (by intro d h; cases h; rfl) rfl (fun _ => [(2, .ptr 2 n0 0 0)]) (fun _ => [(2, some (.box n0 178 [rI (a1.Row), rI (a1.Col), .r (.str a1.Text), rI (a1.Ref), qa a1.Attrs]))]) (fun D G1 hr => ⟨inE_base rfl rfl, trivial⟩) (fun D G1 hr => ⟨inH_base rfl rfl, trivial⟩) (fun _ _ => rfl) (fun G1 e h' n => OpQ.spec (v := .ptr 2 n0 0 0) (fB rfl tf_178_0 (.inl rfl) (fun _ => rfl) rfl) _),
   Ob.quiet (n1 := fun n => n) rfl rfl (by intro d h; cases h; rfl) rfl (fun _ => [(5, .ptr 2 n0 0 0)]) (fun _ => [(2, some (.box n0 178 [rI (a1.Row), rI (a1.Col), .r (.str a1.Text), rI (a1.Ref), qa a1.Attrs]))]) (fun D G1 hr => ⟨inE_op hr 0 rfl rfl (by kernel_rfl) rfl rfl, trivial⟩) (fun D G1 hr => ⟨inH_base rfl rfl, trivial⟩) (fun _ _ => rfl) (fun G1 e h' n => OpQ.spec (v := rI (a1.Row)) (ms_load_box (a := rI (a1.Row)) rfl ts_3 (.inl rfl) rfl rfl) _),
   Ob.quiet (n1 := fun n => n) rfl rfl (by intro d h; cases h; rfl) rfl (fun _ => [(3, .ptr 3 (n0 + 1) 0 0)]) (fun _ => [(3, some (.box (n0 + 1) 178 [rI (b1.Row), rI (b1.Col), .r (.str b1.Text), rI (b1.Ref), qa b1.Attrs]))]) (fun D G1 hr => ⟨inE_base rfl rfl, trivial⟩) (fun D G1 hr => ⟨inH_base rfl rfl, trivial⟩) (fun _ _ => rfl) (fun G1 e h' n => OpQ.spec (v := .ptr 3 (n0 + 1) 0 0) (fB rfl tf_178_0 (.inl rfl) (fun _ => rfl) rfl) _),
   Ob.quiet (n1 := fun n => n) rfl rfl (by intro d h; cases h; rfl) rfl (fun _ => [(7, .ptr 3 (n0 + 1) 0 0)]) (fun _ => [(3, some (.box (n0 + 1) 178 [rI (b1.Row), rI (b1.Col), .r (.str b1.Text), rI (b1.Ref), qa b1.Attrs]))]) (fun D G1 hr => ⟨inE_op hr 2 rfl rfl (by kernel_rfl) rfl rfl, trivial⟩) (fun D G1 hr => ⟨inH_base rfl rfl, trivial⟩) (fun _ _ => rfl) (fun G1 e h' n => OpQ.spec (v := rI (b1.Row)) (ms_load_box (a := rI (b1.Row)) rfl ts_3 (.inl rfl) rfl rfl) _),
   Ob.quiet (n1 := fun n => n) rfl rfl (by intro d h; cases h; rfl) rfl (fun _ => [(6, rI (a1.Row)), (8, rI (b1.Row))]) (fun _ => []) (fun D G1 hr => ⟨inE_op hr 1 rfl rfl (by kernel_rfl) rfl rfl, inE_op hr 3 rfl rfl (by kernel_rfl) rfl rfl, trivial⟩) (fun D G1 hr => trivial) (fun _ _ => rfl) (fun G1 e h' n => sp_call (r := rI (r1)) (caps := []) (bs := [rI (a1.Row), rI (b1.Row)]) rfl (.inl rfl) rfl ⟨⟨_, (.inl rfl), .d rfl⟩, ⟨_, (.inl rfl), .d rfl⟩, trivial⟩ (fun _ => w_cmp_Compare_int (er1)) rfl),
   Ob.quiet (n1 := fun n => n) rfl rfl (by intro d h; cases h; rfl) rfl (fun _ => [(2, .ptr 2 n0 0 0)]) (fun _ => [(2, some (.box n0 178 [rI (a1.Row), rI (a1.Col), .r (.str a1.Text), rI (a1.Ref), qa a1.Attrs]))]) (fun D G1 hr => ⟨inE_base rfl rfl, trivial⟩) (fun D G1 hr => ⟨inH_base rfl rfl, trivial⟩) (fun _ _ => rfl) (fun G1 e h' n => OpQ.spec (v := .ptr 2 n0 0 1) (fB rfl tf_178_1 (.inl rfl) (fun _ => rfl) rfl) _),
   Ob.quiet (n1 := fun n => n) rfl rfl (by intro d h; cases h; rfl) rfl (fun _ => [(10, .ptr 2 n0 0 1)]) (fun _ => [(2, some (.box n0 178 [rI (a1.Row), rI (a1.Col), .r (.str a1.Text), rI (a1.Ref), qa a1.Attrs]))]) (fun D G1 hr => ⟨inE_op hr 5 rfl rfl (by kernel_rfl) rfl rfl, trivial⟩) (fun D G1 hr => ⟨inH_base rfl rfl, trivial⟩) (fun _ _ => rfl) (fun G1 e h' n => OpQ.spec (v := rI (a1.Col)) (ms_load_box (a := rI (a1.Col)) rfl ts_3 (.inl rfl) rfl rfl) _),
   Ob.quiet (n1 := fun n => n) rfl rfl (by intro d h; cases h; rfl) rfl (fun _ => [(3, .ptr 3 (n0 + 1) 0 0)]) (fun _ => [(3, some (.box (n0 + 1) 178 [rI (b1.Row), rI (b1.Col), .r (.str b1.Text), rI (b1.Ref), qa b1.Attrs]))]) (fun D G1 hr => ⟨inE_base rfl rfl, trivial⟩) (fun D G1 hr => ⟨inH_base rfl rfl, trivial⟩) (fun _ _ => rfl) (fun G1 e h' n => OpQ.spec (v := .ptr 3 (n0 + 1) 0 1) (fB rfl tf_178_1 (.inl rfl) (fun _ => rfl) rfl) _),
   Ob.quiet (n1 := fun n => n) rfl rfl (by intro d h; cases h; rfl) rfl (fun _ => [(12, .ptr 3 (n0 + 1) 0 1)]) (fun _ => [(3, some (.box (n0 + 1) 178 [rI (b1.Row), rI (b1.Col), .r (.str b1.Text), rI (b1.Ref), qa b1.Attrs]))]) (fun D G1 hr => ⟨inE_op hr 7 rfl rfl (by kernel_rfl) rfl rfl, trivial⟩) (fun D G1 hr => ⟨inH_base rfl rfl, trivial⟩) (fun _ _ => rfl) (fun G1 e h' n => OpQ.spec (v := rI (b1.Col)) (ms_load_box (a := rI (b1.Col)) rfl ts_3 (.inl rfl) rfl rfl) _),
   trivial⟩) fun G1 n1 => ?_
 refine AOps.weak (s' := ⟨[(0, .agg [rI (a1.Row), rI (a1.Col), .r (.str a1.Text), rI (a1.Ref), qa a1.Attrs]), (1, .agg [rI (b1.Row), rI (b1.Col), .r (.str b1.Text), rI (b1.Ref), qa b1.Attrs]), (2, .ptr 2 n0 0 0), (3, .ptr 3 (n0 + 1) 0 0), (4, rI (0)), (5, .ptr 2 n0 0 0), (6, rI (a1.Row)), (7, .ptr 3 (n0 + 1) 0 0), (8, rI (b1.Row)), (9, rI (r1)), (10, .ptr 2 n0 0 1), (11, rI (a1.Col)), (12, .ptr 3 (n0 + 1) 0 1), (13, rI (b1.Col))], [(2, some (.box n0 178 [rI (a1.Row), rI (a1.Col), .r (.str a1.Text), rI (a1.Ref), qa a1.Attrs])), (3, some (.box (n0 + 1) 178 [rI (b1.Row), rI (b1.Col), .r (.str b1.Text), rI (b1.Ref), qa b1.Attrs]))], n1, 17⟩) (by exact Weak.cv ⟨jL, jL, jL, jL, jL, jL, jL, jL, jL, jL, jL, jL, jL, jL, trivial⟩ ⟨.inl rfl, .inl rfl, trivial⟩ nL) ?_
 refine ob1k h1 fun r2 er2 h2 => (AOps.step rfl rfl rfl (sp_call (r := rI (r2)) (caps := []) (bs := [rI (a1.Col), rI (b1.Col)]) rfl iL rfl ⟨⟨_, iL, .d rfl⟩, ⟨_, iL, .d rfl⟩, trivial⟩ (fun _ => w_cmp_Compare_int (er2)) rfl) (AOps.step rfl rfl rfl (ms_lit 15 rfl tg_72 (f := (rInt .i64)) (l := ([r1, r2] : List Int)) ⟨rfl, ⟨_, iL, rfl⟩, rfl, ⟨_, iL, rfl⟩, trivial⟩ rfl (fun _ => rfl) rfl) (ob1k h2 fun r3 er3 h3 => (AOps.step rfl rfl rfl (sp_call (r := rI (r3)) (caps := []) (bs := [.r (.sl ([r1, r2].map (rInt .i64)))]) rfl iL rfl ⟨⟨_, iL, .one (.own rfl)⟩, trivial⟩ (fun _ => w_cmp_Or_int (er3)) rfl) (sA rfl rfl (aZ (hK2 _ ?_)))))))
 refine AW.ret ?_
 exact retf1 (P := prog) (fun (r : Int) => rI (r)) h3 iL (.t (.d rfl))
theorem w_grid_cells {l1 : List GCell} {rows1 : Int} {cols1 : Int} {none1 : Bool} {r : Int} (h : grid_cells l1 rows1 cols1 none1 = some r) : ARO prog 116 [qc l1, rI (rows1), rI (cols1), rB (none1)] (rI (r)) := by
 unfold grid_cells at h
 refine ARO.mkF func116 rfl rfl ntmps116 rfl (Nat.le_of_ble_eq_true rfl) fun n0 => ?_
 refine aS fun K1 hK1 wK1 => (aR (sA rfl rfl (aZ (hK1 _ ?_))))
 refine aS fun K2 hK2 wK2 => (aS fun K3 hK3 wK3 => (aR (sM rfl rfl (sQ rfl (ms_len rfl tg_28.slice iL) (sM rfl rfl (aZ (hK3 _ ?_)))))))
 refine AW.block ?_
 refine jc1k h fun o1 hit1 hk1 he1 => ?_
 have J1 : ∀ (u2 : Unit) (i5 : Nat → Nat), o1 = .nrm u2 → K2 ⟨[], [], (i5 0), 79⟩ := by
  intro u2 i5 e
  have h1 := hk1 _ e
  refine hK2 _ ?_
  refine aS fun K4 hK4 wK4 => (aR (sA rfl rfl (aZ (hK4 _ ?_))))
  refine AW.ret ?_
  exact retf1 (P := prog) (fun (r : Int) => rI (r)) h1 iL (.t (.d rfl))
 refine AW.iter1 (fun (x2 : Int) i3 => ⟨[(0, qc l1), (1, rI (rows1)), (2, rI (cols1)), (3, rB (none1)), (12, qc l1), (13, rI ((l1.length : Int))), (14, rI (x2))], [], (i3 0), 79⟩) (vec [n0]) hit1 ((by exact Weak.cv ⟨jL, jL, jL, jL, jL, jL, jL, trivial⟩ trivial nL)) ?_
 intro x2 i3 v1 hv1 hx1
 have h2 : grid_cells_L1 l1 rows1 cols1 none1 x2 = some v1 := hv1; unfold grid_cells_L1 at h2
 refine aS fun K5 hK5 wK5 => (aR (sQ rfl (sp_lss rfl iL iL) (aZ (hK5 _ ?_))))
 refine aS fun K6 hK6 wK6 => ?_
 refine aC rfl (fun hc1 => ?_) (fun hc1 => ?_)
 ·have h3 := ite_t hc1 h2
  refine AW.skip ?_
  refine hK6 _ ?_
  refine aS fun K7 hK7 wK7 => (AW.block (aS fun K8 hK8 wK8 => (aR (sM rfl rfl (ob1k h3 fun x4 ex4 h4 => (sQ rfl (ms_idx rfl tg_28.slice iL iL (fun _ => rfl) (fun _ => ex4)) (sQ rfl (ms_loadA (cs := [rI (x4.Row), rI (x4.Col), .r (.str x4.Text), rI (x4.Ref), qa x4.Attrs]) rfl ta_178 iL rfl rfl) (AOps.step rfl rfl rfl (ms_alloc (cs := [rI (0), rI (0), .r (.str []), rI (0), .cst (.slice none 0 0)]) 10 rfl t0_178 rfl rfl) (sA rfl rfl (AOps.step0 rfl rfl (ms_store_box (ds := [rI (x4.Row), rI (x4.Col), .r (.str x4.Text), rI (x4.Ref), qa x4.Attrs]) rfl tz_178 iL rfl iL rfl rfl rfl rfl) (aZ (hK8 _ ?_))))))))))))
  refine aS fun K9 hK9 wK9 => (AW.block (aS fun K10 hK10 wK10 => (aR (sQ rfl (fB rfl tf_178_0 iL fR rfl) (sQ rfl (ms_load_box (a := rI (x4.Row)) rfl ts_3 iL rfl rfl) (sQ rfl (sp_lss rfl iL iL) (sM rfl rfl (sV rfl rfl rfl (fB rfl tf_178_0 iL fR rfl) (sV rfl rfl rfl (ms_load_box (a := rI (x4.Row)) rfl ts_3 (iR rfl) rfl rfl) (sV rfl rfl rfl (sp_move rfl iL) (sV rfl rfl rfl (sp_geq rfl (iR rfl) (iR rfl)) (sQ rfl (sp_or rfl iL (iR rfl)) (sM rfl rfl (sV rfl rfl rfl (fB rfl tf_178_1 iL fR rfl) (sV rfl rfl rfl (ms_load_box (a := rI (x4.Col)) rfl ts_3 (iR rfl) rfl rfl) (sV rfl rfl rfl (sp_lss rfl (iR rfl) iL) (sQ rfl (sp_or rfl iL (iR rfl)) (sM rfl rfl (sV rfl rfl rfl (fB rfl tf_178_1 iL fR rfl) (sV rfl rfl rfl (ms_load_box (a := rI (x4.Col)) rfl ts_3 (iR rfl) rfl rfl) (sV rfl rfl rfl (sp_move rfl iL) (sV rfl rfl rfl (sp_geq rfl (iR rfl) (iR rfl)) (sQ rfl (sp_or rfl iL (iR rfl)) (sA rfl rfl (aZ (hK10 _ ?_))))))))))))))))))))))))))
  refine aC rfl (fun hc2 => ?_) (fun hc2 => ?_)
  ·have h5 := ite_t hc2 h4
   refine aS fun K11 hK11 wK11 => ?_
   refine AW.weak (s' := ⟨[], [], ((i3 0) + 1), 79⟩) (by exact Weak.cv trivial trivial nL) ?_
   refine aR (sA rfl rfl (aZ (hK11 _ ?_)))
   refine AW.ret ?_
   exact retf1 (P := prog) (fun (r : Int) => rI (r)) (he1 _ (hx1 _ (Option.some.inj h5).symm)) iL (.t (.d rfl))
  ·have h5 := ite_f hc2 h4
   refine aS fun K12 hK12 wK12 => ?_
   refine AW.weak (s' := ⟨[(0, qc l1), (1, rI (rows1)), (2, rI (cols1)), (3, rB (none1)), (9, rI (x2)), (10, .ptr 10 (i3 0) 0 0), (12, qc l1), (13, rI ((l1.length : Int))), (14, rI (x2))], [(10, some (.box (i3 0) 178 [rI (x4.Row), rI (x4.Col), .r (.str x4.Text), rI (x4.Ref), qa x4.Attrs]))], ((i3 0) + 1), 79⟩) (by exact Weak.cv ⟨jL, jL, jL, jL, jL, jL, jL, jL, jL, trivial⟩ ⟨.inl rfl, trivial⟩ nL) ?_
   refine aR (sQ rfl (fB rfl tf_178_3 iL fR rfl) (sQ rfl (ms_load_box (a := rI (x4.Ref)) rfl ts_3 iL rfl rfl) (sQ rfl (sp_lss rfl iL iL) (sM rfl rfl (sV rfl rfl rfl (fB rfl tf_178_3 iL fR rfl) (sV rfl rfl rfl (ms_load_box (a := rI (x4.Ref)) rfl ts_3 (iR rfl) rfl rfl) (sV rfl rfl rfl (sp_gtr rfl (iR rfl) iL) (sQ rfl (sp_or rfl iL (iR rfl)) (sA rfl rfl (aZ (hK12 _ ?_)))))))))))
   refine aC rfl (fun hc3 => ?_) (fun hc3 => ?_)
   ·have h6 := ite_t hc3 h5
    refine aS fun K13 hK13 wK13 => ?_
    refine AW.weak (s' := ⟨[], [], ((i3 0) + 1), 79⟩) (by exact Weak.cv trivial trivial nL) ?_
    refine aR (sA rfl rfl (aZ (hK13 _ ?_)))
    refine AW.ret ?_
    exact retf1 (P := prog) (fun (r : Int) => rI (r)) (he1 _ (hx1 _ (Option.some.inj h6).symm)) iL (.t (.d rfl))
   ·have h6 := ite_f hc3 h5
    refine aS fun K14 hK14 wK14 => (aR (sQ rfl (fB rfl tf_178_2 iL fR rfl) (sQ rfl (ms_load_box (a := .r (.str x4.Text)) rfl ts_9 iL rfl rfl) (ob1k h6 fun r1 er1 h7 => (AOps.step rfl rfl rfl (sp_call (r := rB (r1)) (caps := []) (bs := [.r (.str x4.Text)]) rfl iL rfl ⟨⟨_, iL, .d rfl⟩, trivial⟩ (fun _ => w_grid_Text (er1)) rfl) (sQ rfl (sp_not rfl iL) (sA rfl rfl (aZ (hK14 _ ?_)))))))))
    refine aC rfl (fun hc4 => ?_) (fun hc4 => ?_)
    ·have h8 := ite_t hc4 h7
     refine aS fun K15 hK15 wK15 => ?_
     refine AW.weak (s' := ⟨[], [], ((i3 0) + 1), 79⟩) (by exact Weak.cv trivial trivial nL) ?_
     refine aR (sA rfl rfl (aZ (hK15 _ ?_)))
     refine AW.ret ?_
     exact retf1 (P := prog) (fun (r : Int) => rI (r)) (he1 _ (hx1 _ (Option.some.inj h8).symm)) iL (.t (.d rfl))
    ·have h8 := ite_f hc4 h7
     refine AW.skip ?_
     refine hK9 _ ?_
     refine aS fun K16 hK16 wK16 => (aS fun K17 hK17 wK17 => ?_)
     refine AW.weak (s' := ⟨[(0, qc l1), (1, rI (rows1)), (2, rI (cols1)), (3, rB (none1)), (9, rI (x2)), (10, .ptr 10 (i3 0) 0 0), (12, qc l1), (13, rI ((l1.length : Int))), (14, rI (x2))], [(10, some (.box (i3 0) 178 [rI (x4.Row), rI (x4.Col), .r (.str x4.Text), rI (x4.Ref), qa x4.Attrs]))], ((i3 0) + 1), 79⟩) (by exact Weak.cv ⟨jL, jL, jL, jL, jL, jL, jL, jL, jL, trivial⟩ ⟨.inl rfl, trivial⟩ nL) ?_
     refine aR (sQ rfl (fB rfl tf_178_4 iL fR rfl) (sQ rfl (ms_load_box (a := qa x4.Attrs) rfl ts_26 iL rfl rfl) (ob1k h8 fun e1 ee1 h9 => (AOps.step rfl rfl rfl (sp_call (r := rI (e1)) (caps := []) (bs := [qa x4.Attrs]) rfl iL rfl ⟨⟨_, iL, .d rfl⟩, trivial⟩ (fun _ => w_attr_Check (ee1)) rfl) (sA rfl rfl (aZ (hK17 _ ?_)))))))
     refine aS fun K18 hK18 wK18 => (aR (sM rfl rfl (sQ rfl (sp_neq rfl iL iL) (aZ (hK18 _ ?_)))))
     refine aC rfl (fun hc5 => ?_) (fun hc5 => ?_)
     ·have h10 := ite_t hc5 h9
      refine aS fun K19 hK19 wK19 => ?_
      refine AW.weak (s' := ⟨[(11, rI (e1))], [], ((i3 0) + 1), 79⟩) (by exact Weak.cv ⟨jL, trivial⟩ trivial nL) ?_
      refine aR (sM rfl rfl (sA rfl rfl (aZ (hK19 _ ?_))))
      refine AW.ret ?_
      exact retf1 (P := prog) (fun (r : Int) => rI (r)) (he1 _ (hx1 _ (Option.some.inj h10).symm)) iL (.t (.d rfl))
     ·have h10 := ite_f hc5 h9
      refine AW.skip ?_
      refine hK16 _ ?_
      refine aS fun K20 hK20 wK20 => (aS fun K21 hK21 wK21 => (aR (sQ rfl (ms_loadA_box rfl ta_178 iL rfl rfl) (ob1k h10 fun r2 er2 h11 => (AOps.step rfl rfl rfl (sp_call (r := rB (r2)) (caps := []) (bs := [.agg [rI (x4.Row), rI (x4.Col), .r (.str x4.Text), rI (x4.Ref), qa x4.Attrs]]) rfl iL rfl ⟨⟨_, iL, .g (cs := [.int .i64 x4.Row, .int .i64 x4.Col, .str x4.Text, .int .i64 x4.Ref, .sl (x4.Attrs.map GAttr.row)]) rfl rfl⟩, trivial⟩ (fun _ => w_grid_empty (er2)) rfl) (sM rfl rfl (sV rfl rfl rfl (sp_move rfl iL) (sV rfl rfl rfl (sp_not rfl (iR rfl)) (sQ rfl (sp_and rfl iL (iR rfl)) (aZ (hK21 _ ?_)))))))))))
      refine aC rfl (fun hc6 => ?_) (fun hc6 => ?_)
      ·have h12 := ite_t hc6 h11
       refine aS fun K22 hK22 wK22 => ?_
       refine AW.weak (s' := ⟨[], [], ((i3 0) + 1), 79⟩) (by exact Weak.cv trivial trivial nL) ?_
       refine aR (sA rfl rfl (aZ (hK22 _ ?_)))
       refine AW.ret ?_
       exact retf1 (P := prog) (fun (r : Int) => rI (r)) (he1 _ (hx1 _ (Option.some.inj h12).symm)) iL (.t (.d rfl))
      ·have h12 := ite_f hc6 h11
       refine AW.skip ?_
       refine hK20 _ ?_
       refine aS fun K23 hK23 wK23 => ?_
       refine AW.weak (s' := ⟨[(0, qc l1), (1, rI (rows1)), (2, rI (cols1)), (3, rB (none1)), (9, rI (x2)), (10, .ptr 10 (i3 0) 0 0), (12, qc l1), (13, rI ((l1.length : Int))), (14, rI (x2))], [(10, some (.box (i3 0) 178 [rI (x4.Row), rI (x4.Col), .r (.str x4.Text), rI (x4.Ref), qa x4.Attrs]))], ((i3 0) + 1), 79⟩) (by exact Weak.cv ⟨jL, jL, jL, jL, jL, jL, jL, jL, jL, trivial⟩ ⟨.inl rfl, trivial⟩ nL) ?_
       refine AW.regionQ hmix (by kernel_rfl) ?_
       refine AQ.step rfl rfl rfl (sp_move rfl iL) (AQ.step rfl rfl rfl (sp_gtr rfl iL iL) (AQ.step rfl rfl rfl (sp_move rfl iL) ?_))
       refine AQ.stepW (.one rfl rfl rfl) rfl rfl (sp_move rfl iL) ?_
       refine AQ.stepW (.one rfl rfl rfl) rfl rfl (sp_move rfl iL) ?_
       refine ob1k h12 fun x5 ex5 h13 => ?_
       refine AQ.stepW (.one rfl rfl rfl) rfl rfl (ms_sub rfl (iR rfl) iL (gdt ex5)) ?_
       refine ob1k h13 fun x6 ex6 h14 => ?_
       refine AQ.stepW (.one rfl rfl rfl) rfl rfl (ms_idx rfl tg_28.slice (iR rfl) (iR rfl) (fun _ => rfl) (gdt ex6)) ?_
       refine AQ.stepW (.one rfl rfl rfl) rfl rfl (ms_loadA (cs := [rI (x6.Row), rI (x6.Col), .r (.str x6.Text), rI (x6.Ref), qa x6.Attrs]) rfl ta_178 (iR rfl) rfl rfl) ?_
       refine AQ.stepW (.one rfl rfl rfl) rfl rfl (ms_loadA_box rfl ta_178 iL rfl rfl) ?_
       refine ob1k h14 fun r3 er3 h15 => ?_
       refine AQ.stepWC (.one rfl rfl rfl) rfl rfl (r := rI (r3)) (caps := []) (bs := [.agg [rI (x6.Row), rI (x6.Col), .r (.str x6.Text), rI (x6.Ref), qa x6.Attrs], .agg [rI (x4.Row), rI (x4.Col), .r (.str x4.Text), rI (x4.Ref), qa x4.Attrs]]) rfl iL rfl ⟨⟨_, (iR rfl), .g (cs := [.int .i64 x6.Row, .int .i64 x6.Col, .str x6.Text, .int .i64 x6.Ref, .sl (x6.Attrs.map GAttr.row)]) rfl rfl⟩, ⟨_, (iR rfl), .g (cs := [.int .i64 x4.Row, .int .i64 x4.Col, .str x4.Text, .int .i64 x4.Ref, .sl (x4.Attrs.map GAttr.row)]) rfl rfl⟩, trivial⟩ (fun hg => w_grid_order (gdt er3 hg)) rfl ?_
       refine AQ.stepW (.one rfl rfl rfl) rfl rfl (sp_geq rfl (iR rfl) iL) ?_
       refine AQ.step rfl rfl rfl (sp_and rfl iL (iR rfl)) ?_
       refine AQ.nil ?_
       refine hK23 _ ?_
       refine aC rfl (fun hc7 => ?_) (fun hc7 => ?_)
       ·have h16 := ite_t hc7 h15
        refine aS fun K24 hK24 wK24 => ?_
        refine AW.weak (s' := ⟨[], [], ((i3 0) + 1), 79⟩) (by exact Weak.cv trivial trivial nL) ?_
        refine aR (sA rfl rfl (aZ (hK24 _ ?_)))
        refine AW.ret ?_
        exact retf1 (P := prog) (fun (r : Int) => rI (r)) (he1 _ (hx1 _ (Option.some.inj h16).symm)) iL (.t (.d rfl))
       ·have h16 := ite_f hc7 h15
        refine AW.skip ?_
        refine hK7 _ ?_
        refine aR (ob1k h16 fun x7 ex7 h17 => (sQ rfl (ms_add rfl iL iL (fun _ => ex7)) (sM rfl rfl ?_)))
        refine AOps.nil ?_
        exact NextQ1.mk h17 (vec [((i3 0) + 1)]) ((by exact Weak.cv ⟨jL, jL, jL, jL, jL, jL, jL, trivial⟩ trivial nL))
 ·have h3 := ite_f hc1 h2
  refine AW.exit ?_
  exact wK2 _ _ ((by exact Weak.cv trivial trivial nL)) (J1 _ (vec [(i3 0)]) (hx1 _ (Option.some.inj h3).symm))
theorem w_grid_inside {r1 : GRect} {rows1 : Int} {cols1 : Int} {r : Bool} (h : grid_inside r1 rows1 cols1 = some r) : ARO prog 117 [.agg [rI (r1.Row), rI (r1.Col), rI (r1.H), rI (r1.W)], rI (rows1), rI (cols1)] (rB (r)) := by
 unfold grid_inside at h
 refine ARO.mkF func117 rfl rfl ntmps117 rfl (Nat.le_of_ble_eq_true rfl) fun n0 => ?_
 refine aS fun K1 hK1 wK1 => (aR (AOps.step rfl rfl rfl (ms_box (cs := [rI (r1.Row), rI (r1.Col), rI (r1.H), rI (r1.W)]) 3 rfl iL rfl rfl) (sA rfl rfl (aZ (hK1 _ ?_)))))
 refine aS fun K2 hK2 wK2 => (aR (sQ rfl (fB rfl tf_138_0 iL fR rfl) (sQ rfl (ms_load_box (a := rI (r1.Row)) rfl ts_3 iL rfl rfl) (sQ rfl (sp_geq rfl iL iL) (sM rfl rfl (sV rfl rfl rfl (fB rfl tf_138_1 iL fR rfl) (sV rfl rfl rfl (ms_load_box (a := rI (r1.Col)) rfl ts_3 (iR rfl) rfl rfl) (sV rfl rfl rfl (sp_geq rfl (iR rfl) iL) (sQ rfl (sp_and rfl iL (iR rfl)) (sM rfl rfl (sV rfl rfl rfl (fB rfl tf_138_2 iL fR rfl) (sV rfl rfl rfl (ms_load_box (a := rI (r1.H)) rfl ts_3 (iR rfl) rfl rfl) (sV rfl rfl rfl (sp_geq rfl (iR rfl) iL) (sQ rfl (sp_and rfl iL (iR rfl)) (sM rfl rfl (sV rfl rfl rfl (fB rfl tf_138_3 iL fR rfl) (sV rfl rfl rfl (ms_load_box (a := rI (r1.W)) rfl ts_3 (iR rfl) rfl rfl) (sV rfl rfl rfl (sp_geq rfl (iR rfl) iL) (sQ rfl (sp_and rfl iL (iR rfl)) (sM rfl rfl (sV rfl rfl rfl (fB rfl tf_138_0 iL fR rfl) (sV rfl rfl rfl (ms_load_box (a := rI (r1.Row)) rfl ts_3 (iR rfl) rfl rfl) (sV rfl rfl rfl (sp_move rfl iL) (sV rfl rfl rfl (sp_lss rfl (iR rfl) (iR rfl)) (sQ rfl (sp_and rfl iL (iR rfl)) (sM rfl rfl (sV rfl rfl rfl (fB rfl tf_138_1 iL fR rfl) (sV rfl rfl rfl (ms_load_box (a := rI (r1.Col)) rfl ts_3 (iR rfl) rfl rfl) (sV rfl rfl rfl (sp_move rfl iL) ?_)))))))))))))))))))))))))))))
 refine sV rfl rfl rfl (sp_lss rfl (iR rfl) (iR rfl)) (sQ rfl (sp_and rfl iL (iR rfl)) (sM rfl rfl (sV rfl rfl rfl (fB rfl tf_138_2 iL fR rfl) (sV rfl rfl rfl (ms_load_box (a := rI (r1.H)) rfl ts_3 (iR rfl) rfl rfl) (sV rfl rfl rfl (sp_move rfl iL) (sV rfl rfl rfl (fB rfl tf_138_0 iL fR rfl) (sV rfl rfl rfl (ms_load_box (a := rI (r1.Row)) rfl ts_3 (iR rfl) rfl rfl) (ob1k h fun x1 ex1 h1 => (sV rfl rfl rfl (ms_sub rfl (iR rfl) (iR rfl) (gdt ex1)) (sV rfl rfl rfl (sp_leq rfl (iR rfl) (iR rfl)) (sQ rfl (sp_and rfl iL (iR rfl)) (sM rfl rfl (sV rfl rfl rfl (fB rfl tf_138_3 iL fR rfl) (sV rfl rfl rfl (ms_load_box (a := rI (r1.W)) rfl ts_3 (iR rfl) rfl rfl) (sV rfl rfl rfl (sp_move rfl iL) (sV rfl rfl rfl (fB rfl tf_138_1 iL fR rfl) (sV rfl rfl rfl (ms_load_box (a := rI (r1.Col)) rfl ts_3 (iR rfl) rfl rfl) (ob1k h1 fun x2 ex2 h2 => (sV rfl rfl rfl (ms_sub rfl (iR rfl) (iR rfl) (gdt ex2)) (sV rfl rfl rfl (sp_leq rfl (iR rfl) (iR rfl)) (sQ rfl (sp_and rfl iL (iR rfl)) (sA rfl rfl (aZ (hK2 _ ?_))))))))))))))))))))))))
 refine AW.ret ?_
 exact retf1 (P := prog) (fun (r : Bool) => rB (r)) h2 iL (.t (.d rfl))
theorem w_grid_before {a1 : GRect} {b1 : GRect} {r : Bool} (h : grid_before a1 b1 = some r) : ARO prog 162 [.agg [rI (a1.Row), rI (a1.Col), rI (a1.H), rI (a1.W)], .agg [rI (b1.Row), rI (b1.Col), rI (b1.H), rI (b1.W)]] (rB (r)) := by
 unfold grid_before at h
 refine ARO.mkF func162 rfl rfl ntmps162 rfl (Nat.le_of_ble_eq_true rfl) fun n0 => ?_
 refine aS fun K1 hK1 wK1 => (aR (AOps.step rfl rfl rfl (ms_box (cs := [rI (a1.Row), rI (a1.Col), rI (a1.H), rI (a1.W)]) 2 rfl iL rfl rfl) (AOps.step rfl rfl rfl (ms_box (cs := [rI (b1.Row), rI (b1.Col), rI (b1.H), rI (b1.W)]) 3 rfl iL rfl rfl) (sA rfl rfl (aZ (hK1 _ ?_))))))
 refine aS fun K2 hK2 wK2 => (aR (sQ rfl (fB rfl tf_138_0 iL fR rfl) (sQ rfl (ms_load_box (a := rI (a1.Row)) rfl ts_3 iL rfl rfl) (sQ rfl (fB rfl tf_138_0 iL fR rfl) (sQ rfl (ms_load_box (a := rI (b1.Row)) rfl ts_3 iL rfl rfl) (sQ rfl (sp_lss rfl iL iL) (sM rfl rfl (sV rfl rfl rfl (fB rfl tf_138_0 iL fR rfl) (sV rfl rfl rfl (ms_load_box (a := rI (a1.Row)) rfl ts_3 (iR rfl) rfl rfl) (sV rfl rfl rfl (fB rfl tf_138_0 iL fR rfl) (sV rfl rfl rfl (ms_load_box (a := rI (b1.Row)) rfl ts_3 (iR rfl) rfl rfl) (sV rfl rfl rfl (sp_eql rfl (iR rfl) (iR rfl)) (sV rfl rfl rfl (sp_move rfl (iR rfl)) ?_)))))))))))))
 refine sW (.two rfl rfl rfl) rfl (fB rfl tf_138_1 iL fR rfl) ?_
 refine sW (.two rfl rfl rfl) rfl (ms_load_box (a := rI (a1.Col)) rfl ts_3 (iR rfl) rfl rfl) ?_
 refine sW (.two rfl rfl rfl) rfl (fB rfl tf_138_1 iL fR rfl) ?_
 refine sW (.two rfl rfl rfl) rfl (ms_load_box (a := rI (b1.Col)) rfl ts_3 (iR rfl) rfl rfl) ?_
 refine sW (.two rfl rfl rfl) rfl (sp_lss rfl (iR rfl) (iR rfl)) ?_
 refine sV rfl rfl rfl (sp_and rfl (iR rfl) (iR rfl)) (sQ rfl (sp_or rfl iL (iR rfl)) (sA rfl rfl (aZ (hK2 _ ?_))))
 refine AW.ret ?_
 exact retf1 (P := prog) (fun (r : Bool) => rB (r)) h iL (.t (.d rfl))
theorem w_grid_meets {a1 : GRect} {b1 : GRect} {r : Bool} (h : grid_meets a1 b1 = some r) : ARO prog 165 [.agg [rI (a1.Row), rI (a1.Col), rI (a1.H), rI (a1.W)], .agg [rI (b1.Row), rI (b1.Col), rI (b1.H), rI (b1.W)]] (rB (r)) := by
 unfold grid_meets at h
 refine ARO.mkF func165 rfl rfl ntmps165 rfl (Nat.le_of_ble_eq_true rfl) fun n0 => ?_
 refine aS fun K1 hK1 wK1 => (aR (AOps.step rfl rfl rfl (ms_box (cs := [rI (a1.Row), rI (a1.Col), rI (a1.H), rI (a1.W)]) 2 rfl iL rfl rfl) (AOps.step rfl rfl rfl (ms_box (cs := [rI (b1.Row), rI (b1.Col), rI (b1.H), rI (b1.W)]) 3 rfl iL rfl rfl) (sA rfl rfl (aZ (hK1 _ ?_))))))
 refine aS fun K2 hK2 wK2 => (aR (sQ rfl (fB rfl tf_138_0 iL fR rfl) (sQ rfl (ms_load_box (a := rI (a1.Row)) rfl ts_3 iL rfl rfl) (sQ rfl (fB rfl tf_138_0 iL fR rfl) (sQ rfl (ms_load_box (a := rI (b1.Row)) rfl ts_3 iL rfl rfl) (sQ rfl (fB rfl tf_138_2 iL fR rfl) (sQ rfl (ms_load_box (a := rI (b1.H)) rfl ts_3 iL rfl rfl) (ob1k h fun x1 ex1 h1 => (sQ rfl (ms_add rfl iL iL (fun _ => ex1)) (sQ rfl (sp_lss rfl iL iL) (sM rfl rfl (sV rfl rfl rfl (fB rfl tf_138_0 iL fR rfl) (sV rfl rfl rfl (ms_load_box (a := rI (b1.Row)) rfl ts_3 (iR rfl) rfl rfl) (sV rfl rfl rfl (fB rfl tf_138_0 iL fR rfl) (sV rfl rfl rfl (ms_load_box (a := rI (a1.Row)) rfl ts_3 (iR rfl) rfl rfl) (sV rfl rfl rfl (fB rfl tf_138_2 iL fR rfl) (sV rfl rfl rfl (ms_load_box (a := rI (a1.H)) rfl ts_3 (iR rfl) rfl rfl) (ob1k h1 fun x2 ex2 h2 => (sV rfl rfl rfl (ms_add rfl (iR rfl) (iR rfl) (gdt ex2)) (sV rfl rfl rfl (sp_lss rfl (iR rfl) (iR rfl)) (sQ rfl (sp_and rfl iL (iR rfl)) (sM rfl rfl (sV rfl rfl rfl (fB rfl tf_138_1 iL fR rfl) (sV rfl rfl rfl (ms_load_box (a := rI (a1.Col)) rfl ts_3 (iR rfl) rfl rfl) (sV rfl rfl rfl (fB rfl tf_138_1 iL fR rfl) (sV rfl rfl rfl (ms_load_box (a := rI (b1.Col)) rfl ts_3 (iR rfl) rfl rfl) (sV rfl rfl rfl (fB rfl tf_138_3 iL fR rfl) (sV rfl rfl rfl (ms_load_box (a := rI (b1.W)) rfl ts_3 (iR rfl) rfl rfl) (ob1k h2 fun x3 ex3 h3 => ?_)))))))))))))))))))))))))))))
 refine sV rfl rfl rfl (ms_add rfl (iR rfl) (iR rfl) (gdt ex3)) (sV rfl rfl rfl (sp_lss rfl (iR rfl) (iR rfl)) (sQ rfl (sp_and rfl iL (iR rfl)) (sM rfl rfl (sV rfl rfl rfl (fB rfl tf_138_1 iL fR rfl) (sV rfl rfl rfl (ms_load_box (a := rI (b1.Col)) rfl ts_3 (iR rfl) rfl rfl) (sV rfl rfl rfl (fB rfl tf_138_1 iL fR rfl) (sV rfl rfl rfl (ms_load_box (a := rI (a1.Col)) rfl ts_3 (iR rfl) rfl rfl) (sV rfl rfl rfl (fB rfl tf_138_3 iL fR rfl) (sV rfl rfl rfl (ms_load_box (a := rI (a1.W)) rfl ts_3 (iR rfl) rfl rfl) (ob1k h3 fun x4 ex4 h4 => (sV rfl rfl rfl (ms_add rfl (iR rfl) (iR rfl) (gdt ex4)) (sV rfl rfl rfl (sp_lss rfl (iR rfl) (iR rfl)) (sQ rfl (sp_and rfl iL (iR rfl)) (sA rfl rfl (aZ (hK2 _ ?_))))))))))))))))
 refine AW.ret ?_
 exact retf1 (P := prog) (fun (r : Bool) => rB (r)) h4 iL (.t (.d rfl))
theorem w_grid_Check_f1 {w1 : GRect} {q1 : GRect} {r : Bool} {gb1000 : Nat} (h : grid_Check_f1 w1 q1 = some r) : AHC prog 164 1 [.agg [rI (q1.Row), rI (q1.Col), rI (q1.H), rI (q1.W)], .ptr 1000 gb1000 0 0] [(1000, some (.box gb1000 138 [rI (w1.Row), rI (w1.Col), rI (w1.H), rI (w1.W)]))] (fun rr h' => ∃ (i : Nat → Nat), rr = rB (r) ∧ h' = [(1000, some (.box gb1000 138 [rI (w1.Row), rI (w1.Col), rI (w1.H), rI (w1.W)]))]) := by
 unfold grid_Check_f1 at h
 refine AHC.mkw func164 rfl rfl ntmps164 (Nat.le_of_ble_eq_true rfl) fun n0 => ?_
 refine aS fun K1 hK1 wK1 => (aR (AOps.step rfl rfl rfl (ms_box (cs := [rI (q1.Row), rI (q1.Col), rI (q1.H), rI (q1.W)]) 2 rfl iL rfl rfl) (sA rfl rfl (aZ (hK1 _ ?_)))))
 refine aS fun K2 hK2 wK2 => (aR (sQ rfl (ms_loadA_box rfl ta_138 iL rfl rfl) (sQ rfl (ms_loadA_box rfl ta_138 iL rfl rfl) (ob1k h fun r1 er1 h1 => (AOps.step rfl rfl rfl (sp_call (r := rB (r1)) (caps := []) (bs := [.agg [rI (q1.Row), rI (q1.Col), rI (q1.H), rI (q1.W)], .agg [rI (w1.Row), rI (w1.Col), rI (w1.H), rI (w1.W)]]) rfl iL rfl ⟨⟨_, iL, .g (cs := [.int .i64 q1.Row, .int .i64 q1.Col, .int .i64 q1.H, .int .i64 q1.W]) rfl rfl⟩, ⟨_, iL, .g (cs := [.int .i64 w1.Row, .int .i64 w1.Col, .int .i64 w1.H, .int .i64 w1.W]) rfl rfl⟩, trivial⟩ (fun _ => w_grid_meets (er1)) rfl) (sA rfl rfl (aZ (hK2 _ ?_))))))))
 refine AW.ret ?_
 exact RetW.mk (s' := ⟨[(3, rB (r1))], [(1000, some (.box gb1000 138 [rI (w1.Row), rI (w1.Col), rI (w1.H), rI (w1.W)]))], (n0 + 1), 7⟩) ((by exact Weak.cv ⟨jL, trivial⟩ ⟨.inl rfl, trivial⟩ nL)) (reth_cast (fun (r : Bool) rr h' => ∃ (i : Nat → Nat), rr = rB (r) ∧ h' = [(1000, some (.box gb1000 138 [rI (w1.Row), rI (w1.Col), rI (w1.H), rI (w1.W)]))]) h1 (by exact ⟨rB (r1), [(1000, some (.box gb1000 138 [rI (w1.Row), rI (w1.Col), rI (w1.H), rI (w1.W)]))], rfl, ⟨.inr rfl, trivial⟩, rfl, rfl, vec [], rfl, rfl⟩))
theorem w_slices_IndexFunc_api_Rect_api_Rect__Check_f1 {w1 : GRect} {s1 : List GRect} {r : Int} {gb1000 : Nat} (h : slices_IndexFunc_api_Rect_api_Rect__Check_f1 w1 s1 = some r) : AHC prog 203 1 [qb s1, .fn 164 [.ptr 1000 gb1000 0 0]] [(1000, some (.box gb1000 138 [rI (w1.Row), rI (w1.Col), rI (w1.H), rI (w1.W)]))] (fun rr h' => ∃ (i : Nat → Nat), rr = rI (r) ∧ h' = [(1000, some (.box gb1000 138 [rI (w1.Row), rI (w1.Col), rI (w1.H), rI (w1.W)]))]) := by
 unfold slices_IndexFunc_api_Rect_api_Rect__Check_f1 at h
 refine AHC.mkw func203 rfl rfl ntmps203 (Nat.le_of_ble_eq_true rfl) fun n0 => ?_
 refine aS fun K1 hK1 wK1 => (aR (sA rfl rfl (aZ (hK1 _ ?_))))
 refine aS fun K2 hK2 wK2 => (aS fun K3 hK3 wK3 => (aR (sM rfl rfl (sQ rfl (ms_len rfl tg_29.slice iL) (sM rfl rfl (aZ (hK3 _ ?_)))))))
 refine AW.block ?_
 refine jc1k h fun o1 hit1 hk1 he1 => ?_
 have J1 : ∀ (u2 : Unit) (i5 : Nat → Nat), o1 = .nrm u2 → K2 ⟨[], [(1000, some (.box gb1000 138 [rI (w1.Row), rI (w1.Col), rI (w1.H), rI (w1.W)]))], (i5 0), 19⟩ := by
  intro u2 i5 e
  have h1 := hk1 _ e
  refine hK2 _ ?_
  refine aS fun K4 hK4 wK4 => (aR (sA rfl rfl (aZ (hK4 _ ?_))))
  refine AW.ret ?_
  exact RetW.mk (s' := ⟨[(4, rI ((-1)))], [(1000, some (.box gb1000 138 [rI (w1.Row), rI (w1.Col), rI (w1.H), rI (w1.W)]))], (i5 0), 19⟩) ((by exact Weak.cv ⟨jL, trivial⟩ ⟨.inl rfl, trivial⟩ nL)) (reth_cast (fun (r : Int) rr h' => ∃ (i : Nat → Nat), rr = rI (r) ∧ h' = [(1000, some (.box gb1000 138 [rI (w1.Row), rI (w1.Col), rI (w1.H), rI (w1.W)]))]) h1 (by exact ⟨rI ((-1)), [(1000, some (.box gb1000 138 [rI (w1.Row), rI (w1.Col), rI (w1.H), rI (w1.W)]))], rfl, ⟨.inr rfl, trivial⟩, rfl, rfl, vec [], rfl, rfl⟩))
 refine AW.iter1 (fun (x2 : Int) i3 => ⟨[(0, qb s1), (1, .fn 164 [.ptr 1000 gb1000 0 0]), (7, rI ((s1.length : Int))), (8, rI (x2))], [(1000, some (.box gb1000 138 [rI (w1.Row), rI (w1.Col), rI (w1.H), rI (w1.W)]))], (i3 0), 19⟩) (vec [n0]) hit1 ((by exact Weak.cv ⟨jL, jL, jL, jL, trivial⟩ ⟨.inl rfl, trivial⟩ nL)) ?_
 intro x2 i3 v1 hv1 hx1
 have h2 : slices_IndexFunc_api_Rect_api_Rect__Check_f1_L1 w1 s1 x2 = some v1 := hv1; unfold slices_IndexFunc_api_Rect_api_Rect__Check_f1_L1 at h2
 refine aS fun K5 hK5 wK5 => (aR (sQ rfl (sp_lss rfl iL iL) (aZ (hK5 _ ?_))))
 refine aS fun K6 hK6 wK6 => ?_
 refine aC rfl (fun hc1 => ?_) (fun hc1 => ?_)
 ·have h3 := ite_t hc1 h2
  refine AW.skip ?_
  refine hK6 _ ?_
  refine aS fun K7 hK7 wK7 => (AW.block (aS fun K8 hK8 wK8 => (aR (sM rfl rfl (sA rfl rfl (aZ (hK8 _ ?_)))))))
  refine aS fun K9 hK9 wK9 => (aR (sM rfl rfl (sM rfl rfl (sM rfl rfl (ob1k h3 fun x4 ex4 h4 => (sQ rfl (ms_idx rfl tg_29.slice iL iL (fun _ => rfl) (fun _ => ex4)) (sQ rfl (ms_loadA (cs := [rI (x4.Row), rI (x4.Col), rI (x4.H), rI (x4.W)]) rfl ta_138 iL rfl rfl) (ob1k h4 fun r1 er1 h5 => ?_))))))))
  refine AOps.stepHI [1000] (hc := [(1000, some (.box gb1000 138 [rI (w1.Row), rI (w1.Col), rI (w1.H), rI (w1.W)]))]) (bs := [.agg [rI (x4.Row), rI (x4.Col), rI (x4.H), rI (x4.W)]]) (caps := [.ptr 1000 gb1000 0 0]) rfl rfl rfl rfl iL rfl ⟨.inl ⟨iL, rfl⟩, trivial⟩ ⟨rfl, rfl, rfl, trivial⟩ (by decide) (w_grid_Check_f1 er1) ?_
  intro i6 n1
  refine AOps.weak (s' := ⟨[(0, qb s1), (1, .fn 164 [.ptr 1000 gb1000 0 0]), (5, rI (x2)), (7, rI ((s1.length : Int))), (8, rI (x2)), (9, rB ((decide (x2 < (s1.length : Int))))), (10, rI (x2)), (11, .fn 164 [.ptr 1000 gb1000 0 0]), (12, qb s1), (13, rI (x2)), (14, .rop (GRect.row x4) 0), (15, .agg [rI (x4.Row), rI (x4.Col), rI (x4.H), rI (x4.W)]), (16, rB (r1))], [(1000, some (.box gb1000 138 [rI (w1.Row), rI (w1.Col), rI (w1.H), rI (w1.W)]))], n1, 19⟩) (by exact Weak.cv ⟨jL, jL, jL, jL, jL, jL, jL, jL, jL, jL, jL, jL, jL, trivial⟩ ⟨.inl rfl, trivial⟩ nL) ?_
  refine aZ (hK9 _ ?_)
  refine aC rfl (fun hc2 => ?_) (fun hc2 => ?_)
  ·have h6 := ite_t hc2 h5
   refine aS fun K10 hK10 wK10 => ?_
   refine AW.weak (s' := ⟨[(5, rI (x2))], [(1000, some (.box gb1000 138 [rI (w1.Row), rI (w1.Col), rI (w1.H), rI (w1.W)]))], n1, 19⟩) (by exact Weak.cv ⟨jL, trivial⟩ ⟨.inl rfl, trivial⟩ nL) ?_
   refine aR (sM rfl rfl (sA rfl rfl (aZ (hK10 _ ?_))))
   refine AW.ret ?_
   exact RetW.mk (s' := ⟨[(4, rI (x2))], [(1000, some (.box gb1000 138 [rI (w1.Row), rI (w1.Col), rI (w1.H), rI (w1.W)]))], n1, 19⟩) ((by exact Weak.cv ⟨jL, trivial⟩ ⟨.inl rfl, trivial⟩ nL)) (reth_cast (fun (r : Int) rr h' => ∃ (i : Nat → Nat), rr = rI (r) ∧ h' = [(1000, some (.box gb1000 138 [rI (w1.Row), rI (w1.Col), rI (w1.H), rI (w1.W)]))]) (he1 _ (hx1 _ (Option.some.inj h6).symm)) (by exact ⟨rI (x2), [(1000, some (.box gb1000 138 [rI (w1.Row), rI (w1.Col), rI (w1.H), rI (w1.W)]))], rfl, ⟨.inr rfl, trivial⟩, rfl, rfl, vec [], rfl, rfl⟩))
  ·have h6 := ite_f hc2 h5
   refine AW.skip ?_
   refine hK7 _ ?_
   refine AW.weak (s' := ⟨[(0, qb s1), (1, .fn 164 [.ptr 1000 gb1000 0 0]), (7, rI ((s1.length : Int))), (8, rI (x2))], [(1000, some (.box gb1000 138 [rI (w1.Row), rI (w1.Col), rI (w1.H), rI (w1.W)]))], n1, 19⟩) (by exact Weak.cv ⟨jL, jL, jL, jL, trivial⟩ ⟨.inl rfl, trivial⟩ nL) ?_
   refine aR (ob1k h6 fun x5 ex5 h7 => (sQ rfl (ms_add rfl iL iL (fun _ => ex5)) (sM rfl rfl ?_)))
   refine AOps.nil ?_
   exact NextQ1.mk h7 (vec [n1]) ((by exact Weak.cv ⟨jL, jL, jL, jL, trivial⟩ ⟨.inl rfl, trivial⟩ nL))
 ·have h3 := ite_f hc1 h2
  refine AW.exit ?_
  exact wK2 _ _ ((by exact Weak.cv trivial ⟨.inl rfl, trivial⟩ nL)) (J1 _ (vec [(i3 0)]) (hx1 _ (Option.some.inj h3).symm))
theorem w_slices_ContainsFunc_api_Rect_api_Rect__Check_f1 {w1 : GRect} {s1 : List GRect} {r : Bool} {gb1000 : Nat} (h : slices_ContainsFunc_api_Rect_api_Rect__Check_f1 w1 s1 = some r) : AHC prog 163 1 [qb s1, .fn 164 [.ptr 1000 gb1000 0 0]] [(1000, some (.box gb1000 138 [rI (w1.Row), rI (w1.Col), rI (w1.H), rI (w1.W)]))] (fun rr h' => ∃ (i : Nat → Nat), rr = rB (r) ∧ h' = [(1000, some (.box gb1000 138 [rI (w1.Row), rI (w1.Col), rI (w1.H), rI (w1.W)]))]) := by
 unfold slices_ContainsFunc_api_Rect_api_Rect__Check_f1 at h
 refine AHC.mkw func163 rfl rfl ntmps163 (Nat.le_of_ble_eq_true rfl) fun n0 => ?_
 refine aS fun K1 hK1 wK1 => (aR (sA rfl rfl (aZ (hK1 _ ?_))))
 refine aS fun K2 hK2 wK2 => (aR (sM rfl rfl (sM rfl rfl (ob1k h fun r1 er1 h1 => ?_))))
 refine AOps.stepHI [1000] (hc := [(1000, some (.box gb1000 138 [rI (w1.Row), rI (w1.Col), rI (w1.H), rI (w1.W)]))]) (bs := [qb s1, .fn 164 [.ptr 1000 gb1000 0 0]]) (caps := []) rfl rfl rfl rfl iL rfl ⟨.inl ⟨iL, rfl⟩, .inl ⟨iL, rfl⟩, trivial⟩ ⟨rfl, rfl, rfl, trivial⟩ (by decide) (w_slices_IndexFunc_api_Rect_api_Rect__Check_f1 er1) ?_
 intro i1 n1
 refine AOps.weak (s' := ⟨[(0, qb s1), (1, .fn 164 [.ptr 1000 gb1000 0 0]), (4, rB (false)), (5, qb s1), (6, .fn 164 [.ptr 1000 gb1000 0 0]), (7, rI (r1))], [(1000, some (.box gb1000 138 [rI (w1.Row), rI (w1.Col), rI (w1.H), rI (w1.W)]))], n1, 9⟩) (by exact Weak.cv ⟨jL, jL, jL, jL, jL, jL, trivial⟩ ⟨.inl rfl, trivial⟩ nL) ?_
 refine sQ rfl (sp_geq rfl iL iL) (sA rfl rfl (aZ (hK2 _ ?_)))
 refine AW.ret ?_
 exact RetW.mk (s' := ⟨[(4, rB ((decide (0 ≤ r1))))], [(1000, some (.box gb1000 138 [rI (w1.Row), rI (w1.Col), rI (w1.H), rI (w1.W)]))], n1, 9⟩) ((by exact Weak.cv ⟨jL, trivial⟩ ⟨.inl rfl, trivial⟩ nL)) (reth_cast (fun (r : Bool) rr h' => ∃ (i : Nat → Nat), rr = rB (r) ∧ h' = [(1000, some (.box gb1000 138 [rI (w1.Row), rI (w1.Col), rI (w1.H), rI (w1.W)]))]) h1 (by exact ⟨rB ((decide (0 ≤ r1))), [(1000, some (.box gb1000 138 [rI (w1.Row), rI (w1.Col), rI (w1.H), rI (w1.W)]))], rfl, ⟨.inr rfl, trivial⟩, rfl, rfl, vec [], rfl, rfl⟩))
theorem w_grid_Check {g1 : GGrid} {r : Int} (h : grid_Check g1 = some r) : ARO prog 109 [.agg [rI (g1.Rows), rI (g1.Cols), qc g1.Cells, qb g1.Merges]] (rI (r)) := by
 unfold grid_Check at h
 refine ARO.mkF func109 rfl rfl ntmps109 rfl (Nat.le_of_ble_eq_true rfl) fun n0 => ?_
 refine aS fun K1 hK1 wK1 => (aR (AOps.step rfl rfl rfl (ms_box (cs := [rI (g1.Rows), rI (g1.Cols), qc g1.Cells, qb g1.Merges]) 1 rfl iL rfl rfl) (sA rfl rfl (aZ (hK1 _ ?_)))))
 refine aS fun K2 hK2 wK2 => (aS fun K3 hK3 wK3 => (aR (sQ rfl (fB rfl tf_31_0 iL fR rfl) (sQ rfl (ms_load_box (a := rI (g1.Rows)) rfl ts_3 iL rfl rfl) (sQ rfl (sp_lss rfl iL iL) (sM rfl rfl (sV rfl rfl rfl (fB rfl tf_31_0 iL fR rfl) (sV rfl rfl rfl (ms_load_box (a := rI (g1.Rows)) rfl ts_3 (iR rfl) rfl rfl) (sV rfl rfl rfl (sp_gtr rfl (iR rfl) iL) (sQ rfl (sp_or rfl iL (iR rfl)) (sM rfl rfl (sV rfl rfl rfl (fB rfl tf_31_1 iL fR rfl) (sV rfl rfl rfl (ms_load_box (a := rI (g1.Cols)) rfl ts_3 (iR rfl) rfl rfl) (sV rfl rfl rfl (sp_lss rfl (iR rfl) iL) (sQ rfl (sp_or rfl iL (iR rfl)) (sM rfl rfl (sV rfl rfl rfl (fB rfl tf_31_1 iL fR rfl) (sV rfl rfl rfl (ms_load_box (a := rI (g1.Cols)) rfl ts_3 (iR rfl) rfl rfl) (sV rfl rfl rfl (sp_gtr rfl (iR rfl) iL) (sQ rfl (sp_or rfl iL (iR rfl)) (aZ (hK3 _ ?_))))))))))))))))))))))
 refine aC rfl (fun hc1 => ?_) (fun hc1 => ?_)
 ·have h1 := ite_t hc1 h
  refine aS fun K4 hK4 wK4 => ?_
  refine AW.weak (s' := ⟨[], [], (n0 + 1), 81⟩) (by exact Weak.cv trivial trivial nL) ?_
  refine aR (sA rfl rfl (aZ (hK4 _ ?_)))
  refine AW.ret ?_
  exact retf1 (P := prog) (fun (r : Int) => rI (r)) h1 iL (.t (.d rfl))
 ·have h1 := ite_f hc1 h
  refine AW.skip ?_
  refine hK2 _ ?_
  refine aS fun K5 hK5 wK5 => (aS fun K6 hK6 wK6 => ?_)
  refine AW.weak (s' := ⟨[(1, .ptr 1 n0 0 0)], [(1, some (.box n0 31 [rI (g1.Rows), rI (g1.Cols), qc g1.Cells, qb g1.Merges]))], (n0 + 1), 81⟩) (by exact Weak.cv ⟨jL, trivial⟩ ⟨.inl rfl, trivial⟩ nL) ?_
  refine aR (sQ rfl (fB rfl tf_31_2 iL fR rfl) (sQ rfl (ms_load_box (a := qc g1.Cells) rfl ts_28 iL rfl rfl) (sQ rfl (fB rfl tf_31_0 iL fR rfl) (sQ rfl (ms_load_box (a := rI (g1.Rows)) rfl ts_3 iL rfl rfl) (sQ rfl (fB rfl tf_31_1 iL fR rfl) (sQ rfl (ms_load_box (a := rI (g1.Cols)) rfl ts_3 iL rfl rfl) (ob1k h1 fun e1 ee1 h2 => (AOps.step rfl rfl rfl (sp_call (r := rI (e1)) (caps := []) (bs := [qc g1.Cells, rI (g1.Rows), rI (g1.Cols), rB (false)]) rfl iL rfl ⟨⟨_, iL, .d rfl⟩, ⟨_, iL, .d rfl⟩, ⟨_, iL, .d rfl⟩, ⟨_, iL, .d rfl⟩, trivial⟩ (fun _ => w_grid_cells (ee1)) rfl) (sA rfl rfl (aZ (hK6 _ ?_)))))))))))
  refine aS fun K7 hK7 wK7 => (aR (sM rfl rfl (sQ rfl (sp_neq rfl iL iL) (aZ (hK7 _ ?_)))))
  refine aC rfl (fun hc2 => ?_) (fun hc2 => ?_)
  ·have h3 := ite_t hc2 h2
   refine aS fun K8 hK8 wK8 => ?_
   refine AW.weak (s' := ⟨[(3, rI (e1))], [], (n0 + 1), 81⟩) (by exact Weak.cv ⟨jL, trivial⟩ trivial nL) ?_
   refine aR (sM rfl rfl (sA rfl rfl (aZ (hK8 _ ?_))))
   refine AW.ret ?_
   exact retf1 (P := prog) (fun (r : Int) => rI (r)) h3 iL (.t (.d rfl))
  ·have h3 := ite_f hc2 h2
   refine AW.skip ?_
   refine hK5 _ ?_
   refine aS fun K9 hK9 wK9 => (aS fun K10 hK10 wK10 => ?_)
   refine AW.weak (s' := ⟨[(1, .ptr 1 n0 0 0)], [(1, some (.box n0 31 [rI (g1.Rows), rI (g1.Cols), qc g1.Cells, qb g1.Merges]))], (n0 + 1), 81⟩) (by exact Weak.cv ⟨jL, trivial⟩ ⟨.inl rfl, trivial⟩ nL) ?_
   refine aR (sQ rfl (fB rfl tf_31_3 iL fR rfl) (sQ rfl (ms_load_box (a := qb g1.Merges) rfl ts_29 iL rfl rfl) (sQ rfl (ms_len rfl tg_29.slice iL) (sM rfl rfl (aZ (hK10 _ ?_))))))
   refine AW.block ?_
   refine jc1k h3 fun o1 hit1 hk1 he1 => ?_
   have J1 : ∀ (u2 : Unit) (i5 : Nat → Nat), o1 = .nrm u2 → K9 ⟨[], [], (i5 0), 81⟩ := by
    intro u2 i5 e
    have h4 := hk1 _ e
    refine hK9 _ ?_
    refine aS fun K11 hK11 wK11 => (aR (sA rfl rfl (aZ (hK11 _ ?_))))
    refine AW.ret ?_
    exact retf1 (P := prog) (fun (r : Int) => rI (r)) h4 iL (.t (.d rfl))
   refine AW.iter1 (fun (x2 : Int) i3 => ⟨[(1, .ptr 1 n0 0 0), (35, qb g1.Merges), (36, rI ((g1.Merges.length : Int))), (37, rI (x2))], [(1, some (.box n0 31 [rI (g1.Rows), rI (g1.Cols), qc g1.Cells, qb g1.Merges]))], (i3 0), 81⟩) (vec [(n0 + 1)]) hit1 ((by exact Weak.cv ⟨jL, jL, jL, jL, trivial⟩ ⟨.inl rfl, trivial⟩ nL)) ?_
   intro x2 i3 v1 hv1 hx1
   have h5 : grid_Check_L1 g1 x2 = some v1 := hv1; unfold grid_Check_L1 at h5
   refine aS fun K12 hK12 wK12 => (aR (sQ rfl (sp_lss rfl iL iL) (aZ (hK12 _ ?_))))
   refine aS fun K13 hK13 wK13 => ?_
   refine aC rfl (fun hc3 => ?_) (fun hc3 => ?_)
   ·have h6 := ite_t hc3 h5
    refine AW.skip ?_
    refine hK13 _ ?_
    refine aS fun K14 hK14 wK14 => (AW.block (aS fun K15 hK15 wK15 => (aR (sM rfl rfl (ob1k h6 fun x4 ex4 h7 => (sQ rfl (ms_idx rfl tg_29.slice iL iL (fun _ => rfl) (fun _ => ex4)) (sQ rfl (ms_loadA (cs := [rI (x4.Row), rI (x4.Col), rI (x4.H), rI (x4.W)]) rfl ta_138 iL rfl rfl) (AOps.step rfl rfl rfl (ms_alloc (cs := [rI (0), rI (0), rI (0), rI (0)]) 5 rfl t0_138 rfl rfl) (sA rfl rfl (AOps.step0 rfl rfl (ms_store_box (ds := [rI (x4.Row), rI (x4.Col), rI (x4.H), rI (x4.W)]) rfl tz_138 iL rfl iL rfl rfl rfl rfl) (aZ (hK15 _ ?_))))))))))))
    refine AW.block (aS fun K16 hK16 wK16 => (aR (sQ rfl (ms_loadA_box rfl ta_138 iL rfl rfl) (sQ rfl (fB rfl tf_31_0 iL fR rfl) (sQ rfl (ms_load_box (a := rI (g1.Rows)) rfl ts_3 iL rfl rfl) (sQ rfl (fB rfl tf_31_1 iL fR rfl) (sQ rfl (ms_load_box (a := rI (g1.Cols)) rfl ts_3 iL rfl rfl) (ob1k h7 fun r1 er1 h8 => (AOps.step rfl rfl rfl (sp_call (r := rB (r1)) (caps := []) (bs := [.agg [rI (x4.Row), rI (x4.Col), rI (x4.H), rI (x4.W)], rI (g1.Rows), rI (g1.Cols)]) rfl iL rfl ⟨⟨_, iL, .g (cs := [.int .i64 x4.Row, .int .i64 x4.Col, .int .i64 x4.H, .int .i64 x4.W]) rfl rfl⟩, ⟨_, iL, .d rfl⟩, ⟨_, iL, .d rfl⟩, trivial⟩ (fun _ => w_grid_inside (er1)) rfl) (sQ rfl (sp_not rfl iL) (sA rfl rfl (aZ (hK16 _ ?_)))))))))))))
    refine aC rfl (fun hc4 => ?_) (fun hc4 => ?_)
    ·have h9 := ite_t hc4 h8
     refine aS fun K17 hK17 wK17 => ?_
     refine AW.weak (s' := ⟨[], [], ((i3 0) + 1), 81⟩) (by exact Weak.cv trivial trivial nL) ?_
     refine aR (sA rfl rfl (aZ (hK17 _ ?_)))
     refine AW.ret ?_
     exact retf1 (P := prog) (fun (r : Int) => rI (r)) (he1 _ (hx1 _ (Option.some.inj h9).symm)) iL (.t (.d rfl))
    ·have h9 := ite_f hc4 h8
     refine aS fun K18 hK18 wK18 => ?_
     refine AW.weak (s' := ⟨[(1, .ptr 1 n0 0 0), (4, rI (x2)), (5, .ptr 5 (i3 0) 0 0), (35, qb g1.Merges), (36, rI ((g1.Merges.length : Int))), (37, rI (x2))], [(1, some (.box n0 31 [rI (g1.Rows), rI (g1.Cols), qc g1.Cells, qb g1.Merges])), (5, some (.box (i3 0) 138 [rI (x4.Row), rI (x4.Col), rI (x4.H), rI (x4.W)]))], ((i3 0) + 1), 81⟩) (by exact Weak.cv ⟨jL, jL, jL, jL, jL, jL, trivial⟩ ⟨.inl rfl, .inl rfl, trivial⟩ nL) ?_
     refine aR (sQ rfl (fB rfl tf_138_2 iL fR rfl) (sQ rfl (ms_load_box (a := rI (x4.H)) rfl ts_3 iL rfl rfl) (sQ rfl (sp_eql rfl iL iL) (sM rfl rfl (sV rfl rfl rfl (fB rfl tf_138_3 iL fR rfl) (sV rfl rfl rfl (ms_load_box (a := rI (x4.W)) rfl ts_3 (iR rfl) rfl rfl) (sV rfl rfl rfl (sp_eql rfl (iR rfl) iL) (sQ rfl (sp_and rfl iL (iR rfl)) (sA rfl rfl (aZ (hK18 _ ?_)))))))))))
     refine aC rfl (fun hc5 => ?_) (fun hc5 => ?_)
     ·have h10 := ite_t hc5 h9
      refine aS fun K19 hK19 wK19 => ?_
      refine AW.weak (s' := ⟨[], [], ((i3 0) + 1), 81⟩) (by exact Weak.cv trivial trivial nL) ?_
      refine aR (sA rfl rfl (aZ (hK19 _ ?_)))
      refine AW.ret ?_
      exact retf1 (P := prog) (fun (r : Int) => rI (r)) (he1 _ (hx1 _ (Option.some.inj h10).symm)) iL (.t (.d rfl))
     ·have h10 := ite_f hc5 h9
      refine aS fun K20 hK20 wK20 => ?_
      refine AW.regionQ hmix (by kernel_rfl) ?_
      refine AQ.step rfl rfl rfl (sp_move rfl iL) (AQ.step rfl rfl rfl (sp_gtr rfl iL iL) (AQ.step rfl rfl rfl (sp_move rfl iL) ?_))
      refine AQ.stepW (.one rfl rfl rfl) rfl rfl (fB rfl tf_31_3 iL fR rfl) ?_
      refine AQ.stepW (.one rfl rfl rfl) rfl rfl (ms_load_box (a := qb g1.Merges) rfl ts_29 (iR rfl) rfl rfl) ?_
      refine AQ.stepW (.one rfl rfl rfl) rfl rfl (sp_move rfl iL) ?_
      refine ob1k h10 fun x5 ex5 h11 => ?_
      refine AQ.stepW (.one rfl rfl rfl) rfl rfl (ms_sub rfl (iR rfl) iL (gdt ex5)) ?_
      refine ob1k h11 fun x6 ex6 h12 => ?_
      refine AQ.stepW (.one rfl rfl rfl) rfl rfl (ms_idx rfl tg_29.slice (iR rfl) (iR rfl) (fun _ => rfl) (gdt ex6)) ?_
      refine AQ.stepW (.one rfl rfl rfl) rfl rfl (ms_loadA (cs := [rI (x6.Row), rI (x6.Col), rI (x6.H), rI (x6.W)]) rfl ta_138 (iR rfl) rfl rfl) ?_
      refine AQ.stepW (.one rfl rfl rfl) rfl rfl (ms_loadA_box rfl ta_138 iL rfl rfl) ?_
      refine ob1k h12 fun r2 er2 h13 => ?_
      refine AQ.stepWC (.one rfl rfl rfl) rfl rfl (r := rB (r2)) (caps := []) (bs := [.agg [rI (x6.Row), rI (x6.Col), rI (x6.H), rI (x6.W)], .agg [rI (x4.Row), rI (x4.Col), rI (x4.H), rI (x4.W)]]) rfl iL rfl ⟨⟨_, (iR rfl), .g (cs := [.int .i64 x6.Row, .int .i64 x6.Col, .int .i64 x6.H, .int .i64 x6.W]) rfl rfl⟩, ⟨_, (iR rfl), .g (cs := [.int .i64 x4.Row, .int .i64 x4.Col, .int .i64 x4.H, .int .i64 x4.W]) rfl rfl⟩, trivial⟩ (fun hg => w_grid_before (gdt er2 hg)) rfl ?_
      refine AQ.stepW (.one rfl rfl rfl) rfl rfl (sp_not rfl (iR rfl)) ?_
      refine AQ.step rfl rfl rfl (sp_and rfl iL (iR rfl)) (AQ.step rfl rfl rfl (sp_assign rfl iL) ?_)
      refine AQ.nil ?_
      refine hK20 _ ?_
      refine aC rfl (fun hc6 => ?_) (fun hc6 => ?_)
      ·have h14 := ite_t hc6 h13
       refine aS fun K21 hK21 wK21 => ?_
       refine AW.weak (s' := ⟨[], [], ((i3 0) + 1), 81⟩) (by exact Weak.cv trivial trivial nL) ?_
       refine aR (sA rfl rfl (aZ (hK21 _ ?_)))
       refine AW.ret ?_
       exact retf1 (P := prog) (fun (r : Int) => rI (r)) (he1 _ (hx1 _ (Option.some.inj h14).symm)) iL (.t (.d rfl))
      ·have h14 := ite_f hc6 h13
       refine aS fun K22 hK22 wK22 => ?_
       refine AW.weak (s' := ⟨[(1, .ptr 1 n0 0 0), (4, rI (x2)), (5, .ptr 5 (i3 0) 0 0), (35, qb g1.Merges), (36, rI ((g1.Merges.length : Int))), (37, rI (x2))], [(1, some (.box n0 31 [rI (g1.Rows), rI (g1.Cols), qc g1.Cells, qb g1.Merges])), (5, some (.box (i3 0) 138 [rI (x4.Row), rI (x4.Col), rI (x4.H), rI (x4.W)]))], ((i3 0) + 1), 81⟩) (by exact Weak.cv ⟨jL, jL, jL, jL, jL, jL, trivial⟩ ⟨.inl rfl, .inl rfl, trivial⟩ nL) ?_
       refine aR (sQ rfl (fB rfl tf_31_3 iL fR rfl) (sQ rfl (ms_load_box (a := qb g1.Merges) rfl ts_29 iL rfl rfl) (sM rfl rfl (ob1k h14 fun l1 el1 h15 => ?_))))
       refine sQ rfl (ms_slice rfl tg_29.slice iL (by exact rfl) (by exact ⟨_, iL⟩) (fun _ => rfl) (fun _ => el1)) ?_
       refine sQ rfl (sp_makeFunc (bs := [.ptr 5 (i3 0) 0 0]) rfl (by exact ⟨iL, trivial⟩)) ?_
       refine ob1k h15 fun r3 er3 h16 => ?_
       refine AOps.stepHI [5] (hc := [(1000, some (.box (i3 0) 138 [rI (x4.Row), rI (x4.Col), rI (x4.H), rI (x4.W)]))]) (bs := [qb l1, .fn 164 [.ptr 1000 (i3 0) 0 0]]) (caps := []) rfl rfl rfl rfl iL rfl ⟨.inl ⟨iL, rfl⟩, .inl ⟨iL, rfl⟩, trivial⟩ ⟨rfl, rfl, rfl, trivial⟩ (by decide) (w_slices_ContainsFunc_api_Rect_api_Rect__Check_f1 er3) ?_
       intro i6 n1
       refine AOps.weak (s' := ⟨[(1, .ptr 1 n0 0 0), (4, rI (x2)), (5, .ptr 5 (i3 0) 0 0), (35, qb g1.Merges), (36, rI ((g1.Merges.length : Int))), (37, rI (x2)), (74, .ptr 1 n0 0 3), (75, qb g1.Merges), (76, rI (x2)), (77, qb l1), (78, .fn 164 [.ptr 5 (i3 0) 0 0]), (79, rB (r3))], [(1, some (.box n0 31 [rI (g1.Rows), rI (g1.Cols), qc g1.Cells, qb g1.Merges])), (5, some (.box (i3 0) 138 [rI (x4.Row), rI (x4.Col), rI (x4.H), rI (x4.W)]))], n1, 81⟩) (by exact Weak.cv ⟨jL, jL, jL, jL, jL, jL, jL, jL, jL, jL, jL, jL, trivial⟩ ⟨.inl rfl, .inl rfl, trivial⟩ nL) ?_
       refine sA rfl rfl (aZ (hK22 _ ?_))
       refine aC rfl (fun hc7 => ?_) (fun hc7 => ?_)
       ·have h17 := ite_t hc7 h16
        refine aS fun K23 hK23 wK23 => ?_
        refine AW.weak (s' := ⟨[], [], n1, 81⟩) (by exact Weak.cv trivial trivial nL) ?_
        refine aR (sA rfl rfl (aZ (hK23 _ ?_)))
        refine AW.ret ?_
        exact retf1 (P := prog) (fun (r : Int) => rI (r)) (he1 _ (hx1 _ (Option.some.inj h17).symm)) iL (.t (.d rfl))
       ·have h17 := ite_f hc7 h16
        refine AW.skip ?_
        refine hK14 _ ?_
        refine AW.weak (s' := ⟨[(1, .ptr 1 n0 0 0), (35, qb g1.Merges), (36, rI ((g1.Merges.length : Int))), (37, rI (x2))], [(1, some (.box n0 31 [rI (g1.Rows), rI (g1.Cols), qc g1.Cells, qb g1.Merges]))], n1, 81⟩) (by exact Weak.cv ⟨jL, jL, jL, jL, trivial⟩ ⟨.inl rfl, trivial⟩ nL) ?_
        refine aR (ob1k h17 fun x7 ex7 h18 => (sQ rfl (ms_add rfl iL iL (fun _ => ex7)) (sM rfl rfl ?_)))
        refine AOps.nil ?_
        exact NextQ1.mk h18 (vec [n1]) ((by exact Weak.cv ⟨jL, jL, jL, jL, trivial⟩ ⟨.inl rfl, trivial⟩ nL))
   ·have h6 := ite_f hc3 h5
    refine AW.exit ?_
    exact wK9 _ _ ((by exact Weak.cv trivial trivial nL)) (J1 _ (vec [(i3 0)]) (hx1 _ (Option.some.inj h6).symm))
theorem w_doc_CheckCells {kind1 : Int} {l1 : List GCell} {r : Int} (h : doc_CheckCells kind1 l1 = some r) : ARO prog 110 [rI (kind1), qc l1] (rI (r)) := by
 unfold doc_CheckCells at h
 refine ARO.mkF func110 rfl rfl ntmps110 rfl (Nat.le_of_ble_eq_true rfl) fun n0 => ?_
 refine aS fun K1 hK1 wK1 => (aR (sA rfl rfl (aZ (hK1 _ ?_))))
 refine aS fun K2 hK2 wK2 => (aS fun K3 hK3 wK3 => (aR (sM rfl rfl (sQ rfl (ms_len rfl tg_28.slice iL) (sM rfl rfl (aZ (hK3 _ ?_)))))))
 refine AW.block ?_
 refine jc1k h fun o1 hit1 hk1 he1 => ?_
 have J1 : ∀ (u2 : Unit) (i5 : Nat → Nat), o1 = .nrm u2 → K2 ⟨[], [], (i5 0), 36⟩ := by
  intro u2 i5 e
  have h1 := hk1 _ e
  refine hK2 _ ?_
  refine aS fun K4 hK4 wK4 => (aR (sA rfl rfl (aZ (hK4 _ ?_))))
  refine AW.ret ?_
  exact retf1 (P := prog) (fun (r : Int) => rI (r)) h1 iL (.t (.d rfl))
 refine AW.iter1 (fun (x2 : Int) i3 => ⟨[(0, rI (kind1)), (7, qc l1), (8, rI ((l1.length : Int))), (9, rI (x2))], [], (i3 0), 36⟩) (vec [n0]) hit1 ((by exact Weak.cv ⟨jL, jL, jL, jL, trivial⟩ trivial nL)) ?_
 intro x2 i3 v1 hv1 hx1
 have h2 : doc_CheckCells_L1 kind1 l1 x2 = some v1 := hv1; unfold doc_CheckCells_L1 at h2
 refine aS fun K5 hK5 wK5 => (aR (sQ rfl (sp_lss rfl iL iL) (aZ (hK5 _ ?_))))
 refine aS fun K6 hK6 wK6 => ?_
 refine aC rfl (fun hc1 => ?_) (fun hc1 => ?_)
 ·have h3 := ite_t hc1 h2
  refine AW.skip ?_
  refine hK6 _ ?_
  refine aS fun K7 hK7 wK7 => (AW.block (aS fun K8 hK8 wK8 => (aR (ob1k h3 fun x4 ex4 h4 => (sQ rfl (ms_idx rfl tg_28.slice iL iL (fun _ => rfl) (fun _ => ex4)) (sQ rfl (ms_loadA (cs := [rI (x4.Row), rI (x4.Col), .r (.str x4.Text), rI (x4.Ref), qa x4.Attrs]) rfl ta_178 iL rfl rfl) (AOps.step rfl rfl rfl (ms_alloc (cs := [rI (0), rI (0), .r (.str []), rI (0), .cst (.slice none 0 0)]) 6 rfl t0_178 rfl rfl) (AOps.step0 rfl rfl (ms_store_box (ds := [rI (x4.Row), rI (x4.Col), .r (.str x4.Text), rI (x4.Ref), qa x4.Attrs]) rfl tz_178 iL rfl iL rfl rfl rfl rfl) (aZ (hK8 _ ?_))))))))))
  refine aS fun K9 hK9 wK9 => (aR (sM rfl rfl (sQ rfl (sp_eql rfl iL iL) (sM rfl rfl (sV rfl rfl rfl (fB rfl tf_178_2 iL fR rfl) (sV rfl rfl rfl (ms_load_box (a := .r (.str x4.Text)) rfl ts_9 (iR rfl) rfl rfl) (sV rfl rfl rfl (sp_sneq rfl (iR rfl) iL) (sV rfl rfl rfl (sp_move rfl (iR rfl)) ?_))))))))
  refine sW (.two rfl rfl rfl) rfl (fB rfl tf_178_4 iL fR rfl) ?_
  refine sW (.two rfl rfl rfl) rfl (ms_load_box (a := qa x4.Attrs) rfl ts_26 (iR rfl) rfl rfl) ?_
  refine sW (.two rfl rfl rfl) rfl (ms_len rfl tg_26.slice (iR rfl)) ?_
  refine sW (.two rfl rfl rfl) rfl (sp_gtr rfl (iR rfl) iL) ?_
  refine sV rfl rfl rfl (sp_or rfl (iR rfl) (iR rfl)) (sQ rfl (sp_and rfl iL (iR rfl)) (sM rfl rfl (sV rfl rfl rfl (sp_move rfl iL) (sV rfl rfl rfl (sp_eql rfl (iR rfl) iL) (sV rfl rfl rfl (sp_move rfl (iR rfl)) ?_)))))
  refine sW (.two rfl rfl rfl) rfl (fB rfl tf_178_3 iL fR rfl) ?_
  refine sW (.two rfl rfl rfl) rfl (ms_load_box (a := rI (x4.Ref)) rfl ts_3 (iR rfl) rfl rfl) ?_
  refine sW (.two rfl rfl rfl) rfl (sp_neq rfl (iR rfl) iL) ?_
  refine sV rfl rfl rfl (sp_and rfl (iR rfl) (iR rfl)) (sQ rfl (sp_or rfl iL (iR rfl)) (aZ (hK9 _ ?_)))
  refine aC rfl (fun hc2 => ?_) (fun hc2 => ?_)
  ·have h5 := ite_t hc2 h4
   refine aS fun K10 hK10 wK10 => ?_
   refine AW.weak (s' := ⟨[], [], ((i3 0) + 1), 36⟩) (by exact Weak.cv trivial trivial nL) ?_
   refine aR (sA rfl rfl (aZ (hK10 _ ?_)))
   refine AW.ret ?_
   exact retf1 (P := prog) (fun (r : Int) => rI (r)) (he1 _ (hx1 _ (Option.some.inj h5).symm)) iL (.t (.d rfl))
  ·have h5 := ite_f hc2 h4
   refine AW.skip ?_
   refine hK7 _ ?_
   refine AW.weak (s' := ⟨[(0, rI (kind1)), (7, qc l1), (8, rI ((l1.length : Int))), (9, rI (x2))], [], ((i3 0) + 1), 36⟩) (by exact Weak.cv ⟨jL, jL, jL, jL, trivial⟩ trivial nL) ?_
   refine aR (ob1k h5 fun x5 ex5 h6 => (sQ rfl (ms_add rfl iL iL (fun _ => ex5)) (sM rfl rfl ?_)))
   refine AOps.nil ?_
   exact NextQ1.mk h6 (vec [((i3 0) + 1)]) ((by exact Weak.cv ⟨jL, jL, jL, jL, trivial⟩ trivial nL))
 ·have h3 := ite_f hc1 h2
  refine AW.exit ?_
  exact wK2 _ _ ((by exact Weak.cv trivial trivial nL)) (J1 _ (vec [(i3 0)]) (hx1 _ (Option.some.inj h3).symm))
theorem w_replica_Place {s1 : List UInt8} {r : Bool} (h : replica_Place s1 = some r) : ARO prog 170 [.r (.str s1)] (rB (r)) := by
 unfold replica_Place at h
 refine ARO.mkF func170 rfl rfl ntmps170 rfl (Nat.le_of_ble_eq_true rfl) fun n0 => ?_
 refine aS fun K1 hK1 wK1 => (aR (sA rfl rfl (aZ (hK1 _ ?_))))
 refine aS fun K2 hK2 wK2 => (aS fun K3 hK3 wK3 => (aR (sM rfl rfl (sQ rfl (sp_seql rfl iL iL) (sM rfl rfl (sV rfl rfl rfl (sp_move rfl iL) (sV rfl rfl rfl (sp_len_str rfl underlying9 (iR rfl)) (sV rfl rfl rfl (sp_gtr rfl (iR rfl) iL) (sQ rfl (sp_or rfl iL (iR rfl)) (sM rfl rfl (sV rfl rfl rfl (sp_move rfl iL) (sV rfl rfl rfl (sp_move rfl iL) (sV rfl rfl rfl (sp_len_str rfl underlying9 (iR rfl)) (ob1k h fun x1 ex1 h1 => (sV rfl rfl rfl (ms_sub rfl (iR rfl) iL (gdt ex1)) (ob1k h1 fun ch1 ech1 h2 => (sV rfl rfl rfl (ms_idx_str rfl underlying9 (iR rfl) (iR rfl) (gdt ech1)) (sV rfl rfl rfl (sp_eql rfl (iR rfl) iL) (sQ rfl (sp_or rfl iL (iR rfl)) (aZ (hK3 _ ?_)))))))))))))))))))))
 refine aC rfl (fun hc1 => ?_) (fun hc1 => ?_)
 ·have h3 := ite_t hc1 h2
  refine aS fun K4 hK4 wK4 => ?_
  refine AW.weak (s' := ⟨[], [], n0, 35⟩) (by exact Weak.cv trivial trivial nL) ?_
  refine aR (sA rfl rfl (aZ (hK4 _ ?_)))
  refine AW.ret ?_
  exact retf1 (P := prog) (fun (r : Bool) => rB (r)) h3 iL (.t (.d rfl))
 ·have h3 := ite_f hc1 h2
  refine AW.skip ?_
  refine hK2 _ ?_
  refine aS fun K5 hK5 wK5 => (aS fun K6 hK6 wK6 => ?_)
  refine AW.weak (s' := ⟨[(0, .r (.str s1))], [], n0, 35⟩) (by exact Weak.cv ⟨jL, trivial⟩ trivial nL) ?_
  refine aR (sM rfl rfl (sQ rfl (sp_len_str rfl underlying9 iL) (sM rfl rfl (aZ (hK6 _ ?_)))))
  refine AW.block ?_
  refine jc1k h3 fun o1 hit1 hk1 he1 => ?_
  have J1 : ∀ (u2 : Unit) (i5 : Nat → Nat), o1 = .nrm u2 → K5 ⟨[], [], (i5 0), 35⟩ := by
   intro u2 i5 e
   have h4 := hk1 _ e
   refine hK5 _ ?_
   refine aS fun K7 hK7 wK7 => (aR (sA rfl rfl (aZ (hK7 _ ?_))))
   refine AW.ret ?_
   exact retf1 (P := prog) (fun (r : Bool) => rB (r)) h4 iL (.t (.d rfl))
  refine AW.iter1 (fun (x3 : Int) i3 => ⟨[(0, .r (.str s1)), (20, rI ((s1.length : Int))), (21, rI (x3))], [], (i3 0), 35⟩) (vec [n0]) hit1 ((by exact Weak.cv ⟨jL, jL, jL, trivial⟩ trivial nL)) ?_
  intro x3 i3 v1 hv1 hx1
  have h5 : replica_Place_L1 s1 x3 = some v1 := hv1; unfold replica_Place_L1 at h5
  refine aS fun K8 hK8 wK8 => (aR (sQ rfl (sp_lss rfl iL iL) (aZ (hK8 _ ?_))))
  refine aS fun K9 hK9 wK9 => ?_
  refine aC rfl (fun hc2 => ?_) (fun hc2 => ?_)
  ·have h6 := ite_t hc2 h5
   refine AW.skip ?_
   refine hK9 _ ?_
   refine aS fun K10 hK10 wK10 => (AW.block (aS fun K11 hK11 wK11 => (aR (sM rfl rfl (sA rfl rfl (aZ (hK11 _ ?_)))))))
   refine aS fun K12 hK12 wK12 => (aR (sM rfl rfl (sM rfl rfl (ob1k h6 fun ch2 ech2 h7 => (sQ rfl (ms_idx_str rfl underlying9 iL iL (fun _ => ech2)) (sQ rfl (sp_lss rfl iL iL) (sM rfl rfl (sV rfl rfl rfl (sp_move rfl iL) (sV rfl rfl rfl (sp_move rfl iL) (sV rfl rfl rfl (ms_idx_str rfl underlying9 (iR rfl) (iR rfl) (fun _ => ech2)) (sV rfl rfl rfl (sp_gtr rfl (iR rfl) iL) (sQ rfl (sp_or rfl iL (iR rfl)) (aZ (hK12 _ ?_))))))))))))))
   refine aC rfl (fun hc3 => ?_) (fun hc3 => ?_)
   ·have h8 := ite_t hc3 h7
    refine aS fun K13 hK13 wK13 => ?_
    refine AW.weak (s' := ⟨[], [], (i3 0), 35⟩) (by exact Weak.cv trivial trivial nL) ?_
    refine aR (sA rfl rfl (aZ (hK13 _ ?_)))
    refine AW.ret ?_
    exact retf1 (P := prog) (fun (r : Bool) => rB (r)) (he1 _ (hx1 _ (Option.some.inj h8).symm)) iL (.t (.d rfl))
   ·have h8 := ite_f hc3 h7
    refine AW.skip ?_
    refine hK10 _ ?_
    refine AW.weak (s' := ⟨[(0, .r (.str s1)), (20, rI ((s1.length : Int))), (21, rI (x3))], [], (i3 0), 35⟩) (by exact Weak.cv ⟨jL, jL, jL, trivial⟩ trivial nL) ?_
    refine aR (ob1k h8 fun x5 ex5 h9 => (sQ rfl (ms_add rfl iL iL (fun _ => ex5)) (sM rfl rfl ?_)))
    refine AOps.nil ?_
    exact NextQ1.mk h9 (vec [(i3 0)]) ((by exact Weak.cv ⟨jL, jL, jL, trivial⟩ trivial nL))
  ·have h6 := ite_f hc2 h5
   refine AW.exit ?_
   exact wK5 _ _ ((by exact Weak.cv trivial trivial nL)) (J1 _ (vec [(i3 0)]) (hx1 _ (Option.some.inj h6).symm))
theorem w_replica_op {o1 : GDrawOp} {r : Int} (h : replica_op o1 = some r) : ARO prog 118 [.agg [rI (o1.Clock), rI (o1.Site), rI (o1.Kind), rI (o1.Item), rI (o1.Parent), .r (.str o1.Place), .r (.str o1.Name), .r (.str o1.Value)]] (rI (r)) := by
 unfold replica_op at h
 refine ARO.mkF func118 rfl rfl ntmps118 rfl (Nat.le_of_ble_eq_true rfl) fun n0 => ?_
 refine aS fun K1 hK1 wK1 => (aR (AOps.step rfl rfl rfl (ms_box (cs := [rI (o1.Clock), rI (o1.Site), rI (o1.Kind), rI (o1.Item), rI (o1.Parent), .r (.str o1.Place), .r (.str o1.Name), .r (.str o1.Value)]) 1 rfl iL rfl rfl) (sA rfl rfl (aZ (hK1 _ ?_)))))
 refine aS fun K2 hK2 wK2 => (AW.block (aS fun K3 hK3 wK3 => (aR (sQ rfl (fB rfl tf_140_2 iL fR rfl) (sQ rfl (ms_load_box (a := rI (o1.Kind)) rfl ts_3 iL rfl rfl) (sQ rfl (sp_neq rfl iL iL) (sM rfl rfl (sV rfl rfl rfl (fB rfl tf_140_2 iL fR rfl) (sV rfl rfl rfl (ms_load_box (a := rI (o1.Kind)) rfl ts_3 (iR rfl) rfl rfl) (sV rfl rfl rfl (sp_neq rfl (iR rfl) iL) (sQ rfl (sp_and rfl iL (iR rfl)) (sA rfl rfl (aZ (hK3 _ ?_))))))))))))))
 refine aC rfl (fun hc1 => ?_) (fun hc1 => ?_)
 ·have h1 := ite_t hc1 h
  refine aS fun K4 hK4 wK4 => ?_
  refine AW.weak (s' := ⟨[], [], (n0 + 1), 116⟩) (by exact Weak.cv trivial trivial nL) ?_
  refine aR (sA rfl rfl (aZ (hK4 _ ?_)))
  refine AW.ret ?_
  exact retf1 (P := prog) (fun (r : Int) => rI (r)) h1 iL (.t (.d rfl))
 ·have h1 := ite_f hc1 h
  refine aS fun K5 hK5 wK5 => ?_
  refine AW.weak (s' := ⟨[(1, .ptr 1 n0 0 0)], [(1, some (.box n0 140 [rI (o1.Clock), rI (o1.Site), rI (o1.Kind), rI (o1.Item), rI (o1.Parent), .r (.str o1.Place), .r (.str o1.Name), .r (.str o1.Value)]))], (n0 + 1), 116⟩) (by exact Weak.cv ⟨jL, trivial⟩ ⟨.inl rfl, trivial⟩ nL) ?_
  refine aR (sQ rfl (fB rfl tf_140_0 iL fR rfl) (sQ rfl (ms_load_box (a := rI (o1.Clock)) rfl ts_3 iL rfl rfl) (sQ rfl (sp_lss rfl iL iL) (sM rfl rfl (sV rfl rfl rfl (fB rfl tf_140_0 iL fR rfl) (sV rfl rfl rfl (ms_load_box (a := rI (o1.Clock)) rfl ts_3 (iR rfl) rfl rfl) (sV rfl rfl rfl (sp_gtr rfl (iR rfl) iL) (sQ rfl (sp_or rfl iL (iR rfl)) (sM rfl rfl (sV rfl rfl rfl (fB rfl tf_140_1 iL fR rfl) (sV rfl rfl rfl (ms_load_box (a := rI (o1.Site)) rfl ts_3 (iR rfl) rfl rfl) (sV rfl rfl rfl (sp_lss rfl (iR rfl) iL) (sQ rfl (sp_or rfl iL (iR rfl)) (sM rfl rfl (sV rfl rfl rfl (fB rfl tf_140_1 iL fR rfl) (sV rfl rfl rfl (ms_load_box (a := rI (o1.Site)) rfl ts_3 (iR rfl) rfl rfl) (sV rfl rfl rfl (sp_gtr rfl (iR rfl) iL) (sQ rfl (sp_or rfl iL (iR rfl)) (sM rfl rfl (sV rfl rfl rfl (fB rfl tf_140_3 iL fR rfl) (sV rfl rfl rfl (ms_load_box (a := rI (o1.Item)) rfl ts_3 (iR rfl) rfl rfl) (sV rfl rfl rfl (sp_lss rfl (iR rfl) iL) (sQ rfl (sp_or rfl iL (iR rfl)) (sM rfl rfl (sV rfl rfl rfl (fB rfl tf_140_3 iL fR rfl) (sV rfl rfl rfl (ms_load_box (a := rI (o1.Item)) rfl ts_3 (iR rfl) rfl rfl) (sV rfl rfl rfl (sp_gtr rfl (iR rfl) iL) (sQ rfl (sp_or rfl iL (iR rfl)) (sA rfl rfl ?_)))))))))))))))))))))))))))))
  refine aZ (hK5 _ ?_)
  refine aC rfl (fun hc2 => ?_) (fun hc2 => ?_)
  ·have h2 := ite_t hc2 h1
   refine aS fun K6 hK6 wK6 => ?_
   refine AW.weak (s' := ⟨[], [], (n0 + 1), 116⟩) (by exact Weak.cv trivial trivial nL) ?_
   refine aR (sA rfl rfl (aZ (hK6 _ ?_)))
   refine AW.ret ?_
   exact retf1 (P := prog) (fun (r : Int) => rI (r)) h2 iL (.t (.d rfl))
  ·have h2 := ite_f hc2 h1
   refine aS fun K7 hK7 wK7 => (aS fun K8 hK8 wK8 => ?_)
   refine AW.weak (s' := ⟨[(1, .ptr 1 n0 0 0)], [(1, some (.box n0 140 [rI (o1.Clock), rI (o1.Site), rI (o1.Kind), rI (o1.Item), rI (o1.Parent), .r (.str o1.Place), .r (.str o1.Name), .r (.str o1.Value)]))], (n0 + 1), 116⟩) (by exact Weak.cv ⟨jL, trivial⟩ ⟨.inl rfl, trivial⟩ nL) ?_
   refine aR (sQ rfl (fB rfl tf_140_2 iL fR rfl) (sQ rfl (ms_load_box (a := rI (o1.Kind)) rfl ts_3 iL rfl rfl) (sQ rfl (sp_eql rfl iL iL) (sM rfl rfl (sV rfl rfl rfl (fB rfl tf_140_6 iL fR rfl) (sV rfl rfl rfl (ms_load_box (a := .r (.str o1.Name)) rfl ts_9 (iR rfl) rfl rfl) (sV rfl rfl rfl (sp_sneq rfl (iR rfl) iL) (sV rfl rfl rfl (sp_move rfl (iR rfl)) ?_))))))))
   refine sW (.two rfl rfl rfl) rfl (fB rfl tf_140_7 iL fR rfl) ?_
   refine sW (.two rfl rfl rfl) rfl (ms_load_box (a := .r (.str o1.Value)) rfl ts_9 (iR rfl) rfl rfl) ?_
   refine sW (.two rfl rfl rfl) rfl (sp_sneq rfl (iR rfl) iL) ?_
   refine sV rfl rfl rfl (sp_or rfl (iR rfl) (iR rfl)) (sQ rfl (sp_and rfl iL (iR rfl)) (sA rfl rfl (aZ (hK8 _ ?_))))
   refine jb1k h2 fun p1 hp1 hk1 => ?_
   have J1 : ∀ (x1 : Bool) (i1 : Nat → Nat), p1 = x1 → K7 ⟨[(1, .ptr 1 n0 0 0), (41, rB (x1))], [(1, some (.box n0 140 [rI (o1.Clock), rI (o1.Site), rI (o1.Kind), rI (o1.Item), rI (o1.Parent), .r (.str o1.Place), .r (.str o1.Name), .r (.str o1.Value)]))], (i1 0), 116⟩ := by
    intro x1 i1 e
    have h3 := hk1 _ e
    refine hK7 _ ?_
    refine aC rfl (fun hc3 => ?_) (fun hc3 => ?_)
    ·have h4 := ite_t hc3 h3
     refine aS fun K9 hK9 wK9 => (aR (sA rfl rfl (aZ (hK9 _ ?_))))
     refine AW.ret ?_
     exact retf1 (P := prog) (fun (r : Int) => rI (r)) h4 iL (.t (.d rfl))
    ·have h4 := ite_f hc3 h3
     refine aS fun K10 hK10 wK10 => (aR (sQ rfl (fB rfl tf_140_2 iL fR rfl) (sQ rfl (ms_load_box (a := rI (o1.Kind)) rfl ts_3 iL rfl rfl) (sQ rfl (sp_eql rfl iL iL) (sM rfl rfl (sV rfl rfl rfl (fB rfl tf_140_4 iL fR rfl) (sV rfl rfl rfl (ms_load_box (a := rI (o1.Parent)) rfl ts_3 (iR rfl) rfl rfl) (sV rfl rfl rfl (sp_lss rfl (iR rfl) iL) (sV rfl rfl rfl (sp_move rfl (iR rfl)) ?_)))))))))
     refine sW (.two rfl rfl rfl) rfl (fB rfl tf_140_4 iL fR rfl) ?_
     refine sW (.two rfl rfl rfl) rfl (ms_load_box (a := rI (o1.Parent)) rfl ts_3 (iR rfl) rfl rfl) ?_
     refine sW (.two rfl rfl rfl) rfl (sp_gtr rfl (iR rfl) iL) ?_
     refine sV rfl rfl rfl (sp_or rfl (iR rfl) (iR rfl)) (sQ rfl (sp_and rfl iL (iR rfl)) (sA rfl rfl (aZ (hK10 _ ?_))))
     refine aC rfl (fun hc4 => ?_) (fun hc4 => ?_)
     ·have h5 := ite_t hc4 h4
      refine aS fun K11 hK11 wK11 => ?_
      refine AW.weak (s' := ⟨[], [], (i1 0), 116⟩) (by exact Weak.cv trivial trivial nL) ?_
      refine aR (sA rfl rfl (aZ (hK11 _ ?_)))
      refine AW.ret ?_
      exact retf1 (P := prog) (fun (r : Int) => rI (r)) h5 iL (.t (.d rfl))
     ·have h5 := ite_f hc4 h4
      refine aS fun K12 hK12 wK12 => (aS fun K13 hK13 wK13 => ?_)
      refine AW.weak (s' := ⟨[(1, .ptr 1 n0 0 0)], [(1, some (.box n0 140 [rI (o1.Clock), rI (o1.Site), rI (o1.Kind), rI (o1.Item), rI (o1.Parent), .r (.str o1.Place), .r (.str o1.Name), .r (.str o1.Value)]))], (i1 0), 116⟩) (by exact Weak.cv ⟨jL, trivial⟩ ⟨.inl rfl, trivial⟩ nL) ?_
      refine aR (sQ rfl (fB rfl tf_140_2 iL fR rfl) (sQ rfl (ms_load_box (a := rI (o1.Kind)) rfl ts_3 iL rfl rfl) (sQ rfl (sp_eql rfl iL iL) (sM rfl rfl (sV rfl rfl rfl (fB rfl tf_140_5 iL fR rfl) (sV rfl rfl rfl (ms_load_box (a := .r (.str o1.Place)) rfl ts_9 (iR rfl) rfl rfl) (ob1k h5 fun r1 er1 h6 => ?_)))))))
      refine AOps.stepW (.one rfl rfl rfl) rfl rfl (sp_call (r := rB (r1)) (caps := []) (bs := [.r (.str o1.Place)]) rfl iL rfl ⟨⟨_, (iR rfl), .d rfl⟩, trivial⟩ (fun hg => w_replica_Place (gdt er1 hg)) rfl) ?_
      refine sV rfl rfl rfl (sp_not rfl (iR rfl)) (sQ rfl (sp_and rfl iL (iR rfl)) (sA rfl rfl (aZ (hK13 _ ?_))))
      refine jb1k h6 fun p2 hp2 hk2 => ?_
      have J2 : ∀ (x2 : Bool) (i2 : Nat → Nat), p2 = x2 → K12 ⟨[(1, .ptr 1 n0 0 0), (82, rB (x2))], [(1, some (.box n0 140 [rI (o1.Clock), rI (o1.Site), rI (o1.Kind), rI (o1.Item), rI (o1.Parent), .r (.str o1.Place), .r (.str o1.Name), .r (.str o1.Value)]))], (i2 0), 116⟩ := by
       intro x2 i2 e
       have h7 := hk2 _ e
       refine hK12 _ ?_
       refine aC rfl (fun hc5 => ?_) (fun hc5 => ?_)
       ·have h8 := ite_t hc5 h7
        refine aS fun K14 hK14 wK14 => (aR (sA rfl rfl (aZ (hK14 _ ?_))))
        refine AW.ret ?_
        exact retf1 (P := prog) (fun (r : Int) => rI (r)) h8 iL (.t (.d rfl))
       ·have h8 := ite_f hc5 h7
        refine aS fun K15 hK15 wK15 => (aR (sQ rfl (fB rfl tf_140_2 iL fR rfl) (sQ rfl (ms_load_box (a := rI (o1.Kind)) rfl ts_3 iL rfl rfl) (sQ rfl (sp_eql rfl iL iL) (sM rfl rfl (sV rfl rfl rfl (fB rfl tf_140_7 iL fR rfl) (sV rfl rfl rfl (ms_load_box (a := .r (.str o1.Value)) rfl ts_9 (iR rfl) rfl rfl) (sV rfl rfl rfl (sp_sneq rfl (iR rfl) iL) (sQ rfl (sp_and rfl iL (iR rfl)) (sM rfl rfl (sV rfl rfl rfl (fB rfl tf_140_7 iL fR rfl) (sV rfl rfl rfl (ms_load_box (a := .r (.str o1.Value)) rfl ts_9 (iR rfl) rfl rfl) (ob1k h8 fun r2 er2 h9 => ?_)))))))))))))
        refine AOps.stepW (.one rfl rfl rfl) rfl rfl (sp_call (r := rB (r2)) (caps := []) (bs := [.r (.str o1.Value)]) rfl iL rfl ⟨⟨_, (iR rfl), .d rfl⟩, trivial⟩ (fun hg => w_attr_Value (gdt er2 hg)) rfl) ?_
        refine sV rfl rfl rfl (sp_not rfl (iR rfl)) (sQ rfl (sp_and rfl iL (iR rfl)) (sA rfl rfl (aZ (hK15 _ ?_))))
        refine aC rfl (fun hc6 => ?_) (fun hc6 => ?_)
        ·have h10 := ite_t hc6 h9
         refine aS fun K16 hK16 wK16 => ?_
         refine AW.weak (s' := ⟨[], [], (i2 0), 116⟩) (by exact Weak.cv trivial trivial nL) ?_
         refine aR (sA rfl rfl (aZ (hK16 _ ?_)))
         refine AW.ret ?_
         exact retf1 (P := prog) (fun (r : Int) => rI (r)) h10 iL (.t (.d rfl))
        ·have h10 := ite_f hc6 h9
         refine AW.skip ?_
         refine hK2 _ ?_
         refine aS fun K17 hK17 wK17 => ?_
         refine AW.weak (s' := ⟨[], [], (i2 0), 116⟩) (by exact Weak.cv trivial trivial nL) ?_
         refine aR (sA rfl rfl (aZ (hK17 _ ?_)))
         refine AW.ret ?_
         exact retf1 (P := prog) (fun (r : Int) => rI (r)) h10 iL (.t (.d rfl))
      refine aC rfl (fun hc7 => ?_) (fun hc7 => ?_)
      ·have h11 := ite_t hc7 hp2
       refine AW.skip ?_
       exact wK12 _ _ ((by exact Weak.cv ⟨jL, jL, trivial⟩ ⟨.inl rfl, trivial⟩ nL)) (J2 _ (vec [(i1 0)]) (Option.some.inj h11).symm)
      ·have h11 := ite_f hc7 hp2
       refine AW.weak (s' := ⟨[(1, .ptr 1 n0 0 0)], [(1, some (.box n0 140 [rI (o1.Clock), rI (o1.Site), rI (o1.Kind), rI (o1.Item), rI (o1.Parent), .r (.str o1.Place), .r (.str o1.Name), .r (.str o1.Value)]))], (i1 0), 116⟩) (by exact Weak.cv ⟨jL, trivial⟩ ⟨.inl rfl, trivial⟩ nL) ?_
       refine aR (sQ rfl (fB rfl tf_140_2 iL fR rfl) (sQ rfl (ms_load_box (a := rI (o1.Kind)) rfl ts_3 iL rfl rfl) (sQ rfl (sp_eql rfl iL iL) (sM rfl rfl (sV rfl rfl rfl (fB rfl tf_140_6 iL fR rfl) (sV rfl rfl rfl (ms_load_box (a := .r (.str o1.Name)) rfl ts_9 (iR rfl) rfl rfl) (ob1k h11 fun r3 er3 h12 => ?_)))))))
       refine AOps.stepW (.one rfl rfl rfl) rfl rfl (sp_call (r := rB (r3)) (caps := []) (bs := [.r (.str o1.Name)]) rfl iL rfl ⟨⟨_, (iR rfl), .d rfl⟩, trivial⟩ (fun hg => w_attr_Name (gdt er3 hg)) rfl) ?_
       refine sV rfl rfl rfl (sp_not rfl (iR rfl)) (sQ rfl (sp_and rfl iL (iR rfl)) (sA rfl rfl ?_))
       refine AOps.nil ?_
       exact wK12 _ _ ((by exact Weak.cv ⟨jL, jL, trivial⟩ ⟨.inl rfl, trivial⟩ nL)) (J2 _ (vec [(i1 0)]) (Option.some.inj h12).symm)
   refine aC rfl (fun hc8 => ?_) (fun hc8 => ?_)
   ·have h13 := ite_t hc8 hp1
    refine AW.skip ?_
    exact wK7 _ _ ((by exact Weak.cv ⟨jL, jL, trivial⟩ ⟨.inl rfl, trivial⟩ nL)) (J1 _ (vec [(n0 + 1)]) (Option.some.inj h13).symm)
   ·have h13 := ite_f hc8 hp1
    refine AW.weak (s' := ⟨[(1, .ptr 1 n0 0 0)], [(1, some (.box n0 140 [rI (o1.Clock), rI (o1.Site), rI (o1.Kind), rI (o1.Item), rI (o1.Parent), .r (.str o1.Place), .r (.str o1.Name), .r (.str o1.Value)]))], (n0 + 1), 116⟩) (by exact Weak.cv ⟨jL, trivial⟩ ⟨.inl rfl, trivial⟩ nL) ?_
    refine aR (sQ rfl (fB rfl tf_140_2 iL fR rfl) (sQ rfl (ms_load_box (a := rI (o1.Kind)) rfl ts_3 iL rfl rfl) (sQ rfl (sp_eql rfl iL iL) (sM rfl rfl (sV rfl rfl rfl (fB rfl tf_140_4 iL fR rfl) (sV rfl rfl rfl (ms_load_box (a := rI (o1.Parent)) rfl ts_3 (iR rfl) rfl rfl) (sV rfl rfl rfl (sp_neq rfl (iR rfl) iL) (sV rfl rfl rfl (sp_move rfl (iR rfl)) ?_))))))))
    refine sW (.two rfl rfl rfl) rfl (fB rfl tf_140_5 iL fR rfl) ?_
    refine sW (.two rfl rfl rfl) rfl (ms_load_box (a := .r (.str o1.Place)) rfl ts_9 (iR rfl) rfl rfl) ?_
    refine sW (.two rfl rfl rfl) rfl (sp_sneq rfl (iR rfl) iL) ?_
    refine sV rfl rfl rfl (sp_or rfl (iR rfl) (iR rfl)) (sQ rfl (sp_and rfl iL (iR rfl)) (sA rfl rfl ?_))
    refine AOps.nil ?_
    exact wK7 _ _ ((by exact Weak.cv ⟨jL, jL, trivial⟩ ⟨.inl rfl, trivial⟩ nL)) (J1 _ (vec [(n0 + 1)]) (Option.some.inj h13).symm)
theorem w_replica_stamps {a1 : GDrawOp} {b1 : GDrawOp} {r : Int} (h : replica_stamps a1 b1 = some r) : ARO prog 119 [.agg [rI (a1.Clock), rI (a1.Site), rI (a1.Kind), rI (a1.Item), rI (a1.Parent), .r (.str a1.Place), .r (.str a1.Name), .r (.str a1.Value)], .agg [rI (b1.Clock), rI (b1.Site), rI (b1.Kind), rI (b1.Item), rI (b1.Parent), .r (.str b1.Place), .r (.str b1.Name), .r (.str b1.Value)]] (rI (r)) := by
 unfold replica_stamps at h
 refine ARO.mkF func119 rfl rfl ntmps119 rfl (Nat.le_of_ble_eq_true rfl) fun n0 => ?_
 refine aS fun K1 hK1 wK1 => (aR (AOps.step rfl rfl rfl (ms_box (cs := [rI (a1.Clock), rI (a1.Site), rI (a1.Kind), rI (a1.Item), rI (a1.Parent), .r (.str a1.Place), .r (.str a1.Name), .r (.str a1.Value)]) 2 rfl iL rfl rfl) (AOps.step rfl rfl rfl (ms_box (cs := [rI (b1.Clock), rI (b1.Site), rI (b1.Kind), rI (b1.Item), rI (b1.Parent), .r (.str b1.Place), .r (.str b1.Name), .r (.str b1.Value)]) 3 rfl iL rfl rfl) (sA rfl rfl (aZ (hK1 _ ?_))))))
 refine aS fun K2 hK2 wK2 => (ob1k h fun r1 er1 h1 => ?_)
 refine AW.regionP 9 [⟨some 5, (fun _ => .ptr 2 n0 0 0), none, []⟩, ⟨some 6, (fun _ => rI (a1.Clock)), none, []⟩, ⟨some 7, (fun _ => .ptr 3 (n0 + 1) 0 0), none, []⟩, ⟨some 8, (fun _ => rI (b1.Clock)), none, []⟩, ⟨some 9, (fun _ => rI (r1)), none, []⟩, ⟨some 10, (fun _ => .ptr 2 n0 0 1), none, []⟩, ⟨some 11, (fun _ => rI (a1.Site)), none, []⟩, ⟨some 12, (fun _ => .ptr 3 (n0 + 1) 0 1), none, []⟩, ⟨some 13, (fun _ => rI (b1.Site)), none, []⟩] hmix (by kernel_rfl) (by exact ⟨fun _ _ h => ⟨rfl, fun _ _ e => by cases e⟩, fun _ _ h => ⟨rfl, fun _ _ e => by cases e⟩, fun _ _ h => ⟨rfl, fun _ _ e => by cases e⟩, fun _ _ h => ⟨rfl, fun _ _ e => by cases e⟩, fun _ _ h => ⟨rfl, fun _ _ e => by cases e⟩, fun _ _ h => ⟨rfl, fun _ _ e => by cases e⟩, fun _ _ h => ⟨rfl, fun _ _ e => by cases e⟩, fun _ _ h => ⟨rfl, fun _ _ e => by cases e⟩, fun _ _ h => ⟨rfl, fun _ _ e => by cases e⟩, trivial⟩) rfl (by exact ⟨Ob.quiet (n1 := fun n => n) rfl rfl (by intro d h; cases h; rfl) rfl (fun _ => [(2, .ptr 2 n0 0 0)]) (fun _ => [(2, some (.box n0 140 [rI (a1.Clock), rI (a1.Site), rI (a1.Kind), rI (a1.Item), rI (a1.Parent), .r (.str a1.Place), .r (.str a1.Name), .r (.str a1.Value)]))]) (fun D G1 hr => ⟨inE_base rfl rfl, trivial⟩) (fun D G1 hr => ⟨inH_base rfl rfl, trivial⟩) (fun _ _ => rfl) (fun G1 e h' n => OpQ.spec (v := .ptr 2 n0 0 0) (fB rfl tf_140_0 (.inl rfl) (fun _ => rfl) rfl) _),
   Ob.quiet (n1 := fun n => n) rfl rfl (by intro d h; cases h; rfl) rfl (fun _ => [(5, .ptr 2 n0 0 0)]) (fun _ => [(2, some (.box n0 140 [rI (a1.Clock), rI (a1.Site), rI (a1.Kind), rI (a1.Item), rI (a1.Parent), .r (.str a1.Place), .r (.str a1.Name), .r (.str a1.Value)]))]) (fun D G1 hr => ⟨inE_op hr 0 rfl rfl (by kernel_rfl) rfl rfl, trivial⟩) (fun D G1 hr => ⟨inH_base rfl rfl, trivial⟩) (fun _ _ => rfl) (fun G1 e h' n => OpQ.spec (v := rI (a1.Clock)) (ms_load_box (a := rI (a1.Clock)) rfl ts_3 (.inl rfl) rfl rfl) _),
   Ob.quiet (n1 := fun n => n) rfl rfl (by intro d h; cases h; rfl) rfl (fun _ => [(3, .ptr 3 (n0 + 1) 0 0)]) (fun _ => [(3, some (.box (n0 + 1) 140 [rI (b1.Clock), rI (b1.Site), rI (b1.Kind), rI (b1.Item), rI (b1.Parent), .r (.str b1.Place), .r (.str b1.Name), .r (.str b1.Value)]))]) (fun D G1 hr => ⟨inE_base rfl rfl, trivial⟩) (fun D G1 hr => ⟨inH_base rfl rfl, trivial⟩) (fun _ _ => rfl) (fun G1 e h' n => OpQ.spec (v := .ptr 3 (n0 + 1) 0 0) (fB rfl tf_140_0 (.inl rfl) (fun _ => rfl) rfl) _),
   Ob.quiet (n1 := fun n => n) rfl rfl (by intro d h; cases h; rfl) rfl (fun _ => [(7, .ptr 3 (n0 + 1) 0 0)]) (fun _ => [(3, some (.box (n0 + 1) 140 [rI (b1.Clock), rI (b1.Site), rI (b1.Kind), rI (b1.Item), rI (b1.Parent), .r (.str b1.Place), .r (.str b1.Name), .r (.str b1.Value)]))]) (fun D G1 hr => ⟨inE_op hr 2 rfl rfl (by kernel_rfl) rfl rfl, trivial⟩) (fun D G1 hr => ⟨inH_base rfl rfl, trivial⟩) (fun _ _ => rfl) (fun G1 e h' n => OpQ.spec (v := rI (b1.Clock)) (ms_load_box (a := rI (b1.Clock)) rfl ts_3 (.inl rfl) rfl rfl) _),
   Ob.quiet (n1 := fun n => n) rfl rfl (by intro d h; cases h; rfl) rfl (fun _ => [(6, rI (a1.Clock)), (8, rI (b1.Clock))]) (fun _ => []) (fun D G1 hr => ⟨inE_op hr 1 rfl rfl (by kernel_rfl) rfl rfl, inE_op hr 3 rfl rfl (by kernel_rfl) rfl rfl, trivial⟩) (fun D G1 hr => trivial) (fun _ _ => rfl) (fun G1 e h' n => sp_call (r := rI (r1)) (caps := []) (bs := [rI (a1.Clock), rI (b1.Clock)]) rfl (.inl rfl) rfl ⟨⟨_, (.inl rfl), .d rfl⟩, ⟨_, (.inl rfl), .d rfl⟩, trivial⟩ (fun _ => w_cmp_Compare_int (er1)) rfl),
   Ob.quiet (n1 := fun n => n) rfl rfl (by intro d h; cases h; rfl) rfl (fun _ => [(2, .ptr 2 n0 0 0)]) (fun _ => [(2, some (.box n0 140 [rI (a1.Clock), rI (a1.Site), rI (a1.Kind), rI (a1.Item), rI (a1.Parent), .r (.str a1.Place), .r (.str a1.Name), .r (.str a1.Value)]))]) (fun D G1 hr => ⟨inE_base rfl rfl, trivial⟩) (fun D G1 hr => ⟨inH_base rfl rfl, trivial⟩) (fun _ _ => rfl) (fun G1 e h' n => OpQ.spec (v := .ptr 2 n0 0 1) (fB rfl tf_140_1 (.inl rfl) (fun _ => rfl) rfl) _),
   Ob.quiet (n1 := fun n => n) rfl rfl (by intro d h; cases h; rfl) rfl (fun _ => [(10, .ptr 2 n0 0 1)]) (fun _ => [(2, some (.box n0 140 [rI (a1.Clock), rI (a1.Site), rI (a1.Kind), rI (a1.Item), rI (a1.Parent), .r (.str a1.Place), .r (.str a1.Name), .r (.str a1.Value)]))]) (fun D G1 hr => ⟨inE_op hr 5 rfl rfl (by kernel_rfl) rfl rfl, trivial⟩) (fun D G1 hr => ⟨inH_base rfl rfl, trivial⟩) (fun _ _ => rfl) (fun G1 e h' n => OpQ.spec (v := rI (a1.Site)) (ms_load_box (a := rI (a1.Site)) rfl ts_3 (.inl rfl) rfl rfl) _),
   Ob.quiet (n1 := fun n => n) rfl rfl (by intro d h; cases h; rfl) rfl (fun _ => [(3, .ptr 3 (n0 + 1) 0 0)]) (fun _ => [(3, some (.box (n0 + 1) 140 [rI (b1.Clock), rI (b1.Site), rI (b1.Kind), rI (b1.Item), rI (b1.Parent), .r (.str b1.Place), .r (.str b1.Name), .r (.str b1.Value)]))]) (fun D G1 hr => ⟨inE_base rfl rfl, trivial⟩) (fun D G1 hr => ⟨inH_base rfl rfl, trivial⟩) (fun _ _ => rfl) (fun G1 e h' n => OpQ.spec (v := .ptr 3 (n0 + 1) 0 1) (fB rfl tf_140_1 (.inl rfl) (fun _ => rfl) rfl) _),
   Ob.quiet (n1 := fun n => n) rfl rfl (by intro d h; cases h; rfl) rfl (fun _ => [(12, .ptr 3 (n0 + 1) 0 1)]) (fun _ => [(3, some (.box (n0 + 1) 140 [rI (b1.Clock), rI (b1.Site), rI (b1.Kind), rI (b1.Item), rI (b1.Parent), .r (.str b1.Place), .r (.str b1.Name), .r (.str b1.Value)]))]) (fun D G1 hr => ⟨inE_op hr 7 rfl rfl (by kernel_rfl) rfl rfl, trivial⟩) (fun D G1 hr => ⟨inH_base rfl rfl, trivial⟩) (fun _ _ => rfl) (fun G1 e h' n => OpQ.spec (v := rI (b1.Site)) (ms_load_box (a := rI (b1.Site)) rfl ts_3 (.inl rfl) rfl rfl) _),
   trivial⟩) fun G1 n1 => ?_
 refine AOps.weak (s' := ⟨[(0, .agg [rI (a1.Clock), rI (a1.Site), rI (a1.Kind), rI (a1.Item), rI (a1.Parent), .r (.str a1.Place), .r (.str a1.Name), .r (.str a1.Value)]), (1, .agg [rI (b1.Clock), rI (b1.Site), rI (b1.Kind), rI (b1.Item), rI (b1.Parent), .r (.str b1.Place), .r (.str b1.Name), .r (.str b1.Value)]), (2, .ptr 2 n0 0 0), (3, .ptr 3 (n0 + 1) 0 0), (4, rI (0)), (5, .ptr 2 n0 0 0), (6, rI (a1.Clock)), (7, .ptr 3 (n0 + 1) 0 0), (8, rI (b1.Clock)), (9, rI (r1)), (10, .ptr 2 n0 0 1), (11, rI (a1.Site)), (12, .ptr 3 (n0 + 1) 0 1), (13, rI (b1.Site))], [(2, some (.box n0 140 [rI (a1.Clock), rI (a1.Site), rI (a1.Kind), rI (a1.Item), rI (a1.Parent), .r (.str a1.Place), .r (.str a1.Name), .r (.str a1.Value)])), (3, some (.box (n0 + 1) 140 [rI (b1.Clock), rI (b1.Site), rI (b1.Kind), rI (b1.Item), rI (b1.Parent), .r (.str b1.Place), .r (.str b1.Name), .r (.str b1.Value)]))], n1, 17⟩) (by exact Weak.cv ⟨jL, jL, jL, jL, jL, jL, jL, jL, jL, jL, jL, jL, jL, jL, trivial⟩ ⟨.inl rfl, .inl rfl, trivial⟩ nL) ?_
 refine ob1k h1 fun r2 er2 h2 => (AOps.step rfl rfl rfl (sp_call (r := rI (r2)) (caps := []) (bs := [rI (a1.Site), rI (b1.Site)]) rfl iL rfl ⟨⟨_, iL, .d rfl⟩, ⟨_, iL, .d rfl⟩, trivial⟩ (fun _ => w_cmp_Compare_int (er2)) rfl) (AOps.step rfl rfl rfl (ms_lit 15 rfl tg_72 (f := (rInt .i64)) (l := ([r1, r2] : List Int)) ⟨rfl, ⟨_, iL, rfl⟩, rfl, ⟨_, iL, rfl⟩, trivial⟩ rfl (fun _ => rfl) rfl) (ob1k h2 fun r3 er3 h3 => (AOps.step rfl rfl rfl (sp_call (r := rI (r3)) (caps := []) (bs := [.r (.sl ([r1, r2].map (rInt .i64)))]) rfl iL rfl ⟨⟨_, iL, .one (.own rfl)⟩, trivial⟩ (fun _ => w_cmp_Or_int (er3)) rfl) (sA rfl rfl (aZ (hK2 _ ?_)))))))
 refine AW.ret ?_
 exact retf1 (P := prog) (fun (r : Int) => rI (r)) h3 iL (.t (.d rfl))
theorem w_replica_Check {l1 : List GDrawOp} {r : Int} (h : replica_Check l1 = some r) : ARO prog 48 [qe l1] (rI (r)) := by
 unfold replica_Check at h
 refine ARO.mkF func48 rfl rfl ntmps48 rfl (Nat.le_of_ble_eq_true rfl) fun n0 => ?_
 refine aS fun K1 hK1 wK1 => (aR (sA rfl rfl (aZ (hK1 _ ?_))))
 refine aS fun K2 hK2 wK2 => (aS fun K3 hK3 wK3 => (aR (sM rfl rfl (sQ rfl (ms_len rfl tg_32.slice iL) (sM rfl rfl (aZ (hK3 _ ?_)))))))
 refine AW.block ?_
 refine jc1k h fun o1 hit1 hk1 he1 => ?_
 have J1 : ∀ (u2 : Unit) (i5 : Nat → Nat), o1 = .nrm u2 → K2 ⟨[], [], (i5 0), 31⟩ := by
  intro u2 i5 e
  have h1 := hk1 _ e
  refine hK2 _ ?_
  refine aS fun K4 hK4 wK4 => (aR (sA rfl rfl (aZ (hK4 _ ?_))))
  refine AW.ret ?_
  exact retf1 (P := prog) (fun (r : Int) => rI (r)) h1 iL (.t (.d rfl))
 refine AW.iter1 (fun (x2 : Int) i3 => ⟨[(0, qe l1), (6, qe l1), (7, rI ((l1.length : Int))), (8, rI (x2))], [], (i3 0), 31⟩) (vec [n0]) hit1 ((by exact Weak.cv ⟨jL, jL, jL, jL, trivial⟩ trivial nL)) ?_
 intro x2 i3 v1 hv1 hx1
 have h2 : replica_Check_L1 l1 x2 = some v1 := hv1; unfold replica_Check_L1 at h2
 refine aS fun K5 hK5 wK5 => (aR (sQ rfl (sp_lss rfl iL iL) (aZ (hK5 _ ?_))))
 refine aS fun K6 hK6 wK6 => ?_
 refine aC rfl (fun hc1 => ?_) (fun hc1 => ?_)
 ·have h3 := ite_t hc1 h2
  refine AW.skip ?_
  refine hK6 _ ?_
  refine aS fun K7 hK7 wK7 => (AW.block (aS fun K8 hK8 wK8 => (aR (sM rfl rfl (ob1k h3 fun x4 ex4 h4 => (sQ rfl (ms_idx rfl tg_32.slice iL iL (fun _ => rfl) (fun _ => ex4)) (sQ rfl (ms_loadA (cs := [rI (x4.Clock), rI (x4.Site), rI (x4.Kind), rI (x4.Item), rI (x4.Parent), .r (.str x4.Place), .r (.str x4.Name), .r (.str x4.Value)]) rfl ta_140 iL rfl rfl) (AOps.step rfl rfl rfl (ms_alloc (cs := [rI (0), rI (0), rI (0), rI (0), rI (0), .r (.str []), .r (.str []), .r (.str [])]) 4 rfl t0_140 rfl rfl) (sA rfl rfl (AOps.step0 rfl rfl (ms_store_box (ds := [rI (x4.Clock), rI (x4.Site), rI (x4.Kind), rI (x4.Item), rI (x4.Parent), .r (.str x4.Place), .r (.str x4.Name), .r (.str x4.Value)]) rfl tz_140 iL rfl iL rfl rfl rfl rfl) (aZ (hK8 _ ?_))))))))))))
  refine aS fun K9 hK9 wK9 => (aS fun K10 hK10 wK10 => (aR (sQ rfl (ms_loadA_box rfl ta_140 iL rfl rfl) (ob1k h4 fun e1 ee1 h5 => (AOps.step rfl rfl rfl (sp_call (r := rI (e1)) (caps := []) (bs := [.agg [rI (x4.Clock), rI (x4.Site), rI (x4.Kind), rI (x4.Item), rI (x4.Parent), .r (.str x4.Place), .r (.str x4.Name), .r (.str x4.Value)]]) rfl iL rfl ⟨⟨_, iL, .g (cs := [.int .i64 x4.Clock, .int .i64 x4.Site, .int .i64 x4.Kind, .int .i64 x4.Item, .int .i64 x4.Parent, .str x4.Place, .str x4.Name, .str x4.Value]) rfl rfl⟩, trivial⟩ (fun _ => w_replica_op (ee1)) rfl) (sA rfl rfl (aZ (hK10 _ ?_))))))))
  refine aS fun K11 hK11 wK11 => (aR (sM rfl rfl (sQ rfl (sp_neq rfl iL iL) (aZ (hK11 _ ?_)))))
  refine aC rfl (fun hc2 => ?_) (fun hc2 => ?_)
  ·have h6 := ite_t hc2 h5
   refine aS fun K12 hK12 wK12 => ?_
   refine AW.weak (s' := ⟨[(5, rI (e1))], [], ((i3 0) + 1), 31⟩) (by exact Weak.cv ⟨jL, trivial⟩ trivial nL) ?_
   refine aR (sM rfl rfl (sA rfl rfl (aZ (hK12 _ ?_))))
   refine AW.ret ?_
   exact retf1 (P := prog) (fun (r : Int) => rI (r)) (he1 _ (hx1 _ (Option.some.inj h6).symm)) iL (.t (.d rfl))
  ·have h6 := ite_f hc2 h5
   refine AW.skip ?_
   refine hK9 _ ?_
   refine aS fun K13 hK13 wK13 => ?_
   refine AW.weak (s' := ⟨[(0, qe l1), (3, rI (x2)), (4, .ptr 4 (i3 0) 0 0), (6, qe l1), (7, rI ((l1.length : Int))), (8, rI (x2))], [(4, some (.box (i3 0) 140 [rI (x4.Clock), rI (x4.Site), rI (x4.Kind), rI (x4.Item), rI (x4.Parent), .r (.str x4.Place), .r (.str x4.Name), .r (.str x4.Value)]))], ((i3 0) + 1), 31⟩) (by exact Weak.cv ⟨jL, jL, jL, jL, jL, jL, trivial⟩ ⟨.inl rfl, trivial⟩ nL) ?_
   refine AW.regionQ hmix (by kernel_rfl) ?_
   refine AQ.step rfl rfl rfl (sp_move rfl iL) (AQ.step rfl rfl rfl (sp_gtr rfl iL iL) (AQ.step rfl rfl rfl (sp_move rfl iL) ?_))
   refine AQ.stepW (.one rfl rfl rfl) rfl rfl (sp_move rfl iL) ?_
   refine AQ.stepW (.one rfl rfl rfl) rfl rfl (sp_move rfl iL) ?_
   refine ob1k h6 fun x5 ex5 h7 => ?_
   refine AQ.stepW (.one rfl rfl rfl) rfl rfl (ms_sub rfl (iR rfl) iL (gdt ex5)) ?_
   refine ob1k h7 fun x6 ex6 h8 => ?_
   refine AQ.stepW (.one rfl rfl rfl) rfl rfl (ms_idx rfl tg_32.slice (iR rfl) (iR rfl) (fun _ => rfl) (gdt ex6)) ?_
   refine AQ.stepW (.one rfl rfl rfl) rfl rfl (ms_loadA (cs := [rI (x6.Clock), rI (x6.Site), rI (x6.Kind), rI (x6.Item), rI (x6.Parent), .r (.str x6.Place), .r (.str x6.Name), .r (.str x6.Value)]) rfl ta_140 (iR rfl) rfl rfl) ?_
   refine AQ.stepW (.one rfl rfl rfl) rfl rfl (ms_loadA_box rfl ta_140 iL rfl rfl) ?_
   refine ob1k h8 fun r1 er1 h9 => ?_
   refine AQ.stepWC (.one rfl rfl rfl) rfl rfl (r := rI (r1)) (caps := []) (bs := [.agg [rI (x6.Clock), rI (x6.Site), rI (x6.Kind), rI (x6.Item), rI (x6.Parent), .r (.str x6.Place), .r (.str x6.Name), .r (.str x6.Value)], .agg [rI (x4.Clock), rI (x4.Site), rI (x4.Kind), rI (x4.Item), rI (x4.Parent), .r (.str x4.Place), .r (.str x4.Name), .r (.str x4.Value)]]) rfl iL rfl ⟨⟨_, (iR rfl), .g (cs := [.int .i64 x6.Clock, .int .i64 x6.Site, .int .i64 x6.Kind, .int .i64 x6.Item, .int .i64 x6.Parent, .str x6.Place, .str x6.Name, .str x6.Value]) rfl rfl⟩, ⟨_, (iR rfl), .g (cs := [.int .i64 x4.Clock, .int .i64 x4.Site, .int .i64 x4.Kind, .int .i64 x4.Item, .int .i64 x4.Parent, .str x4.Place, .str x4.Name, .str x4.Value]) rfl rfl⟩, trivial⟩ (fun hg => w_replica_stamps (gdt er1 hg)) rfl ?_
   refine AQ.stepW (.one rfl rfl rfl) rfl rfl (sp_geq rfl (iR rfl) iL) ?_
   refine AQ.step rfl rfl rfl (sp_and rfl iL (iR rfl)) ?_
   refine AQ.nil ?_
   refine hK13 _ ?_
   refine aC rfl (fun hc3 => ?_) (fun hc3 => ?_)
   ·have h10 := ite_t hc3 h9
    refine aS fun K14 hK14 wK14 => ?_
    refine AW.weak (s' := ⟨[], [], ((i3 0) + 1), 31⟩) (by exact Weak.cv trivial trivial nL) ?_
    refine aR (sA rfl rfl (aZ (hK14 _ ?_)))
    refine AW.ret ?_
    exact retf1 (P := prog) (fun (r : Int) => rI (r)) (he1 _ (hx1 _ (Option.some.inj h10).symm)) iL (.t (.d rfl))
   ·have h10 := ite_f hc3 h9
    refine AW.skip ?_
    refine hK7 _ ?_
    refine aR (ob1k h10 fun x7 ex7 h11 => (sQ rfl (ms_add rfl iL iL (fun _ => ex7)) (sM rfl rfl ?_)))
    refine AOps.nil ?_
    exact NextQ1.mk h11 (vec [((i3 0) + 1)]) ((by exact Weak.cv ⟨jL, jL, jL, jL, trivial⟩ trivial nL))
 ·have h3 := ite_f hc1 h2
  refine AW.exit ?_
  exact wK2 _ _ ((by exact Weak.cv trivial trivial nL)) (J1 _ (vec [(i3 0)]) (hx1 _ (Option.some.inj h3).symm))
theorem w_doc_CheckNode {n1 : GNode} {r : Int} (h : doc_CheckNode n1 = some r) : ARO prog 44 [.agg [rI (n1.ID), rI (n1.Kind), qa n1.Attrs, qd n1.Flow, rI (n1.Grid.Rows), rI (n1.Grid.Cols), qc n1.Grid.Cells, qb n1.Grid.Merges, qe n1.Draw]] (rI (r)) := by
 unfold doc_CheckNode at h
 refine ARO.mkF func44 rfl rfl ntmps44 rfl (Nat.le_of_ble_eq_true rfl) fun n0 => ?_
 refine aS fun K1 hK1 wK1 => (aR (AOps.step rfl rfl rfl (ms_box (cs := [rI (n1.ID), rI (n1.Kind), qa n1.Attrs, qd n1.Flow, rI (n1.Grid.Rows), rI (n1.Grid.Cols), qc n1.Grid.Cells, qb n1.Grid.Merges, qe n1.Draw]) 1 rfl iL rfl rfl) (sA rfl rfl (aZ (hK1 _ ?_)))))
 refine aS fun K2 hK2 wK2 => (AW.block (aS fun K3 hK3 wK3 => (aR (sQ rfl (fB rfl tf_34_0 iL fR rfl) (sQ rfl (ms_load_box (a := rI (n1.ID)) rfl ts_3 iL rfl rfl) (sQ rfl (sp_lss rfl iL iL) (sM rfl rfl (sV rfl rfl rfl (fB rfl tf_34_0 iL fR rfl) (sV rfl rfl rfl (ms_load_box (a := rI (n1.ID)) rfl ts_3 (iR rfl) rfl rfl) (sV rfl rfl rfl (sp_gtr rfl (iR rfl) iL) (sQ rfl (sp_or rfl iL (iR rfl)) (sA rfl rfl (aZ (hK3 _ ?_))))))))))))))
 refine aC rfl (fun hc1 => ?_) (fun hc1 => ?_)
 ·have h1 := ite_t hc1 h
  refine aS fun K4 hK4 wK4 => ?_
  refine AW.weak (s' := ⟨[], [], (n0 + 1), 107⟩) (by exact Weak.cv trivial trivial nL) ?_
  refine aR (sA rfl rfl (aZ (hK4 _ ?_)))
  refine AW.ret ?_
  exact retf1 (P := prog) (fun (r : Int) => rI (r)) h1 iL (.t (.d rfl))
 ·have h1 := ite_f hc1 h
  refine aS fun K5 hK5 wK5 => ?_
  refine AW.weak (s' := ⟨[(1, .ptr 1 n0 0 0)], [(1, some (.box n0 34 [rI (n1.ID), rI (n1.Kind), qa n1.Attrs, qd n1.Flow, rI (n1.Grid.Rows), rI (n1.Grid.Cols), qc n1.Grid.Cells, qb n1.Grid.Merges, qe n1.Draw]))], (n0 + 1), 107⟩) (by exact Weak.cv ⟨jL, trivial⟩ ⟨.inl rfl, trivial⟩ nL) ?_
  refine aR (sQ rfl (fB rfl tf_34_1 iL fR rfl) (sQ rfl (ms_load_box (a := rI (n1.Kind)) rfl ts_3 iL rfl rfl) (sQ rfl (sp_lss rfl iL iL) (sM rfl rfl (sV rfl rfl rfl (fB rfl tf_34_1 iL fR rfl) (sV rfl rfl rfl (ms_load_box (a := rI (n1.Kind)) rfl ts_3 (iR rfl) rfl rfl) (sV rfl rfl rfl (sp_geq rfl (iR rfl) iL) (sQ rfl (sp_or rfl iL (iR rfl)) (sM rfl rfl (sV rfl rfl rfl (fB rfl tf_34_0 iL fR rfl) (sV rfl rfl rfl (ms_load_box (a := rI (n1.ID)) rfl ts_3 (iR rfl) rfl rfl) (sV rfl rfl rfl (sp_eql rfl (iR rfl) iL) (sV rfl rfl rfl (fB rfl tf_34_1 iL fR rfl) (sV rfl rfl rfl (ms_load_box (a := rI (n1.Kind)) rfl ts_3 (iR rfl) rfl rfl) (sV rfl rfl rfl (sp_eql rfl (iR rfl) iL) (sV rfl rfl rfl (sp_bneq rfl underlying4 (iR rfl) (iR rfl)) (sQ rfl (sp_or rfl iL (iR rfl)) (sA rfl rfl (aZ (hK5 _ ?_))))))))))))))))))))
  refine aC rfl (fun hc2 => ?_) (fun hc2 => ?_)
  ·have h2 := ite_t hc2 h1
   refine aS fun K6 hK6 wK6 => ?_
   refine AW.weak (s' := ⟨[], [], (n0 + 1), 107⟩) (by exact Weak.cv trivial trivial nL) ?_
   refine aR (sA rfl rfl (aZ (hK6 _ ?_)))
   refine AW.ret ?_
   exact retf1 (P := prog) (fun (r : Int) => rI (r)) h2 iL (.t (.d rfl))
  ·have h2 := ite_f hc2 h1
   refine AW.skip ?_
   refine hK2 _ ?_
   refine aS fun K7 hK7 wK7 => (aS fun K8 hK8 wK8 => ?_)
   refine AW.weak (s' := ⟨[(1, .ptr 1 n0 0 0)], [(1, some (.box n0 34 [rI (n1.ID), rI (n1.Kind), qa n1.Attrs, qd n1.Flow, rI (n1.Grid.Rows), rI (n1.Grid.Cols), qc n1.Grid.Cells, qb n1.Grid.Merges, qe n1.Draw]))], (n0 + 1), 107⟩) (by exact Weak.cv ⟨jL, trivial⟩ ⟨.inl rfl, trivial⟩ nL) ?_
   refine aR (sQ rfl (fB rfl tf_34_2 iL fR rfl) (sQ rfl (ms_load_box (a := qa n1.Attrs) rfl ts_26 iL rfl rfl) (ob1k h2 fun e1 ee1 h3 => (AOps.step rfl rfl rfl (sp_call (r := rI (e1)) (caps := []) (bs := [qa n1.Attrs]) rfl iL rfl ⟨⟨_, iL, .d rfl⟩, trivial⟩ (fun _ => w_attr_Check (ee1)) rfl) (sA rfl rfl (aZ (hK8 _ ?_)))))))
   refine aS fun K9 hK9 wK9 => (aR (sM rfl rfl (sQ rfl (sp_neq rfl iL iL) (aZ (hK9 _ ?_)))))
   refine aC rfl (fun hc3 => ?_) (fun hc3 => ?_)
   ·have h4 := ite_t hc3 h3
    refine aS fun K10 hK10 wK10 => (aR (sM rfl rfl (sA rfl rfl (aZ (hK10 _ ?_)))))
    refine AW.ret ?_
    exact retf1 (P := prog) (fun (r : Int) => rI (r)) h4 iL (.t (.d rfl))
   ·have h4 := ite_f hc3 h3
    refine AW.skip ?_
    refine hK7 _ ?_
    refine aS fun K11 hK11 wK11 => ?_
    refine AW.regionQ hmix (by kernel_rfl) ?_
    refine AQ.step rfl rfl rfl (fB rfl tf_34_1 iL fR rfl) (AQ.step rfl rfl rfl (ms_load_box (a := rI (n1.Kind)) rfl ts_3 iL rfl rfl) (ob1k h4 fun r1 er1 h5 => ?_))
    refine AQ.stepC rfl rfl rfl (r := rB (r1)) (caps := []) (bs := [rI (n1.Kind)]) rfl iL rfl ⟨⟨_, iL, .d rfl⟩, trivial⟩ (fun _ => w_doc_Texts (er1)) rfl ?_
    refine AQ.step rfl rfl rfl (sp_move rfl iL) ?_
    refine AQ.stepW (.one rfl rfl rfl) rfl rfl (fB rfl tf_34_1 iL fR rfl) ?_
    refine AQ.stepW (.one rfl rfl rfl) rfl rfl (ms_load_box (a := rI (n1.Kind)) rfl ts_3 (iR rfl) rfl rfl) ?_
    refine ob1k h5 fun r2 er2 h6 => ?_
    refine AQ.stepWC (.one rfl rfl rfl) rfl rfl (r := rB (r2)) (caps := []) (bs := [rI (n1.Kind)]) rfl iL rfl ⟨⟨_, (iR rfl), .d rfl⟩, trivial⟩ (fun hg => w_doc_Lists (gdt er2 hg)) rfl ?_
    refine AQ.step rfl rfl rfl (sp_or rfl iL (iR rfl)) (AQ.step rfl rfl rfl (fB rfl tf_34_1 iL fR rfl) (AQ.step rfl rfl rfl (ms_load_box (a := rI (n1.Kind)) rfl ts_3 iL rfl rfl) (ob1k h6 fun grids1 egrids1 h7 => ?_)))
    refine AQ.stepC rfl rfl rfl (r := rB (grids1)) (caps := []) (bs := [rI (n1.Kind)]) rfl iL rfl ⟨⟨_, iL, .d rfl⟩, trivial⟩ (fun _ => w_doc_Grids (egrids1)) rfl ?_
    refine AQ.step rfl rfl rfl (sp_assign rfl iL) (AQ.step rfl rfl rfl (sp_assign rfl iL) ?_)
    refine AQ.nil ?_
    refine hK11 _ ?_
    refine aS fun K12 hK12 wK12 => (aS fun K13 hK13 wK13 => ?_)
    refine AW.weak (s' := ⟨[(1, .ptr 1 n0 0 0), (4, rB ((r1 || r2))), (5, rB (grids1))], [(1, some (.box n0 34 [rI (n1.ID), rI (n1.Kind), qa n1.Attrs, qd n1.Flow, rI (n1.Grid.Rows), rI (n1.Grid.Cols), qc n1.Grid.Cells, qb n1.Grid.Merges, qe n1.Draw]))], (n0 + 1), 107⟩) (by exact Weak.cv ⟨jL, jL, jL, trivial⟩ ⟨.inl rfl, trivial⟩ nL) ?_
    refine aR (sM rfl rfl (sQ rfl (sp_not rfl iL) (sM rfl rfl (sV rfl rfl rfl (fB rfl tf_34_3 iL fR rfl) (sV rfl rfl rfl (ms_load_box (a := qd n1.Flow) rfl ts_27 (iR rfl) rfl rfl) (sV rfl rfl rfl (ms_len rfl tg_27.slice (iR rfl)) (sV rfl rfl rfl (sp_gtr rfl (iR rfl) iL) (sQ rfl (sp_and rfl iL (iR rfl)) (sM rfl rfl (sV rfl rfl rfl (sp_move rfl iL) (sV rfl rfl rfl (sp_not rfl (iR rfl)) (sV rfl rfl rfl (sp_move rfl (iR rfl)) ?_))))))))))))
    refine sW (.two rfl rfl rfl) rfl (fB rfl tf_34_4 iL fR rfl) ?_
    refine sW (.two rfl rfl rfl) rfl (ms_loadA_box_at (ds := [rI (n1.Grid.Rows), rI (n1.Grid.Cols), qc n1.Grid.Cells, qb n1.Grid.Merges]) rfl ta_31 (iR rfl) rfl rfl rfl) ?_
    refine sW (.two rfl rfl rfl) rfl (sp_build rfl tb_31 (q := []) (by exact trivial) (cs := [rI (0), rI (0), .cst (.slice none 0 0), .cst (.slice none 0 0)]) (by rfl)) ?_
    refine jb1k h7 fun p1 hp1 hk1 => ?_
    have J1 : ∀ (x1 : Bool) (i1 : Nat → Nat), p1 = x1 → K13 ⟨[(1, .ptr 1 n0 0 0), (4, rB ((r1 || r2))), (5, rB (grids1)), (81, rB (x1))], [(1, some (.box n0 34 [rI (n1.ID), rI (n1.Kind), qa n1.Attrs, qd n1.Flow, rI (n1.Grid.Rows), rI (n1.Grid.Cols), qc n1.Grid.Cells, qb n1.Grid.Merges, qe n1.Draw]))], (i1 0), 107⟩ := by
     intro x1 i1 e
     have h8 := hk1 _ e
     refine hK13 _ ?_
     refine aC rfl (fun hc4 => ?_) (fun hc4 => ?_)
     ·have h9 := ite_t hc4 h8
      refine aS fun K14 hK14 wK14 => (aR (sA rfl rfl (aZ (hK14 _ ?_))))
      refine AW.ret ?_
      exact retf1 (P := prog) (fun (r : Int) => rI (r)) h9 iL (.t (.d rfl))
     ·have h9 := ite_f hc4 h8
      refine AW.skip ?_
      refine hK12 _ ?_
      refine aS fun K15 hK15 wK15 => (AW.block (aS fun K16 hK16 wK16 => (aR (sM rfl rfl (sA rfl rfl (aZ (hK16 _ ?_)))))))
      refine aC rfl (fun hc5 => ?_) (fun hc5 => ?_)
      ·have h10 := ite_t hc5 h9
       refine aS fun K17 hK17 wK17 => ?_
       refine AW.regionQ hmix (by kernel_rfl) ?_
       refine AQ.step rfl rfl rfl (fB rfl tf_34_3 iL fR rfl) (AQ.step rfl rfl rfl (ms_load_box (a := qd n1.Flow) rfl ts_27 iL rfl rfl) (AQ.step rfl rfl rfl (fB rfl tf_34_1 iL fR rfl) (AQ.step rfl rfl rfl (ms_load_box (a := rI (n1.Kind)) rfl ts_3 iL rfl rfl) ?_)))
       refine AQ.stepC rfl rfl rfl (r := rB (r1)) (caps := []) (bs := [rI (n1.Kind)]) rfl iL rfl ⟨⟨_, iL, .d rfl⟩, trivial⟩ (fun _ => w_doc_Texts (er1)) rfl ?_
       refine ob1k h10 fun r4 er4 h11 => ?_
       refine AQ.stepC rfl rfl rfl (r := rI (r4)) (caps := []) (bs := [qd n1.Flow, rB (r1)]) rfl iL rfl ⟨⟨_, iL, .d rfl⟩, ⟨_, iL, .d rfl⟩, trivial⟩ (fun _ => w_flow_Check (er4)) rfl ?_
       refine AQ.step rfl rfl rfl (sp_assign rfl iL) ?_
       refine AQ.nil ?_
       refine hK17 _ ?_
       refine AW.ret ?_
       exact retf1 (P := prog) (fun (r : Int) => rI (r)) h11 iL (.t (.d rfl))
      ·have h10 := ite_f hc5 h9
       refine aS fun K18 hK18 wK18 => (aR (sM rfl rfl (sA rfl rfl (aZ (hK18 _ ?_)))))
       refine aC rfl (fun hc6 => ?_) (fun hc6 => ?_)
       ·have h12 := ite_t hc6 h10
        refine aS fun K19 hK19 wK19 => (aS fun K20 hK20 wK20 => (aR (sQ rfl (fB rfl tf_34_4 iL fR rfl) (sQ rfl (ms_loadA_box_at (ds := [rI (n1.Grid.Rows), rI (n1.Grid.Cols), qc n1.Grid.Cells, qb n1.Grid.Merges]) rfl ta_31 iL rfl rfl rfl) (ob1k h12 fun e2 ee2 h13 => (AOps.step rfl rfl rfl (sp_call (r := rI (e2)) (caps := []) (bs := [.agg [rI (n1.Grid.Rows), rI (n1.Grid.Cols), qc n1.Grid.Cells, qb n1.Grid.Merges]]) rfl iL rfl ⟨⟨_, iL, .g (cs := [.int .i64 n1.Grid.Rows, .int .i64 n1.Grid.Cols, .sl (n1.Grid.Cells.map GCell.row), .sl (n1.Grid.Merges.map GRect.row)]) rfl rfl⟩, trivial⟩ (fun _ => w_grid_Check (ee2)) rfl) (sA rfl rfl (aZ (hK20 _ ?_)))))))))
        refine aS fun K21 hK21 wK21 => ?_
        refine AW.weak (s' := ⟨[(1, .ptr 1 n0 0 0), (6, rI (e2))], [(1, some (.box n0 34 [rI (n1.ID), rI (n1.Kind), qa n1.Attrs, qd n1.Flow, rI (n1.Grid.Rows), rI (n1.Grid.Cols), qc n1.Grid.Cells, qb n1.Grid.Merges, qe n1.Draw]))], (i1 0), 107⟩) (by exact Weak.cv ⟨jL, jL, trivial⟩ ⟨.inl rfl, trivial⟩ nL) ?_
        refine aR (sM rfl rfl (sQ rfl (sp_neq rfl iL iL) (aZ (hK21 _ ?_))))
        refine aC rfl (fun hc7 => ?_) (fun hc7 => ?_)
        ·have h14 := ite_t hc7 h13
         refine aS fun K22 hK22 wK22 => (aR (sM rfl rfl (sA rfl rfl (aZ (hK22 _ ?_)))))
         refine AW.ret ?_
         exact retf1 (P := prog) (fun (r : Int) => rI (r)) h14 iL (.t (.d rfl))
        ·have h14 := ite_f hc7 h13
         refine AW.skip ?_
         refine hK19 _ ?_
         refine aS fun K23 hK23 wK23 => (aR (sQ rfl (fB rfl tf_34_1 iL fR rfl) (sQ rfl (ms_load_box (a := rI (n1.Kind)) rfl ts_3 iL rfl rfl) (sQ rfl (fB rfl tf_34_4 iL fR rfl) (sQ rfl (fB rfl tf_31_2 iL fR rfl) (sQ rfl (ms_load_box (a := qc n1.Grid.Cells) rfl ts_28 iL rfl rfl) (ob1k h14 fun r5 er5 h15 => (AOps.step rfl rfl rfl (sp_call (r := rI (r5)) (caps := []) (bs := [rI (n1.Kind), qc n1.Grid.Cells]) rfl iL rfl ⟨⟨_, iL, .d rfl⟩, ⟨_, iL, .d rfl⟩, trivial⟩ (fun _ => w_doc_CheckCells (er5)) rfl) (sA rfl rfl (aZ (hK23 _ ?_)))))))))))
         refine AW.ret ?_
         exact retf1 (P := prog) (fun (r : Int) => rI (r)) h15 iL (.t (.d rfl))
       ·have h12 := ite_f hc6 h10
        refine AW.skip ?_
        refine hK15 _ ?_
        refine aS fun K24 hK24 wK24 => (aR (sQ rfl (fB rfl tf_34_5 iL fR rfl) (sQ rfl (ms_load_box (a := qe n1.Draw) rfl ts_32 iL rfl rfl) (ob1k h12 fun r6 er6 h16 => (AOps.step rfl rfl rfl (sp_call (r := rI (r6)) (caps := []) (bs := [qe n1.Draw]) rfl iL rfl ⟨⟨_, iL, .d rfl⟩, trivial⟩ (fun _ => w_replica_Check (er6)) rfl) (sA rfl rfl (aZ (hK24 _ ?_))))))))
        refine AW.ret ?_
        exact retf1 (P := prog) (fun (r : Int) => rI (r)) h16 iL (.t (.d rfl))
    refine AOps.split (((!(r1 || r2)) && (decide (0 < (n1.Flow.length : Int)))) == false) (fun hg1 => ?_) (fun hg1 => ?_)
    ·have h17 := ite_t hg1 hp1
     refine AOps.weak (by exact Weak.unw2 (e' := [(1, .ptr 1 n0 0 0), (4, rB ((r1 || r2))), (5, rB (grids1)), (51, rB ((r1 || r2))), (52, rB ((!(r1 || r2)))), (53, rB ((!(r1 || r2)))), (58, rB (((!(r1 || r2)) && (decide (0 < (n1.Flow.length : Int)))))), (59, rB (((!(r1 || r2)) && (decide (0 < (n1.Flow.length : Int)))))), (60, rB (grids1)), (61, rB ((!grids1))), (62, rB ((!grids1))), (63, .whn ((!grids1) == true) (.ptr 1 n0 0 4)), (64, .whn ((!grids1) == true) (.agg [rI (n1.Grid.Rows), rI (n1.Grid.Cols), qc n1.Grid.Cells, qb n1.Grid.Merges])), (65, .whn ((!grids1) == true) (.agg [rI (0), rI (0), .cst (.slice none 0 0), .cst (.slice none 0 0)]))]) hg1 ⟨.inl rfl, .inl rfl, .inl rfl, .inl rfl, .inl rfl, .inl rfl, .inl rfl, .inl rfl, .inr iL, .inr iL, .inr iL, .inr (.inr (.inl ⟨_, _, rfl, rfl⟩)), .inr (.inr (.inl ⟨_, _, rfl, rfl⟩)), .inr (.inr (.inl ⟨_, _, rfl, rfl⟩)), trivial⟩) ?_
     refine AOps.split ((!grids1) == true) (fun hg2 => ?_) (fun hg2 => ?_)
     ·have h18 := ite_t hg2 h17
      refine AOps.weak (by exact Weak.unw2 (e' := [(1, .ptr 1 n0 0 0), (4, rB ((r1 || r2))), (5, rB (grids1)), (51, rB ((r1 || r2))), (52, rB ((!(r1 || r2)))), (53, rB ((!(r1 || r2)))), (58, rB (((!(r1 || r2)) && (decide (0 < (n1.Flow.length : Int)))))), (59, rB (((!(r1 || r2)) && (decide (0 < (n1.Flow.length : Int)))))), (60, rB (grids1)), (61, rB ((!grids1))), (62, rB ((!grids1))), (63, .ptr 1 n0 0 4), (64, .agg [rI (n1.Grid.Rows), rI (n1.Grid.Cols), qc n1.Grid.Cells, qb n1.Grid.Merges]), (65, .agg [rI (0), rI (0), .cst (.slice none 0 0), .cst (.slice none 0 0)])]) hg2 ⟨.inl rfl, .inl rfl, .inl rfl, .inl rfl, .inl rfl, .inl rfl, .inl rfl, .inl rfl, .inl rfl, .inl rfl, .inl rfl, .inr iL, .inr iL, .inr iL, trivial⟩) ?_
      refine AOps.weak (by exact Weak.cv (e' := [(1, .ptr 1 n0 0 0), (4, rB ((r1 || r2))), (5, rB (grids1)), (51, rB ((r1 || r2))), (52, rB ((!(r1 || r2)))), (53, rB ((!(r1 || r2)))), (58, rB (((!(r1 || r2)) && (decide (0 < (n1.Flow.length : Int)))))), (59, rB (((!(r1 || r2)) && (decide (0 < (n1.Flow.length : Int)))))), (60, rB (grids1)), (61, rB ((!grids1))), (62, rB ((!grids1))), (63, .ptr 1 n0 0 4), (64, .agg [rI (n1.Grid.Rows), rI (n1.Grid.Cols), qc n1.Grid.Cells, qb n1.Grid.Merges]), (65, .agg [rI (0), rI (0), .r (.sl []), .r (.sl [])])]) (h' := [(1, some (.box n0 34 [rI (n1.ID), rI (n1.Kind), qa n1.Attrs, qd n1.Flow, rI (n1.Grid.Rows), rI (n1.Grid.Cols), qc n1.Grid.Cells, qb n1.Grid.Merges, qe n1.Draw]))]) ⟨jL, jL, jL, jL, jL, jL, jL, jL, jL, jL, jL, jL, jL, .inr ⟨_, _, rfl, rfl, ⟨.inl rfl, .inl rfl, .inr (.inr ⟨rfl, rfl⟩), .inr (.inr ⟨rfl, rfl⟩), trivial⟩⟩, trivial⟩ ⟨.inl rfl, trivial⟩ nL) ?_
      refine ob1k h18 fun r7 er7 h19 => ?_
      refine AOps.stepGT (.one rfl rfl rfl) hg2 rfl rfl (sp_call (r := rB (r7)) (caps := []) (bs := [.agg [rI (n1.Grid.Rows), rI (n1.Grid.Cols), qc n1.Grid.Cells, qb n1.Grid.Merges], .agg [rI (0), rI (0), .r (.sl []), .r (.sl [])]]) rfl (.inl rfl) rfl ⟨⟨_, (.inl rfl), .g (cs := [.int .i64 n1.Grid.Rows, .int .i64 n1.Grid.Cols, .sl (n1.Grid.Cells.map GCell.row), .sl (n1.Grid.Merges.map GRect.row)]) rfl rfl⟩, ⟨_, (.inl rfl), .g (cs := [.int .i64 0, .int .i64 0, .sl ([].map GCell.row), .sl ([].map GRect.row)]) rfl rfl⟩, trivial⟩ (fun _ => w_grid_Same (er7)) rfl) ?_
      refine AOps.stepGT (.one rfl rfl rfl) hg2 rfl rfl (OpQ.spec (sp_not rfl (.inl rfl)) _) ?_
      refine AOps.stepGT (.one rfl rfl rfl) hg1 rfl rfl (OpQ.spec (sp_and rfl (.inl rfl) (.inl rfl)) _) ?_
      refine sQ rfl (sp_or rfl iL iL) (sM rfl rfl (sV rfl rfl rfl (fB rfl tf_34_1 iL fR rfl) (sV rfl rfl rfl (ms_load_box (a := rI (n1.Kind)) rfl ts_3 (iR rfl) rfl rfl) (ob1k h19 fun r8 er8 h20 => ?_))))
      refine AOps.stepW (.one rfl rfl rfl) rfl rfl (sp_call (r := rB (r8)) (caps := []) (bs := [rI (n1.Kind)]) rfl iL rfl ⟨⟨_, (iR rfl), .d rfl⟩, trivial⟩ (fun hg => w_doc_Draws (gdt er8 hg)) rfl) ?_
      refine sV rfl rfl rfl (sp_not rfl (iR rfl)) (sV rfl rfl rfl (sp_move rfl (iR rfl)) ?_)
      refine sW (.two rfl rfl rfl) rfl (fB rfl tf_34_5 iL fR rfl) ?_
      refine sW (.two rfl rfl rfl) rfl (ms_load_box (a := qe n1.Draw) rfl ts_32 (iR rfl) rfl rfl) ?_
      refine sW (.two rfl rfl rfl) rfl (ms_len rfl tg_32.slice (iR rfl)) ?_
      refine sW (.two rfl rfl rfl) rfl (sp_gtr rfl (iR rfl) iL) ?_
      refine sV rfl rfl rfl (sp_and rfl (iR rfl) (iR rfl)) (sQ rfl (sp_or rfl iL (iR rfl)) ?_)
      refine AOps.nil ?_
      exact wK13 _ _ ((by exact Weak.cv ⟨jL, jL, jL, jL, trivial⟩ ⟨.inl rfl, trivial⟩ nL)) (J1 _ (vec [(n0 + 1)]) (Option.some.inj h20).symm)
     ·have h18 := ite_f hg2 h17
      refine AOps.stepGF2 (.one rfl rfl rfl) hg2 rfl rfl ?_
      refine AOps.stepGF2 (.one rfl rfl rfl) hg2 rfl rfl ?_
      refine AOps.stepGT (.one rfl rfl rfl) hg1 rfl rfl (OpQ.spec (sp_and rfl (.inl rfl) (iR rfl)) _) ?_
      refine sQ rfl (sp_or rfl iL iL) (sM rfl rfl (sV rfl rfl rfl (fB rfl tf_34_1 iL fR rfl) (sV rfl rfl rfl (ms_load_box (a := rI (n1.Kind)) rfl ts_3 (iR rfl) rfl rfl) (ob1k h18 fun r9 er9 h21 => ?_))))
      refine AOps.stepW (.one rfl rfl rfl) rfl rfl (sp_call (r := rB (r9)) (caps := []) (bs := [rI (n1.Kind)]) rfl iL rfl ⟨⟨_, (iR rfl), .d rfl⟩, trivial⟩ (fun hg => w_doc_Draws (gdt er9 hg)) rfl) ?_
      refine sV rfl rfl rfl (sp_not rfl (iR rfl)) (sV rfl rfl rfl (sp_move rfl (iR rfl)) ?_)
      refine sW (.two rfl rfl rfl) rfl (fB rfl tf_34_5 iL fR rfl) ?_
      refine sW (.two rfl rfl rfl) rfl (ms_load_box (a := qe n1.Draw) rfl ts_32 (iR rfl) rfl rfl) ?_
      refine sW (.two rfl rfl rfl) rfl (ms_len rfl tg_32.slice (iR rfl)) ?_
      refine sW (.two rfl rfl rfl) rfl (sp_gtr rfl (iR rfl) iL) ?_
      refine sV rfl rfl rfl (sp_and rfl (iR rfl) (iR rfl)) (sQ rfl (sp_or rfl iL (iR rfl)) ?_)
      refine AOps.nil ?_
      exact wK13 _ _ ((by exact Weak.cv ⟨jL, jL, jL, jL, trivial⟩ ⟨.inl rfl, trivial⟩ nL)) (J1 _ (vec [(n0 + 1)]) (Option.some.inj h21).symm)
    ·have h17 := ite_f hg1 hp1
     refine AOps.stepGF2 (.two rfl rfl rfl) (andF hg1) rfl rfl ?_
     refine AOps.stepGF2 (.two rfl rfl rfl) (andF hg1) rfl rfl ?_
     refine AOps.stepGF2 (.one rfl rfl rfl) hg1 rfl rfl ?_
     refine sQ rfl (sp_or rfl iL (iR rfl)) (sM rfl rfl (sV rfl rfl rfl (fB rfl tf_34_1 iL fR rfl) (sV rfl rfl rfl (ms_load_box (a := rI (n1.Kind)) rfl ts_3 (iR rfl) rfl rfl) (ob1k h17 fun r10 er10 h22 => ?_))))
     refine AOps.stepW (.one rfl rfl rfl) rfl rfl (sp_call (r := rB (r10)) (caps := []) (bs := [rI (n1.Kind)]) rfl iL rfl ⟨⟨_, (iR rfl), .d rfl⟩, trivial⟩ (fun hg => w_doc_Draws (gdt er10 hg)) rfl) ?_
     refine sV rfl rfl rfl (sp_not rfl (iR rfl)) (sV rfl rfl rfl (sp_move rfl (iR rfl)) ?_)
     refine sW (.two rfl rfl rfl) rfl (fB rfl tf_34_5 iL fR rfl) ?_
     refine sW (.two rfl rfl rfl) rfl (ms_load_box (a := qe n1.Draw) rfl ts_32 (iR rfl) rfl rfl) ?_
     refine sW (.two rfl rfl rfl) rfl (ms_len rfl tg_32.slice (iR rfl)) ?_
     refine sW (.two rfl rfl rfl) rfl (sp_gtr rfl (iR rfl) iL) ?_
     refine sV rfl rfl rfl (sp_and rfl (iR rfl) (iR rfl)) (sQ rfl (sp_or rfl iL (iR rfl)) ?_)
     refine AOps.nil ?_
     exact wK13 _ _ ((by exact Weak.cv ⟨jL, jL, jL, jL, trivial⟩ ⟨.inl rfl, trivial⟩ nL)) (J1 _ (vec [(n0 + 1)]) (Option.some.inj h22).symm)
theorem w_flow_Refs {f1 : List GElem} {r : (List Int)} (h : flow_Refs f1 = some r) : ARO prog 191 [qd f1] (.r (.sl (r.map (rInt .i64)))) := by
 unfold flow_Refs at h
 refine ARO.mkF func191 rfl rfl ntmps191 rfl (Nat.le_of_ble_eq_true rfl) fun n0 => ?_
 refine aS fun K1 hK1 wK1 => (aR (sA rfl rfl (aZ (hK1 _ ?_))))
 refine aS fun K2 hK2 wK2 => (aR (sA rfl rfl (aZ (hK2 _ ?_))))
 refine aS fun K3 hK3 wK3 => (aS fun K4 hK4 wK4 => (aR (sM rfl rfl (sQ rfl (ms_len rfl tg_27.slice iL) (sM rfl rfl (aZ (hK4 _ ?_)))))))
 refine AW.block ?_
 refine jb1k h fun o1 hit1 hk1 => ?_
 have J1 : ∀ (out4 : List Int) (i5 : Nat → Nat), o1 = out4 → K3 ⟨[(3, .own 5003 (i5 0))], [(5003, some (.arr (i5 0) 3 1 (out4.map (rInt .i64))))], (i5 1), 22⟩ := by
  intro out4 i5 e
  have h1 := hk1 _ e
  refine hK3 _ ?_
  refine aS fun K5 hK5 wK5 => (aR (sM rfl rfl (sA rfl rfl (aZ (hK5 _ ?_)))))
  refine AW.ret ?_
  exact retf1 (P := prog) (fun (r : (List Int)) => .r (.sl (r.map (rInt .i64)))) h1 iL (.t (.one (.own rfl)))
 refine AW.iter2 (fun (x2 : Int) (out2 : List Int) i3 => ⟨[(3, .own 5003 (i3 0)), (6, qd f1), (7, rI ((f1.length : Int))), (8, rI (x2))], [(5003, some (.arr (i3 0) 3 1 (out2.map (rInt .i64))))], (i3 1), 22⟩) (vec [n0, (n0 + 1)]) hit1 (Weak.trans (Weak.trans (Weak.adopt 3 5003 3 1 (by decide) rfl) (by exact Weak.cv (e' := [(0, qd f1), (2, .cst (.slice none 0 0)), (3, .own 5003 n0), (6, qd f1), (7, rI ((f1.length : Int))), (8, rI (0))]) (h' := [(5003, some (.arr n0 3 1 (([] : List Int).map (rInt .i64))))]) ⟨jL, jL, jL, jL, jL, jL, trivial⟩ ⟨.inl rfl, trivial⟩ nL)) (by exact Weak.cv ⟨jL, jL, jL, jL, trivial⟩ ⟨.inl rfl, trivial⟩ nL)) ?_
 intro x2 out2 i3 v1 hv1 hx1
 have h2 : flow_Refs_L1 f1 x2 out2 = some v1 := hv1; unfold flow_Refs_L1 at h2
 refine aS fun K6 hK6 wK6 => (aR (sQ rfl (sp_lss rfl iL iL) (aZ (hK6 _ ?_))))
 refine aS fun K7 hK7 wK7 => ?_
 refine aC rfl (fun hc1 => ?_) (fun hc1 => ?_)
 ·have h3 := ite_t hc1 h2
  refine AW.skip ?_
  refine hK7 _ ?_
  refine aS fun K8 hK8 wK8 => (AW.block ?_)
  refine jb1k h3 fun p1 hp1 hk2 => ?_
  have J2 : ∀ (out5 : List Int) (i6 : Nat → Nat), p1 = out5 → K8 ⟨[(3, .own 5003 (i6 0)), (6, qd f1), (7, rI ((f1.length : Int))), (8, rI (x2))], [(5003, some (.arr (i6 0) 3 1 (out5.map (rInt .i64))))], (i6 1), 22⟩ := by
   intro out5 i6 e
   have h4 := hk2 _ e
   refine hK8 _ ?_
   refine aR (ob1k h4 fun x4 ex4 h5 => (sQ rfl (ms_add rfl iL iL (fun _ => ex4)) (sM rfl rfl ?_)))
   refine AOps.nil ?_
   exact NextQ2.mk h5 (vec [(i6 0), (i6 1)]) ((by exact Weak.cv ⟨jL, jL, jL, jL, trivial⟩ ⟨.inl rfl, trivial⟩ nL))
  refine aS fun K9 hK9 wK9 => (aR (ob1k hp1 fun x5 ex5 h6 => (sQ rfl (ms_idx rfl tg_27.slice iL iL (fun _ => rfl) (fun _ => ex5)) (sQ rfl (ms_loadA (cs := [rI (x5.Char), rI (x5.Ref), qa x5.Attrs]) rfl ta_60 iL rfl rfl) (AOps.step rfl rfl rfl (ms_alloc (cs := [rI (0), rI (0), .cst (.slice none 0 0)]) 5 rfl t0_60 rfl rfl) (AOps.step0 rfl rfl (ms_store_box (ds := [rI (x5.Char), rI (x5.Ref), qa x5.Attrs]) rfl tz_60 iL rfl iL rfl rfl rfl rfl) (aZ (hK9 _ ?_))))))))
  refine aS fun K10 hK10 wK10 => (aR (sQ rfl (fB rfl tf_60_1 iL fR rfl) (sQ rfl (ms_load_box (a := rI (x5.Ref)) rfl ts_3 iL rfl rfl) (sQ rfl (sp_neq rfl iL iL) (aZ (hK10 _ ?_))))))
  refine aC rfl (fun hc2 => ?_) (fun hc2 => ?_)
  ·have h7 := ite_t hc2 h6
   refine aR (sM rfl rfl (sQ rfl (fB rfl tf_60_1 iL fR rfl) (sQ rfl (ms_load_box (a := rI (x5.Ref)) rfl ts_3 iL rfl rfl) (AOps.step rfl rfl rfl (ms_lit 18 rfl tg_72 (f := (rInt .i64)) (l := ([x5.Ref] : List Int)) ⟨rfl, ⟨_, iL, rfl⟩, trivial⟩ rfl (fun _ => rfl) rfl) (ob1k h7 fun out6 eout6 h8 => (AOps.step rfl rfl rfl (ms_app rfl tg_72 iL rfl (.inr (.inl ⟨_, _, iL, rfl⟩)) eout6) (sA rfl rfl ?_)))))))
   refine AOps.nil ?_
   exact wK8 _ _ ((by exact Weak.cv ⟨jL, jL, jL, jL, trivial⟩ ⟨.inl rfl, trivial⟩ nL)) (J2 _ (vec [((i3 1) + 2), ((i3 1) + 3)]) (Option.some.inj h8).symm)
  ·have h7 := ite_f hc2 h6
   refine AW.skip ?_
   exact wK8 _ _ ((by exact Weak.cv ⟨jL, jL, jL, jL, trivial⟩ ⟨.inl rfl, trivial⟩ nL)) (J2 _ (vec [(i3 0), ((i3 1) + 1)]) (Option.some.inj h7).symm)
 ·have h3 := ite_f hc1 h2
  refine AW.exit ?_
  exact wK3 _ _ ((by exact Weak.cv ⟨jL, trivial⟩ ⟨.inl rfl, trivial⟩ nL)) (J1 _ (vec [(i3 0), (i3 1)]) (hx1 _ (Option.some.inj h3).symm))
theorem w_flow_Refs_o {f1 : List GElem} {r : (List Int)} (h : flow_Refs_o f1 = some r) : AHC prog 191 1 [qd f1] [] (fun rr h' => ∃ (i : Nat → Nat), rr = .own 1000 (i 0) ∧ h' = [(1000, some (.arr (i 0) 3 1 (r.map (rInt .i64))))]) := by
 unfold flow_Refs_o at h
 refine AHC.mkw func191 rfl rfl ntmps191 (Nat.le_of_ble_eq_true rfl) fun n0 => ?_
 refine aS fun K1 hK1 wK1 => (aR (sA rfl rfl (aZ (hK1 _ ?_))))
 refine aS fun K2 hK2 wK2 => (aR (sA rfl rfl (aZ (hK2 _ ?_))))
 refine aS fun K3 hK3 wK3 => (aS fun K4 hK4 wK4 => (aR (sM rfl rfl (sQ rfl (ms_len rfl tg_27.slice iL) (sM rfl rfl (aZ (hK4 _ ?_)))))))
 refine AW.block ?_
 refine jb1k h fun o1 hit1 hk1 => ?_
 have J1 : ∀ (out4 : List Int) (i5 : Nat → Nat), o1 = out4 → K3 ⟨[(3, .own 5003 (i5 0))], [(5003, some (.arr (i5 0) 3 1 (out4.map (rInt .i64))))], (i5 1), 22⟩ := by
  intro out4 i5 e
  have h1 := hk1 _ e
  refine hK3 _ ?_
  refine aS fun K5 hK5 wK5 => (aR (sM rfl rfl (sA rfl rfl (aZ (hK5 _ ?_)))))
  refine AW.ret ?_
  exact RetW.mk (s' := ⟨[(2, .own 1000 (i5 1))], [(1000, some (.arr (i5 1) 3 1 (out4.map (rInt .i64))))], ((i5 1) + 1), 22⟩) (Weak.trans (Weak.trans (Weak.ren 2 5003 1000 rfl rfl rfl) (by exact Weak.cv (e' := [(2, .own 1000 (i5 1))]) (h' := [(1000, some (.arr (i5 1) 3 1 (out4.map (rInt .i64))))]) ⟨jL, trivial⟩ ⟨.inl rfl, trivial⟩ nL)) (by exact Weak.cv ⟨jL, trivial⟩ ⟨.inl rfl, trivial⟩ nL)) (reth_cast (fun (r : (List Int)) rr h' => ∃ (i : Nat → Nat), rr = .own 1000 (i 0) ∧ h' = [(1000, some (.arr (i 0) 3 1 (r.map (rInt .i64))))]) h1 (by exact ⟨.own 1000 (i5 1), [(1000, some (.arr (i5 1) 3 1 (out4.map (rInt .i64))))], rfl, ⟨.inr rfl, trivial⟩, rfl, rfl, vec [(i5 1)], rfl, rfl⟩))
 refine AW.iter2 (fun (x2 : Int) (out2 : List Int) i3 => ⟨[(3, .own 5003 (i3 0)), (6, qd f1), (7, rI ((f1.length : Int))), (8, rI (x2))], [(5003, some (.arr (i3 0) 3 1 (out2.map (rInt .i64))))], (i3 1), 22⟩) (vec [n0, (n0 + 1)]) hit1 (Weak.trans (Weak.trans (Weak.adopt 3 5003 3 1 (by decide) rfl) (by exact Weak.cv (e' := [(0, qd f1), (2, .cst (.slice none 0 0)), (3, .own 5003 n0), (6, qd f1), (7, rI ((f1.length : Int))), (8, rI (0))]) (h' := [(5003, some (.arr n0 3 1 (([] : List Int).map (rInt .i64))))]) ⟨jL, jL, jL, jL, jL, jL, trivial⟩ ⟨.inl rfl, trivial⟩ nL)) (by exact Weak.cv ⟨jL, jL, jL, jL, trivial⟩ ⟨.inl rfl, trivial⟩ nL)) ?_
 intro x2 out2 i3 v1 hv1 hx1
 have h2 : flow_Refs_o_L1 f1 x2 out2 = some v1 := hv1; unfold flow_Refs_o_L1 at h2
 refine aS fun K6 hK6 wK6 => (aR (sQ rfl (sp_lss rfl iL iL) (aZ (hK6 _ ?_))))
 refine aS fun K7 hK7 wK7 => ?_
 refine aC rfl (fun hc1 => ?_) (fun hc1 => ?_)
 ·have h3 := ite_t hc1 h2
  refine AW.skip ?_
  refine hK7 _ ?_
  refine aS fun K8 hK8 wK8 => (AW.block ?_)
  refine jb1k h3 fun p1 hp1 hk2 => ?_
  have J2 : ∀ (out5 : List Int) (i6 : Nat → Nat), p1 = out5 → K8 ⟨[(3, .own 5003 (i6 0)), (6, qd f1), (7, rI ((f1.length : Int))), (8, rI (x2))], [(5003, some (.arr (i6 0) 3 1 (out5.map (rInt .i64))))], (i6 1), 22⟩ := by
   intro out5 i6 e
   have h4 := hk2 _ e
   refine hK8 _ ?_
   refine aR (ob1k h4 fun x4 ex4 h5 => (sQ rfl (ms_add rfl iL iL (fun _ => ex4)) (sM rfl rfl ?_)))
   refine AOps.nil ?_
   exact NextQ2.mk h5 (vec [(i6 0), (i6 1)]) ((by exact Weak.cv ⟨jL, jL, jL, jL, trivial⟩ ⟨.inl rfl, trivial⟩ nL))
  refine aS fun K9 hK9 wK9 => (aR (ob1k hp1 fun x5 ex5 h6 => (sQ rfl (ms_idx rfl tg_27.slice iL iL (fun _ => rfl) (fun _ => ex5)) (sQ rfl (ms_loadA (cs := [rI (x5.Char), rI (x5.Ref), qa x5.Attrs]) rfl ta_60 iL rfl rfl) (AOps.step rfl rfl rfl (ms_alloc (cs := [rI (0), rI (0), .cst (.slice none 0 0)]) 5 rfl t0_60 rfl rfl) (AOps.step0 rfl rfl (ms_store_box (ds := [rI (x5.Char), rI (x5.Ref), qa x5.Attrs]) rfl tz_60 iL rfl iL rfl rfl rfl rfl) (aZ (hK9 _ ?_))))))))
  refine aS fun K10 hK10 wK10 => (aR (sQ rfl (fB rfl tf_60_1 iL fR rfl) (sQ rfl (ms_load_box (a := rI (x5.Ref)) rfl ts_3 iL rfl rfl) (sQ rfl (sp_neq rfl iL iL) (aZ (hK10 _ ?_))))))
  refine aC rfl (fun hc2 => ?_) (fun hc2 => ?_)
  ·have h7 := ite_t hc2 h6
   refine aR (sM rfl rfl (sQ rfl (fB rfl tf_60_1 iL fR rfl) (sQ rfl (ms_load_box (a := rI (x5.Ref)) rfl ts_3 iL rfl rfl) (AOps.step rfl rfl rfl (ms_lit 18 rfl tg_72 (f := (rInt .i64)) (l := ([x5.Ref] : List Int)) ⟨rfl, ⟨_, iL, rfl⟩, trivial⟩ rfl (fun _ => rfl) rfl) (ob1k h7 fun out6 eout6 h8 => (AOps.step rfl rfl rfl (ms_app rfl tg_72 iL rfl (.inr (.inl ⟨_, _, iL, rfl⟩)) eout6) (sA rfl rfl ?_)))))))
   refine AOps.nil ?_
   exact wK8 _ _ ((by exact Weak.cv ⟨jL, jL, jL, jL, trivial⟩ ⟨.inl rfl, trivial⟩ nL)) (J2 _ (vec [((i3 1) + 2), ((i3 1) + 3)]) (Option.some.inj h8).symm)
  ·have h7 := ite_f hc2 h6
   refine AW.skip ?_
   exact wK8 _ _ ((by exact Weak.cv ⟨jL, jL, jL, jL, trivial⟩ ⟨.inl rfl, trivial⟩ nL)) (J2 _ (vec [(i3 0), ((i3 1) + 1)]) (Option.some.inj h7).symm)
 ·have h3 := ite_f hc1 h2
  refine AW.exit ?_
  exact wK3 _ _ ((by exact Weak.cv ⟨jL, trivial⟩ ⟨.inl rfl, trivial⟩ nL)) (J1 _ (vec [(i3 0), (i3 1)]) (hx1 _ (Option.some.inj h3).symm))
theorem w_doc_Refs {n1 : GNode} {r : (List Int)} (h : doc_Refs n1 = some r) : ARO prog 146 [.agg [rI (n1.ID), rI (n1.Kind), qa n1.Attrs, qd n1.Flow, rI (n1.Grid.Rows), rI (n1.Grid.Cols), qc n1.Grid.Cells, qb n1.Grid.Merges, qe n1.Draw]] (.r (.sl (r.map (rInt .i64)))) := by
 unfold doc_Refs at h
 refine ARO.mkF func146 rfl rfl ntmps146 rfl (Nat.le_of_ble_eq_true rfl) fun n0 => ?_
 refine aS fun K1 hK1 wK1 => (aR (AOps.step rfl rfl rfl (ms_box (cs := [rI (n1.ID), rI (n1.Kind), qa n1.Attrs, qd n1.Flow, rI (n1.Grid.Rows), rI (n1.Grid.Cols), qc n1.Grid.Cells, qb n1.Grid.Merges, qe n1.Draw]) 1 rfl iL rfl rfl) (sA rfl rfl (aZ (hK1 _ ?_)))))
 refine aS fun K2 hK2 wK2 => (aR (sQ rfl (fB rfl tf_34_3 iL fR rfl) (sQ rfl (ms_load_box (a := qd n1.Flow) rfl ts_27 iL rfl rfl) (ob1k h fun w1 ew1 h1 => ?_))))
 refine AOps.stepHI [8] (hc := []) (bs := [qd n1.Flow]) (caps := []) rfl rfl rfl rfl iL rfl ⟨.inl ⟨iL, rfl⟩, trivial⟩ trivial (by decide) (w_flow_Refs_o ew1) ?_
 intro i1 n2
 refine AOps.weak (s' := ⟨[(0, .agg [rI (n1.ID), rI (n1.Kind), qa n1.Attrs, qd n1.Flow, rI (n1.Grid.Rows), rI (n1.Grid.Cols), qc n1.Grid.Cells, qb n1.Grid.Merges, qe n1.Draw]), (1, .ptr 1 n0 0 0), (2, .cst (.slice none 0 0)), (6, .ptr 1 n0 0 3), (7, qd n1.Flow), (8, .own 8 (i1 0))], [(1, some (.box n0 34 [rI (n1.ID), rI (n1.Kind), qa n1.Attrs, qd n1.Flow, rI (n1.Grid.Rows), rI (n1.Grid.Cols), qc n1.Grid.Cells, qb n1.Grid.Merges, qe n1.Draw])), (8, some (.arr (i1 0) 3 1 (w1.map (rInt .i64))))], n2, 27⟩) (by exact Weak.cv ⟨jL, jL, jL, jL, jL, jL, trivial⟩ ⟨.inl rfl, .inl rfl, trivial⟩ nL) ?_
 refine sA rfl rfl (aZ (hK2 _ ?_))
 refine aS fun K3 hK3 wK3 => (aS fun K4 hK4 wK4 => (aR (sQ rfl (fB rfl tf_34_4 iL fR rfl) (sQ rfl (fB rfl tf_31_2 iL fR rfl) (sQ rfl (ms_load_box (a := qc n1.Grid.Cells) rfl ts_28 iL rfl rfl) (sQ rfl (ms_len rfl tg_28.slice iL) (sM rfl rfl (aZ (hK4 _ ?_)))))))))
 refine AW.block ?_
 refine jb1k h1 fun o1 hit1 hk1 => ?_
 have J1 : ∀ (out4 : List Int) (i6 : Nat → Nat), o1 = out4 → K3 ⟨[(3, .own 8 (i6 0))], [(8, some (.arr (i6 0) 3 1 (out4.map (rInt .i64))))], (i6 1), 27⟩ := by
  intro out4 i6 e
  have h2 := hk1 _ e
  refine hK3 _ ?_
  refine aS fun K5 hK5 wK5 => (aR (sM rfl rfl (sA rfl rfl (aZ (hK5 _ ?_)))))
  refine AW.ret ?_
  exact retf1 (P := prog) (fun (r : (List Int)) => .r (.sl (r.map (rInt .i64)))) h2 iL (.t (.one (.own rfl)))
 refine AW.iter2 (fun (x2 : Int) (out2 : List Int) i4 => ⟨[(3, .own 8 (i4 0)), (11, qc n1.Grid.Cells), (12, rI ((n1.Grid.Cells.length : Int))), (13, rI (x2))], [(8, some (.arr (i4 0) 3 1 (out2.map (rInt .i64))))], (i4 1), 27⟩) (vec [(i1 0), n2]) hit1 ((by exact Weak.cv ⟨jL, jL, jL, jL, trivial⟩ ⟨.inl rfl, trivial⟩ nL)) ?_
 intro x2 out2 i4 v1 hv1 hx1
 have h3 : doc_Refs_L1 n1 x2 out2 = some v1 := hv1; unfold doc_Refs_L1 at h3
 refine aS fun K6 hK6 wK6 => (aR (sQ rfl (sp_lss rfl iL iL) (aZ (hK6 _ ?_))))
 refine aS fun K7 hK7 wK7 => ?_
 refine aC rfl (fun hc1 => ?_) (fun hc1 => ?_)
 ·have h4 := ite_t hc1 h3
  refine AW.skip ?_
  refine hK7 _ ?_
  refine aS fun K8 hK8 wK8 => (AW.block ?_)
  refine jb1k h4 fun p1 hp1 hk2 => ?_
  have J2 : ∀ (out5 : List Int) (i7 : Nat → Nat), p1 = out5 → K8 ⟨[(3, .own 8 (i7 0)), (11, qc n1.Grid.Cells), (12, rI ((n1.Grid.Cells.length : Int))), (13, rI (x2))], [(8, some (.arr (i7 0) 3 1 (out5.map (rInt .i64))))], (i7 1), 27⟩ := by
   intro out5 i7 e
   have h5 := hk2 _ e
   refine hK8 _ ?_
   refine aR (ob1k h5 fun x4 ex4 h6 => (sQ rfl (ms_add rfl iL iL (fun _ => ex4)) (sM rfl rfl ?_)))
   refine AOps.nil ?_
   exact NextQ2.mk h6 (vec [(i7 0), (i7 1)]) ((by exact Weak.cv ⟨jL, jL, jL, jL, trivial⟩ ⟨.inl rfl, trivial⟩ nL))
  refine aS fun K9 hK9 wK9 => (aR (ob1k hp1 fun x5 ex5 h7 => (sQ rfl (ms_idx rfl tg_28.slice iL iL (fun _ => rfl) (fun _ => ex5)) (sQ rfl (ms_loadA (cs := [rI (x5.Row), rI (x5.Col), .r (.str x5.Text), rI (x5.Ref), qa x5.Attrs]) rfl ta_178 iL rfl rfl) (AOps.step rfl rfl rfl (ms_alloc (cs := [rI (0), rI (0), .r (.str []), rI (0), .cst (.slice none 0 0)]) 5 rfl t0_178 rfl rfl) (AOps.step0 rfl rfl (ms_store_box (ds := [rI (x5.Row), rI (x5.Col), .r (.str x5.Text), rI (x5.Ref), qa x5.Attrs]) rfl tz_178 iL rfl iL rfl rfl rfl rfl) (aZ (hK9 _ ?_))))))))
  refine aS fun K10 hK10 wK10 => (aR (sQ rfl (fB rfl tf_178_3 iL fR rfl) (sQ rfl (ms_load_box (a := rI (x5.Ref)) rfl ts_3 iL rfl rfl) (sQ rfl (sp_neq rfl iL iL) (aZ (hK10 _ ?_))))))
  refine aC rfl (fun hc2 => ?_) (fun hc2 => ?_)
  ·have h8 := ite_t hc2 h7
   refine aR (sM rfl rfl (sQ rfl (fB rfl tf_178_3 iL fR rfl) (sQ rfl (ms_load_box (a := rI (x5.Ref)) rfl ts_3 iL rfl rfl) (AOps.step rfl rfl rfl (ms_lit 23 rfl tg_72 (f := (rInt .i64)) (l := ([x5.Ref] : List Int)) ⟨rfl, ⟨_, iL, rfl⟩, trivial⟩ rfl (fun _ => rfl) rfl) (ob1k h8 fun out6 eout6 h9 => (AOps.step rfl rfl rfl (ms_app rfl tg_72 iL rfl (.inr (.inl ⟨_, _, iL, rfl⟩)) eout6) (sA rfl rfl ?_)))))))
   refine AOps.nil ?_
   exact wK8 _ _ ((by exact Weak.cv ⟨jL, jL, jL, jL, trivial⟩ ⟨.inl rfl, trivial⟩ nL)) (J2 _ (vec [((i4 1) + 2), ((i4 1) + 3)]) (Option.some.inj h9).symm)
  ·have h8 := ite_f hc2 h7
   refine AW.skip ?_
   exact wK8 _ _ ((by exact Weak.cv ⟨jL, jL, jL, jL, trivial⟩ ⟨.inl rfl, trivial⟩ nL)) (J2 _ (vec [(i4 0), ((i4 1) + 1)]) (Option.some.inj h8).symm)
 ·have h4 := ite_f hc1 h3
  refine AW.exit ?_
  exact wK3 _ _ ((by exact Weak.cv ⟨jL, trivial⟩ ⟨.inl rfl, trivial⟩ nL)) (J1 _ (vec [(i4 0), (i4 1)]) (hx1 _ (Option.some.inj h4).symm))
theorem w_doc_find_f1 {n1 : GNode} {id1 : Int} {r : Int} (h : doc_find_f1 n1 id1 = some r) : ARO prog 206 [.agg [rI (n1.ID), rI (n1.Kind), qa n1.Attrs, qd n1.Flow, rI (n1.Grid.Rows), rI (n1.Grid.Cols), qc n1.Grid.Cells, qb n1.Grid.Merges, qe n1.Draw], rI (id1)] (rI (r)) := by
 unfold doc_find_f1 at h
 refine ARO.mkF func206 rfl rfl ntmps206 rfl (Nat.le_of_ble_eq_true rfl) fun n0 => ?_
 refine aS fun K1 hK1 wK1 => (aR (AOps.step rfl rfl rfl (ms_box (cs := [rI (n1.ID), rI (n1.Kind), qa n1.Attrs, qd n1.Flow, rI (n1.Grid.Rows), rI (n1.Grid.Cols), qc n1.Grid.Cells, qb n1.Grid.Merges, qe n1.Draw]) 2 rfl iL rfl rfl) (sA rfl rfl (aZ (hK1 _ ?_)))))
 refine aS fun K2 hK2 wK2 => (AW.block (aS fun K3 hK3 wK3 => (aR (sQ rfl (fB rfl tf_34_0 iL fR rfl) (sQ rfl (ms_load_box (a := rI (n1.ID)) rfl ts_3 iL rfl rfl) (sM rfl rfl (sQ rfl (sp_lss rfl iL iL) (sA rfl rfl (aZ (hK3 _ ?_))))))))))
 refine aC rfl (fun hc1 => ?_) (fun hc1 => ?_)
 ·have h1 := ite_t hc1 h
  refine aS fun K4 hK4 wK4 => ?_
  refine AW.weak (s' := ⟨[], [], (n0 + 1), 15⟩) (by exact Weak.cv trivial trivial nL) ?_
  refine aR (sA rfl rfl (aZ (hK4 _ ?_)))
  refine AW.ret ?_
  exact retf1 (P := prog) (fun (r : Int) => rI (r)) h1 iL (.t (.d rfl))
 ·have h1 := ite_f hc1 h
  refine aS fun K5 hK5 wK5 => (aR (sQ rfl (fB rfl tf_34_0 iL fR rfl) (sQ rfl (ms_load_box (a := rI (n1.ID)) rfl ts_3 iL rfl rfl) (sM rfl rfl (sQ rfl (sp_gtr rfl iL iL) (sA rfl rfl (aZ (hK5 _ ?_))))))))
  refine aC rfl (fun hc2 => ?_) (fun hc2 => ?_)
  ·have h2 := ite_t hc2 h1
   refine aS fun K6 hK6 wK6 => ?_
   refine AW.weak (s' := ⟨[], [], (n0 + 1), 15⟩) (by exact Weak.cv trivial trivial nL) ?_
   refine aR (sA rfl rfl (aZ (hK6 _ ?_)))
   refine AW.ret ?_
   exact retf1 (P := prog) (fun (r : Int) => rI (r)) h2 iL (.t (.d rfl))
  ·have h2 := ite_f hc2 h1
   refine AW.skip ?_
   refine hK2 _ ?_
   refine aS fun K7 hK7 wK7 => ?_
   refine AW.weak (s' := ⟨[], [], (n0 + 1), 15⟩) (by exact Weak.cv trivial trivial nL) ?_
   refine aR (sA rfl rfl (aZ (hK7 _ ?_)))
   refine AW.ret ?_
   exact retf1 (P := prog) (fun (r : Int) => rI (r)) h2 iL (.t (.d rfl))
theorem w_slices_BinarySearchFunc_api_Node_api_Node_int__find_f1 {x1 : List GNode} {target1 : Int} {r : Int × Bool} (h : slices_BinarySearchFunc_api_Node_api_Node_int__find_f1 x1 target1 = some r) : ARO prog 205 [qg x1, rI (target1), .fn 206 []] (.tup [rI (r.1), rB (r.2)]) := by
 unfold slices_BinarySearchFunc_api_Node_api_Node_int__find_f1 at h
 refine ARO.mkF func205 rfl rfl ntmps205 rfl (Nat.le_of_ble_eq_true rfl) fun n0 => ?_
 refine aS fun K1 hK1 wK1 => (aR (sA rfl rfl (sA rfl rfl (aZ (hK1 _ ?_)))))
 refine aS fun K2 hK2 wK2 => (aR (sM rfl rfl (sQ rfl (ms_len rfl tg_43.slice iL) (sA rfl rfl (aZ (hK2 _ ?_))))))
 refine aS fun K3 hK3 wK3 => (aR (sM rfl rfl (sA rfl rfl (sA rfl rfl (aZ (hK3 _ ?_))))))
 refine aS fun K4 hK4 wK4 => (AW.block ?_)
 refine jb1k h fun o1 hit1 hk1 => ?_
 have J1 : ∀ (i8 : Int) (i9 : Nat → Nat), o1 = i8 → K4 ⟨[(0, qg x1), (1, rI (target1)), (2, .fn 206 []), (8, rI ((x1.length : Int))), (9, rI (i8))], [], (i9 0), 49⟩ := by
  intro i8 i9 e
  have h1 := hk1 _ e
  refine hK4 _ ?_
  refine aS fun K5 hK5 wK5 => (aR (sM rfl rfl (sM rfl rfl (sM rfl rfl (sQ rfl (sp_lss rfl iL iL) (sM rfl rfl (sV rfl rfl rfl (sp_move rfl iL) (sV rfl rfl rfl (sp_move rfl iL) (sV rfl rfl rfl (sp_move rfl iL) (ob1k h1 fun x2 ex2 h2 => (sV rfl rfl rfl (ms_idx rfl tg_43.slice (iR rfl) (iR rfl) (fun _ => rfl) (gdt ex2)) (sV rfl rfl rfl (ms_loadA (cs := [rI (x2.ID), rI (x2.Kind), qa x2.Attrs, qd x2.Flow, rI (x2.Grid.Rows), rI (x2.Grid.Cols), qc x2.Grid.Cells, qb x2.Grid.Merges, qe x2.Draw]) rfl ta_34 (iR rfl) rfl rfl) (sV rfl rfl rfl (sp_move rfl iL) (ob1k h2 fun r1 er1 h3 => ?_))))))))))))))
  refine AOps.stepW (.one rfl rfl rfl) rfl rfl (sp_call (r := rI (r1)) (caps := []) (bs := [.agg [rI (x2.ID), rI (x2.Kind), qa x2.Attrs, qd x2.Flow, rI (x2.Grid.Rows), rI (x2.Grid.Cols), qc x2.Grid.Cells, qb x2.Grid.Merges, qe x2.Draw], rI (target1)]) rfl (iR rfl) rfl ⟨⟨_, (iR rfl), .g (cs := [.int .i64 x2.ID, .int .i64 x2.Kind, .sl (x2.Attrs.map GAttr.row), .sl (x2.Flow.map GElem.row), .int .i64 x2.Grid.Rows, .int .i64 x2.Grid.Cols, .sl (x2.Grid.Cells.map GCell.row), .sl (x2.Grid.Merges.map GRect.row), .sl (x2.Draw.map GDrawOp.row)]) rfl rfl⟩, ⟨_, (iR rfl), .d rfl⟩, trivial⟩ (fun hg => w_doc_find_f1 (gdt er1 hg)) rfl) ?_
  refine sV rfl rfl rfl (sp_eql rfl (iR rfl) iL) (sQ rfl (sp_and rfl iL (iR rfl)) (sA rfl rfl (sA rfl rfl (aZ (hK5 _ ?_)))))
  refine AW.ret ?_
  exact retf2 (P := prog) (fun (r : Int × Bool) => rI (r.1)) (fun (r : Int × Bool) => rB (r.2)) h3 iL (.t (.d rfl)) (.t (.d rfl))
 refine AW.iter2 (fun (i4 : Int) (j2 : Int) i5 => ⟨[(0, qg x1), (1, rI (target1)), (2, .fn 206 []), (8, rI ((x1.length : Int))), (9, rI (i4)), (10, rI (j2))], [], (i5 0), 49⟩) (vec [n0]) hit1 ((by exact Weak.cv ⟨jL, jL, jL, jL, jL, jL, trivial⟩ trivial nL)) ?_
 intro i4 j2 i5 v1 hv1 hx1
 have h4 : slices_BinarySearchFunc_api_Node_api_Node_int__find_f1_L1 x1 target1 i4 j2 = some v1 := hv1; unfold slices_BinarySearchFunc_api_Node_api_Node_int__find_f1_L1 at h4
 refine aS fun K6 hK6 wK6 => (aS fun K7 hK7 wK7 => (aR (sM rfl rfl (sM rfl rfl (sQ rfl (sp_lss rfl iL iL) (aZ (hK7 _ ?_)))))))
 refine aC rfl (fun hc1 => ?_) (fun hc1 => ?_)
 ·have h5 := ite_t hc1 h4
  refine AW.skip ?_
  refine hK6 _ ?_
  refine AW.block (aS fun K8 hK8 wK8 => (aR (sM rfl rfl (sM rfl rfl (ob1k h5 fun x3 ex3 h6 => (sQ rfl (ms_add rfl iL iL (fun _ => ex3)) (sQ rfl (sp_convert_int rfl underlying3 underlying211 iL) (sQ rfl (sp_shr (b := 1) rfl iL iL) (sQ rfl (sp_convert_int rfl underlying211 underlying3 iL) (sA rfl rfl (aZ (hK8 _ ?_))))))))))))
  refine aS fun K9 hK9 wK9 => ?_
  refine AW.weak (s' := ⟨[(0, qg x1), (1, rI (target1)), (2, .fn 206 []), (8, rI ((x1.length : Int))), (9, rI (i4)), (10, rI (j2)), (11, rI ((IntKind.i64.wrap (shrC .u64 (IntKind.u64.wrap x3) 1))))], [], (i5 0), 49⟩) (by exact Weak.cv ⟨jL, jL, jL, jL, jL, jL, jL, trivial⟩ trivial nL) ?_
  refine aR (sM rfl rfl (sM rfl rfl (sM rfl rfl (ob1k h6 fun x4 ex4 h7 => (sQ rfl (ms_idx rfl tg_43.slice iL iL (fun _ => rfl) (fun _ => ex4)) (sQ rfl (ms_loadA (cs := [rI (x4.ID), rI (x4.Kind), qa x4.Attrs, qd x4.Flow, rI (x4.Grid.Rows), rI (x4.Grid.Cols), qc x4.Grid.Cells, qb x4.Grid.Merges, qe x4.Draw]) rfl ta_34 iL rfl rfl) (sM rfl rfl (ob1k h7 fun r2 er2 h8 => (AOps.step rfl rfl rfl (sp_call (r := rI (r2)) (caps := []) (bs := [.agg [rI (x4.ID), rI (x4.Kind), qa x4.Attrs, qd x4.Flow, rI (x4.Grid.Rows), rI (x4.Grid.Cols), qc x4.Grid.Cells, qb x4.Grid.Merges, qe x4.Draw], rI (target1)]) rfl iL rfl ⟨⟨_, iL, .g (cs := [.int .i64 x4.ID, .int .i64 x4.Kind, .sl (x4.Attrs.map GAttr.row), .sl (x4.Flow.map GElem.row), .int .i64 x4.Grid.Rows, .int .i64 x4.Grid.Cols, .sl (x4.Grid.Cells.map GCell.row), .sl (x4.Grid.Merges.map GRect.row), .sl (x4.Draw.map GDrawOp.row)]) rfl rfl⟩, ⟨_, iL, .d rfl⟩, trivial⟩ (fun _ => w_doc_find_f1 (er2)) rfl) (sQ rfl (sp_lss rfl iL iL) (aZ (hK9 _ ?_))))))))))))
  refine aC rfl (fun hc2 => ?_) (fun hc2 => ?_)
  ·have h9 := ite_t hc2 h8
   refine AW.weak (s' := ⟨[(0, qg x1), (1, rI (target1)), (2, .fn 206 []), (8, rI ((x1.length : Int))), (10, rI (j2)), (11, rI ((IntKind.i64.wrap (shrC .u64 (IntKind.u64.wrap x3) 1))))], [], (i5 0), 49⟩) (by exact Weak.cv ⟨jL, jL, jL, jL, jL, jL, trivial⟩ trivial nL) ?_
   refine aR (sM rfl rfl (ob1k h9 fun i10 ei10 h10 => (sQ rfl (ms_add rfl iL iL (fun _ => ei10)) (sA rfl rfl ?_))))
   refine AOps.nil ?_
   exact NextQ2.mk h10 (vec [(i5 0)]) ((by exact Weak.cv ⟨jL, jL, jL, jL, jL, jL, trivial⟩ trivial nL))
  ·have h9 := ite_f hc2 h8
   refine AW.weak (s' := ⟨[(0, qg x1), (1, rI (target1)), (2, .fn 206 []), (8, rI ((x1.length : Int))), (9, rI (i4)), (11, rI ((IntKind.i64.wrap (shrC .u64 (IntKind.u64.wrap x3) 1))))], [], (i5 0), 49⟩) (by exact Weak.cv ⟨jL, jL, jL, jL, jL, jL, trivial⟩ trivial nL) ?_
   refine aR (sM rfl rfl (sA rfl rfl ?_))
   refine AOps.nil ?_
   exact NextQ2.mk h9 (vec [(i5 0)]) ((by exact Weak.cv ⟨jL, jL, jL, jL, jL, jL, trivial⟩ trivial nL))
 ·have h5 := ite_f hc1 h4
  refine AW.exit ?_
  exact wK4 _ _ ((by exact Weak.cv ⟨jL, jL, jL, jL, jL, trivial⟩ trivial nL)) (J1 _ (vec [(i5 0)]) (hx1 _ (Option.some.inj h5).symm))
theorem w_doc_find {d1 : GDoc} {id1 : Int} {r : Int × Bool} (h : doc_find d1 id1 = some r) : ARO prog 173 [.agg [qg d1.Nodes], rI (id1)] (.tup [rI (r.1), rB (r.2)]) := by
 unfold doc_find at h
 refine ARO.mkF func173 rfl rfl ntmps173 rfl (Nat.le_of_ble_eq_true rfl) fun n0 => ?_
 refine aS fun K1 hK1 wK1 => (aR (AOps.step rfl rfl rfl (ms_box (cs := [qg d1.Nodes]) 2 rfl iL rfl rfl) (sA rfl rfl (sA rfl rfl (aZ (hK1 _ ?_))))))
 refine aS fun K2 hK2 wK2 => (aR (sQ rfl (fB rfl tf_45_0 iL fR rfl) (sQ rfl (ms_load_box (a := qg d1.Nodes) rfl ts_43 iL rfl rfl) (sM rfl rfl (ob2k h fun r1 r2 er1 h1 => (AOps.step rfl rfl rfl (sp_call (r := .tup [rI (r1), rB (r2)]) (caps := []) (bs := [qg d1.Nodes, rI (id1), .fn 206 []]) rfl iL rfl ⟨⟨_, iL, .d rfl⟩, ⟨_, iL, .d rfl⟩, ⟨_, iL, .one (.closed (.fn 206 []) rfl)⟩, trivial⟩ (fun _ => w_slices_BinarySearchFunc_api_Node_api_Node_int__find_f1 (er1)) rfl) (sQ rfl (sp_extract (a := rI (r1)) rfl iL rfl) (sQ rfl (sp_extract (a := rB (r2)) rfl iL rfl) (sA rfl rfl (sA rfl rfl (aZ (hK2 _ ?_))))))))))))
 refine AW.ret ?_
 exact retf2 (P := prog) (fun (r : Int × Bool) => rI (r.1)) (fun (r : Int × Bool) => rB (r.2)) h1 iL (.t (.d rfl)) (.t (.d rfl))
theorem w_slices_Index_int_int {s1 : List Int} {v1 : Int} {r : Int} (h : slices_Index_int_int s1 v1 = some r) : ARO prog 230 [.r (.sl (s1.map (rInt .i64))), rI (v1)] (rI (r)) := by
 unfold slices_Index_int_int at h
 refine ARO.mkF func230 rfl rfl ntmps230 rfl (Nat.le_of_ble_eq_true rfl) fun n0 => ?_
 refine aS fun K1 hK1 wK1 => (aR (sA rfl rfl (aZ (hK1 _ ?_))))
 refine aS fun K2 hK2 wK2 => (aS fun K3 hK3 wK3 => (aR (sM rfl rfl (sQ rfl (ms_len rfl tg_72.slice iL) (sM rfl rfl (aZ (hK3 _ ?_)))))))
 refine AW.block ?_
 refine jc1k h fun o1 hit1 hk1 he1 => ?_
 have J1 : ∀ (u2 : Unit) (i5 : Nat → Nat), o1 = .nrm u2 → K2 ⟨[], [], (i5 0), 19⟩ := by
  intro u2 i5 e
  have h1 := hk1 _ e
  refine hK2 _ ?_
  refine aS fun K4 hK4 wK4 => (aR (sA rfl rfl (aZ (hK4 _ ?_))))
  refine AW.ret ?_
  exact retf1 (P := prog) (fun (r : Int) => rI (r)) h1 iL (.t (.d rfl))
 refine AW.iter1 (fun (x2 : Int) i3 => ⟨[(0, .r (.sl (s1.map (rInt .i64)))), (1, rI (v1)), (7, rI ((s1.length : Int))), (8, rI (x2))], [], (i3 0), 19⟩) (vec [n0]) hit1 ((by exact Weak.cv ⟨jL, jL, jL, jL, trivial⟩ trivial nL)) ?_
 intro x2 i3 v2 hv1 hx1
 have h2 : slices_Index_int_int_L1 s1 v1 x2 = some v2 := hv1; unfold slices_Index_int_int_L1 at h2
 refine aS fun K5 hK5 wK5 => (aR (sQ rfl (sp_lss rfl iL iL) (aZ (hK5 _ ?_))))
 refine aS fun K6 hK6 wK6 => ?_
 refine aC rfl (fun hc1 => ?_) (fun hc1 => ?_)
 ·have h3 := ite_t hc1 h2
  refine AW.skip ?_
  refine hK6 _ ?_
  refine aS fun K7 hK7 wK7 => (AW.block (aS fun K8 hK8 wK8 => (aR (sM rfl rfl (sA rfl rfl (aZ (hK8 _ ?_)))))))
  refine aS fun K9 hK9 wK9 => (aR (sM rfl rfl (sM rfl rfl (sM rfl rfl (ob1k h3 fun x4 ex4 h4 => (sQ rfl (ms_idx rfl tg_72.slice iL iL (fun _ => rfl) (fun _ => ex4)) (sQ rfl (ms_load (d := .int .i64 x4) rfl ts_3 iL rfl) (sQ rfl (sp_eql rfl iL iL) (aZ (hK9 _ ?_))))))))))
  refine aC rfl (fun hc2 => ?_) (fun hc2 => ?_)
  ·have h5 := ite_t hc2 h4
   refine aS fun K10 hK10 wK10 => ?_
   refine AW.weak (s' := ⟨[(5, rI (x2))], [], (i3 0), 19⟩) (by exact Weak.cv ⟨jL, trivial⟩ trivial nL) ?_
   refine aR (sM rfl rfl (sA rfl rfl (aZ (hK10 _ ?_))))
   refine AW.ret ?_
   exact retf1 (P := prog) (fun (r : Int) => rI (r)) (he1 _ (hx1 _ (Option.some.inj h5).symm)) iL (.t (.d rfl))
  ·have h5 := ite_f hc2 h4
   refine AW.skip ?_
   refine hK7 _ ?_
   refine AW.weak (s' := ⟨[(0, .r (.sl (s1.map (rInt .i64)))), (1, rI (v1)), (7, rI ((s1.length : Int))), (8, rI (x2))], [], (i3 0), 19⟩) (by exact Weak.cv ⟨jL, jL, jL, jL, trivial⟩ trivial nL) ?_
   refine aR (ob1k h5 fun x5 ex5 h6 => (sQ rfl (ms_add rfl iL iL (fun _ => ex5)) (sM rfl rfl ?_)))
   refine AOps.nil ?_
   exact NextQ1.mk h6 (vec [(i3 0)]) ((by exact Weak.cv ⟨jL, jL, jL, jL, trivial⟩ trivial nL))
 ·have h3 := ite_f hc1 h2
  refine AW.exit ?_
  exact wK2 _ _ ((by exact Weak.cv trivial trivial nL)) (J1 _ (vec [(i3 0)]) (hx1 _ (Option.some.inj h3).symm))
theorem w_slices_Contains_int_int {s1 : List Int} {v1 : Int} {r : Bool} (h : slices_Contains_int_int s1 v1 = some r) : ARO prog 210 [.r (.sl (s1.map (rInt .i64))), rI (v1)] (rB (r)) := by
 unfold slices_Contains_int_int at h
 refine ARO.mkF func210 rfl rfl ntmps210 rfl (Nat.le_of_ble_eq_true rfl) fun n0 => ?_
 refine aS fun K1 hK1 wK1 => (aR (sA rfl rfl (aZ (hK1 _ ?_))))
 refine aS fun K2 hK2 wK2 => (aR (sM rfl rfl (sM rfl rfl (ob1k h fun r1 er1 h1 => (AOps.step rfl rfl rfl (sp_call (r := rI (r1)) (caps := []) (bs := [.r (.sl (s1.map (rInt .i64))), rI (v1)]) rfl iL rfl ⟨⟨_, iL, .d rfl⟩, ⟨_, iL, .d rfl⟩, trivial⟩ (fun _ => w_slices_Index_int_int (er1)) rfl) (sQ rfl (sp_geq rfl iL iL) (sA rfl rfl (aZ (hK2 _ ?_)))))))))
 refine AW.ret ?_
 exact retf1 (P := prog) (fun (r : Bool) => rB (r)) h1 iL (.t (.d rfl))
theorem w_doc_Permitted {parent1 : Int} {kid1 : Int} {r : Bool} (h : doc_Permitted parent1 kid1 = some r) : ARO prog 190 [rI (parent1), rI (kid1)] (rB (r)) := by
 unfold doc_Permitted at h
 refine ARO.mkF func190 rfl rfl ntmps190 rfl (Nat.le_of_ble_eq_true rfl) fun n0 => ?_
 refine aS fun K1 hK1 wK1 => (aR (sA rfl rfl (aZ (hK1 _ ?_))))
 refine aS fun K2 hK2 wK2 => (aR (sA rfl rfl (aZ (hK2 _ ?_))))
 refine aS fun K3 hK3 wK3 => (aS fun K4 hK4 wK4 => (aR (sM rfl rfl (aZ (hK4 _ ?_)))))
 refine AW.block ?_
 refine jb1k h fun p1 hp1 hk1 => ?_
 have J1 : ∀ (l1 : List Int) (i1 : Nat → Nat), p1 = l1 → K3 ⟨[(1, rI (kid1)), (5, .r (.sl (l1.map (rInt .i64))))], [], (i1 0), 29⟩ := by
  intro l1 i1 e
  have h1 := hk1 _ e
  refine hK3 _ ?_
  refine aS fun K5 hK5 wK5 => (aR (sM rfl rfl (sM rfl rfl (ob1k h1 fun r1 er1 h2 => (AOps.step rfl rfl rfl (sp_call (r := rB (r1)) (caps := []) (bs := [.r (.sl (l1.map (rInt .i64))), rI (kid1)]) rfl iL rfl ⟨⟨_, iL, .d rfl⟩, ⟨_, iL, .d rfl⟩, trivial⟩ (fun _ => w_slices_Contains_int_int (er1)) rfl) (sA rfl rfl (aZ (hK5 _ ?_))))))))
  refine AW.ret ?_
  exact retf1 (P := prog) (fun (r : Bool) => rB (r)) h2 iL (.t (.d rfl))
 refine aS fun K6 hK6 wK6 => (aR (sQ rfl (sp_eql rfl iL iL) (sA rfl rfl (aZ (hK6 _ ?_)))))
 refine aC rfl (fun hc1 => ?_) (fun hc1 => ?_)
 ·have h3 := ite_t hc1 hp1
  refine aR (AOps.step rfl rfl rfl (ms_lit 9 rfl tg_72 (f := (rInt .i64)) (l := ([1, 6, 7, 10, 11, 12] : List Int)) ⟨rfl, ⟨_, iL, rfl⟩, rfl, ⟨_, iL, rfl⟩, rfl, ⟨_, iL, rfl⟩, rfl, ⟨_, iL, rfl⟩, rfl, ⟨_, iL, rfl⟩, rfl, ⟨_, iL, rfl⟩, trivial⟩ rfl (fun _ => rfl) rfl) (sA rfl rfl ?_))
  refine AOps.nil ?_
  exact wK3 _ _ (Weak.trans (by exact Weak.frz (e' := [(0, rI (parent1)), (1, rI (kid1)), (4, rB (false)), (5, .r (.sl ([1, 6, 7, 10, 11, 12].map (rInt .i64)))), (6, rI (parent1)), (7, rB ((decide (parent1 = 0)))), (8, rB ((decide (parent1 = 0)))), (9, .r (.sl ([1, 6, 7, 10, 11, 12].map (rInt .i64))))]) (h' := []) 9 rfl ⟨jL, jL, jL, .inl (.inr (.inr ⟨rfl, rfl⟩)), jL, jL, jL, .inl (.inr (.inr ⟨rfl, rfl⟩)), trivial⟩ trivial) (by exact Weak.cv ⟨jL, jL, trivial⟩ trivial nL)) (J1 _ (vec [(n0 + 1)]) (Option.some.inj h3).symm)
 ·have h3 := ite_f hc1 hp1
  refine aS fun K7 hK7 wK7 => (aR (sQ rfl (sp_eql rfl iL iL) (sA rfl rfl (aZ (hK7 _ ?_)))))
  refine aC rfl (fun hc2 => ?_) (fun hc2 => ?_)
  ·have h4 := ite_t hc2 h3
   refine aR (AOps.step rfl rfl rfl (ms_lit 12 rfl tg_72 (f := (rInt .i64)) (l := ([2, 4, 5, 10] : List Int)) ⟨rfl, ⟨_, iL, rfl⟩, rfl, ⟨_, iL, rfl⟩, rfl, ⟨_, iL, rfl⟩, rfl, ⟨_, iL, rfl⟩, trivial⟩ rfl (fun _ => rfl) rfl) (sA rfl rfl ?_))
   refine AOps.nil ?_
   exact wK3 _ _ (Weak.trans (by exact Weak.frz (e' := [(0, rI (parent1)), (1, rI (kid1)), (4, rB (false)), (5, .r (.sl ([2, 4, 5, 10].map (rInt .i64)))), (6, rI (parent1)), (7, rB ((decide (parent1 = 0)))), (8, rB ((decide (parent1 = 0)))), (10, rB ((decide (parent1 = 1)))), (11, rB ((decide (parent1 = 1)))), (12, .r (.sl ([2, 4, 5, 10].map (rInt .i64))))]) (h' := []) 12 rfl ⟨jL, jL, jL, .inl (.inr (.inr ⟨rfl, rfl⟩)), jL, jL, jL, jL, jL, .inl (.inr (.inr ⟨rfl, rfl⟩)), trivial⟩ trivial) (by exact Weak.cv ⟨jL, jL, trivial⟩ trivial nL)) (J1 _ (vec [(n0 + 1)]) (Option.some.inj h4).symm)
  ·have h4 := ite_f hc2 h3
   refine aS fun K8 hK8 wK8 => (aR (sQ rfl (sp_eql rfl iL iL) (sA rfl rfl (aZ (hK8 _ ?_)))))
   refine aC rfl (fun hc3 => ?_) (fun hc3 => ?_)
   ·have h5 := ite_t hc3 h4
    refine AW.weak (s' := ⟨[(1, rI (kid1))], [], n0, 29⟩) (by exact Weak.cv ⟨jL, trivial⟩ trivial nL) ?_
    refine aR (AOps.step rfl rfl rfl (ms_lit 15 rfl tg_72 (f := (rInt .i64)) (l := ([4, 5, 10] : List Int)) ⟨rfl, ⟨_, iL, rfl⟩, rfl, ⟨_, iL, rfl⟩, rfl, ⟨_, iL, rfl⟩, trivial⟩ rfl (fun _ => rfl) rfl) (sA rfl rfl ?_))
    refine AOps.nil ?_
    exact wK3 _ _ (Weak.trans (by exact Weak.frz (e' := [(1, rI (kid1)), (5, .r (.sl ([4, 5, 10].map (rInt .i64)))), (15, .r (.sl ([4, 5, 10].map (rInt .i64))))]) (h' := []) 15 rfl ⟨jL, .inl (.inr (.inr ⟨rfl, rfl⟩)), .inl (.inr (.inr ⟨rfl, rfl⟩)), trivial⟩ trivial) (by exact Weak.cv ⟨jL, jL, trivial⟩ trivial nL)) (J1 _ (vec [(n0 + 1)]) (Option.some.inj h5).symm)
   ·have h5 := ite_f hc3 h4
    refine aS fun K9 hK9 wK9 => (aS fun K10 hK10 wK10 => (aR (sQ rfl (sp_eql rfl iL iL) (sA rfl rfl (aZ (hK10 _ ?_))))))
    refine jb1k h5 fun p2 hp2 hk2 => ?_
    have J2 : ∀ (x1 : Bool) (i2 : Nat → Nat), p2 = x1 → K9 ⟨[(1, rI (kid1)), (5, .cst (.slice none 0 0)), (6, rI (parent1)), (16, rB (x1))], [], (i2 0), 29⟩ := by
     intro x1 i2 e
     have h6 := hk2 _ e
     refine hK9 _ ?_
     refine aC rfl (fun hc4 => ?_) (fun hc4 => ?_)
     ·have h7 := ite_t hc4 h6
      refine aR (AOps.step rfl rfl rfl (ms_lit 19 rfl tg_72 (f := (rInt .i64)) (l := ([5] : List Int)) ⟨rfl, ⟨_, iL, rfl⟩, trivial⟩ rfl (fun _ => rfl) rfl) (sA rfl rfl ?_))
      refine AOps.nil ?_
      exact wK3 _ _ (Weak.trans (by exact Weak.frz (e' := [(1, rI (kid1)), (5, .r (.sl ([5].map (rInt .i64)))), (6, rI (parent1)), (16, rB (x1)), (19, .r (.sl ([5].map (rInt .i64))))]) (h' := []) 19 rfl ⟨jL, .inl (.inr (.inr ⟨rfl, rfl⟩)), jL, jL, .inl (.inr (.inr ⟨rfl, rfl⟩)), trivial⟩ trivial) (by exact Weak.cv ⟨jL, jL, trivial⟩ trivial nL)) (J1 _ (vec [((i2 0) + 1)]) (Option.some.inj h7).symm)
     ·have h7 := ite_f hc4 h6
      refine aS fun K11 hK11 wK11 => (aR (sQ rfl (sp_eql rfl iL iL) (sA rfl rfl (aZ (hK11 _ ?_)))))
      refine aC rfl (fun hc5 => ?_) (fun hc5 => ?_)
      ·have h8 := ite_t hc5 h7
       refine aR (AOps.step rfl rfl rfl (ms_lit 22 rfl tg_72 (f := (rInt .i64)) (l := ([3] : List Int)) ⟨rfl, ⟨_, iL, rfl⟩, trivial⟩ rfl (fun _ => rfl) rfl) (sA rfl rfl ?_))
       refine AOps.nil ?_
       exact wK3 _ _ (Weak.trans (by exact Weak.frz (e' := [(1, rI (kid1)), (5, .r (.sl ([3].map (rInt .i64)))), (6, rI (parent1)), (16, rB (x1)), (20, rB ((decide (parent1 = 2)))), (21, rB ((decide (parent1 = 2)))), (22, .r (.sl ([3].map (rInt .i64))))]) (h' := []) 22 rfl ⟨jL, .inl (.inr (.inr ⟨rfl, rfl⟩)), jL, jL, jL, jL, .inl (.inr (.inr ⟨rfl, rfl⟩)), trivial⟩ trivial) (by exact Weak.cv ⟨jL, jL, trivial⟩ trivial nL)) (J1 _ (vec [((i2 0) + 1)]) (Option.some.inj h8).symm)
      ·have h8 := ite_f hc5 h7
       refine aS fun K12 hK12 wK12 => (aR (sQ rfl (sp_eql rfl iL iL) (sA rfl rfl (aZ (hK12 _ ?_)))))
       refine aC rfl (fun hc6 => ?_) (fun hc6 => ?_)
       ·have h9 := ite_t hc6 h8
        refine aR (AOps.step rfl rfl rfl (ms_lit 25 rfl tg_72 (f := (rInt .i64)) (l := ([8, 9] : List Int)) ⟨rfl, ⟨_, iL, rfl⟩, rfl, ⟨_, iL, rfl⟩, trivial⟩ rfl (fun _ => rfl) rfl) (sA rfl rfl ?_))
        refine AOps.nil ?_
        exact wK3 _ _ (Weak.trans (by exact Weak.frz (e' := [(1, rI (kid1)), (5, .r (.sl ([8, 9].map (rInt .i64)))), (6, rI (parent1)), (16, rB (x1)), (20, rB ((decide (parent1 = 2)))), (21, rB ((decide (parent1 = 2)))), (23, rB ((decide (parent1 = 7)))), (24, rB ((decide (parent1 = 7)))), (25, .r (.sl ([8, 9].map (rInt .i64))))]) (h' := []) 25 rfl ⟨jL, .inl (.inr (.inr ⟨rfl, rfl⟩)), jL, jL, jL, jL, jL, jL, .inl (.inr (.inr ⟨rfl, rfl⟩)), trivial⟩ trivial) (by exact Weak.cv ⟨jL, jL, trivial⟩ trivial nL)) (J1 _ (vec [((i2 0) + 1)]) (Option.some.inj h9).symm)
       ·have h9 := ite_f hc6 h8
        refine AW.skip ?_
        exact wK3 _ _ ((by exact Weak.cv ⟨jL, .inl (.inr (.inr ⟨rfl, rfl⟩)), trivial⟩ trivial nL)) (J1 _ (vec [(i2 0)]) (Option.some.inj h9).symm)
    refine aC rfl (fun hc7 => ?_) (fun hc7 => ?_)
    ·have h10 := ite_t hc7 hp2
     refine AW.skip ?_
     exact wK9 _ _ ((by exact Weak.cv ⟨jL, jL, jL, jL, trivial⟩ trivial nL)) (J2 _ (vec [n0]) (Option.some.inj h10).symm)
    ·have h10 := ite_f hc7 hp2
     refine AW.weak (s' := ⟨[(1, rI (kid1)), (5, .cst (.slice none 0 0)), (6, rI (parent1))], [], n0, 29⟩) (by exact Weak.cv ⟨jL, jL, jL, trivial⟩ trivial nL) ?_
     refine aR (sQ rfl (sp_eql rfl iL iL) (sA rfl rfl ?_))
     refine AOps.nil ?_
     exact wK9 _ _ ((by exact Weak.cv ⟨jL, jL, jL, jL, trivial⟩ trivial nL)) (J2 _ (vec [n0]) (Option.some.inj h10).symm)
theorem w_doc_CheckRefs {d1 : GDoc} {kind1 : Int} {refs1 : List Int} {r : Int} (h : doc_CheckRefs d1 kind1 refs1 = some r) : ARO prog 145 [.agg [qg d1.Nodes], rI (kind1), .r (.sl (refs1.map (rInt .i64)))] (rI (r)) := by
 unfold doc_CheckRefs at h
 refine ARO.mkF func145 rfl rfl ntmps145 rfl (Nat.le_of_ble_eq_true rfl) fun n0 => ?_
 refine aS fun K1 hK1 wK1 => (aR (AOps.step rfl rfl rfl (ms_box (cs := [qg d1.Nodes]) 3 rfl iL rfl rfl) (sA rfl rfl (aZ (hK1 _ ?_)))))
 refine aS fun K2 hK2 wK2 => (aS fun K3 hK3 wK3 => (aR (sM rfl rfl (sQ rfl (ms_len rfl tg_72.slice iL) (sM rfl rfl (aZ (hK3 _ ?_)))))))
 refine AW.block ?_
 refine jc1k h fun o1 hit1 hk1 he1 => ?_
 have J1 : ∀ (u2 : Unit) (i5 : Nat → Nat), o1 = .nrm u2 → K2 ⟨[], [], (i5 0), 35⟩ := by
  intro u2 i5 e
  have h1 := hk1 _ e
  refine hK2 _ ?_
  refine aS fun K4 hK4 wK4 => (aR (sA rfl rfl (aZ (hK4 _ ?_))))
  refine AW.ret ?_
  exact retf1 (P := prog) (fun (r : Int) => rI (r)) h1 iL (.t (.d rfl))
 refine AW.iter1 (fun (x2 : Int) i3 => ⟨[(1, rI (kind1)), (3, .ptr 3 n0 0 0), (11, .r (.sl (refs1.map (rInt .i64)))), (12, rI ((refs1.length : Int))), (13, rI (x2))], [(3, some (.box n0 45 [qg d1.Nodes]))], (i3 0), 35⟩) (vec [(n0 + 1)]) hit1 ((by exact Weak.cv ⟨jL, jL, jL, jL, jL, trivial⟩ ⟨.inl rfl, trivial⟩ nL)) ?_
 intro x2 i3 v1 hv1 hx1
 have h2 : doc_CheckRefs_L1 d1 kind1 refs1 x2 = some v1 := hv1; unfold doc_CheckRefs_L1 at h2
 refine aS fun K5 hK5 wK5 => (aR (sQ rfl (sp_lss rfl iL iL) (aZ (hK5 _ ?_))))
 refine aS fun K6 hK6 wK6 => ?_
 refine aC rfl (fun hc1 => ?_) (fun hc1 => ?_)
 ·have h3 := ite_t hc1 h2
  refine AW.skip ?_
  refine hK6 _ ?_
  refine aS fun K7 hK7 wK7 => (AW.block (aS fun K8 hK8 wK8 => (aR (ob1k h3 fun x4 ex4 h4 => (sQ rfl (ms_idx rfl tg_72.slice iL iL (fun _ => rfl) (fun _ => ex4)) (sQ rfl (ms_load (d := .int .i64 x4) rfl ts_3 iL rfl) (sA rfl rfl (aZ (hK8 _ ?_)))))))))
  refine aS fun K9 hK9 wK9 => (aR (sQ rfl (ms_loadA_box rfl ta_45 iL rfl rfl) (sM rfl rfl (ob2k h4 fun r1 r2 er1 h5 => (AOps.step rfl rfl rfl (sp_call (r := .tup [rI (r1), rB (r2)]) (caps := []) (bs := [.agg [qg d1.Nodes], rI (x4)]) rfl iL rfl ⟨⟨_, iL, .g (cs := [.sl (d1.Nodes.map GNode.row)]) rfl rfl⟩, ⟨_, iL, .d rfl⟩, trivial⟩ (fun _ => w_doc_find (er1)) rfl) (sM rfl rfl (sQ rfl (sp_extract (a := rI (r1)) rfl iL rfl) (sQ rfl (sp_extract (a := rB (r2)) rfl iL rfl) (sA rfl rfl (sA rfl rfl (aZ (hK9 _ ?_))))))))))))
  refine aS fun K10 hK10 wK10 => (aS fun K11 hK11 wK11 => ?_)
  refine AW.weak (s' := ⟨[(1, rI (kind1)), (3, .ptr 3 n0 0 0), (9, rI (r1)), (10, rB (r2)), (11, .r (.sl (refs1.map (rInt .i64)))), (12, rI ((refs1.length : Int))), (13, rI (x2))], [(3, some (.box n0 45 [qg d1.Nodes]))], (i3 0), 35⟩) (by exact Weak.cv ⟨jL, jL, jL, jL, jL, jL, jL, trivial⟩ ⟨.inl rfl, trivial⟩ nL) ?_
  refine aR (sM rfl rfl (sQ rfl (sp_not rfl iL) (aZ (hK11 _ ?_))))
  refine aC rfl (fun hc2 => ?_) (fun hc2 => ?_)
  ·have h6 := ite_t hc2 h5
   refine aS fun K12 hK12 wK12 => ?_
   refine AW.weak (s' := ⟨[], [], (i3 0), 35⟩) (by exact Weak.cv trivial trivial nL) ?_
   refine aR (sA rfl rfl (aZ (hK12 _ ?_)))
   refine AW.ret ?_
   exact retf1 (P := prog) (fun (r : Int) => rI (r)) (he1 _ (hx1 _ (Option.some.inj h6).symm)) iL (.t (.d rfl))
  ·have h6 := ite_f hc2 h5
   refine AW.skip ?_
   refine hK10 _ ?_
   refine aS fun K13 hK13 wK13 => (aR (sM rfl rfl (sQ rfl (fB rfl tf_45_0 iL fR rfl) (sQ rfl (ms_load_box (a := qg d1.Nodes) rfl ts_43 iL rfl rfl) (sM rfl rfl (ob1k h6 fun x5 ex5 h7 => (sQ rfl (ms_idx rfl tg_43.slice iL iL (fun _ => rfl) (fun _ => ex5)) (sQ rfl (sp_fieldAddr_ro rfl tf_34_1 iL) (sQ rfl (ms_load (d := .int .i64 x5.Kind) rfl ts_3 iL rfl) (ob1k h7 fun r3 er3 h8 => (AOps.step rfl rfl rfl (sp_call (r := rB (r3)) (caps := []) (bs := [rI (kind1), rI (x5.Kind)]) rfl iL rfl ⟨⟨_, iL, .d rfl⟩, ⟨_, iL, .d rfl⟩, trivial⟩ (fun _ => w_doc_Permitted (er3)) rfl) (sQ rfl (sp_not rfl iL) (aZ (hK13 _ ?_))))))))))))))
   refine aC rfl (fun hc3 => ?_) (fun hc3 => ?_)
   ·have h9 := ite_t hc3 h8
    refine aS fun K14 hK14 wK14 => ?_
    refine AW.weak (s' := ⟨[], [], (i3 0), 35⟩) (by exact Weak.cv trivial trivial nL) ?_
    refine aR (sA rfl rfl (aZ (hK14 _ ?_)))
    refine AW.ret ?_
    exact retf1 (P := prog) (fun (r : Int) => rI (r)) (he1 _ (hx1 _ (Option.some.inj h9).symm)) iL (.t (.d rfl))
   ·have h9 := ite_f hc3 h8
    refine AW.skip ?_
    refine hK7 _ ?_
    refine AW.weak (s' := ⟨[(1, rI (kind1)), (3, .ptr 3 n0 0 0), (11, .r (.sl (refs1.map (rInt .i64)))), (12, rI ((refs1.length : Int))), (13, rI (x2))], [(3, some (.box n0 45 [qg d1.Nodes]))], (i3 0), 35⟩) (by exact Weak.cv ⟨jL, jL, jL, jL, jL, trivial⟩ ⟨.inl rfl, trivial⟩ nL) ?_
    refine aR (ob1k h9 fun x6 ex6 h10 => (sQ rfl (ms_add rfl iL iL (fun _ => ex6)) (sM rfl rfl ?_)))
    refine AOps.nil ?_
    exact NextQ1.mk h10 (vec [(i3 0)]) ((by exact Weak.cv ⟨jL, jL, jL, jL, jL, trivial⟩ ⟨.inl rfl, trivial⟩ nL))
 ·have h3 := ite_f hc1 h2
  refine AW.exit ?_
  exact wK2 _ _ ((by exact Weak.cv trivial trivial nL)) (J1 _ (vec [(i3 0)]) (hx1 _ (Option.some.inj h3).symm))
theorem w_doc_Check {d1 : GDoc} {r : Int} (h : doc_Check d1 = some r) : ARO prog 82 [.agg [qg d1.Nodes]] (rI (r)) := by
 unfold doc_Check at h
 refine ARO.mkF func82 rfl rfl ntmps82 rfl (Nat.le_of_ble_eq_true rfl) fun n0 => ?_
 refine aS fun K1 hK1 wK1 => (aR (AOps.step rfl rfl rfl (ms_box (cs := [qg d1.Nodes]) 1 rfl iL rfl rfl) (sA rfl rfl (aZ (hK1 _ ?_)))))
 refine aS fun K2 hK2 wK2 => (aS fun K3 hK3 wK3 => (aR (sQ rfl (fB rfl tf_45_0 iL fR rfl) (sQ rfl (ms_load_box (a := qg d1.Nodes) rfl ts_43 iL rfl rfl) (sQ rfl (ms_len rfl tg_43.slice iL) (sQ rfl (sp_eql rfl iL iL) (aZ (hK3 _ ?_))))))))
 refine aC rfl (fun hc1 => ?_) (fun hc1 => ?_)
 ·have h1 := ite_t hc1 h
  refine aS fun K4 hK4 wK4 => (aR (sA rfl rfl (aZ (hK4 _ ?_))))
  refine AW.ret ?_
  exact retf1 (P := prog) (fun (r : Int) => rI (r)) h1 iL (.t (.d rfl))
 ·have h1 := ite_f hc1 h
  refine AW.skip ?_
  refine hK2 _ ?_
  refine aS fun K5 hK5 wK5 => (aS fun K6 hK6 wK6 => (aR (sQ rfl (fB rfl tf_45_0 iL fR rfl) (sQ rfl (ms_load_box (a := qg d1.Nodes) rfl ts_43 iL rfl rfl) (sQ rfl (ms_len rfl tg_43.slice iL) (sM rfl rfl (aZ (hK6 _ ?_))))))))
  refine AW.block ?_
  refine jc1k h1 fun o1 hit1 hk1 he1 => ?_
  have J1 : ∀ (u2 : Unit) (i5 : Nat → Nat), o1 = .nrm u2 → K5 ⟨[(1, .ptr 1 n0 0 0)], [(1, some (.box n0 45 [qg d1.Nodes]))], (i5 0), 67⟩ := by
   intro u2 i5 e
   have h2 := hk1 _ e
   refine hK5 _ ?_
   refine aS fun K7 hK7 wK7 => (aS fun K8 hK8 wK8 => (aR (sQ rfl (fB rfl tf_45_0 iL fR rfl) (sQ rfl (ms_load_box (a := qg d1.Nodes) rfl ts_43 iL rfl rfl) (sQ rfl (ms_len rfl tg_43.slice iL) (sM rfl rfl (aZ (hK8 _ ?_))))))))
   refine AW.block ?_
   refine jc1k h2 fun o2 hit2 hk2 he2 => ?_
   have J2 : ∀ (u4 : Unit) (i10 : Nat → Nat), o2 = .nrm u4 → K7 ⟨[], [], (i10 0), 67⟩ := by
    intro u4 i10 e
    have h3 := hk2 _ e
    refine hK7 _ ?_
    refine aS fun K9 hK9 wK9 => (aR (sA rfl rfl (aZ (hK9 _ ?_))))
    refine AW.ret ?_
    exact retf1 (P := prog) (fun (r : Int) => rI (r)) h3 iL (.t (.d rfl))
   refine AW.iter1 (fun (x5 : Int) i8 => ⟨[(1, .ptr 1 n0 0 0), (51, qg d1.Nodes), (52, rI ((d1.Nodes.length : Int))), (53, rI (x5))], [(1, some (.box n0 45 [qg d1.Nodes]))], (i8 0), 67⟩) (vec [(i5 0)]) hit2 ((by exact Weak.cv ⟨jL, jL, jL, jL, trivial⟩ ⟨.inl rfl, trivial⟩ nL)) ?_
   intro x5 i8 v1 hv1 hx2
   have h4 : doc_Check_L2 d1 x5 = some v1 := hv1; unfold doc_Check_L2 at h4
   refine aS fun K10 hK10 wK10 => (aR (sQ rfl (sp_lss rfl iL iL) (aZ (hK10 _ ?_))))
   refine aS fun K11 hK11 wK11 => ?_
   refine aC rfl (fun hc2 => ?_) (fun hc2 => ?_)
   ·have h5 := ite_t hc2 h4
    refine AW.skip ?_
    refine hK11 _ ?_
    refine aS fun K12 hK12 wK12 => (AW.block (aS fun K13 hK13 wK13 => (aR (ob1k h5 fun x7 ex7 h6 => (sQ rfl (ms_idx rfl tg_43.slice iL iL (fun _ => rfl) (fun _ => ex7)) (sQ rfl (ms_loadA (cs := [rI (x7.ID), rI (x7.Kind), qa x7.Attrs, qd x7.Flow, rI (x7.Grid.Rows), rI (x7.Grid.Cols), qc x7.Grid.Cells, qb x7.Grid.Merges, qe x7.Draw]) rfl ta_34 iL rfl rfl) (AOps.step rfl rfl rfl (ms_alloc (cs := [rI (0), rI (0), .cst (.slice none 0 0), .cst (.slice none 0 0), rI (0), rI (0), .cst (.slice none 0 0), .cst (.slice none 0 0), .cst (.slice none 0 0)]) 7 rfl t0_34 rfl rfl) (AOps.step0 rfl rfl (ms_store_box (ds := [rI (x7.ID), rI (x7.Kind), qa x7.Attrs, qd x7.Flow, rI (x7.Grid.Rows), rI (x7.Grid.Cols), qc x7.Grid.Cells, qb x7.Grid.Merges, qe x7.Draw]) rfl tz_34 iL rfl iL rfl rfl rfl rfl) (aZ (hK13 _ ?_))))))))))
    refine aS fun K14 hK14 wK14 => (ob1k h6 fun r1 er1 h7 => ?_)
    refine AW.regionP 5 [⟨some 57, (fun _ => .agg [qg d1.Nodes]), none, []⟩, ⟨some 58, (fun _ => .ptr 7 (i8 0) 0 1), none, []⟩, ⟨some 59, (fun _ => rI (x7.Kind)), none, []⟩, ⟨some 60, (fun _ => .agg [rI (x7.ID), rI (x7.Kind), qa x7.Attrs, qd x7.Flow, rI (x7.Grid.Rows), rI (x7.Grid.Cols), qc x7.Grid.Cells, qb x7.Grid.Merges, qe x7.Draw]), none, []⟩, ⟨some 61, (fun _ => .r (.sl (r1.map (rInt .i64)))), none, []⟩] hmix (by kernel_rfl) (by exact ⟨fun _ _ h => ⟨rfl, fun _ _ e => by cases e⟩, fun _ _ h => ⟨rfl, fun _ _ e => by cases e⟩, fun _ _ h => ⟨rfl, fun _ _ e => by cases e⟩, fun _ _ h => ⟨rfl, fun _ _ e => by cases e⟩, fun _ _ h => ⟨rfl, fun _ _ e => by cases e⟩, trivial⟩) rfl (by exact ⟨Ob.quiet (n1 := fun n => n) rfl rfl (by intro d h; cases h; rfl) rfl (fun _ => [(1, .ptr 1 n0 0 0)]) (fun _ => [(1, some (.box n0 45 [qg d1.Nodes]))]) (fun D G1 hr => ⟨inE_base rfl rfl, trivial⟩) (fun D G1 hr => ⟨inH_base rfl rfl, trivial⟩) (fun _ _ => rfl) (fun G1 e h' n => OpQ.spec (v := .agg [qg d1.Nodes]) (ms_loadA_box rfl ta_45 (.inl rfl) rfl rfl) _),
      Ob.quiet (n1 := fun n => n) rfl rfl (by intro d h; cases h; rfl) rfl (fun _ => [(7, .ptr 7 (i8 0) 0 0)]) (fun _ => [(7, some (.box (i8 0) 34 [rI (x7.ID), rI (x7.Kind), qa x7.Attrs, qd x7.Flow, rI (x7.Grid.Rows), rI (x7.Grid.Cols), qc x7.Grid.Cells, qb x7.Grid.Merges, qe x7.Draw]))]) (fun D G1 hr => ⟨inE_base rfl rfl, trivial⟩) (fun D G1 hr => ⟨inH_base rfl rfl, trivial⟩) (fun _ _ => rfl) (fun G1 e h' n => OpQ.spec (v := .ptr 7 (i8 0) 0 1) (fB rfl tf_34_1 (.inl rfl) (fun _ => rfl) rfl) _),
      Ob.quiet (n1 := fun n => n) rfl rfl (by intro d h; cases h; rfl) rfl (fun _ => [(58, .ptr 7 (i8 0) 0 1)]) (fun _ => [(7, some (.box (i8 0) 34 [rI (x7.ID), rI (x7.Kind), qa x7.Attrs, qd x7.Flow, rI (x7.Grid.Rows), rI (x7.Grid.Cols), qc x7.Grid.Cells, qb x7.Grid.Merges, qe x7.Draw]))]) (fun D G1 hr => ⟨inE_op hr 1 rfl rfl (by kernel_rfl) rfl rfl, trivial⟩) (fun D G1 hr => ⟨inH_base rfl rfl, trivial⟩) (fun _ _ => rfl) (fun G1 e h' n => OpQ.spec (v := rI (x7.Kind)) (ms_load_box (a := rI (x7.Kind)) rfl ts_3 (.inl rfl) rfl rfl) _),
      Ob.quiet (n1 := fun n => n) rfl rfl (by intro d h; cases h; rfl) rfl (fun _ => [(7, .ptr 7 (i8 0) 0 0)]) (fun _ => [(7, some (.box (i8 0) 34 [rI (x7.ID), rI (x7.Kind), qa x7.Attrs, qd x7.Flow, rI (x7.Grid.Rows), rI (x7.Grid.Cols), qc x7.Grid.Cells, qb x7.Grid.Merges, qe x7.Draw]))]) (fun D G1 hr => ⟨inE_base rfl rfl, trivial⟩) (fun D G1 hr => ⟨inH_base rfl rfl, trivial⟩) (fun _ _ => rfl) (fun G1 e h' n => OpQ.spec (v := .agg [rI (x7.ID), rI (x7.Kind), qa x7.Attrs, qd x7.Flow, rI (x7.Grid.Rows), rI (x7.Grid.Cols), qc x7.Grid.Cells, qb x7.Grid.Merges, qe x7.Draw]) (ms_loadA_box rfl ta_34 (.inl rfl) rfl rfl) _),
      Ob.quiet (n1 := fun n => n) rfl rfl (by intro d h; cases h; rfl) rfl (fun _ => [(60, .agg [rI (x7.ID), rI (x7.Kind), qa x7.Attrs, qd x7.Flow, rI (x7.Grid.Rows), rI (x7.Grid.Cols), qc x7.Grid.Cells, qb x7.Grid.Merges, qe x7.Draw])]) (fun _ => []) (fun D G1 hr => ⟨inE_op hr 3 rfl rfl (by kernel_rfl) rfl rfl, trivial⟩) (fun D G1 hr => trivial) (fun _ _ => rfl) (fun G1 e h' n => sp_callS (r := .r (.sl (r1.map (rInt .i64)))) (caps := []) (bs := [.agg [rI (x7.ID), rI (x7.Kind), qa x7.Attrs, qd x7.Flow, rI (x7.Grid.Rows), rI (x7.Grid.Cols), qc x7.Grid.Cells, qb x7.Grid.Merges, qe x7.Draw]]) rfl (.inl rfl) rfl ⟨.inl ⟨(.inl rfl), rfl⟩, trivial⟩ (fun _ => w_doc_Refs (er1))),
      trivial⟩) fun G1 n1 => ?_
    refine AOps.weak (s' := ⟨[(1, .ptr 1 n0 0 0), (7, .ptr 7 (i8 0) 0 0), (51, qg d1.Nodes), (52, rI ((d1.Nodes.length : Int))), (53, rI (x5)), (54, rB ((decide (x5 < (d1.Nodes.length : Int))))), (55, .rop (GNode.row x7) 0), (56, .agg [rI (x7.ID), rI (x7.Kind), qa x7.Attrs, qd x7.Flow, rI (x7.Grid.Rows), rI (x7.Grid.Cols), qc x7.Grid.Cells, qb x7.Grid.Merges, qe x7.Draw]), (57, .agg [qg d1.Nodes]), (58, .ptr 7 (i8 0) 0 1), (59, rI (x7.Kind)), (60, .agg [rI (x7.ID), rI (x7.Kind), qa x7.Attrs, qd x7.Flow, rI (x7.Grid.Rows), rI (x7.Grid.Cols), qc x7.Grid.Cells, qb x7.Grid.Merges, qe x7.Draw]), (61, .r (.sl (r1.map (rInt .i64))))], [(1, some (.box n0 45 [qg d1.Nodes])), (7, some (.box (i8 0) 34 [rI (x7.ID), rI (x7.Kind), qa x7.Attrs, qd x7.Flow, rI (x7.Grid.Rows), rI (x7.Grid.Cols), qc x7.Grid.Cells, qb x7.Grid.Merges, qe x7.Draw]))], n1, 67⟩) (by exact Weak.cv ⟨jL, jL, jL, jL, jL, jL, jL, jL, jL, jL, jL, jL, jL, trivial⟩ ⟨.inl rfl, .inl rfl, trivial⟩ nL) ?_
    refine ob1k h7 fun e1 ee1 h8 => (AOps.step rfl rfl rfl (sp_call (r := rI (e1)) (caps := []) (bs := [.agg [qg d1.Nodes], rI (x7.Kind), .r (.sl (r1.map (rInt .i64)))]) rfl iL rfl ⟨⟨_, iL, .g (cs := [.sl (d1.Nodes.map GNode.row)]) rfl rfl⟩, ⟨_, iL, .d rfl⟩, ⟨_, iL, .d rfl⟩, trivial⟩ (fun _ => w_doc_CheckRefs (ee1)) rfl) (sA rfl rfl (aZ (hK14 _ ?_))))
    refine aS fun K15 hK15 wK15 => ?_
    refine AW.weak (s' := ⟨[(1, .ptr 1 n0 0 0), (8, rI (e1)), (51, qg d1.Nodes), (52, rI ((d1.Nodes.length : Int))), (53, rI (x5))], [(1, some (.box n0 45 [qg d1.Nodes]))], n1, 67⟩) (by exact Weak.cv ⟨jL, jL, jL, jL, jL, trivial⟩ ⟨.inl rfl, trivial⟩ nL) ?_
    refine aR (sM rfl rfl (sQ rfl (sp_neq rfl iL iL) (aZ (hK15 _ ?_))))
    refine aC rfl (fun hc3 => ?_) (fun hc3 => ?_)
    ·have h9 := ite_t hc3 h8
     refine aS fun K16 hK16 wK16 => (aR (sM rfl rfl (sA rfl rfl (aZ (hK16 _ ?_)))))
     refine AW.ret ?_
     exact retf1 (P := prog) (fun (r : Int) => rI (r)) (he2 _ (hx2 _ (Option.some.inj h9).symm)) iL (.t (.d rfl))
    ·have h9 := ite_f hc3 h8
     refine AW.skip ?_
     refine hK12 _ ?_
     refine aR (ob1k h9 fun x8 ex8 h10 => (sQ rfl (ms_add rfl iL iL (fun _ => ex8)) (sM rfl rfl ?_)))
     refine AOps.nil ?_
     exact NextQ1.mk h10 (vec [n1]) ((by exact Weak.cv ⟨jL, jL, jL, jL, trivial⟩ ⟨.inl rfl, trivial⟩ nL))
   ·have h5 := ite_f hc2 h4
    refine AW.exit ?_
    exact wK7 _ _ ((by exact Weak.cv trivial trivial nL)) (J2 _ (vec [(i8 0)]) (hx2 _ (Option.some.inj h5).symm))
  refine AW.iter1 (fun (x2 : Int) i3 => ⟨[(1, .ptr 1 n0 0 0), (14, qg d1.Nodes), (15, rI ((d1.Nodes.length : Int))), (16, rI (x2))], [(1, some (.box n0 45 [qg d1.Nodes]))], (i3 0), 67⟩) (vec [(n0 + 1)]) hit1 ((by exact Weak.cv ⟨jL, jL, jL, jL, trivial⟩ ⟨.inl rfl, trivial⟩ nL)) ?_
  intro x2 i3 v2 hv2 hx1
  have h11 : doc_Check_L1 d1 x2 = some v2 := hv2; unfold doc_Check_L1 at h11
  refine aS fun K17 hK17 wK17 => (aR (sQ rfl (sp_lss rfl iL iL) (aZ (hK17 _ ?_))))
  refine aS fun K18 hK18 wK18 => ?_
  refine aC rfl (fun hc4 => ?_) (fun hc4 => ?_)
  ·have h12 := ite_t hc4 h11
   refine AW.skip ?_
   refine hK18 _ ?_
   refine aS fun K19 hK19 wK19 => (AW.block (aS fun K20 hK20 wK20 => (aR (sM rfl rfl (ob1k h12 fun x9 ex9 h13 => (sQ rfl (ms_idx rfl tg_43.slice iL iL (fun _ => rfl) (fun _ => ex9)) (sQ rfl (ms_loadA (cs := [rI (x9.ID), rI (x9.Kind), qa x9.Attrs, qd x9.Flow, rI (x9.Grid.Rows), rI (x9.Grid.Cols), qc x9.Grid.Cells, qb x9.Grid.Merges, qe x9.Draw]) rfl ta_34 iL rfl rfl) (AOps.step rfl rfl rfl (ms_alloc (cs := [rI (0), rI (0), .cst (.slice none 0 0), .cst (.slice none 0 0), rI (0), rI (0), .cst (.slice none 0 0), .cst (.slice none 0 0), .cst (.slice none 0 0)]) 4 rfl t0_34 rfl rfl) (sA rfl rfl (AOps.step0 rfl rfl (ms_store_box (ds := [rI (x9.ID), rI (x9.Kind), qa x9.Attrs, qd x9.Flow, rI (x9.Grid.Rows), rI (x9.Grid.Cols), qc x9.Grid.Cells, qb x9.Grid.Merges, qe x9.Draw]) rfl tz_34 iL rfl iL rfl rfl rfl rfl) (aZ (hK20 _ ?_))))))))))))
   refine aS fun K21 hK21 wK21 => (aS fun K22 hK22 wK22 => (aR (sQ rfl (ms_loadA_box rfl ta_34 iL rfl rfl) (ob1k h13 fun e2 ee2 h14 => (AOps.step rfl rfl rfl (sp_call (r := rI (e2)) (caps := []) (bs := [.agg [rI (x9.ID), rI (x9.Kind), qa x9.Attrs, qd x9.Flow, rI (x9.Grid.Rows), rI (x9.Grid.Cols), qc x9.Grid.Cells, qb x9.Grid.Merges, qe x9.Draw]]) rfl iL rfl ⟨⟨_, iL, .g (cs := [.int .i64 x9.ID, .int .i64 x9.Kind, .sl (x9.Attrs.map GAttr.row), .sl (x9.Flow.map GElem.row), .int .i64 x9.Grid.Rows, .int .i64 x9.Grid.Cols, .sl (x9.Grid.Cells.map GCell.row), .sl (x9.Grid.Merges.map GRect.row), .sl (x9.Draw.map GDrawOp.row)]) rfl rfl⟩, trivial⟩ (fun _ => w_doc_CheckNode (ee2)) rfl) (sA rfl rfl (aZ (hK22 _ ?_))))))))
   refine aS fun K23 hK23 wK23 => (aR (sM rfl rfl (sQ rfl (sp_neq rfl iL iL) (aZ (hK23 _ ?_)))))
   refine aC rfl (fun hc5 => ?_) (fun hc5 => ?_)
   ·have h15 := ite_t hc5 h14
    refine aS fun K24 hK24 wK24 => ?_
    refine AW.weak (s' := ⟨[(5, rI (e2))], [], ((i3 0) + 1), 67⟩) (by exact Weak.cv ⟨jL, trivial⟩ trivial nL) ?_
    refine aR (sM rfl rfl (sA rfl rfl (aZ (hK24 _ ?_))))
    refine AW.ret ?_
    exact retf1 (P := prog) (fun (r : Int) => rI (r)) (he1 _ (hx1 _ (Option.some.inj h15).symm)) iL (.t (.d rfl))
   ·have h15 := ite_f hc5 h14
    refine AW.skip ?_
    refine hK21 _ ?_
    refine aS fun K25 hK25 wK25 => ?_
    refine AW.weak (s' := ⟨[(1, .ptr 1 n0 0 0), (3, rI (x2)), (4, .ptr 4 (i3 0) 0 0), (14, qg d1.Nodes), (15, rI ((d1.Nodes.length : Int))), (16, rI (x2))], [(1, some (.box n0 45 [qg d1.Nodes])), (4, some (.box (i3 0) 34 [rI (x9.ID), rI (x9.Kind), qa x9.Attrs, qd x9.Flow, rI (x9.Grid.Rows), rI (x9.Grid.Cols), qc x9.Grid.Cells, qb x9.Grid.Merges, qe x9.Draw]))], ((i3 0) + 1), 67⟩) (by exact Weak.cv ⟨jL, jL, jL, jL, jL, jL, trivial⟩ ⟨.inl rfl, .inl rfl, trivial⟩ nL) ?_
    refine AW.regionQ hmix (by kernel_rfl) ?_
    refine AQ.step rfl rfl rfl (sp_move rfl iL) (AQ.step rfl rfl rfl (sp_eql rfl iL iL) (AQ.step rfl rfl rfl (sp_move rfl iL) ?_))
    refine AQ.stepW (.one rfl rfl rfl) rfl rfl (fB rfl tf_34_0 iL fR rfl) ?_
    refine AQ.stepW (.one rfl rfl rfl) rfl rfl (ms_load_box (a := rI (x9.ID)) rfl ts_3 (iR rfl) rfl rfl) ?_
    refine AQ.stepW (.one rfl rfl rfl) rfl rfl (sp_neq rfl (iR rfl) iL) ?_
    refine AQ.step rfl rfl rfl (sp_and rfl iL (iR rfl)) (AQ.step rfl rfl rfl (sp_move rfl iL) ?_)
    refine AQ.stepW (.one rfl rfl rfl) rfl rfl (sp_move rfl iL) ?_
    refine AQ.stepW (.one rfl rfl rfl) rfl rfl (sp_gtr rfl (iR rfl) iL) ?_
    refine AQ.stepW (.one rfl rfl rfl) rfl rfl (sp_move rfl (iR rfl)) ?_
    refine AQ.stepW (.two rfl rfl rfl) rfl rfl (fB rfl tf_34_0 iL fR rfl) ?_
    refine AQ.stepW (.two rfl rfl rfl) rfl rfl (ms_load_box (a := rI (x9.ID)) rfl ts_3 (iR rfl) rfl rfl) ?_
    refine AQ.stepW (.two rfl rfl rfl) rfl rfl (fB rfl tf_45_0 iL fR rfl) ?_
    refine AQ.stepW (.two rfl rfl rfl) rfl rfl (ms_load_box (a := qg d1.Nodes) rfl ts_43 (iR rfl) rfl rfl) ?_
    refine AQ.stepW (.two rfl rfl rfl) rfl rfl (sp_move rfl iL) ?_
    refine ob1k h15 fun x10 ex10 h16 => ?_
    refine AQ.stepW (.two rfl rfl rfl) rfl rfl (ms_sub rfl (iR rfl) iL (gdt ex10)) ?_
    refine ob1k h16 fun x11 ex11 h17 => ?_
    refine AQ.stepW (.two rfl rfl rfl) rfl rfl (ms_idx rfl tg_43.slice (iR rfl) (iR rfl) (fun _ => rfl) (gdt ex11)) ?_
    refine AQ.stepW (.two rfl rfl rfl) rfl rfl (sp_fieldAddr_ro rfl tf_34_0 (iR rfl)) ?_
    refine AQ.stepW (.two rfl rfl rfl) rfl rfl (ms_load (d := .int .i64 x11.ID) rfl ts_3 (iR rfl) rfl) ?_
    refine AQ.stepW (.two rfl rfl rfl) rfl rfl (sp_leq rfl (iR rfl) (iR rfl)) ?_
    refine AQ.stepW (.one rfl rfl rfl) rfl rfl (sp_and rfl (iR rfl) (iR rfl)) ?_
    refine AQ.step rfl rfl rfl (sp_or rfl iL (iR rfl)) ?_
    refine AQ.nil ?_
    refine hK25 _ ?_
    refine aC rfl (fun hc6 => ?_) (fun hc6 => ?_)
    ·have h18 := ite_t hc6 h17
     refine aS fun K26 hK26 wK26 => ?_
     refine AW.weak (s' := ⟨[], [], ((i3 0) + 1), 67⟩) (by exact Weak.cv trivial trivial nL) ?_
     refine aR (sA rfl rfl (aZ (hK26 _ ?_)))
     refine AW.ret ?_
     exact retf1 (P := prog) (fun (r : Int) => rI (r)) (he1 _ (hx1 _ (Option.some.inj h18).symm)) iL (.t (.d rfl))
    ·have h18 := ite_f hc6 h17
     refine AW.skip ?_
     refine hK19 _ ?_
     refine aR (ob1k h18 fun x12 ex12 h19 => (sQ rfl (ms_add rfl iL iL (fun _ => ex12)) (sM rfl rfl ?_)))
     refine AOps.nil ?_
     exact NextQ1.mk h19 (vec [((i3 0) + 1)]) ((by exact Weak.cv ⟨jL, jL, jL, jL, trivial⟩ ⟨.inl rfl, trivial⟩ nL))
  ·have h12 := ite_f hc4 h11
   refine AW.exit ?_
   exact wK5 _ _ ((by exact Weak.cv ⟨jL, trivial⟩ ⟨.inl rfl, trivial⟩ nL)) (J1 _ (vec [(i3 0)]) (hx1 _ (Option.some.inj h12).symm))
theorem w_flow_Same {a1 : List GElem} {b1 : List GElem} {r : Bool} (h : flow_Same a1 b1 = some r) : ARO prog 157 [qd a1, qd b1] (rB (r)) := by
 unfold flow_Same at h
 refine ARO.mkF func157 rfl rfl ntmps157 rfl (Nat.le_of_ble_eq_true rfl) fun n0 => ?_
 refine aS fun K1 hK1 wK1 => (aR (sA rfl rfl (aZ (hK1 _ ?_))))
 refine aS fun K2 hK2 wK2 => (aS fun K3 hK3 wK3 => (aR (sM rfl rfl (sQ rfl (ms_len rfl tg_27.slice iL) (sM rfl rfl (sQ rfl (ms_len rfl tg_27.slice iL) (sQ rfl (sp_neq rfl iL iL) (aZ (hK3 _ ?_)))))))))
 refine aC rfl (fun hc1 => ?_) (fun hc1 => ?_)
 ·have h1 := ite_t hc1 h
  refine aS fun K4 hK4 wK4 => (aR (sA rfl rfl (aZ (hK4 _ ?_))))
  refine AW.ret ?_
  exact retf1 (P := prog) (fun (r : Bool) => rB (r)) h1 iL (.t (.d rfl))
 ·have h1 := ite_f hc1 h
  refine AW.skip ?_
  refine hK2 _ ?_
  refine aS fun K5 hK5 wK5 => (aS fun K6 hK6 wK6 => (aR (sM rfl rfl (sQ rfl (ms_len rfl tg_27.slice iL) (sM rfl rfl (aZ (hK6 _ ?_)))))))
  refine AW.block ?_
  refine jc1k h1 fun o1 hit1 hk1 he1 => ?_
  have J1 : ∀ (u2 : Unit) (i5 : Nat → Nat), o1 = .nrm u2 → K5 ⟨[], [], (i5 0), 45⟩ := by
   intro u2 i5 e
   have h2 := hk1 _ e
   refine hK5 _ ?_
   refine aS fun K7 hK7 wK7 => (aR (sA rfl rfl (aZ (hK7 _ ?_))))
   refine AW.ret ?_
   exact retf1 (P := prog) (fun (r : Bool) => rB (r)) h2 iL (.t (.d rfl))
  refine AW.iter1 (fun (x2 : Int) i3 => ⟨[(1, qd b1), (13, qd a1), (14, rI ((a1.length : Int))), (15, rI (x2))], [], (i3 0), 45⟩) (vec [n0]) hit1 ((by exact Weak.cv ⟨jL, jL, jL, jL, trivial⟩ trivial nL)) ?_
  intro x2 i3 v1 hv1 hx1
  have h3 : flow_Same_L1 a1 b1 x2 = some v1 := hv1; unfold flow_Same_L1 at h3
  refine aS fun K8 hK8 wK8 => (aR (sQ rfl (sp_lss rfl iL iL) (aZ (hK8 _ ?_))))
  refine aS fun K9 hK9 wK9 => ?_
  refine aC rfl (fun hc2 => ?_) (fun hc2 => ?_)
  ·have h4 := ite_t hc2 h3
   refine AW.skip ?_
   refine hK9 _ ?_
   refine aS fun K10 hK10 wK10 => (AW.block (aS fun K11 hK11 wK11 => (aR (sM rfl rfl (ob1k h4 fun x4 ex4 h5 => (sQ rfl (ms_idx rfl tg_27.slice iL iL (fun _ => rfl) (fun _ => ex4)) (sQ rfl (ms_loadA (cs := [rI (x4.Char), rI (x4.Ref), qa x4.Attrs]) rfl ta_60 iL rfl rfl) (AOps.step rfl rfl rfl (ms_alloc (cs := [rI (0), rI (0), .cst (.slice none 0 0)]) 6 rfl t0_60 rfl rfl) (sA rfl rfl (AOps.step0 rfl rfl (ms_store_box (ds := [rI (x4.Char), rI (x4.Ref), qa x4.Attrs]) rfl tz_60 iL rfl iL rfl rfl rfl rfl) (aZ (hK11 _ ?_))))))))))))
   refine aS fun K12 hK12 wK12 => (aR (sM rfl rfl (sM rfl rfl (ob1k h5 fun x5 ex5 h6 => (sQ rfl (ms_idx rfl tg_27.slice iL iL (fun _ => rfl) (fun _ => ex5)) (sQ rfl (ms_loadA (cs := [rI (x5.Char), rI (x5.Ref), qa x5.Attrs]) rfl ta_60 iL rfl rfl) (AOps.step rfl rfl rfl (ms_alloc (cs := [rI (0), rI (0), .cst (.slice none 0 0)]) 7 rfl t0_60 rfl rfl) (AOps.step0 rfl rfl (ms_store_box (ds := [rI (x5.Char), rI (x5.Ref), qa x5.Attrs]) rfl tz_60 iL rfl iL rfl rfl rfl rfl) (aZ (hK12 _ ?_))))))))))
   refine aS fun K13 hK13 wK13 => ?_
   refine AW.weak (s' := ⟨[(1, qd b1), (6, .ptr 6 (i3 0) 0 0), (7, .ptr 7 ((i3 0) + 1) 0 0), (13, qd a1), (14, rI ((a1.length : Int))), (15, rI (x2))], [(6, some (.box (i3 0) 60 [rI (x4.Char), rI (x4.Ref), qa x4.Attrs])), (7, some (.box ((i3 0) + 1) 60 [rI (x5.Char), rI (x5.Ref), qa x5.Attrs]))], ((i3 0) + 2), 45⟩) (by exact Weak.cv ⟨jL, jL, jL, jL, jL, jL, trivial⟩ ⟨.inl rfl, .inl rfl, trivial⟩ nL) ?_
   refine aR (sQ rfl (fB rfl tf_60_0 iL fR rfl) (sQ rfl (ms_load_box (a := rI (x4.Char)) rfl ts_3 iL rfl rfl) (sQ rfl (fB rfl tf_60_0 iL fR rfl) (sQ rfl (ms_load_box (a := rI (x5.Char)) rfl ts_3 iL rfl rfl) (sQ rfl (sp_neq rfl iL iL) (sM rfl rfl (sV rfl rfl rfl (fB rfl tf_60_1 iL fR rfl) (sV rfl rfl rfl (ms_load_box (a := rI (x4.Ref)) rfl ts_3 (iR rfl) rfl rfl) (sV rfl rfl rfl (fB rfl tf_60_1 iL fR rfl) (sV rfl rfl rfl (ms_load_box (a := rI (x5.Ref)) rfl ts_3 (iR rfl) rfl rfl) (sV rfl rfl rfl (sp_neq rfl (iR rfl) (iR rfl)) (sQ rfl (sp_or rfl iL (iR rfl)) (sM rfl rfl (sV rfl rfl rfl (fB rfl tf_60_2 iL fR rfl) (sV rfl rfl rfl (ms_load_box (a := qa x4.Attrs) rfl ts_26 (iR rfl) rfl rfl) (sV rfl rfl rfl (fB rfl tf_60_2 iL fR rfl) (sV rfl rfl rfl (ms_load_box (a := qa x5.Attrs) rfl ts_26 (iR rfl) rfl rfl) (ob1k h6 fun r1 er1 h7 => ?_))))))))))))))))))
   refine AOps.stepW (.one rfl rfl rfl) rfl rfl (sp_call (r := rB (r1)) (caps := []) (bs := [qa x4.Attrs, qa x5.Attrs]) rfl iL rfl ⟨⟨_, (iR rfl), .d rfl⟩, ⟨_, (iR rfl), .d rfl⟩, trivial⟩ (fun hg => w_attr_Same (gdt er1 hg)) rfl) ?_
   refine sV rfl rfl rfl (sp_not rfl (iR rfl)) (sQ rfl (sp_or rfl iL (iR rfl)) (aZ (hK13 _ ?_)))
   refine aC rfl (fun hc3 => ?_) (fun hc3 => ?_)
   ·have h8 := ite_t hc3 h7
    refine aS fun K14 hK14 wK14 => ?_
    refine AW.weak (s' := ⟨[], [], ((i3 0) + 2), 45⟩) (by exact Weak.cv trivial trivial nL) ?_
    refine aR (sA rfl rfl (aZ (hK14 _ ?_)))
    refine AW.ret ?_
    exact retf1 (P := prog) (fun (r : Bool) => rB (r)) (he1 _ (hx1 _ (Option.some.inj h8).symm)) iL (.t (.d rfl))
   ·have h8 := ite_f hc3 h7
    refine AW.skip ?_
    refine hK10 _ ?_
    refine AW.weak (s' := ⟨[(1, qd b1), (13, qd a1), (14, rI ((a1.length : Int))), (15, rI (x2))], [], ((i3 0) + 2), 45⟩) (by exact Weak.cv ⟨jL, jL, jL, jL, trivial⟩ trivial nL) ?_
    refine aR (ob1k h8 fun x6 ex6 h9 => (sQ rfl (ms_add rfl iL iL (fun _ => ex6)) (sM rfl rfl ?_)))
    refine AOps.nil ?_
    exact NextQ1.mk h9 (vec [((i3 0) + 2)]) ((by exact Weak.cv ⟨jL, jL, jL, jL, trivial⟩ trivial nL))
  ·have h4 := ite_f hc2 h3
   refine AW.exit ?_
   exact wK5 _ _ ((by exact Weak.cv trivial trivial nL)) (J1 _ (vec [(i3 0)]) (hx1 _ (Option.some.inj h4).symm))
theorem w_slices_Equal_api_DrawOp_api_DrawOp {s11 : List GDrawOp} {s21 : List GDrawOp} {r : Bool} (h : slices_Equal_api_DrawOp_api_DrawOp s11 s21 = some r) : ARO prog 158 [qe s11, qe s21] (rB (r)) := by
 unfold slices_Equal_api_DrawOp_api_DrawOp at h
 refine ARO.mkF func158 rfl rfl ntmps158 rfl (Nat.le_of_ble_eq_true rfl) fun n0 => ?_
 refine aS fun K1 hK1 wK1 => (aR (sA rfl rfl (aZ (hK1 _ ?_))))
 refine aS fun K2 hK2 wK2 => (aS fun K3 hK3 wK3 => (aR (sM rfl rfl (sQ rfl (ms_len rfl tg_32.slice iL) (sM rfl rfl (sQ rfl (ms_len rfl tg_32.slice iL) (sQ rfl (sp_neq rfl iL iL) (aZ (hK3 _ ?_)))))))))
 refine aC rfl (fun hc1 => ?_) (fun hc1 => ?_)
 ·have h1 := ite_t hc1 h
  refine aS fun K4 hK4 wK4 => (aR (sA rfl rfl (aZ (hK4 _ ?_))))
  refine AW.ret ?_
  exact retf1 (P := prog) (fun (r : Bool) => rB (r)) h1 iL (.t (.d rfl))
 ·have h1 := ite_f hc1 h
  refine AW.skip ?_
  refine hK2 _ ?_
  refine aS fun K5 hK5 wK5 => (aS fun K6 hK6 wK6 => (aR (sM rfl rfl (sQ rfl (ms_len rfl tg_32.slice iL) (sM rfl rfl (aZ (hK6 _ ?_)))))))
  refine AW.block ?_
  refine jc1k h1 fun o1 hit1 hk1 he1 => ?_
  have J1 : ∀ (u2 : Unit) (i5 : Nat → Nat), o1 = .nrm u2 → K5 ⟨[], [], (i5 0), 26⟩ := by
   intro u2 i5 e
   have h2 := hk1 _ e
   refine hK5 _ ?_
   refine aS fun K7 hK7 wK7 => (aR (sA rfl rfl (aZ (hK7 _ ?_))))
   refine AW.ret ?_
   exact retf1 (P := prog) (fun (r : Bool) => rB (r)) h2 iL (.t (.d rfl))
  refine AW.iter1 (fun (x2 : Int) i3 => ⟨[(0, qe s11), (1, qe s21), (12, rI ((s11.length : Int))), (13, rI (x2))], [], (i3 0), 26⟩) (vec [n0]) hit1 ((by exact Weak.cv ⟨jL, jL, jL, jL, trivial⟩ trivial nL)) ?_
  intro x2 i3 v1 hv1 hx1
  have h3 : slices_Equal_api_DrawOp_api_DrawOp_L1 s11 s21 x2 = some v1 := hv1; unfold slices_Equal_api_DrawOp_api_DrawOp_L1 at h3
  refine aS fun K8 hK8 wK8 => (aR (sQ rfl (sp_lss rfl iL iL) (aZ (hK8 _ ?_))))
  refine aS fun K9 hK9 wK9 => ?_
  refine aC rfl (fun hc2 => ?_) (fun hc2 => ?_)
  ·have h4 := ite_t hc2 h3
   refine AW.skip ?_
   refine hK9 _ ?_
   refine aS fun K10 hK10 wK10 => (AW.block (aS fun K11 hK11 wK11 => (aR (sM rfl rfl (sA rfl rfl (aZ (hK11 _ ?_)))))))
   refine aS fun K12 hK12 wK12 => ?_
   refine AW.regionQ hmix (by kernel_rfl) ?_
   refine AQ.step rfl rfl rfl (sp_move rfl iL) (AQ.step rfl rfl rfl (sp_move rfl iL) (ob1k h4 fun x4 ex4 h5 => (AQ.step rfl rfl rfl (ms_idx rfl tg_32.slice iL iL (fun _ => rfl) (fun _ => ex4)) (AQ.step rfl rfl rfl (ms_loadA (cs := [rI (x4.Clock), rI (x4.Site), rI (x4.Kind), rI (x4.Item), rI (x4.Parent), .r (.str x4.Place), .r (.str x4.Name), .r (.str x4.Value)]) rfl ta_140 iL rfl rfl) (AQ.step rfl rfl rfl (sp_move rfl iL) (AQ.step rfl rfl rfl (sp_move rfl iL) (ob1k h5 fun x5 ex5 h6 => (AQ.step rfl rfl rfl (ms_idx rfl tg_32.slice iL iL (fun _ => rfl) (fun _ => ex5)) (AQ.step rfl rfl rfl (ms_loadA (cs := [rI (x5.Clock), rI (x5.Site), rI (x5.Kind), rI (x5.Item), rI (x5.Parent), .r (.str x5.Place), .r (.str x5.Name), .r (.str x5.Value)]) rfl ta_140 iL rfl rfl) (AQ.step rfl rfl rfl (sp_aggneq rfl te_140 iL iL rfl) ?_))))))))))
   refine AQ.nil ?_
   refine hK12 _ ?_
   refine aC rfl (fun hc3 => ?_) (fun hc3 => ?_)
   ·have h7 := ite_t hc3 h6
    refine aS fun K13 hK13 wK13 => ?_
    refine AW.weak (s' := ⟨[], [], (i3 0), 26⟩) (by exact Weak.cv trivial trivial nL) ?_
    refine aR (sA rfl rfl (aZ (hK13 _ ?_)))
    refine AW.ret ?_
    exact retf1 (P := prog) (fun (r : Bool) => rB (r)) (he1 _ (hx1 _ (Option.some.inj h7).symm)) iL (.t (.d rfl))
   ·have h7 := ite_f hc3 h6
    refine AW.skip ?_
    refine hK10 _ ?_
    refine AW.weak (s' := ⟨[(0, qe s11), (1, qe s21), (12, rI ((s11.length : Int))), (13, rI (x2))], [], (i3 0), 26⟩) (by exact Weak.cv ⟨jL, jL, jL, jL, trivial⟩ trivial nL) ?_
    refine aR (ob1k h7 fun x6 ex6 h8 => (sQ rfl (ms_add rfl iL iL (fun _ => ex6)) (sM rfl rfl ?_)))
    refine AOps.nil ?_
    exact NextQ1.mk h8 (vec [(i3 0)]) ((by exact Weak.cv ⟨jL, jL, jL, jL, trivial⟩ trivial nL))
  ·have h4 := ite_f hc2 h3
   refine AW.exit ?_
   exact wK5 _ _ ((by exact Weak.cv trivial trivial nL)) (J1 _ (vec [(i3 0)]) (hx1 _ (Option.some.inj h4).symm))
end Go.Proofs.YthoepnnckmfipaaGreatDoor.Al
