/- Walks, as printed. -/
import Derived.Test.YtdafahjmopdleaaGreatDoorPL1
import Derived.Test.YtdafahjmopdleaaGreatDoorProg
set_option maxHeartbeats 4000000
set_option maxRecDepth 20000
set_option linter.unusedVariables false
namespace Go.Proofs.YtdafahjmopdleaaGreatDoor.Al
open Go.Proofs
theorem hmix : Tryz.prog.follows .mixedOrders = true := by kernel_rfl
theorem YS7 : (Tryz.prog.info? 100).map (fun i => (i.zero, i.size, i.bytes)) = some (some (.agg #[.int .i64 0, .int .i64 0, .slice none 0 0, .slice none 0 0]), 4, 64) := by kernel_rfl
theorem YUb : (Tryz.prog.info? 102).map (fun i => (i.zero, i.size, i.bytes)) = some (some (.agg #[.int .i64 0, .int .i64 0, .slice none 0 0, .slice none 0 0, .int .i64 0, .int .i64 0, .slice none 0 0, .slice none 0 0, .slice none 0 0, .slice none 0 0, .string ⟨#[]⟩]), 11, 192) := by kernel_rfl
theorem YUa : (Tryz.prog.info? 140).map (fun i => (i.zero, i.size, i.bytes)) = some (some (.agg #[.int .i64 0, .int .i64 0, .string ⟨#[]⟩, .int .i64 0, .slice none 0 0]), 5, 64) := by kernel_rfl
theorem i_142 : (Tryz.prog.info? 142).map (fun i => (i.zero, i.size, i.bytes)) = some (some (.agg #[.int .i64 0, .int .i64 0]), 2, 16) := by kernel_rfl
theorem YUZ : (Tryz.prog.info? 176).map (fun i => (i.zero, i.size, i.bytes)) = some (some (.agg #[.int .i64 0, .int .i64 0, .int .i64 0, .int .i64 0, .int .i64 0, .string ⟨#[]⟩, .string ⟨#[]⟩, .string ⟨#[]⟩]), 8, 88) := by kernel_rfl
theorem i_193 : (Tryz.prog.info? 193).map (fun i => (i.zero, i.size, i.bytes)) = some (some (.agg #[.slice none 0 0, .slice none 0 0, .int .i64 0]), 3, 56) := by kernel_rfl
theorem YUY : (Tryz.prog.info? 205).map (fun i => (i.zero, i.size, i.bytes)) = some (some (.agg #[.int .u8 0, .int .u8 0]), 2, 2) := by kernel_rfl
theorem YUX : (Tryz.prog.info? 211).map (fun i => (i.zero, i.size, i.bytes)) = some (some (.agg #[.int .i64 0, .int .i64 0, .int .i64 0, .int .i64 0]), 4, 32) := by kernel_rfl
theorem i_22 : (Tryz.prog.info? 22).map (fun i => (i.zero, i.size, i.bytes)) = some (some (.slice none 0 0), 1, 24) := by kernel_rfl
theorem i_24 : (Tryz.prog.info? 24).map (fun i => (i.zero, i.size, i.bytes)) = some (some (.agg #[.slice none 0 0]), 1, 24) := by kernel_rfl
theorem i_26 : (Tryz.prog.info? 26).map (fun i => (i.zero, i.size, i.bytes)) = some (some (.agg #[.int .i64 0, .int .i64 0, .int .i64 0]), 3, 24) := by kernel_rfl
theorem i_3 : (Tryz.prog.info? 3).map (fun i => (i.zero, i.size, i.bytes)) = some (some (.int .i64 0), 1, 8) := by kernel_rfl
theorem i_36 : (Tryz.prog.info? 36).map (fun i => (i.zero, i.size, i.bytes)) = some (some (.slice none 0 0), 1, 24) := by kernel_rfl
theorem i_39 : (Tryz.prog.info? 39).map (fun i => (i.zero, i.size, i.bytes)) = some (some (.slice none 0 0), 1, 24) := by kernel_rfl
theorem i_4 : (Tryz.prog.info? 4).map (fun i => (i.zero, i.size, i.bytes)) = some (some (.bool false), 1, 1) := by kernel_rfl
theorem i_40 : (Tryz.prog.info? 40).map (fun i => (i.zero, i.size, i.bytes)) = some (some (.slice none 0 0), 1, 24) := by kernel_rfl
theorem i_41 : (Tryz.prog.info? 41).map (fun i => (i.zero, i.size, i.bytes)) = some (some (.slice none 0 0), 1, 24) := by kernel_rfl
theorem i_43 : (Tryz.prog.info? 43).map (fun i => (i.zero, i.size, i.bytes)) = some (some (.agg #[.int .i64 0, .int .i64 0, .slice none 0 0, .slice none 0 0]), 4, 64) := by kernel_rfl
theorem i_44 : (Tryz.prog.info? 44).map (fun i => (i.zero, i.size, i.bytes)) = some (some (.slice none 0 0), 1, 24) := by kernel_rfl
theorem i_46 : (Tryz.prog.info? 46).map (fun i => (i.zero, i.size, i.bytes)) = some (some (.agg #[.int .i64 0, .int .i64 0, .slice none 0 0, .slice none 0 0, .int .i64 0, .int .i64 0, .slice none 0 0, .slice none 0 0, .slice none 0 0]), 9, 152) := by kernel_rfl
theorem i_5 : (Tryz.prog.info? 5).map (fun i => (i.zero, i.size, i.bytes)) = some (some (.int .u8 0), 1, 1) := by kernel_rfl
theorem i_51 : (Tryz.prog.info? 51).map (fun i => (i.zero, i.size, i.bytes)) = some (some (.agg #[.int .i64 0, .int .i64 0, .slice none 0 0]), 3, 40) := by kernel_rfl
theorem i_58 : (Tryz.prog.info? 58).map (fun i => (i.zero, i.size, i.bytes)) = some (some (.agg #[.string ⟨#[]⟩, .string ⟨#[]⟩]), 2, 32) := by kernel_rfl
theorem i_63 : (Tryz.prog.info? 63).map (fun i => (i.zero, i.size, i.bytes)) = some (some (.slice none 0 0), 1, 24) := by kernel_rfl
theorem i_65 : (Tryz.prog.info? 65).map (fun i => (i.zero, i.size, i.bytes)) = some (some (.slice none 0 0), 1, 24) := by kernel_rfl
theorem i_66 : (Tryz.prog.info? 66).map (fun i => (i.zero, i.size, i.bytes)) = some (some (.slice none 0 0), 1, 24) := by kernel_rfl
theorem i_67 : (Tryz.prog.info? 67).map (fun i => (i.zero, i.size, i.bytes)) = some (some (.slice none 0 0), 1, 24) := by kernel_rfl
theorem i_69 : (Tryz.prog.info? 69).map (fun i => (i.zero, i.size, i.bytes)) = some (some (.agg #[.slice none 0 0, .slice none 0 0, .slice none 0 0]), 3, 72) := by kernel_rfl
theorem i_70 : (Tryz.prog.info? 70).map (fun i => (i.zero, i.size, i.bytes)) = some (some (.slice none 0 0), 1, 24) := by kernel_rfl
theorem i_72 : (Tryz.prog.info? 72).map (fun i => (i.zero, i.size, i.bytes)) = some (some (.slice none 0 0), 1, 24) := by kernel_rfl
theorem i_74 : (Tryz.prog.info? 74).map (fun i => (i.zero, i.size, i.bytes)) = some (some (.agg #[.slice none 0 0, .slice none 0 0, .slice none 0 0, .slice none 0 0, .slice none 0 0]), 5, 120) := by kernel_rfl
theorem i_76 : (Tryz.prog.info? 76).map (fun i => (i.zero, i.size, i.bytes)) = some (some (.agg #[.int .i64 0, .int .i64 0, .int .i64 0, .int .i64 0, .slice none 0 0, .slice none 0 0, .int .i64 0, .int .i64 0, .slice none 0 0, .slice none 0 0, .slice none 0 0, .slice none 0 0, .slice none 0 0, .slice none 0 0, .slice none 0 0, .slice none 0 0, .slice none 0 0, .slice none 0 0, .slice none 0 0]), 19, 360) := by kernel_rfl
theorem i_9 : (Tryz.prog.info? 9).map (fun i => (i.zero, i.size, i.bytes)) = some (some (.string ⟨#[]⟩), 1, 16) := by kernel_rfl
theorem YNq : YBt Tryz.prog 100 (.agg #[.int .i64 0, .int .i64 0, .slice none 0 0, .slice none 0 0]) := YBt.of YS7
theorem YP8 : YBt Tryz.prog 102 (.agg #[.int .i64 0, .int .i64 0, .slice none 0 0, .slice none 0 0, .int .i64 0, .int .i64 0, .slice none 0 0, .slice none 0 0, .slice none 0 0, .slice none 0 0, .string ⟨#[]⟩]) := YBt.of YUb
theorem YMD : YBt Tryz.prog 140 (.agg #[.int .i64 0, .int .i64 0, .string ⟨#[]⟩, .int .i64 0, .slice none 0 0]) := YBt.of YUa
theorem YVD : YBt Tryz.prog 176 (.agg #[.int .i64 0, .int .i64 0, .int .i64 0, .int .i64 0, .int .i64 0, .string ⟨#[]⟩, .string ⟨#[]⟩, .string ⟨#[]⟩]) := YBt.of YUZ
theorem t0_193 : YBt Tryz.prog 193 (.agg #[.slice none 0 0, .slice none 0 0, .int .i64 0]) := YBt.of i_193
theorem t0_205 : YBt Tryz.prog 205 (.agg #[.int .u8 0, .int .u8 0]) := YBt.of YUY
theorem YVC : YBt Tryz.prog 211 (.agg #[.int .i64 0, .int .i64 0, .int .i64 0, .int .i64 0]) := YBt.of YUX
theorem t0_3 : YBt Tryz.prog 3 (.int .i64 0) := YBt.of i_3
theorem YVe : YBt Tryz.prog 46 (.agg #[.int .i64 0, .int .i64 0, .slice none 0 0, .slice none 0 0, .int .i64 0, .int .i64 0, .slice none 0 0, .slice none 0 0, .slice none 0 0]) := YBt.of i_46
theorem YPH : YBt Tryz.prog 51 (.agg #[.int .i64 0, .int .i64 0, .slice none 0 0]) := YBt.of i_51
theorem t0_58 : YBt Tryz.prog 58 (.agg #[.string ⟨#[]⟩, .string ⟨#[]⟩]) := YBt.of i_58
theorem t0_69 : YBt Tryz.prog 69 (.agg #[.slice none 0 0, .slice none 0 0, .slice none 0 0]) := YBt.of i_69
theorem YJN : YBs Tryz.prog 100 4 := YBs.of Tryz.underlying100 rfl YS7
theorem YKr : YBs Tryz.prog 102 11 := YBs.of Tryz.underlying102 rfl YUb
theorem YFk : YBs Tryz.prog 140 5 := YBs.of Tryz.underlying140 rfl YUa
theorem YVB : YBs Tryz.prog 142 2 := YBs.of Tryz.underlying142 rfl i_142
theorem YIN : YBs Tryz.prog 176 8 := YBs.of Tryz.underlying176 rfl YUZ
theorem ta_205 : YBs Tryz.prog 205 2 := YBs.of Tryz.underlying205 rfl YUY
theorem YFO : YBs Tryz.prog 211 4 := YBs.of Tryz.underlying211 rfl YUX
theorem YHy : YBs Tryz.prog 24 1 := YBs.of Tryz.underlying24 rfl i_24
theorem YR9 : YBs Tryz.prog 26 3 := YBs.of Tryz.underlying26 rfl i_26
theorem YQ7 : YBs Tryz.prog 43 4 := YBs.of Tryz.underlying43 rfl i_43
theorem YJq : YBs Tryz.prog 46 9 := YBs.of Tryz.underlying46 rfl i_46
theorem YHx : YBs Tryz.prog 51 3 := YBs.of Tryz.underlying51 rfl i_51
theorem YQ6 : YBs Tryz.prog 58 2 := YBs.of Tryz.underlying58 rfl i_58
theorem ta_69 : YBs Tryz.prog 69 3 := YBs.of Tryz.underlying69 rfl i_69
theorem ta_74 : YBs Tryz.prog 74 5 := YBs.of Tryz.underlying74 rfl i_74
theorem ta_76 : YBs Tryz.prog 76 19 := YBs.of Tryz.underlying76 rfl i_76
theorem tab_g0 : YFr 0 = some (YDc.flatMap (rInt .u8)) := by kernel_rfl
theorem tab_g1 : YFr 1 = some (YIM.flatMap YBB.row) := by kernel_rfl
theorem YJM : YDF Tryz.prog 100 [(0, 1), (1, 1), (2, 1), (3, 1)] [.int .i64 0, .int .i64 0, .slice none 0 0, .slice none 0 0] := YDF.of Tryz.underlying100 (fun w => by kernel_rfl) YS7
theorem YMC : YDF Tryz.prog 102 [(0, 9), (9, 1), (10, 1)] [.int .i64 0, .int .i64 0, .slice none 0 0, .slice none 0 0, .int .i64 0, .int .i64 0, .slice none 0 0, .slice none 0 0, .slice none 0 0, .slice none 0 0, .string ⟨#[]⟩] := YDF.of Tryz.underlying102 (fun w => by kernel_rfl) YUb
theorem tb_43 : YDF Tryz.prog 43 [(0, 1), (1, 1), (2, 1), (3, 1)] [.int .i64 0, .int .i64 0, .slice none 0 0, .slice none 0 0] := YDF.of Tryz.underlying43 (fun w => by kernel_rfl) i_43
theorem tb_51 : YDF Tryz.prog 51 [(0, 1), (1, 1), (2, 1)] [.int .i64 0, .int .i64 0, .slice none 0 0] := YDF.of Tryz.underlying51 (fun w => by kernel_rfl) i_51
theorem tb_69 : YDF Tryz.prog 69 [(0, 1), (1, 1), (2, 1)] [.slice none 0 0, .slice none 0 0, .slice none 0 0] := YDF.of Tryz.underlying69 (fun w => by kernel_rfl) i_69
theorem YTv : YDF Tryz.prog 76 [(0, 1), (1, 1), (2, 9), (11, 1), (12, 1), (13, 5), (18, 1)] [.int .i64 0, .int .i64 0, .int .i64 0, .int .i64 0, .slice none 0 0, .slice none 0 0, .int .i64 0, .int .i64 0, .slice none 0 0, .slice none 0 0, .slice none 0 0, .slice none 0 0, .slice none 0 0, .slice none 0 0, .slice none 0 0, .slice none 0 0, .slice none 0 0, .slice none 0 0, .slice none 0 0] := YDF.of Tryz.underlying76 (fun w => by kernel_rfl) i_76
theorem YPE : YIC Tryz.prog 51 0 0 := YIC.of Tryz.underlying51 rfl rfl Tryz.underlying3 rfl
theorem te_142 : EqTy Tryz.prog 142 [some (.int .i64), some (.int .i64)] := EqTy.of Tryz.underlying142 (by kernel_rfl) (by kernel_rfl) (by exact ⟨rfl, rfl, Tryz.underlying3, rfl, rfl, Tryz.underlying3, trivial⟩)
theorem te_176 : EqTy Tryz.prog 176 [some (.int .i64), some (.int .i64), some (.int .i64), some (.int .i64), some (.int .i64), some .string, some .string, some .string] := EqTy.of Tryz.underlying176 (by kernel_rfl) (by kernel_rfl) (by exact ⟨rfl, rfl, Tryz.underlying3, rfl, rfl, Tryz.underlying3, rfl, rfl, Tryz.underlying3, rfl, rfl, Tryz.underlying3, rfl, rfl, Tryz.underlying3, rfl, rfl, Tryz.underlying9, rfl, rfl, Tryz.underlying9, rfl, rfl, Tryz.underlying9, trivial⟩)
theorem YU9 : EqTy Tryz.prog 211 [some (.int .i64), some (.int .i64), some (.int .i64), some (.int .i64)] := EqTy.of Tryz.underlying211 (by kernel_rfl) (by kernel_rfl) (by exact ⟨rfl, rfl, Tryz.underlying3, rfl, rfl, Tryz.underlying3, rfl, rfl, Tryz.underlying3, rfl, rfl, Tryz.underlying3, trivial⟩)
theorem te_58 : EqTy Tryz.prog 58 [some .string, some .string] := EqTy.of Tryz.underlying58 (by kernel_rfl) (by kernel_rfl) (by exact ⟨rfl, rfl, Tryz.underlying9, rfl, rfl, Tryz.underlying9, trivial⟩)
theorem YB3 : YAF Tryz.prog 100 0 0 := YAF.of Tryz.underlying100 rfl rfl i_3 (by decide)
theorem YC1 : YAF Tryz.prog 100 1 1 := YAF.of Tryz.underlying100 rfl rfl i_3 (by decide)
theorem YDK : YAF Tryz.prog 100 2 2 := YAF.of Tryz.underlying100 rfl rfl i_39 (by decide)
theorem YFj : YAF Tryz.prog 100 3 3 := YAF.of Tryz.underlying100 rfl rfl i_36 (by decide)
theorem YE7 : YAF Tryz.prog 102 0 0 := YAF.of Tryz.underlying102 rfl rfl i_46 (by decide)
theorem YHR : YAF Tryz.prog 102 1 9 := YAF.of Tryz.underlying102 rfl rfl i_63 (by decide)
theorem YDJ : YAF Tryz.prog 140 0 0 := YAF.of Tryz.underlying140 rfl rfl i_3 (by decide)
theorem YDz : YAF Tryz.prog 140 1 1 := YAF.of Tryz.underlying140 rfl rfl i_3 (by decide)
theorem YEb : YAF Tryz.prog 140 2 2 := YAF.of Tryz.underlying140 rfl rfl i_9 (by decide)
theorem YCY : YAF Tryz.prog 140 3 3 := YAF.of Tryz.underlying140 rfl rfl i_3 (by decide)
theorem YEa : YAF Tryz.prog 140 4 4 := YAF.of Tryz.underlying140 rfl rfl i_39 (by decide)
theorem YE6 : YAF Tryz.prog 176 0 0 := YAF.of Tryz.underlying176 rfl rfl i_3 (by decide)
theorem YGO : YAF Tryz.prog 176 1 1 := YAF.of Tryz.underlying176 rfl rfl i_3 (by decide)
theorem YDy : YAF Tryz.prog 176 2 2 := YAF.of Tryz.underlying176 rfl rfl i_3 (by decide)
theorem YMt : YAF Tryz.prog 176 3 3 := YAF.of Tryz.underlying176 rfl rfl i_3 (by decide)
theorem YIL : YAF Tryz.prog 176 4 4 := YAF.of Tryz.underlying176 rfl rfl i_3 (by decide)
theorem YJ1 : YAF Tryz.prog 176 5 5 := YAF.of Tryz.underlying176 rfl rfl i_9 (by decide)
theorem YJ0 : YAF Tryz.prog 176 6 6 := YAF.of Tryz.underlying176 rfl rfl i_9 (by decide)
theorem YHQ : YAF Tryz.prog 176 7 7 := YAF.of Tryz.underlying176 rfl rfl i_9 (by decide)
theorem YDb : YAF Tryz.prog 193 0 0 := YAF.of Tryz.underlying193 rfl rfl i_70 (by decide)
theorem YIK : YAF Tryz.prog 193 1 1 := YAF.of Tryz.underlying193 rfl rfl i_36 (by decide)
theorem YHP : YAF Tryz.prog 193 2 2 := YAF.of Tryz.underlying193 rfl rfl i_3 (by decide)
theorem YTu : YAF Tryz.prog 205 0 0 := YAF.of Tryz.underlying205 rfl rfl i_5 (by decide)
theorem YTt : YAF Tryz.prog 205 1 1 := YAF.of Tryz.underlying205 rfl rfl i_5 (by decide)
theorem YBU : YAF Tryz.prog 211 0 0 := YAF.of Tryz.underlying211 rfl rfl i_3 (by decide)
theorem YB2 : YAF Tryz.prog 211 1 1 := YAF.of Tryz.underlying211 rfl rfl i_3 (by decide)
theorem YE5 : YAF Tryz.prog 211 2 2 := YAF.of Tryz.underlying211 rfl rfl i_3 (by decide)
theorem YE4 : YAF Tryz.prog 211 3 3 := YAF.of Tryz.underlying211 rfl rfl i_3 (by decide)
theorem YBv : YAF Tryz.prog 24 0 0 := YAF.of Tryz.underlying24 rfl rfl i_22 (by decide)
theorem YKp : YAF Tryz.prog 26 0 0 := YAF.of Tryz.underlying26 rfl rfl i_3 (by decide)
theorem YFs : YAF Tryz.prog 26 1 1 := YAF.of Tryz.underlying26 rfl rfl i_3 (by decide)
theorem YGu : YAF Tryz.prog 26 2 2 := YAF.of Tryz.underlying26 rfl rfl i_3 (by decide)
theorem YEx : YAF Tryz.prog 43 0 0 := YAF.of Tryz.underlying43 rfl rfl i_3 (by decide)
theorem YEw : YAF Tryz.prog 43 1 1 := YAF.of Tryz.underlying43 rfl rfl i_3 (by decide)
theorem YES : YAF Tryz.prog 43 2 2 := YAF.of Tryz.underlying43 rfl rfl i_40 (by decide)
theorem YDx : YAF Tryz.prog 43 3 3 := YAF.of Tryz.underlying43 rfl rfl i_41 (by decide)
theorem YCX : YAF Tryz.prog 46 0 0 := YAF.of Tryz.underlying46 rfl rfl i_3 (by decide)
theorem YBI : YAF Tryz.prog 46 1 1 := YAF.of Tryz.underlying46 rfl rfl i_3 (by decide)
theorem YMs : YAF Tryz.prog 46 2 2 := YAF.of Tryz.underlying46 rfl rfl i_39 (by decide)
theorem YBi : YAF Tryz.prog 46 3 3 := YAF.of Tryz.underlying46 rfl rfl i_36 (by decide)
theorem YEv : YAF Tryz.prog 46 4 4 := YAF.of Tryz.underlying46 rfl rfl i_43 (by decide)
theorem YGt : YAF Tryz.prog 46 5 8 := YAF.of Tryz.underlying46 rfl rfl i_44 (by decide)
theorem YDT : YAF Tryz.prog 51 0 0 := YAF.of Tryz.underlying51 rfl rfl i_3 (by decide)
theorem YCW : YAF Tryz.prog 51 1 1 := YAF.of Tryz.underlying51 rfl rfl i_3 (by decide)
theorem YGN : YAF Tryz.prog 51 2 2 := YAF.of Tryz.underlying51 rfl rfl i_39 (by decide)
theorem YGM : YAF Tryz.prog 58 0 0 := YAF.of Tryz.underlying58 rfl rfl i_9 (by decide)
theorem YIt : YAF Tryz.prog 58 1 1 := YAF.of Tryz.underlying58 rfl rfl i_9 (by decide)
theorem YR5 : YAF Tryz.prog 69 0 0 := YAF.of Tryz.underlying69 rfl rfl i_65 (by decide)
theorem YKo : YAF Tryz.prog 69 1 1 := YAF.of Tryz.underlying69 rfl rfl i_66 (by decide)
theorem YMr : YAF Tryz.prog 69 2 2 := YAF.of Tryz.underlying69 rfl rfl i_67 (by decide)
theorem YR4 : YAF Tryz.prog 74 0 0 := YAF.of Tryz.underlying74 rfl rfl i_72 (by decide)
theorem YR3 : YAF Tryz.prog 74 1 1 := YAF.of Tryz.underlying74 rfl rfl i_72 (by decide)
theorem YR2 : YAF Tryz.prog 74 2 2 := YAF.of Tryz.underlying74 rfl rfl i_40 (by decide)
theorem YR1 : YAF Tryz.prog 74 3 3 := YAF.of Tryz.underlying74 rfl rfl i_41 (by decide)
theorem YR0 : YAF Tryz.prog 74 4 4 := YAF.of Tryz.underlying74 rfl rfl i_41 (by decide)
theorem YRz : YAF Tryz.prog 76 0 0 := YAF.of Tryz.underlying76 rfl rfl i_3 (by decide)
theorem YRy : YAF Tryz.prog 76 1 1 := YAF.of Tryz.underlying76 rfl rfl i_3 (by decide)
theorem YRx : YAF Tryz.prog 76 2 2 := YAF.of Tryz.underlying76 rfl rfl i_46 (by decide)
theorem YRw : YAF Tryz.prog 76 3 11 := YAF.of Tryz.underlying76 rfl rfl i_39 (by decide)
theorem YRv : YAF Tryz.prog 76 4 12 := YAF.of Tryz.underlying76 rfl rfl i_70 (by decide)
theorem YRu : YAF Tryz.prog 76 5 13 := YAF.of Tryz.underlying76 rfl rfl i_74 (by decide)
theorem YRt : YAF Tryz.prog 76 6 18 := YAF.of Tryz.underlying76 rfl rfl i_44 (by decide)
theorem YEg : YA8 Tryz.prog 22 46 9 152 := YA8.of Tryz.underlying22 i_46 rfl rfl (by decide)
theorem YKn : YA8 Tryz.prog 30 76 19 360 := YA8.of Tryz.underlying30 i_76 rfl rfl (by decide)
theorem YBN : YA8 Tryz.prog 36 51 3 40 := YA8.of Tryz.underlying36 i_51 rfl rfl (by decide)
theorem YDI : YA8 Tryz.prog 39 58 2 32 := YA8.of Tryz.underlying39 i_58 rfl rfl (by decide)
theorem YDu : YA8 Tryz.prog 40 140 5 64 := YA8.of Tryz.underlying40 YUa rfl rfl (by decide)
theorem YFN : YA8 Tryz.prog 41 211 4 32 := YA8.of Tryz.underlying41 YUX rfl rfl (by decide)
theorem YHw : YA8 Tryz.prog 44 176 8 88 := YA8.of Tryz.underlying44 YUZ rfl rfl (by decide)
theorem YCD : YA8 Tryz.prog 63 3 1 8 := YA8.of Tryz.underlying63 i_3 rfl rfl (by decide)
theorem tg_65 : YA8 Tryz.prog 65 36 1 24 := YA8.of Tryz.underlying65 i_36 rfl rfl (by decide)
theorem YKm : YA8 Tryz.prog 66 4 1 1 := YA8.of Tryz.underlying66 i_4 rfl rfl (by decide)
theorem YQ3 : YA8 Tryz.prog 67 39 1 24 := YA8.of Tryz.underlying67 i_39 rfl rfl (by decide)
theorem YCJ : YA8 Tryz.prog 70 100 4 64 := YA8.of Tryz.underlying70 YS7 rfl rfl (by decide)
theorem YRs : YA8 Tryz.prog 72 142 2 16 := YA8.of Tryz.underlying72 i_142 rfl rfl (by decide)
theorem tr_36 : ZRow Tryz.prog 36 [.sl []] := ZRow.of i_36 rfl
theorem tr_39 : ZRow Tryz.prog 39 [.sl []] := ZRow.of i_39 rfl
theorem tr_4 : ZRow Tryz.prog 4 [.bool false] := ZRow.of i_4 rfl
theorem tr_51 : ZRow Tryz.prog 51 [.int .i64 0, .int .i64 0, .sl []] := ZRow.of i_51 rfl
theorem YFh : YA3 Tryz.prog 22 := YA3.of Tryz.underlying22 rfl i_22
theorem ts_3 : YA3 Tryz.prog 3 := YA3.of Tryz.underlying3 rfl i_3
theorem YC4 : YA3 Tryz.prog 36 := YA3.of Tryz.underlying36 rfl i_36
theorem YCi : YA3 Tryz.prog 39 := YA3.of Tryz.underlying39 rfl i_39
theorem ts_4 : YA3 Tryz.prog 4 := YA3.of Tryz.underlying4 rfl i_4
theorem YHv : YA3 Tryz.prog 40 := YA3.of Tryz.underlying40 rfl i_40
theorem YGj : YA3 Tryz.prog 41 := YA3.of Tryz.underlying41 rfl i_41
theorem YLk : YA3 Tryz.prog 44 := YA3.of Tryz.underlying44 rfl i_44
theorem ts_5 : YA3 Tryz.prog 5 := YA3.of Tryz.underlying5 rfl i_5
theorem YRr : YA3 Tryz.prog 63 := YA3.of Tryz.underlying63 rfl i_63
theorem ts_65 : YA3 Tryz.prog 65 := YA3.of Tryz.underlying65 rfl i_65
theorem YRq : YA3 Tryz.prog 66 := YA3.of Tryz.underlying66 rfl i_66
theorem YTs : YA3 Tryz.prog 67 := YA3.of Tryz.underlying67 rfl i_67
theorem YKh : YA3 Tryz.prog 70 := YA3.of Tryz.underlying70 rfl i_70
theorem YTr : YA3 Tryz.prog 72 := YA3.of Tryz.underlying72 rfl i_72
theorem ts_9 : YA3 Tryz.prog 9 := YA3.of Tryz.underlying9 rfl i_9
theorem tt_203 : YWY Tryz.prog 203 256 5 1 := ⟨Tryz.underlying203, YCa i_5⟩
theorem tt_206 : YWY Tryz.prog 206 16 205 2 := ⟨Tryz.underlying206, YCa YUY⟩
theorem YNp : ∃ i, Tryz.prog.info? 100 = some i ∧ i.size = 4 := YCa YS7
theorem YII : ∃ i, Tryz.prog.info? 102 = some i ∧ i.size = 11 := YCa YUb
theorem YL7 : ∃ i, Tryz.prog.info? 140 = some i ∧ i.size = 5 := YCa YUa
theorem YU8 : ∃ i, Tryz.prog.info? 176 = some i ∧ i.size = 8 := YCa YUZ
theorem tz_205 : ∃ i, Tryz.prog.info? 205 = some i ∧ i.size = 2 := YCa YUY
theorem YU7 : ∃ i, Tryz.prog.info? 211 = some i ∧ i.size = 4 := YCa YUX
theorem tz_3 : ∃ i, Tryz.prog.info? 3 = some i ∧ i.size = 1 := YCa i_3
theorem tz_36 : ∃ i, Tryz.prog.info? 36 = some i ∧ i.size = 1 := YCa i_36
theorem YTq : ∃ i, Tryz.prog.info? 39 = some i ∧ i.size = 1 := YCa i_39
theorem tz_4 : ∃ i, Tryz.prog.info? 4 = some i ∧ i.size = 1 := YCa i_4
theorem YVd : ∃ i, Tryz.prog.info? 46 = some i ∧ i.size = 9 := YCa i_46
theorem YMq : ∃ i, Tryz.prog.info? 51 = some i ∧ i.size = 3 := YCa i_51
theorem tz_58 : ∃ i, Tryz.prog.info? 58 = some i ∧ i.size = 2 := YCa i_58
theorem tz_63 : ∃ i, Tryz.prog.info? 63 = some i ∧ i.size = 1 := YCa i_63
theorem tz_69 : ∃ i, Tryz.prog.info? 69 = some i ∧ i.size = 3 := YCa i_69
theorem YVc : ∃ i, Tryz.prog.info? 70 = some i ∧ i.size = 1 := YCa i_70
@[reducible] def qa (l : List YAG) : AV := .r (.sl (l.map YAG.row))
@[reducible] def qb (l : List YAC) : AV := .r (.sl (l.map YAC.row))
@[reducible] def qc (l : List YAX) : AV := .r (.sl (l.map YAX.row))
@[reducible] def qd (l : List YAY) : AV := .r (.sl (l.map YAY.row))
@[reducible] def qe (l : List YAN) : AV := .r (.sl (l.map YAN.row))
@[reducible] def qf (l : List YAP) : AV := .r (.sl (l.map YAP.row))
@[reducible] def qg (l : List YAB) : AV := .r (.sl (l.map YAB.row))
@[reducible] def qh (l : List GOp) : AV := .r (.sl (l.map GOp.row))
@[reducible] def qi (l : List YAo) : AV := .r (.sl (l.map YAo.row))
set_option linter.defProp false
@[reducible] def k1_ (x : GOp) : List AV := [rI (x.Kind), rI (x.Node), rI (x.New.ID), rI (x.New.Kind), qa x.New.Attrs, qb x.New.Flow, rI (x.New.Grid.Rows), rI (x.New.Grid.Cols), qd x.New.Grid.Cells, qc x.New.Grid.Merges, qe x.New.Draw, qa x.Attrs, qg x.Steps, qi x.Grid.Rows, qi x.Grid.Cols, qd x.Grid.Cells, qc x.Grid.Split, qc x.Grid.Merge, qe x.Draw]
@[reducible] def k2_ (x : YAD) : List AV := [rI (x.node.ID), rI (x.node.Kind), qa x.node.Attrs, qb x.node.Flow, rI (x.node.Grid.Rows), rI (x.node.Grid.Cols), qd x.node.Grid.Cells, qc x.node.Grid.Merges, qe x.node.Draw, .r (.sl (x.shown.map (rInt .i64))), .r (.str x.author)]
@[reducible] def z3_ : List AV := [rI (0), rI (0), .cst (.slice none 0 0), .cst (.slice none 0 0), rI (0), rI (0), .cst (.slice none 0 0), .cst (.slice none 0 0), .cst (.slice none 0 0), .cst (.slice none 0 0), .r (.str [])]
@[reducible] def z4_ : List AV := [rI (0), rI (0), .cst (.slice none 0 0), .cst (.slice none 0 0), rI (0), rI (0), .cst (.slice none 0 0), .cst (.slice none 0 0), .cst (.slice none 0 0)]
@[reducible] def k5_ (x : YAP) : List AV := [.agg [rI (x.ID), rI (x.Kind), qa x.Attrs, qb x.Flow, rI (x.Grid.Rows), rI (x.Grid.Cols), qd x.Grid.Cells, qc x.Grid.Merges, qe x.Draw]]
@[reducible] def k6_ (x : YAN) : List AV := [.agg [rI (x.Clock), rI (x.Site), rI (x.Kind), rI (x.Item), rI (x.Parent), .r (.str x.Place), .r (.str x.Name), .r (.str x.Value)]]
@[reducible] def k7_ (x : YAP) : List AV := [rI (x.ID), rI (x.Kind), qa x.Attrs, qb x.Flow, rI (x.Grid.Rows), rI (x.Grid.Cols), qd x.Grid.Cells, qc x.Grid.Merges, qe x.Draw]
@[reducible] def k8_ (x : YAN) : List AV := [rI (x.Clock), rI (x.Site), rI (x.Kind), rI (x.Item), rI (x.Parent), .r (.str x.Place), .r (.str x.Name), .r (.str x.Value)]
@[reducible] def k9_ (x : YAR) : List AV := [.agg [.r (.sl (x.Adds.map (rSl YAC.row))), .r (.sl (x.Cuts.map YBZ)), .r (.sl (x.Attrs.map (rSl YAG.row)))]]
@[reducible] def k10_ (x : YAR) : List AV := [.r (.sl (x.Adds.map (rSl YAC.row))), .r (.sl (x.Cuts.map YBZ)), .r (.sl (x.Attrs.map (rSl YAG.row)))]
@[reducible] def k11_ (x : YAY) : List AV := [.agg [rI (x.Row), rI (x.Col), .r (.str x.Text), rI (x.Ref), qa x.Attrs]]
@[reducible] def z12_ : List AV := [.cst (.slice none 0 0), .cst (.slice none 0 0), .cst (.slice none 0 0)]
@[reducible] def k13_ (x : YAY) : List AV := [rI (x.Row), rI (x.Col), .r (.str x.Text), rI (x.Ref), qa x.Attrs]
@[reducible] def z14_ : List AV := [rI (0), rI (0), .cst (.slice none 0 0), .cst (.slice none 0 0)]
@[reducible] def z15_ : List AV := [rI (0), rI (1), .cst (.slice none 0 0), .cst (.slice none 0 0)]
@[reducible] def z16_ : List AV := [rI (0), rI (0), .r (.str []), rI (0), .cst (.slice none 0 0)]
@[reducible] def k17_ (x : YAy) : List AV := [.agg [rI (x.Rows), rI (x.Cols), qd x.Cells, qc x.Merges]]
@[reducible] def k18_ (x : YAj) : List AV := [qi x.Rows, qi x.Cols, qd x.Cells, qc x.Split, qc x.Merge]
@[reducible] def k19_ (x : YAB) : List AV := [.agg [rI (x.Kind), rI (x.N), qa x.Attrs, qb x.Elems]]
@[reducible] def k20_ (x : YAy) : List AV := [rI (x.Rows), rI (x.Cols), qd x.Cells, qc x.Merges]
@[reducible] def k21_ (x : YAB) : List AV := [rI (x.Kind), rI (x.N), qa x.Attrs, qb x.Elems]
@[reducible] def k22_ (x : YAX) : List AV := [rI (x.Row), rI (x.Col), rI (x.H), rI (x.W)]
@[reducible] def k23_ (x : YAC) : List AV := [.agg [rI (x.Char), rI (x.Ref), qa x.Attrs]]
@[reducible] def z24_ : List AV := [rI (0), rI (0), .cst (.slice none 0 0)]
@[reducible] def k25_ (x : YAG) : List AV := [.r (.str x.Name), .r (.str x.Value)]
@[reducible] def k26_ (x : YAC) : List AV := [rI (x.Char), rI (x.Ref), qa x.Attrs]
@[reducible] def k27_ (x : GSel) : List AV := [rI (x.Node), rI (x.From), rI (x.To)]
@[reducible] def Y1_ {T r : Int} {x : Exit} {s : St} {x0 : ResultVar} := @YIw Int Tryz.prog T r x s x0 fun r => rI r
@[reducible] def Y2_ {T r : Bool} {x : Exit} {s : St} {x0 : ResultVar} := @YIw Bool Tryz.prog T r x s x0 fun r => rB r
@[reducible] def Za := @trivial
@[reducible] def Zb := @YPg
@[reducible] def Zc := @Weak.cv
@[reducible] def Zd := @Option.some.inj
@[reducible] def Ze := @Nat.le_of_ble_eq_true
@[reducible] def Zf := @YPM
@[reducible] def Zg := @AOps.step
@[reducible] def Zh := @AW.weak
@[reducible] def Zi := @AW.skip
@[reducible] def Zj := @ob1k
@[reducible] def Zk := @AW.ret
@[reducible] def Zl := @AQ.stepW
@[reducible] def Zm := @AQ.step
@[reducible] def Zn := @ite_t
@[reducible] def Zo := @ite_f
@[reducible] def Zp := @AW.block
@[reducible] def Zq := @YPO
@[reducible] def Zr := @YN0
@[reducible] def Zs := @YVI
@[reducible] def Zt := @AOps.nil
@[reducible] def Zu := @Ob.quiet
@[reducible] def Zv := @OpQ.spec
@[reducible] def Zw := @ARO.mkF
@[reducible] def Zx := @YVG
@[reducible] def Zy := @YGy
@[reducible] def Zz := @ms_idx
@[reducible] def ZA := @ms_len
@[reducible] def ZB := @YOL
@[reducible] def ZC := @YSE
@[reducible] def ZD := @AOps.step0
@[reducible] def ZE := @AOps.stepW
@[reducible] def ZF := @YOM
@[reducible] def ZG := @YUU
@[reducible] def ZH := @YVF
@[reducible] def ZI := @ms_add
@[reducible] def ZJ := @AW.exit
@[reducible] def ZK := @inE_op
@[reducible] def ZL := @YGv
@[reducible] def ZM := @YUO
@[reducible] def ZN := @YV3
@[reducible] def ZO := @YQx.mk
@[reducible] def ZP := @Weak.trans
@[reducible] def ZQ := @YVE
@[reducible] def ZR := @ms_box
@[reducible] def ZS := @AW.iter1
@[reducible] def ZT := @AOps.weak
@[reducible] def ZU := @YUV
@[reducible] def ZV := @YVH
@[reducible] def ZW := @AW.regionQ
@[reducible] def ZX := @YUP
@[reducible] def ZY := @YMG
@[reducible] def ZZ := @YRK
@[reducible] def Z0 := @YHl
@[reducible] def R := @rfl
set_option maxHeartbeats 4000000 in
set_option maxRecDepth 100000 in
theorem YHj {r:Bool} (h:YJU=some r):ARO Tryz.prog 94 [] (rB (r)):=by
 unfold YJU at h
 cases h
 exact ARO.runX [] (fun p hp=>by cases hp) [] [] 40 1000000 hmix Tryz.func94 R R R (by kernel_rfl)
set_option maxHeartbeats 4000000 in
set_option maxRecDepth 100000 in
theorem YKJ {r:Bool} (h:YIS=some r):ARO Tryz.prog 46 [] (rB (r)):=by
 unfold YIS at h
 cases h
 exact ARO.runX [(94,true)] (fun p hp=>by simp only [List.mem_cons,List.not_mem_nil,or_false] at hp; subst hp; exact YHj rfl) [] [139,49] 40 1000000 hmix Tryz.func46 rfl rfl rfl (by kernel_rfl)
set_option maxHeartbeats 4000000 in
set_option maxRecDepth 100000 in
theorem YKI {r:Bool} (h:YE8=some r):ARO Tryz.prog 8 [] (rB (r)):=by
 unfold YE8 at h
 cases h
 exact ARO.runX [(94,true),(46,true)] (fun p hp=>by simp only [List.mem_cons,List.not_mem_nil,or_false] at hp; rcases hp with rfl | rfl <;> first | exact YHj rfl | exact YKJ rfl) [44,11,106,120,107,108,102,47,52] [139,49,66] 40 1000000 hmix Tryz.func8 rfl rfl rfl (by kernel_rfl)
theorem YKf {s1:List UInt8} {r:Bool} (h:YGJ s1=some r):ARO Tryz.prog 164 [.r (.str s1)] (rB (r)):=by
 unfold YGJ at h
 refine Zw Tryz.func164 R R Tryz.ntmps164 R (Ze R) fun n0=>?_
 refine aS fun _ hK1 _=>(aR (sA R R (aZ (hK1 _ ?_))))
 refine aS fun _ hK2 _=>(aS fun _ hK3 _=>(aR (sM R R (sQ R (YET R iL iL) (sM R R (sV R R R (Zf R iL) (sV R R R (YA1 R Tryz.underlying9 (iR R)) (sV R R R (ZV R (iR R) iL) (sQ R (ZC R iL (iR R)) (sM R R (sV R R R (Zf R iL) (Zj h fun ch1 ech1 h1=>(sV R R R (ZZ R Tryz.underlying9 (iR R) iL (gdt ech1)) (sV R R R (Zx R (iR R) iL) (sQ R (ZC R iL (iR R)) (sM R R (sV R R R (Zf R iL) (Zj h1 fun ch2 ech2 h2=>(sV R R R (ZZ R Tryz.underlying9 (iR R) iL (gdt ech2)) (sV R R R (ZV R (iR R) iL) (sQ R (ZC R iL (iR R)) (aZ (hK3 _ ?_)))))))))))))))))))))))
 refine aC R (fun hc1=>?_) (fun hc1=>?_)
 ·have h3:=Zn hc1 h2
  refine aS fun _ hK4 _=>?_
  refine Zh (s':=⟨[],[],n0,53⟩) (by exact Zc Za Za nL) ?_
  refine aR (sA R R (aZ (hK4 _ ?_)))
  refine Zk ?_
  exact Y2_ h3 iL (.t (.d R))
 ·have h3:=Zo hc1 h2
  refine Zi (hK2 _ ?_)
  refine aS fun K5 hK5 wK5=>(aS fun _ hK6 _=>?_)
  refine Zh (s':=⟨[(0,.r (.str s1))],[],n0,53⟩) (by exact Zc ⟨jL,Za⟩ Za nL) ?_
  refine aR (sM R R (sQ R (YA1 R Tryz.underlying9 iL) (sM R R (aZ (hK6 _ ?_)))))
  refine Zp ?_
  refine jc1k h3 fun o1 hit1 hk1 he1=>?_
  have J1 : ∀ (u2:Unit) (i5:Nat→Nat),o1 = .nrm u2→K5 ⟨[],[],(i5 0),53⟩:=by
   intro u2 i5 e
   have h4:=hk1 _ e
   refine hK5 _ ?_
   refine aS fun _ hK7 _=>(aR (sA R R (aZ (hK7 _ ?_))))
   refine Zk ?_
   exact Y2_ h4 iL (.t (.d R))
  refine ZS (fun (x2:Int) i3=>⟨[(0,.r (.str s1)),(23,rI ((s1.length:Int))),(24,rI (x2))],[],(i3 0),53⟩) (vec [n0]) hit1 ((by exact Zc ⟨jL,jL,jL,Za⟩ Za nL)) ?_
  intro x2 i3 v1 hv1 hx1
  have h5:YDt s1 x2=some v1:=hv1; unfold YDt at h5
  refine aS fun _ hK8 _=>(aR (sQ R (Zx R iL iL) (aZ (hK8 _ ?_))))
  refine aS fun _ hK9 _=>?_
  refine aC R (fun hc2=>?_) (fun hc2=>?_)
  ·have h6:=Zn hc2 h5
   refine Zi (hK9 _ ?_)
   refine aS fun _ hK10 _=>(Zp (aS fun _ hK11 _=>(aR (sM R R (sA R R (aZ (hK11 _ ?_)))))))
   refine aS fun _ hK12 _=>(aR (sM R R (sM R R (Zj h6 fun c1 ec1 h7=>(sQ R (ZZ R Tryz.underlying9 iL iL (fun _=>ec1)) (sA R R (aZ (hK12 _ ?_))))))))
   refine aS fun _ hK13 _=>(aR (sM R R (sQ R (Zx R iL iL) (sM R R (sV R R R (Zf R iL) (sV R R R (ZV R (iR R) iL) (sQ R (ZC R iL (iR R)) (sM R R (sV R R R (Zf R iL) (sV R R R (Zx R (iR R) iL) (sV R R R (Zf R (iR R)) ?_)))))))))))
   refine sW (.two R R R) R (Zf R iL) ?_
   refine sW (.two R R R) R (ZV R (iR R) iL) ?_
   refine sV R R R (ZC R (iR R) (iR R)) (sQ R (Zr R iL (iR R)) (sM R R (sV R R R (Zf R iL) (sV R R R (ZH R (iR R) iL) (sQ R (Zr R iL (iR R)) (sM R R (sV R R R (Zf R iL) (sV R R R (ZH R (iR R) iL) (sQ R (Zr R iL (iR R)) (aZ (hK13 _ ?_)))))))))))
   refine aC R (fun hc3=>?_) (fun hc3=>?_)
   ·have h8:=Zn hc3 h7
    refine aS fun _ hK14 _=>?_
    refine Zh (s':=⟨[],[],(i3 0),53⟩) (by exact Zc Za Za nL) ?_
    refine aR (sA R R (aZ (hK14 _ ?_)))
    refine Zk ?_
    exact Y2_ (he1 _ (hx1 _ (Zd h8).symm)) iL (.t (.d R))
   ·have h8:=Zo hc3 h7
    refine Zi (hK10 _ ?_)
    refine Zh (s':=⟨[(0,.r (.str s1)),(23,rI ((s1.length:Int))),(24,rI (x2))],[],(i3 0),53⟩) (by exact Zc ⟨jL,jL,jL,Za⟩ Za nL) ?_
    refine aR (Zj h8 fun x4 ex4 h9=>(sQ R (ZI R iL iL (fun _=>ex4)) (sM R R ?_)))
    refine Zt ?_
    exact ZO h9 (vec [(i3 0)]) ((by exact Zc ⟨jL,jL,jL,Za⟩ Za nL))
  ·have h6:=Zo hc2 h5
   refine ZJ ?_
   exact wK5 _ _ ((by exact Zc Za Za nL)) (J1 _ (vec [(i3 0)]) (hx1 _ (Zd h6).symm))
theorem YGr {s1:List UInt8} {r:Bool} (h:YDs s1=some r):ARO Tryz.prog 98 [.r (.str s1)] (rB (r)):=by
 unfold YDs at h
 refine Zw Tryz.func98 R R Tryz.ntmps98 R (Ze R) fun n0=>?_
 refine aS fun _ hK1 _=>(aR (sA R R (aZ (hK1 _ ?_))))
 refine aS fun _ hK2 _=>(aS fun _ hK3 _=>(aR (sM R R (sQ R (YET R iL iL) (sM R R (sV R R R (Zf R iL) (sV R R R (YA1 R Tryz.underlying9 (iR R)) (sV R R R (ZV R (iR R) iL) (sQ R (ZC R iL (iR R)) (aZ (hK3 _ ?_)))))))))))
 refine aC R (fun hc1=>?_) (fun hc1=>?_)
 ·have h1:=Zn hc1 h
  refine aS fun _ hK4 _=>?_
  refine Zh (s':=⟨[],[],n0,27⟩) (by exact Zc Za Za nL) ?_
  refine aR (sA R R (aZ (hK4 _ ?_)))
  refine Zk ?_
  exact Y2_ h1 iL (.t (.d R))
 ·have h1:=Zo hc1 h
  refine Zi (hK2 _ ?_)
  refine aS fun K5 hK5 wK5=>(aS fun _ hK6 _=>(aR (sM R R (sQ R (YA1 R Tryz.underlying9 iL) (sM R R (aZ (hK6 _ ?_)))))))
  refine Zp ?_
  refine jc1k h1 fun o1 hit1 hk1 he1=>?_
  have J1 : ∀ (u2:Unit) (i5:Nat→Nat),o1 = .nrm u2→K5 ⟨[],[],(i5 0),27⟩:=by
   intro u2 i5 e
   have h2:=hk1 _ e
   refine hK5 _ ?_
   refine aS fun _ hK7 _=>(aR (sA R R (aZ (hK7 _ ?_))))
   refine Zk ?_
   exact Y2_ h2 iL (.t (.d R))
  refine ZS (fun (x2:Int) i3=>⟨[(0,.r (.str s1)),(12,rI ((s1.length:Int))),(13,rI (x2))],[],(i3 0),27⟩) (vec [n0]) hit1 ((by exact Zc ⟨jL,jL,jL,Za⟩ Za nL)) ?_
  intro x2 i3 v1 hv1 hx1
  have h3:YEK s1 x2=some v1:=hv1; unfold YEK at h3
  refine aS fun _ hK8 _=>(aR (sQ R (Zx R iL iL) (aZ (hK8 _ ?_))))
  refine aS fun _ hK9 _=>?_
  refine aC R (fun hc2=>?_) (fun hc2=>?_)
  ·have h4:=Zn hc2 h3
   refine Zi (hK9 _ ?_)
   refine aS fun _ hK10 _=>(Zp (aS fun _ hK11 _=>(aR (sM R R (sA R R (aZ (hK11 _ ?_)))))))
   refine aS fun _ hK12 _=>(aR (sM R R (sM R R (Zj h4 fun ch1 ech1 h5=>(sQ R (ZZ R Tryz.underlying9 iL iL (fun _=>ech1)) (sQ R (Zx R iL iL) (sM R R (sV R R R (Zf R iL) (sV R R R (Zf R iL) (sV R R R (ZZ R Tryz.underlying9 (iR R) (iR R) (fun _=>ech1)) (sV R R R (ZV R (iR R) iL) (sQ R (ZC R iL (iR R)) (aZ (hK12 _ ?_))))))))))))))
   refine aC R (fun hc3=>?_) (fun hc3=>?_)
   ·have h6:=Zn hc3 h5
    refine aS fun _ hK13 _=>?_
    refine Zh (s':=⟨[],[],(i3 0),27⟩) (by exact Zc Za Za nL) ?_
    refine aR (sA R R (aZ (hK13 _ ?_)))
    refine Zk ?_
    exact Y2_ (he1 _ (hx1 _ (Zd h6).symm)) iL (.t (.d R))
   ·have h6:=Zo hc3 h5
    refine Zi (hK10 _ ?_)
    refine Zh (s':=⟨[(0,.r (.str s1)),(12,rI ((s1.length:Int))),(13,rI (x2))],[],(i3 0),27⟩) (by exact Zc ⟨jL,jL,jL,Za⟩ Za nL) ?_
    refine aR (Zj h6 fun x4 ex4 h7=>(sQ R (ZI R iL iL (fun _=>ex4)) (sM R R ?_)))
    refine Zt ?_
    exact ZO h7 (vec [(i3 0)]) ((by exact Zc ⟨jL,jL,jL,Za⟩ Za nL))
  ·have h4:=Zo hc2 h3
   refine ZJ ?_
   exact wK5 _ _ ((by exact Zc Za Za nL)) (J1 _ (vec [(i3 0)]) (hx1 _ (Zd h4).symm))
theorem YJL {l1:List YAG} {empty1:Bool} {r:Int} (h:YFK l1 empty1=some r):ARO Tryz.prog 119 [qa l1,rB (empty1)] (rI (r)):=by
 unfold YFK at h
 refine Zw Tryz.func119 R R Tryz.ntmps119 R (Ze R) fun n0=>?_
 refine aS fun _ hK1 _=>(aR (sA R R (aZ (hK1 _ ?_))))
 refine aS fun K2 hK2 wK2=>(aS fun _ hK3 _=>(aR (sM R R (sQ R (ZA R YDI.slice iL) (sM R R (aZ (hK3 _ ?_)))))))
 refine Zp ?_
 refine jc1k h fun o1 hit1 hk1 he1=>?_
 have J1 : ∀ (u2:Unit) (i5:Nat→Nat),o1 = .nrm u2→K2 ⟨[],[],(i5 0),48⟩:=by
  intro u2 i5 e
  have h1:=hk1 _ e
  refine hK2 _ ?_
  refine aS fun _ hK4 _=>(aR (sA R R (aZ (hK4 _ ?_))))
  refine Zk ?_
  exact Y1_ h1 iL (.t (.d R))
 refine ZS (fun (x2:Int) i3=>⟨[(0,qa l1),(1,rB (empty1)),(7,qa l1),(8,rI ((l1.length:Int))),(9,rI (x2))],[],(i3 0),48⟩) (vec [n0]) hit1 ((by exact Zc ⟨jL,jL,jL,jL,jL,Za⟩ Za nL)) ?_
 intro x2 i3 v1 hv1 hx1
 have h2:YDQ l1 empty1 x2=some v1:=hv1; unfold YDQ at h2
 refine aS fun _ hK5 _=>(aR (sQ R (Zx R iL iL) (aZ (hK5 _ ?_))))
 refine aS fun _ hK6 _=>?_
 refine aC R (fun hc1=>?_) (fun hc1=>?_)
 ·have h3:=Zn hc1 h2
  refine Zi (hK6 _ ?_)
  refine aS fun _ hK7 _=>(Zp (aS fun _ hK8 _=>(aR (sM R R (Zj h3 fun x4 ex4 h4=>(sQ R (Zz R YDI.slice iL iL (fun _=>R) (fun _=>ex4)) (sQ R (ZM (cs:=(k25_ x4)) R YQ6 iL R R) (Zg R R R (ZX (cs:=[.r (.str []),.r (.str [])]) 6 R t0_58 R R) (sA R R (ZD R R (ZB (ds:=(k25_ x4)) R tz_58 iL R iL R R R R) (aZ (hK8 _ ?_))))))))))))
  refine Zp (aS fun _ hK9 _=>(aR (sQ R (fB R YGM iL fR R) (sQ R (Zb (a:=.r (.str x4.Name)) R ts_9 iL R R) (Zj h4 fun r1 er1 h5=>(Zg R R R (Zq (r:=rB (r1)) (caps:=[]) (bs:=[.r (.str x4.Name)]) R iL R ⟨⟨_,iL,.d R⟩,Za⟩ (fun _=>YKf (er1)) R) (sQ R (ZQ R iL) (sA R R (aZ (hK9 _ ?_))))))))))
  refine aC R (fun hc2=>?_) (fun hc2=>?_)
  ·have h6:=Zn hc2 h5
   refine aS fun _ hK10 _=>?_
   refine Zh (s':=⟨[],[],((i3 0)+1),48⟩) (by exact Zc Za Za nL) ?_
   refine aR (sA R R (aZ (hK10 _ ?_)))
   refine Zk ?_
   exact Y1_ (he1 _ (hx1 _ (Zd h6).symm)) iL (.t (.d R))
  ·have h6:=Zo hc2 h5
   refine aS fun _ hK11 _=>?_
   refine Zh (s':=⟨[(0,qa l1),(1,rB (empty1)),(5,rI (x2)),(6,.ptr 6 (i3 0) 0 0),(7,qa l1),(8,rI ((l1.length:Int))),(9,rI (x2))],[(6,some (.box (i3 0) 58 (k25_ x4)))],((i3 0)+1),48⟩) (by exact Zc ⟨jL,jL,jL,jL,jL,jL,jL,Za⟩ ⟨.inl R,Za⟩ nL) ?_
   refine aR (sQ R (fB R YIt iL fR R) (sQ R (Zb (a:=.r (.str x4.Value)) R ts_9 iL R R) (Zj h6 fun r2 er2 h7=>(Zg R R R (Zq (r:=rB (r2)) (caps:=[]) (bs:=[.r (.str x4.Value)]) R iL R ⟨⟨_,iL,.d R⟩,Za⟩ (fun _=>YGr (er2)) R) (sQ R (ZQ R iL) (sM R R (sV R R R (Zf R iL) (sV R R R (Zf R (iR R)) ?_))))))))
   refine sW (.two R R R) R (fB R YIt iL fR R) ?_
   refine sW (.two R R R) R (Zb (a:=.r (.str x4.Value)) R ts_9 (iR R) R R) ?_
   refine sW (.two R R R) R (YET R (iR R) iL) ?_
   refine sV R R R (Zr R (iR R) (iR R)) (sV R R R (ZQ R (iR R)) (sQ R (Zr R iL (iR R)) (sA R R (aZ (hK11 _ ?_)))))
   refine aC R (fun hc3=>?_) (fun hc3=>?_)
   ·have h8:=Zn hc3 h7
    refine aS fun _ hK12 _=>?_
    refine Zh (s':=⟨[],[],((i3 0)+1),48⟩) (by exact Zc Za Za nL) ?_
    refine aR (sA R R (aZ (hK12 _ ?_)))
    refine Zk ?_
    exact Y1_ (he1 _ (hx1 _ (Zd h8).symm)) iL (.t (.d R))
   ·have h8:=Zo hc3 h7
    refine aS fun _ hK13 _=>?_
    refine ZW hmix (by kernel_rfl) ?_
    refine Zm R R R (Zf R iL) (Zm R R R (ZV R iL iL) (Zm R R R (Zf R iL) ?_))
    refine Zl (.one R R R) R R (fB R YGM iL fR R) ?_
    refine Zl (.one R R R) R R (Zb (a:=.r (.str x4.Name)) R ts_9 (iR R) R R) ?_
    refine Zl (.one R R R) R R (Zf R iL) ?_
    refine Zl (.one R R R) R R (Zf R iL) ?_
    refine Zj h8 fun x5 ex5 h9=>?_
    refine Zl (.one R R R) R R (YBf R (iR R) iL (gdt ex5)) ?_
    refine Zj h9 fun x6 ex6 h10=>?_
    refine Zl (.one R R R) R R (Zz R YDI.slice (iR R) (iR R) (fun _=>R) (gdt ex6)) ?_
    refine Zl (.one R R R) R R (Zy R YGM (iR R)) ?_
    refine Zl (.one R R R) R R (ZN (d:=.str x6.Name) R ts_9 (iR R) R) ?_
    refine Zl (.one R R R) R R (YSC R (iR R) (iR R)) ?_
    refine Zm R R R (Zr R iL (iR R)) (Zm R R R (YCj R iL) ?_)
    refine AQ.nil ?_
    refine hK13 _ ?_
    refine aC R (fun hc4=>?_) (fun hc4=>?_)
    ·have h11:=Zn hc4 h10
     refine aS fun _ hK14 _=>?_
     refine Zh (s':=⟨[],[],((i3 0)+1),48⟩) (by exact Zc Za Za nL) ?_
     refine aR (sA R R (aZ (hK14 _ ?_)))
     refine Zk ?_
     exact Y1_ (he1 _ (hx1 _ (Zd h11).symm)) iL (.t (.d R))
    ·have h11:=Zo hc4 h10
     refine Zi (hK7 _ ?_)
     refine Zh (s':=⟨[(0,qa l1),(1,rB (empty1)),(7,qa l1),(8,rI ((l1.length:Int))),(9,rI (x2))],[],((i3 0)+1),48⟩) (by exact Zc ⟨jL,jL,jL,jL,jL,Za⟩ Za nL) ?_
     refine aR (Zj h11 fun x7 ex7 h12=>(sQ R (ZI R iL iL (fun _=>ex7)) (sM R R ?_)))
     refine Zt ?_
     exact ZO h12 (vec [((i3 0)+1)]) ((by exact Zc ⟨jL,jL,jL,jL,jL,Za⟩ Za nL))
 ·have h3:=Zo hc1 h2
  refine ZJ ?_
  exact wK2 _ _ ((by exact Zc Za Za nL)) (J1 _ (vec [(i3 0)]) (hx1 _ (Zd h3).symm))
theorem YGs {l1:List YAG} {r:Int} (h:YEZ l1=some r):ARO Tryz.prog 85 [qa l1] (rI (r)):=by
 unfold YEZ at h
 refine Zw Tryz.func85 R R Tryz.ntmps85 R (Ze R) fun n0=>?_
 refine aS fun _ hK1 _=>(aR (sA R R (aZ (hK1 _ ?_))))
 refine aS fun _ hK2 _=>(aR (sM R R (Zj h fun r1 er1 h1=>(Zg R R R (Zq (r:=rI (r1)) (caps:=[]) (bs:=[qa l1,rB (false)]) R iL R ⟨⟨_,iL,.d R⟩,⟨_,iL,.d R⟩,Za⟩ (fun _=>YJL (er1)) R) (sA R R (aZ (hK2 _ ?_)))))))
 refine Zk ?_
 exact Y1_ h1 iL (.t (.d R))
theorem YHq {kind1:Int} {r:Bool} (h:YEG kind1=some r):ARO Tryz.prog 96 [rI (kind1)] (rB (r)):=by
 unfold YEG at h
 refine Zw Tryz.func96 R R Tryz.ntmps96 R (Ze R) fun n0=>?_
 refine aS fun _ hK1 _=>(aR (sA R R (aZ (hK1 _ ?_))))
 refine aS fun _ hK2 _=>(aR (sM R R (sQ R (Zs R iL iL) (sM R R (sV R R R (Zf R iL) (sV R R R (Zs R (iR R) iL) (sQ R (ZC R iL (iR R)) (sM R R (sV R R R (Zf R iL) (sV R R R (Zs R (iR R) iL) (sQ R (ZC R iL (iR R)) (sM R R (sV R R R (Zf R iL) (sV R R R (Zs R (iR R) iL) (sQ R (ZC R iL (iR R)) (sA R R (aZ (hK2 _ ?_))))))))))))))))))
 refine Zk ?_
 exact Y2_ h iL (.t (.d R))
theorem YO7 {kind1:Int} {r:Bool} (h:YHI kind1=some r):ARO Tryz.prog 167 [rI (kind1)] (rB (r)):=by
 unfold YHI at h
 refine Zw Tryz.func167 R R Tryz.ntmps167 R (Ze R) fun n0=>?_
 refine aS fun _ hK1 _=>(aR (sA R R (aZ (hK1 _ ?_))))
 refine aS fun _ hK2 _=>(aR (sM R R (sQ R (Zs R iL iL) (sM R R (sV R R R (Zf R iL) (sV R R R (Zs R (iR R) iL) (sQ R (ZC R iL (iR R)) (sA R R (aZ (hK2 _ ?_))))))))))
 refine Zk ?_
 exact Y2_ h iL (.t (.d R))
theorem YO9 {kind1:Int} {r:Bool} (h:YHK kind1=some r):ARO Tryz.prog 135 [rI (kind1)] (rB (r)):=by
 unfold YHK at h
 refine Zw Tryz.func135 R R Tryz.ntmps135 R (Ze R) fun n0=>?_
 refine aS fun _ hK1 _=>(aR (sA R R (aZ (hK1 _ ?_))))
 refine aS fun _ hK2 _=>(aR (sM R R (sQ R (Zs R iL iL) (sM R R (sV R R R (Zf R iL) (sV R R R (Zs R (iR R) iL) (sQ R (ZC R iL (iR R)) (sA R R (aZ (hK2 _ ?_))))))))))
 refine Zk ?_
 exact Y2_ h iL (.t (.d R))
theorem YEM {s11:List YAX} {s21:List YAX} {r:Bool} (h:YAs s11 s21=some r):ARO Tryz.prog 192 [qc s11,qc s21] (rB (r)):=by
 unfold YAs at h
 refine Zw Tryz.func192 R R Tryz.ntmps192 R (Ze R) fun n0=>?_
 refine aS fun _ hK1 _=>(aR (sA R R (aZ (hK1 _ ?_))))
 refine aS fun _ hK2 _=>(aS fun _ hK3 _=>(aR (sM R R (sQ R (ZA R YFN.slice iL) (sM R R (sQ R (ZA R YFN.slice iL) (sQ R (ZH R iL iL) (aZ (hK3 _ ?_)))))))))
 refine aC R (fun hc1=>?_) (fun hc1=>?_)
 ·have h1:=Zn hc1 h
  refine aS fun _ hK4 _=>(aR (sA R R (aZ (hK4 _ ?_))))
  refine Zk ?_
  exact Y2_ h1 iL (.t (.d R))
 ·have h1:=Zo hc1 h
  refine Zi (hK2 _ ?_)
  refine aS fun K5 hK5 wK5=>(aS fun _ hK6 _=>(aR (sM R R (sQ R (ZA R YFN.slice iL) (sM R R (aZ (hK6 _ ?_)))))))
  refine Zp ?_
  refine jc1k h1 fun o1 hit1 hk1 he1=>?_
  have J1 : ∀ (u2:Unit) (i5:Nat→Nat),o1 = .nrm u2→K5 ⟨[],[],(i5 0),26⟩:=by
   intro u2 i5 e
   have h2:=hk1 _ e
   refine hK5 _ ?_
   refine aS fun _ hK7 _=>(aR (sA R R (aZ (hK7 _ ?_))))
   refine Zk ?_
   exact Y2_ h2 iL (.t (.d R))
  refine ZS (fun (x2:Int) i3=>⟨[(0,qc s11),(1,qc s21),(12,rI ((s11.length:Int))),(13,rI (x2))],[],(i3 0),26⟩) (vec [n0]) hit1 ((by exact Zc ⟨jL,jL,jL,jL,Za⟩ Za nL)) ?_
  intro x2 i3 v1 hv1 hx1
  have h3:YAl s11 s21 x2=some v1:=hv1; unfold YAl at h3
  refine aS fun _ hK8 _=>(aR (sQ R (Zx R iL iL) (aZ (hK8 _ ?_))))
  refine aS fun _ hK9 _=>?_
  refine aC R (fun hc2=>?_) (fun hc2=>?_)
  ·have h4:=Zn hc2 h3
   refine Zi (hK9 _ ?_)
   refine aS fun _ hK10 _=>(Zp (aS fun _ hK11 _=>(aR (sM R R (sA R R (aZ (hK11 _ ?_)))))))
   refine aS fun _ hK12 _=>?_
   refine ZW hmix (by kernel_rfl) ?_
   refine Zm R R R (Zf R iL) (Zm R R R (Zf R iL) (Zj h4 fun x4 ex4 h5=>(Zm R R R (Zz R YFN.slice iL iL (fun _=>R) (fun _=>ex4)) (Zm R R R (ZM (cs:=(k22_ x4)) R YFO iL R R) (Zm R R R (Zf R iL) (Zm R R R (Zf R iL) (Zj h5 fun x5 ex5 h6=>(Zm R R R (Zz R YFN.slice iL iL (fun _=>R) (fun _=>ex5)) (Zm R R R (ZM (cs:=(k22_ x5)) R YFO iL R R) (Zm R R R (YFQ R YU9 iL iL R) ?_))))))))))
   refine AQ.nil ?_
   refine hK12 _ ?_
   refine aC R (fun hc3=>?_) (fun hc3=>?_)
   ·have h7:=Zn hc3 h6
    refine aS fun _ hK13 _=>?_
    refine Zh (s':=⟨[],[],(i3 0),26⟩) (by exact Zc Za Za nL) ?_
    refine aR (sA R R (aZ (hK13 _ ?_)))
    refine Zk ?_
    exact Y2_ (he1 _ (hx1 _ (Zd h7).symm)) iL (.t (.d R))
   ·have h7:=Zo hc3 h6
    refine Zi (hK10 _ ?_)
    refine Zh (s':=⟨[(0,qc s11),(1,qc s21),(12,rI ((s11.length:Int))),(13,rI (x2))],[],(i3 0),26⟩) (by exact Zc ⟨jL,jL,jL,jL,Za⟩ Za nL) ?_
    refine aR (Zj h7 fun x6 ex6 h8=>(sQ R (ZI R iL iL (fun _=>ex6)) (sM R R ?_)))
    refine Zt ?_
    exact ZO h8 (vec [(i3 0)]) ((by exact Zc ⟨jL,jL,jL,jL,Za⟩ Za nL))
  ·have h4:=Zo hc2 h3
   refine ZJ ?_
   exact wK5 _ _ ((by exact Zc Za Za nL)) (J1 _ (vec [(i3 0)]) (hx1 _ (Zd h4).symm))
theorem YHu {a1:List YAG} {b1:List YAG} {r:Bool} (h:YDE a1 b1=some r):ARO Tryz.prog 185 [qa a1,qa b1] (rB (r)):=by
 unfold YDE at h
 refine Zw Tryz.func185 R R Tryz.ntmps185 R (Ze R) fun n0=>?_
 refine aS fun _ hK1 _=>(aR (sA R R (aZ (hK1 _ ?_))))
 refine aS fun _ hK2 _=>(aS fun _ hK3 _=>(aR (sM R R (sQ R (ZA R YDI.slice iL) (sM R R (sQ R (ZA R YDI.slice iL) (sQ R (ZH R iL iL) (aZ (hK3 _ ?_)))))))))
 refine aC R (fun hc1=>?_) (fun hc1=>?_)
 ·have h1:=Zn hc1 h
  refine aS fun _ hK4 _=>(aR (sA R R (aZ (hK4 _ ?_))))
  refine Zk ?_
  exact Y2_ h1 iL (.t (.d R))
 ·have h1:=Zo hc1 h
  refine Zi (hK2 _ ?_)
  refine aS fun K5 hK5 wK5=>(aS fun _ hK6 _=>(aR (sM R R (sQ R (ZA R YDI.slice iL) (sM R R (aZ (hK6 _ ?_)))))))
  refine Zp ?_
  refine jc1k h1 fun o1 hit1 hk1 he1=>?_
  have J1 : ∀ (u2:Unit) (i5:Nat→Nat),o1 = .nrm u2→K5 ⟨[],[],(i5 0),26⟩:=by
   intro u2 i5 e
   have h2:=hk1 _ e
   refine hK5 _ ?_
   refine aS fun _ hK7 _=>(aR (sA R R (aZ (hK7 _ ?_))))
   refine Zk ?_
   exact Y2_ h2 iL (.t (.d R))
  refine ZS (fun (x2:Int) i3=>⟨[(0,qa a1),(1,qa b1),(12,rI ((a1.length:Int))),(13,rI (x2))],[],(i3 0),26⟩) (vec [n0]) hit1 ((by exact Zc ⟨jL,jL,jL,jL,Za⟩ Za nL)) ?_
  intro x2 i3 v1 hv1 hx1
  have h3:YEu a1 b1 x2=some v1:=hv1; unfold YEu at h3
  refine aS fun _ hK8 _=>(aR (sQ R (Zx R iL iL) (aZ (hK8 _ ?_))))
  refine aS fun _ hK9 _=>?_
  refine aC R (fun hc2=>?_) (fun hc2=>?_)
  ·have h4:=Zn hc2 h3
   refine Zi (hK9 _ ?_)
   refine aS fun _ hK10 _=>(Zp (aS fun _ hK11 _=>(aR (sM R R (sA R R (aZ (hK11 _ ?_)))))))
   refine aS fun _ hK12 _=>?_
   refine ZW hmix (by kernel_rfl) ?_
   refine Zm R R R (Zf R iL) (Zm R R R (Zf R iL) (Zj h4 fun x4 ex4 h5=>(Zm R R R (Zz R YDI.slice iL iL (fun _=>R) (fun _=>ex4)) (Zm R R R (ZM (cs:=(k25_ x4)) R YQ6 iL R R) (Zm R R R (Zf R iL) (Zm R R R (Zf R iL) (Zj h5 fun x5 ex5 h6=>(Zm R R R (Zz R YDI.slice iL iL (fun _=>R) (fun _=>ex5)) (Zm R R R (ZM (cs:=(k25_ x5)) R YQ6 iL R R) (Zm R R R (YFQ R te_58 iL iL R) ?_))))))))))
   refine AQ.nil ?_
   refine hK12 _ ?_
   refine aC R (fun hc3=>?_) (fun hc3=>?_)
   ·have h7:=Zn hc3 h6
    refine aS fun _ hK13 _=>?_
    refine Zh (s':=⟨[],[],(i3 0),26⟩) (by exact Zc Za Za nL) ?_
    refine aR (sA R R (aZ (hK13 _ ?_)))
    refine Zk ?_
    exact Y2_ (he1 _ (hx1 _ (Zd h7).symm)) iL (.t (.d R))
   ·have h7:=Zo hc3 h6
    refine Zi (hK10 _ ?_)
    refine Zh (s':=⟨[(0,qa a1),(1,qa b1),(12,rI ((a1.length:Int))),(13,rI (x2))],[],(i3 0),26⟩) (by exact Zc ⟨jL,jL,jL,jL,Za⟩ Za nL) ?_
    refine aR (Zj h7 fun x6 ex6 h8=>(sQ R (ZI R iL iL (fun _=>ex6)) (sM R R ?_)))
    refine Zt ?_
    exact ZO h8 (vec [(i3 0)]) ((by exact Zc ⟨jL,jL,jL,jL,Za⟩ Za nL))
  ·have h4:=Zo hc2 h3
   refine ZJ ?_
   exact wK5 _ _ ((by exact Zc Za Za nL)) (J1 _ (vec [(i3 0)]) (hx1 _ (Zd h4).symm))
theorem YKY {a1:YAY} {b1:YAY} {r:Bool} (h:YEE a1 b1=some r):ARO Tryz.prog 194 [.agg (k13_ a1),.agg (k13_ b1)] (rB (r)):=by
 unfold YEE at h
 refine Zw Tryz.func194 R R Tryz.ntmps194 R (Ze R) fun n0=>?_
 refine aS fun _ hK1 _=>(aR (Zg R R R (ZR (cs:=(k13_ a1)) 2 R iL R R) (Zg R R R (ZR (cs:=(k13_ b1)) 3 R iL R R) (sA R R (aZ (hK1 _ ?_))))))
 refine aS fun _ hK2 _=>(aR (sQ R (fB R YDJ iL fR R) (sQ R (Zb (a:=rI (a1.Row)) R ts_3 iL R R) (sQ R (fB R YDJ iL fR R) (sQ R (Zb (a:=rI (b1.Row)) R ts_3 iL R R) (sQ R (Zs R iL iL) (sM R R (sV R R R (fB R YDz iL fR R) (sV R R R (Zb (a:=rI (a1.Col)) R ts_3 (iR R) R R) (sV R R R (fB R YDz iL fR R) (sV R R R (Zb (a:=rI (b1.Col)) R ts_3 (iR R) R R) (sV R R R (Zs R (iR R) (iR R)) (sQ R (Zr R iL (iR R)) (sM R R (sV R R R (fB R YEb iL fR R) (sV R R R (Zb (a:=.r (.str a1.Text)) R ts_9 (iR R) R R) (sV R R R (fB R YEb iL fR R) (sV R R R (Zb (a:=.r (.str b1.Text)) R ts_9 (iR R) R R) (sV R R R (YET R (iR R) (iR R)) (sQ R (Zr R iL (iR R)) (sM R R (sV R R R (fB R YCY iL fR R) (sV R R R (Zb (a:=rI (a1.Ref)) R ts_3 (iR R) R R) (sV R R R (fB R YCY iL fR R) (sV R R R (Zb (a:=rI (b1.Ref)) R ts_3 (iR R) R R) (sV R R R (Zs R (iR R) (iR R)) (sQ R (Zr R iL (iR R)) (sM R R (sV R R R (fB R YEa iL fR R) ?_)))))))))))))))))))))))))))))
 refine sV R R R (Zb (a:=qa a1.Attrs) R YCi (iR R) R R) (sV R R R (fB R YEa iL fR R) (sV R R R (Zb (a:=qa b1.Attrs) R YCi (iR R) R R) (Zj h fun r1 er1 h1=>?_)))
 refine ZE (.one R R R) R R (Zq (r:=rB (r1)) (caps:=[]) (bs:=[qa a1.Attrs,qa b1.Attrs]) R iL R ⟨⟨_,(iR R),.d R⟩,⟨_,(iR R),.d R⟩,Za⟩ (fun hg=>YHu (gdt er1 hg)) R) ?_
 refine sQ R (Zr R iL (iR R)) (sA R R (aZ (hK2 _ ?_)))
 refine Zk ?_
 exact Y2_ h1 iL (.t (.d R))
theorem YBG {s11:List YAY} {s21:List YAY} {r:Bool} (h:YAK s11 s21=some r):ARO Tryz.prog 193 [qd s11,qd s21,.fn 194 []] (rB (r)):=by
 unfold YAK at h
 refine Zw Tryz.func193 R R Tryz.ntmps193 R (Ze R) fun n0=>?_
 refine aS fun _ hK1 _=>(aR (sA R R (aZ (hK1 _ ?_))))
 refine aS fun _ hK2 _=>(aS fun _ hK3 _=>(aR (sM R R (sQ R (ZA R YDu.slice iL) (sM R R (sQ R (ZA R YDu.slice iL) (sQ R (ZH R iL iL) (aZ (hK3 _ ?_)))))))))
 refine aC R (fun hc1=>?_) (fun hc1=>?_)
 ·have h1:=Zn hc1 h
  refine aS fun _ hK4 _=>?_
  refine Zh (s':=⟨[],[],n0,32⟩) (by exact Zc Za Za nL) ?_
  refine aR (sA R R (aZ (hK4 _ ?_)))
  refine Zk ?_
  exact Y2_ h1 iL (.t (.d R))
 ·have h1:=Zo hc1 h
  refine Zi (hK2 _ ?_)
  refine aS fun K5 hK5 wK5=>(aS fun _ hK6 _=>(aR (sM R R (sQ R (ZA R YDu.slice iL) (sM R R (aZ (hK6 _ ?_)))))))
  refine Zp ?_
  refine jc1k h1 fun o1 hit1 hk1 he1=>?_
  have J1 : ∀ (u2:Unit) (i5:Nat→Nat),o1 = .nrm u2→K5 ⟨[],[],(i5 0),32⟩:=by
   intro u2 i5 e
   have h2:=hk1 _ e
   refine hK5 _ ?_
   refine aS fun _ hK7 _=>(aR (sA R R (aZ (hK7 _ ?_))))
   refine Zk ?_
   exact Y2_ h2 iL (.t (.d R))
  refine ZS (fun (x2:Int) i3=>⟨[(1,qd s21),(2,.fn 194 []),(15,qd s11),(16,rI ((s11.length:Int))),(17,rI (x2))],[],(i3 0),32⟩) (vec [n0]) hit1 ((by exact Zc ⟨jL,jL,jL,jL,jL,Za⟩ Za nL)) ?_
  intro x2 i3 v1 hv1 hx1
  have h3:YAJ s11 s21 x2=some v1:=hv1; unfold YAJ at h3
  refine aS fun _ hK8 _=>(aR (sQ R (Zx R iL iL) (aZ (hK8 _ ?_))))
  refine aS fun _ hK9 _=>?_
  refine aC R (fun hc2=>?_) (fun hc2=>?_)
  ·have h4:=Zn hc2 h3
   refine Zi (hK9 _ ?_)
   refine aS fun _ hK10 _=>(Zp (aS fun _ hK11 _=>(aR (sM R R (Zj h4 fun x4 ex4 h5=>(sQ R (Zz R YDu.slice iL iL (fun _=>R) (fun _=>ex4)) (sQ R (ZM (cs:=(k13_ x4)) R YFk iL R R) (Zg R R R (ZX (cs:=z16_) 8 R YMD R R) (sA R R (ZD R R (ZB (ds:=(k13_ x4)) R YL7 iL R iL R R R R) (aZ (hK11 _ ?_))))))))))))
   refine aS fun _ hK12 _=>(aR (sM R R (sM R R (Zj h5 fun x5 ex5 h6=>(sQ R (Zz R YDu.slice iL iL (fun _=>R) (fun _=>ex5)) (sQ R (ZM (cs:=(k13_ x5)) R YFk iL R R) (Zg R R R (ZX (cs:=z16_) 9 R YMD R R) (ZD R R (ZB (ds:=(k13_ x5)) R YL7 iL R iL R R R R) (aZ (hK12 _ ?_))))))))))
   refine aS fun _ hK13 _=>?_
   refine Zh (s':=⟨[(1,qd s21),(2,.fn 194 []),(8,.ptr 8 (i3 0) 0 0),(9,.ptr 9 ((i3 0)+1) 0 0),(15,qd s11),(16,rI ((s11.length:Int))),(17,rI (x2))],[(8,some (.box (i3 0) 140 (k13_ x4))),(9,some (.box ((i3 0)+1) 140 (k13_ x5)))],((i3 0)+2),32⟩) (by exact Zc ⟨jL,jL,jL,jL,jL,jL,jL,Za⟩ ⟨.inl R,.inl R,Za⟩ nL) ?_
   refine aR (sM R R (sQ R (ZF R YFk iL R R) (sQ R (ZF R YFk iL R R) (Zj h6 fun r1 er1 h7=>(Zg R R R (Zq (r:=rB (r1)) (caps:=[]) (bs:=[.agg (k13_ x4),.agg (k13_ x5)]) R iL R ⟨⟨_,iL,.g (cs:=[.int .i64 x4.Row,.int .i64 x4.Col,.str x4.Text,.int .i64 x4.Ref,.sl (x4.Attrs.map YAG.row)]) R R⟩,⟨_,iL,.g (cs:=[.int .i64 x5.Row,.int .i64 x5.Col,.str x5.Text,.int .i64 x5.Ref,.sl (x5.Attrs.map YAG.row)]) R R⟩,Za⟩ (fun _=>YKY (er1)) R) (sQ R (ZQ R iL) (aZ (hK13 _ ?_))))))))
   refine aC R (fun hc3=>?_) (fun hc3=>?_)
   ·have h8:=Zn hc3 h7
    refine aS fun _ hK14 _=>?_
    refine Zh (s':=⟨[],[],((i3 0)+2),32⟩) (by exact Zc Za Za nL) ?_
    refine aR (sA R R (aZ (hK14 _ ?_)))
    refine Zk ?_
    exact Y2_ (he1 _ (hx1 _ (Zd h8).symm)) iL (.t (.d R))
   ·have h8:=Zo hc3 h7
    refine Zi (hK10 _ ?_)
    refine aR (Zj h8 fun x6 ex6 h9=>(sQ R (ZI R iL iL (fun _=>ex6)) (sM R R ?_)))
    refine Zt ?_
    exact ZO h9 (vec [((i3 0)+2)]) ((by exact Zc ⟨jL,jL,jL,jL,jL,Za⟩ Za nL))
  ·have h4:=Zo hc2 h3
   refine ZJ ?_
   exact wK5 _ _ ((by exact Zc Za Za nL)) (J1 _ (vec [(i3 0)]) (hx1 _ (Zd h4).symm))
theorem YO5 {a1:YAy} {b1:YAy} {r:Bool} (h:YGE a1 b1=some r):ARO Tryz.prog 168 [.agg (k20_ a1),.agg (k20_ b1)] (rB (r)):=by
 unfold YGE at h
 refine Zw Tryz.func168 R R Tryz.ntmps168 R (Ze R) fun n0=>?_
 refine aS fun _ hK1 _=>(aR (Zg R R R (ZR (cs:=(k20_ a1)) 2 R iL R R) (Zg R R R (ZR (cs:=(k20_ b1)) 3 R iL R R) (sA R R (aZ (hK1 _ ?_))))))
 refine aS fun _ hK2 _=>(aR (sQ R (fB R YEx iL fR R) (sQ R (Zb (a:=rI (a1.Rows)) R ts_3 iL R R) (sQ R (fB R YEx iL fR R) (sQ R (Zb (a:=rI (b1.Rows)) R ts_3 iL R R) (sQ R (Zs R iL iL) (sM R R (sV R R R (fB R YEw iL fR R) (sV R R R (Zb (a:=rI (a1.Cols)) R ts_3 (iR R) R R) (sV R R R (fB R YEw iL fR R) (sV R R R (Zb (a:=rI (b1.Cols)) R ts_3 (iR R) R R) (sV R R R (Zs R (iR R) (iR R)) (sQ R (Zr R iL (iR R)) (sM R R (sV R R R (fB R YDx iL fR R) (sV R R R (Zb (a:=qc a1.Merges) R YGj (iR R) R R) (sV R R R (fB R YDx iL fR R) (sV R R R (Zb (a:=qc b1.Merges) R YGj (iR R) R R) (Zj h fun r1 er1 h1=>?_)))))))))))))))))))
 refine ZE (.one R R R) R R (Zq (r:=rB (r1)) (caps:=[]) (bs:=[qc a1.Merges,qc b1.Merges]) R iL R ⟨⟨_,(iR R),.d R⟩,⟨_,(iR R),.d R⟩,Za⟩ (fun hg=>YEM (gdt er1 hg)) R) ?_
 refine sQ R (Zr R iL (iR R)) (sM R R (sV R R R (fB R YES iL fR R) (sV R R R (Zb (a:=qd a1.Cells) R YHv (iR R) R R) (sV R R R (fB R YES iL fR R) (sV R R R (Zb (a:=qd b1.Cells) R YHv (iR R) R R) (Zj h1 fun r2 er2 h2=>?_))))))
 refine ZE (.one R R R) R R (Zq (r:=rB (r2)) (caps:=[]) (bs:=[qd a1.Cells,qd b1.Cells,.fn 194 []]) R iL R ⟨⟨_,(iR R),.d R⟩,⟨_,(iR R),.d R⟩,⟨_,iL,.one (.closed (.fn 194 []) R)⟩,Za⟩ (fun hg=>YBG (gdt er2 hg)) R) ?_
 refine sQ R (Zr R iL (iR R)) (sA R R (aZ (hK2 _ ?_)))
 refine Zk ?_
 exact Y2_ h2 iL (.t (.d R))
theorem YHr {kind1:Int} {r:Bool} (h:YFa kind1=some r):ARO Tryz.prog 169 [rI (kind1)] (rB (r)):=by
 unfold YFa at h
 refine Zw Tryz.func169 R R Tryz.ntmps169 R (Ze R) fun n0=>?_
 refine aS fun _ hK1 _=>(aR (sA R R (aZ (hK1 _ ?_))))
 refine aS fun _ hK2 _=>(aR (sM R R (sQ R (Zs R iL iL) (sM R R (sV R R R (Zf R iL) (sV R R R (Zs R (iR R) iL) (sQ R (ZC R iL (iR R)) (sM R R (sV R R R (Zf R iL) (sV R R R (Zs R (iR R) iL) (sQ R (ZC R iL (iR R)) (sA R R (aZ (hK2 _ ?_))))))))))))))
 refine Zk ?_
 exact Y2_ h iL (.t (.d R))
theorem YKb {c1:Int} {r:Bool} (h:YGH c1=some r):ARO Tryz.prog 99 [rI (c1)] (rB (r)):=by
 unfold YGH at h
 refine Zw Tryz.func99 R R Tryz.ntmps99 R (Ze R) fun n0=>?_
 refine aS fun _ hK1 _=>(aR (sA R R (aZ (hK1 _ ?_))))
 refine aS fun _ hK2 _=>(aR (sM R R (sQ R (Zs R iL iL) (sM R R (sV R R R (Zf R iL) (sV R R R (Zs R (iR R) iL) (sQ R (ZC R iL (iR R)) (sM R R (sV R R R (Zf R iL) (sV R R R (YB5 R (iR R) iL) (sV R R R (Zf R (iR R)) ?_)))))))))))
 refine sW (.two R R R) R (Zf R iL) ?_
 refine sW (.two R R R) R (Zx R (iR R) iL) ?_
 refine sV R R R (Zr R (iR R) (iR R)) (sQ R (ZC R iL (iR R)) (sM R R (sV R R R (Zf R iL) (sV R R R (YB5 R (iR R) iL) (sV R R R (Zf R (iR R)) ?_)))))
 refine sW (.two R R R) R (Zf R iL) ?_
 refine sW (.two R R R) R (Zx R (iR R) iL) ?_
 refine sV R R R (Zr R (iR R) (iR R)) (sQ R (ZC R iL (iR R)) (sM R R (sV R R R (Zf R iL) (sV R R R (ZV R (iR R) iL) (sV R R R (Zf R (iR R)) ?_)))))
 refine sW (.two R R R) R (Zf R iL) ?_
 refine sW (.two R R R) R (YEP R (iR R) iL) ?_
 refine sV R R R (Zr R (iR R) (iR R)) (sQ R (ZC R iL (iR R)) (sA R R (aZ (hK2 _ ?_))))
 refine Zk ?_
 exact Y2_ h iL (.t (.d R))
theorem YKa {x1:YAC} {r:Int} (h:YGG x1=some r):ARO Tryz.prog 117 (k23_ x1) (rI (r)):=by
 unfold YGG at h
 refine Zw Tryz.func117 R R Tryz.ntmps117 R (Ze R) fun n0=>?_
 refine aS fun _ hK1 _=>(aR (Zg R R R (ZR (cs:=(k26_ x1)) 1 R iL R R) (sA R R (aZ (hK1 _ ?_)))))
 refine aS fun _ hK2 _=>(Zp (aS fun _ hK3 _=>(aR (sQ R (fB R YDT iL fR R) (sQ R (Zb (a:=rI (x1.Char)) R ts_3 iL R R) (sQ R (ZH R iL iL) (sQ R (fB R YCW iL fR R) (sQ R (Zb (a:=rI (x1.Ref)) R ts_3 iL R R) (sQ R (ZH R iL iL) (sQ R (YSG R Tryz.underlying4 iL iL) (sA R R (aZ (hK3 _ ?_)))))))))))))
 refine aC R (fun hc1=>?_) (fun hc1=>?_)
 ·have h1:=Zn hc1 h
  refine aS fun _ hK4 _=>?_
  refine Zh (s':=⟨[],[],(n0+1),37⟩) (by exact Zc Za Za nL) ?_
  refine aR (sA R R (aZ (hK4 _ ?_)))
  refine Zk ?_
  exact Y1_ h1 iL (.t (.d R))
 ·have h1:=Zo hc1 h
  refine aS fun K5 hK5 wK5=>(aS fun _ hK6 _=>?_)
  refine Zh (s':=⟨[(1,.ptr 1 n0 0 0)],[(1,some (.box n0 51 (k26_ x1)))],(n0+1),37⟩) (by exact Zc ⟨jL,Za⟩ ⟨.inl R,Za⟩ nL) ?_
  refine aR (sQ R (fB R YCW iL fR R) (sQ R (Zb (a:=rI (x1.Ref)) R ts_3 iL R R) (sQ R (Zs R iL iL) (sM R R (sV R R R (fB R YDT iL fR R) (sV R R R (Zb (a:=rI (x1.Char)) R ts_3 (iR R) R R) (Zj h1 fun r1 er1 h2=>?_)))))))
  refine ZE (.one R R R) R R (Zq (r:=rB (r1)) (caps:=[]) (bs:=[rI (x1.Char)]) R iL R ⟨⟨_,(iR R),.d R⟩,Za⟩ (fun hg=>YKb (gdt er1 hg)) R) ?_
  refine sV R R R (ZQ R (iR R)) (sQ R (Zr R iL (iR R)) (sA R R (aZ (hK6 _ ?_))))
  refine jb1k h2 fun p1 hp1 hk1=>?_
  have J1 : ∀ (x2:Bool) (i1:Nat→Nat),p1=x2→K5 ⟨[(1,.ptr 1 n0 0 0),(11,rB (x2))],[(1,some (.box n0 51 (k26_ x1)))],(i1 0),37⟩:=by
   intro x2 i1 e
   have h3:=hk1 _ e
   refine hK5 _ ?_
   refine aC R (fun hc2=>?_) (fun hc2=>?_)
   ·have h4:=Zn hc2 h3
    refine aS fun _ hK7 _=>(aR (sA R R (aZ (hK7 _ ?_))))
    refine Zk ?_
    exact Y1_ h4 iL (.t (.d R))
   ·have h4:=Zo hc2 h3
    refine Zi (hK2 _ ?_)
    refine aS fun _ hK8 _=>(aR (sQ R (fB R YGN iL fR R) (sQ R (Zb (a:=qa x1.Attrs) R YCi iL R R) (Zj h4 fun r2 er2 h5=>(Zg R R R (Zq (r:=rI (r2)) (caps:=[]) (bs:=[qa x1.Attrs]) R iL R ⟨⟨_,iL,.d R⟩,Za⟩ (fun _=>YGs (er2)) R) (sA R R (aZ (hK8 _ ?_))))))))
    refine Zk ?_
    exact Y1_ h5 iL (.t (.d R))
  refine aC R (fun hc3=>?_) (fun hc3=>?_)
  ·have h6:=Zn hc3 hp1
   refine Zi ?_
   exact wK5 _ _ ((by exact Zc ⟨jL,jL,Za⟩ ⟨.inl R,Za⟩ nL)) (J1 _ (vec [(n0+1)]) (Zd h6).symm)
  ·have h6:=Zo hc3 hp1
   refine Zh (s':=⟨[(1,.ptr 1 n0 0 0)],[(1,some (.box n0 51 (k26_ x1)))],(n0+1),37⟩) (by exact Zc ⟨jL,Za⟩ ⟨.inl R,Za⟩ nL) ?_
   refine aR (sQ R (fB R YCW iL fR R) (sQ R (Zb (a:=rI (x1.Ref)) R ts_3 iL R R) (sQ R (ZH R iL iL) (sM R R (sV R R R (fB R YCW iL fR R) (sV R R R (Zb (a:=rI (x1.Ref)) R ts_3 (iR R) R R) (sV R R R (Zx R (iR R) iL) (sV R R R (Zf R (iR R)) ?_))))))))
   refine sW (.two R R R) R (fB R YCW iL fR R) ?_
   refine sW (.two R R R) R (Zb (a:=rI (x1.Ref)) R ts_3 (iR R) R R) ?_
   refine sW (.two R R R) R (ZV R (iR R) iL) ?_
   refine sV R R R (ZC R (iR R) (iR R)) (sQ R (Zr R iL (iR R)) (sA R R ?_))
   refine Zt ?_
   exact wK5 _ _ ((by exact Zc ⟨jL,jL,Za⟩ ⟨.inl R,Za⟩ nL)) (J1 _ (vec [(n0+1)]) (Zd h6).symm)
theorem YNm {f1:List YAC} {text1:Bool} {r:Int} (h:YDp f1 text1=some r):ARO Tryz.prog 170 [qb f1,rB (text1)] (rI (r)):=by
 unfold YDp at h
 refine Zw Tryz.func170 R R Tryz.ntmps170 R (Ze R) fun n0=>?_
 refine aS fun _ hK1 _=>(aR (sA R R (aZ (hK1 _ ?_))))
 refine aS fun K2 hK2 wK2=>(aS fun _ hK3 _=>(aR (sM R R (sQ R (ZA R YBN.slice iL) (sM R R (aZ (hK3 _ ?_)))))))
 refine Zp ?_
 refine jc1k h fun o1 hit1 hk1 he1=>?_
 have J1 : ∀ (u2:Unit) (i5:Nat→Nat),o1 = .nrm u2→K2 ⟨[(0,qb f1),(1,rB (text1))],[],(i5 0),43⟩:=by
  intro u2 i5 e
  have h1:=hk1 _ e
  refine hK2 _ ?_
  refine aS fun _ hK4 _=>(aS fun _ hK5 _=>(aR (sM R R (sM R R (sV R R R (Zf R iL) (sV R R R (ZA R YBN.slice (iR R)) (sV R R R (Zs R (iR R) iL) (sV R R R (Zf R (iR R)) ?_))))))))
  refine sW (.two R R R) R (Zf R iL) ?_
  refine sW (.two R R R) R (Zf R iL) ?_
  refine sW (.two R R R) R (ZA R YBN.slice (iR R)) ?_
  refine Zj h1 fun x4 ex4 h2=>?_
  refine sW (.two R R R) R (YBf R (iR R) iL (gdt ex4)) ?_
  refine Zj h2 fun x5 ex5 h3=>?_
  refine sW (.two R R R) R (Zz R YBN.slice (iR R) (iR R) (fun _=>R) (gdt ex5)) ?_
  refine sW (.two R R R) R (Zy R YDT (iR R)) ?_
  refine sW (.two R R R) R (ZN (d:=.int .i64 x5.Char) R ts_3 (iR R) R) ?_
  refine sW (.two R R R) R (ZH R (iR R) iL) ?_
  refine sV R R R (ZC R (iR R) (iR R)) (sQ R (Zr R iL (iR R)) (aZ (hK5 _ ?_)))
  refine aC R (fun hc1=>?_) (fun hc1=>?_)
  ·have h4:=Zn hc1 h3
   refine aS fun _ hK6 _=>?_
   refine Zh (s':=⟨[],[],(i5 0),43⟩) (by exact Zc Za Za nL) ?_
   refine aR (sA R R (aZ (hK6 _ ?_)))
   refine Zk ?_
   exact Y1_ h4 iL (.t (.d R))
  ·have h4:=Zo hc1 h3
   refine Zi (hK4 _ ?_)
   refine aS fun _ hK7 _=>?_
   refine Zh (s':=⟨[],[],(i5 0),43⟩) (by exact Zc Za Za nL) ?_
   refine aR (sA R R (aZ (hK7 _ ?_)))
   refine Zk ?_
   exact Y1_ h4 iL (.t (.d R))
 refine ZS (fun (x2:Int) i3=>⟨[(0,qb f1),(1,rB (text1)),(8,qb f1),(9,rI ((f1.length:Int))),(10,rI (x2))],[],(i3 0),43⟩) (vec [n0]) hit1 ((by exact Zc ⟨jL,jL,jL,jL,jL,Za⟩ Za nL)) ?_
 intro x2 i3 v1 hv1 hx1
 have h5:YCg f1 text1 x2=some v1:=hv1; unfold YCg at h5
 refine aS fun _ hK8 _=>(aR (sQ R (Zx R iL iL) (aZ (hK8 _ ?_))))
 refine aS fun _ hK9 _=>?_
 refine aC R (fun hc2=>?_) (fun hc2=>?_)
 ·have h6:=Zn hc2 h5
  refine Zi (hK9 _ ?_)
  refine aS fun _ hK10 _=>(Zp (aS fun _ hK11 _=>(aR (Zj h6 fun x6 ex6 h7=>(sQ R (Zz R YBN.slice iL iL (fun _=>R) (fun _=>ex6)) (sQ R (ZM (cs:=(k26_ x6)) R YHx iL R R) (Zg R R R (ZX (cs:=z24_) 6 R YPH R R) (ZD R R (ZB (ds:=(k26_ x6)) R YMq iL R iL R R R R) (aZ (hK11 _ ?_))))))))))
  refine aS fun _ hK12 _=>(aS fun _ hK13 _=>(aR (sQ R (ZF R YHx iL R R) (Zj h7 fun e1 ee1 h8=>(Zg R R R (Zq (r:=rI (e1)) (caps:=[]) (bs:=(k23_ x6)) R iL R ⟨⟨_,iL,.g (cs:=[.int .i64 x6.Char,.int .i64 x6.Ref,.sl (x6.Attrs.map YAG.row)]) R R⟩,Za⟩ (fun _=>YKa (ee1)) R) (sA R R (aZ (hK13 _ ?_))))))))
  refine aS fun _ hK14 _=>(aR (sM R R (sQ R (ZH R iL iL) (aZ (hK14 _ ?_)))))
  refine aC R (fun hc3=>?_) (fun hc3=>?_)
  ·have h9:=Zn hc3 h8
   refine aS fun _ hK15 _=>?_
   refine Zh (s':=⟨[(7,rI (e1))],[],((i3 0)+1),43⟩) (by exact Zc ⟨jL,Za⟩ Za nL) ?_
   refine aR (sM R R (sA R R (aZ (hK15 _ ?_))))
   refine Zk ?_
   exact Y1_ (he1 _ (hx1 _ (Zd h9).symm)) iL (.t (.d R))
  ·have h9:=Zo hc3 h8
   refine Zi (hK12 _ ?_)
   refine aS fun _ hK16 _=>(aR (sM R R (sQ R (ZQ R iL) (sM R R (sV R R R (fB R YCW iL fR R) (sV R R R (Zb (a:=rI (x6.Ref)) R ts_3 (iR R) R R) (sV R R R (Zs R (iR R) iL) (sQ R (Zr R iL (iR R)) (aZ (hK16 _ ?_))))))))))
   refine aC R (fun hc4=>?_) (fun hc4=>?_)
   ·have h10:=Zn hc4 h9
    refine aS fun _ hK17 _=>?_
    refine Zh (s':=⟨[],[],((i3 0)+1),43⟩) (by exact Zc Za Za nL) ?_
    refine aR (sA R R (aZ (hK17 _ ?_)))
    refine Zk ?_
    exact Y1_ (he1 _ (hx1 _ (Zd h10).symm)) iL (.t (.d R))
   ·have h10:=Zo hc4 h9
    refine Zi (hK10 _ ?_)
    refine Zh (s':=⟨[(0,qb f1),(1,rB (text1)),(8,qb f1),(9,rI ((f1.length:Int))),(10,rI (x2))],[],((i3 0)+1),43⟩) (by exact Zc ⟨jL,jL,jL,jL,jL,Za⟩ Za nL) ?_
    refine aR (Zj h10 fun x7 ex7 h11=>(sQ R (ZI R iL iL (fun _=>ex7)) (sM R R ?_)))
    refine Zt ?_
    exact ZO h11 (vec [((i3 0)+1)]) ((by exact Zc ⟨jL,jL,jL,jL,jL,Za⟩ Za nL))
 ·have h6:=Zo hc2 h5
  refine ZJ ?_
  exact wK2 _ _ ((by exact Zc ⟨jL,jL,Za⟩ Za nL)) (J1 _ (vec [(i3 0)]) (hx1 _ (Zd h6).symm))
theorem YDR {s1:List UInt8} {r:Int × Int} (h:YAg s1=some r):ARO Tryz.prog 109 [.r (.str s1)] (.tup [.r (.int .i32 r.1),rI (r.2)]):=by
 unfold YAg at h
 refine Zw Tryz.func109 R R Tryz.ntmps109 R (Ze R) fun n0=>?_
 refine aS fun _ hK1 _=>(aR (sA R R (sA R R (aZ (hK1 _ ?_)))))
 refine aS fun _ hK2 _=>(aR (sM R R (sQ R (YA1 R Tryz.underlying9 iL) (sA R R (aZ (hK2 _ ?_))))))
 refine aS fun _ hK3 _=>(aS fun _ hK4 _=>(aR (sM R R (sQ R (Zx R iL iL) (aZ (hK4 _ ?_))))))
 refine aC R (fun hc1=>?_) (fun hc1=>?_)
 ·have h1:=Zn hc1 h
  refine aS fun _ hK5 _=>(aR (sA R R (sA R R (aZ (hK5 _ ?_)))))
  refine Zk ?_
  exact YEO (P:=Tryz.prog) (fun (r:Int × Int)=>.r (.int .i32 r.1)) (fun (r:Int × Int)=>rI (r.2)) h1 iL (.t (.d R)) (.t (.d R))
 ·have h1:=Zo hc1 h
  refine Zi (hK3 _ ?_)
  refine aS fun _ hK6 _=>(aR (sM R R (Zj h1 fun s01 es01 h2=>(sQ R (ZZ R Tryz.underlying9 iL iL (fun _=>es01)) (sA R R (aZ (hK6 _ ?_)))))))
  refine aS fun _ hK7 _=>(aR (sM R R (Zj h2 fun x1 ex1 h3=>?_)))
  refine sQ R (YMQ (f:=(rInt .u8)) (l:=YDc) R tt_203 tab_g0 (by kernel_rfl) iL (fun _=>R) (by decide) (fun _=>ex1)) ?_
  refine sQ R (ZN (d:=.int .u8 x1) R ts_5 iL R) (sA R R (aZ (hK7 _ ?_)))
  refine aS fun _ hK8 _=>(aS fun _ hK9 _=>?_)
  refine Zh (s':=⟨[(0,.r (.str s1)),(4,rI ((s1.length:Int))),(5,.r (.int .u8 (s01.toNat:Int))),(6,.r (.int .u8 x1))],[],n0,117⟩) (by exact Zc ⟨jL,jL,jL,jL,Za⟩ Za nL) ?_
  refine aR (sM R R (sQ R (YB5 R iL iL) (aZ (hK9 _ ?_))))
  refine aC R (fun hc2=>?_) (fun hc2=>?_)
  ·have h4:=Zn hc2 h3
   refine aS fun _ hK10 _=>(aR (sM R R (sQ R (Z0 R Tryz.underlying5 Tryz.underlying21 iL) (sQ R (YJQ (b:=31) R iL iL) (sQ R (YQA (b:=31) R iL iL) (sA R R (aZ (hK10 _ ?_))))))))
   refine aS fun _ hK11 _=>?_
   refine Zh (s':=⟨[(0,.r (.str s1)),(7,.r (.int .i32 (shrC .i32 (shlC .i32 (IntKind.i32.wrap x1) 31) 31)))],[],n0,117⟩) (by exact Zc ⟨jL,jL,Za⟩ Za nL) ?_
   refine aR (sM R R (sQ R (ZZ R Tryz.underlying9 iL iL (fun _=>es01)) (sQ R (Z0 R Tryz.underlying5 Tryz.underlying21 iL) (sM R R (sQ R (YMH R iL iL) (sM R R (sQ R (YEy R iL iL) (sQ R (YJT R iL iL) (sA R R (sA R R (aZ (hK11 _ ?_))))))))))))
   refine Zk ?_
   exact YEO (P:=Tryz.prog) (fun (r:Int × Int)=>.r (.int .i32 r.1)) (fun (r:Int × Int)=>rI (r.2)) h4 iL (.t (.d R)) (.t (.d R))
  ·have h4:=Zo hc2 h3
   refine Zi (hK8 _ ?_)
   refine aS fun _ hK12 _=>(aR (sM R R (sQ R (YEy R iL iL) (sQ R (Z0 R Tryz.underlying5 Tryz.underlying3 iL) (sA R R (aZ (hK12 _ ?_)))))))
   refine aS fun _ hK13 _=>(aR (sM R R (sQ R (YQA (b:=4) R iL iL) (Zj h4 fun x2 ex2 h5=>?_))))
   refine sQ R (YMQ (f:=YBB.row) (l:=YIM) R tt_206 tab_g1 (by kernel_rfl) iL (fun _=>R) (by decide) (fun _=>ex2)) ?_
   refine sQ R (ZM (cs:=[.r (.int .u8 x2.lo),.r (.int .u8 x2.hi)]) R ta_205 iL R R) (Zg R R R (ZX (cs:=[.r (.int .u8 0),.r (.int .u8 0)]) 9 R t0_205 R R) (ZD R R (ZB (ds:=[.r (.int .u8 x2.lo),.r (.int .u8 x2.hi)]) R tz_205 iL R iL R R R R) (aZ (hK13 _ ?_))))
   refine aS fun _ hK14 _=>(aS fun _ hK15 _=>?_)
   refine Zh (s':=⟨[(0,.r (.str s1)),(4,rI ((s1.length:Int))),(5,.r (.int .u8 (s01.toNat:Int))),(8,rI ((IntKind.i64.wrap (bAnd .u8 x1 7)))),(9,.ptr 9 n0 0 0)],[(9,some (.box n0 205 [.r (.int .u8 x2.lo),.r (.int .u8 x2.hi)]))],(n0+1),117⟩) (by exact Zc ⟨jL,jL,jL,jL,jL,Za⟩ ⟨.inl R,Za⟩ nL) ?_
   refine aR (sM R R (sM R R (sQ R (Zx R iL iL) (aZ (hK15 _ ?_)))))
   refine aC R (fun hc3=>?_) (fun hc3=>?_)
   ·have h6:=Zn hc3 h5
    refine aS fun _ hK16 _=>(aR (sA R R (sA R R (aZ (hK16 _ ?_)))))
    refine Zk ?_
    exact YEO (P:=Tryz.prog) (fun (r:Int × Int)=>.r (.int .i32 r.1)) (fun (r:Int × Int)=>rI (r.2)) h6 iL (.t (.d R)) (.t (.d R))
   ·have h6:=Zo hc3 h5
    refine Zi (hK14 _ ?_)
    refine aS fun _ hK17 _=>(aR (sM R R (Zj h6 fun s11 es11 h7=>(sQ R (ZZ R Tryz.underlying9 iL iL (fun _=>es11)) (sA R R (aZ (hK17 _ ?_)))))))
    refine aS fun _ hK18 _=>(aS fun _ hK19 _=>(aR (sM R R (sQ R (fB R YTu iL fR R) (sQ R (Zb (a:=.r (.int .u8 x2.lo)) R ts_5 iL R R) (sQ R (Zx R iL iL) (sM R R (sV R R R (fB R YTt iL fR R) (sV R R R (Zb (a:=.r (.int .u8 x2.hi)) R ts_5 (iR R) R R) (sV R R R (Zf R iL) (sV R R R (Zx R (iR R) (iR R)) (sQ R (ZC R iL (iR R)) (aZ (hK19 _ ?_))))))))))))))
    refine aC R (fun hc4=>?_) (fun hc4=>?_)
    ·have h8:=Zn hc4 h7
     refine aS fun _ hK20 _=>?_
     refine Zh (s':=⟨[],[],(n0+1),117⟩) (by exact Zc Za Za nL) ?_
     refine aR (sA R R (sA R R (aZ (hK20 _ ?_))))
     refine Zk ?_
     exact YEO (P:=Tryz.prog) (fun (r:Int × Int)=>.r (.int .i32 r.1)) (fun (r:Int × Int)=>rI (r.2)) h8 iL (.t (.d R)) (.t (.d R))
    ·have h8:=Zo hc4 h7
     refine Zi (hK18 _ ?_)
     refine aS fun _ hK21 _=>(aS fun _ hK22 _=>?_)
     refine Zh (s':=⟨[(0,.r (.str s1)),(5,.r (.int .u8 (s01.toNat:Int))),(8,rI ((IntKind.i64.wrap (bAnd .u8 x1 7)))),(10,.r (.int .u8 (s11.toNat:Int)))],[],(n0+1),117⟩) (by exact Zc ⟨jL,jL,jL,jL,Za⟩ Za nL) ?_
     refine aR (sM R R (sQ R (YEP R iL iL) (aZ (hK22 _ ?_))))
     refine aC R (fun hc5=>?_) (fun hc5=>?_)
     ·have h9:=Zn hc5 h8
      refine aS fun _ hK23 _=>(aR (sM R R (sQ R (YEy R iL iL) (sQ R (Z0 R Tryz.underlying5 Tryz.underlying21 iL) (sQ R (YJQ (b:=6) R iL iL) (sM R R (sQ R (YEy R iL iL) (sQ R (Z0 R Tryz.underlying5 Tryz.underlying21 iL) (sQ R (YJT R iL iL) (sA R R (sA R R (aZ (hK23 _ ?_)))))))))))))
      refine Zk ?_
      exact YEO (P:=Tryz.prog) (fun (r:Int × Int)=>.r (.int .i32 r.1)) (fun (r:Int × Int)=>rI (r.2)) h9 iL (.t (.d R)) (.t (.d R))
     ·have h9:=Zo hc5 h8
      refine Zi (hK21 _ ?_)
      refine aS fun _ hK24 _=>(aR (sM R R (Zj h9 fun s21 es21 h10=>(sQ R (ZZ R Tryz.underlying9 iL iL (fun _=>es21)) (sA R R (aZ (hK24 _ ?_)))))))
      refine aS fun _ hK25 _=>(aS fun _ hK26 _=>(aR (sM R R (sQ R (Zx R iL iL) (sM R R (sV R R R (Zf R iL) (sV R R R (Zx R iL (iR R)) (sQ R (ZC R iL (iR R)) (aZ (hK26 _ ?_))))))))))
      refine aC R (fun hc6=>?_) (fun hc6=>?_)
      ·have h11:=Zn hc6 h10
       refine aS fun _ hK27 _=>?_
       refine Zh (s':=⟨[],[],(n0+1),117⟩) (by exact Zc Za Za nL) ?_
       refine aR (sA R R (sA R R (aZ (hK27 _ ?_))))
       refine Zk ?_
       exact YEO (P:=Tryz.prog) (fun (r:Int × Int)=>.r (.int .i32 r.1)) (fun (r:Int × Int)=>rI (r.2)) h11 iL (.t (.d R)) (.t (.d R))
      ·have h11:=Zo hc6 h10
       refine Zi (hK25 _ ?_)
       refine aS fun _ hK28 _=>(aS fun _ hK29 _=>?_)
       refine Zh (s':=⟨[(0,.r (.str s1)),(5,.r (.int .u8 (s01.toNat:Int))),(8,rI ((IntKind.i64.wrap (bAnd .u8 x1 7)))),(10,.r (.int .u8 (s11.toNat:Int))),(11,.r (.int .u8 (s21.toNat:Int)))],[],(n0+1),117⟩) (by exact Zc ⟨jL,jL,jL,jL,jL,Za⟩ Za nL) ?_
       refine aR (sM R R (sQ R (YEP R iL iL) (aZ (hK29 _ ?_))))
       refine aC R (fun hc7=>?_) (fun hc7=>?_)
       ·have h12:=Zn hc7 h11
        refine aS fun _ hK30 _=>(aR (sM R R (sQ R (YEy R iL iL) (sQ R (Z0 R Tryz.underlying5 Tryz.underlying21 iL) (sQ R (YJQ (b:=12) R iL iL) (sM R R (sQ R (YEy R iL iL) (sQ R (Z0 R Tryz.underlying5 Tryz.underlying21 iL) (sQ R (YJQ (b:=6) R iL iL) (sQ R (YJT R iL iL) (sM R R (sQ R (YEy R iL iL) (sQ R (Z0 R Tryz.underlying5 Tryz.underlying21 iL) (sQ R (YJT R iL iL) (sA R R (sA R R (aZ (hK30 _ ?_))))))))))))))))))
        refine Zk ?_
        exact YEO (P:=Tryz.prog) (fun (r:Int × Int)=>.r (.int .i32 r.1)) (fun (r:Int × Int)=>rI (r.2)) h12 iL (.t (.d R)) (.t (.d R))
       ·have h12:=Zo hc7 h11
        refine Zi (hK28 _ ?_)
        refine aS fun _ hK31 _=>(aR (sM R R (Zj h12 fun s31 es31 h13=>(sQ R (ZZ R Tryz.underlying9 iL iL (fun _=>es31)) (sA R R (aZ (hK31 _ ?_)))))))
        refine aS fun _ hK32 _=>(aS fun _ hK33 _=>(aR (sM R R (sQ R (Zx R iL iL) (sM R R (sV R R R (Zf R iL) (sV R R R (Zx R iL (iR R)) (sQ R (ZC R iL (iR R)) (aZ (hK33 _ ?_))))))))))
        refine aC R (fun hc8=>?_) (fun hc8=>?_)
        ·have h14:=Zn hc8 h13
         refine aS fun _ hK34 _=>?_
         refine Zh (s':=⟨[],[],(n0+1),117⟩) (by exact Zc Za Za nL) ?_
         refine aR (sA R R (sA R R (aZ (hK34 _ ?_))))
         refine Zk ?_
         exact YEO (P:=Tryz.prog) (fun (r:Int × Int)=>.r (.int .i32 r.1)) (fun (r:Int × Int)=>rI (r.2)) h14 iL (.t (.d R)) (.t (.d R))
        ·have h14:=Zo hc8 h13
         refine Zi (hK32 _ ?_)
         refine aS fun _ hK35 _=>?_
         refine Zh (s':=⟨[(5,.r (.int .u8 (s01.toNat:Int))),(10,.r (.int .u8 (s11.toNat:Int))),(11,.r (.int .u8 (s21.toNat:Int))),(12,.r (.int .u8 (s31.toNat:Int)))],[],(n0+1),117⟩) (by exact Zc ⟨jL,jL,jL,jL,Za⟩ Za nL) ?_
         refine aR (sM R R (sQ R (YEy R iL iL) (sQ R (Z0 R Tryz.underlying5 Tryz.underlying21 iL) (sQ R (YJQ (b:=18) R iL iL) (sM R R (sQ R (YEy R iL iL) (sQ R (Z0 R Tryz.underlying5 Tryz.underlying21 iL) (sQ R (YJQ (b:=12) R iL iL) (sQ R (YJT R iL iL) (sM R R (sQ R (YEy R iL iL) (sQ R (Z0 R Tryz.underlying5 Tryz.underlying21 iL) (sQ R (YJQ (b:=6) R iL iL) (sQ R (YJT R iL iL) (sM R R (sQ R (YEy R iL iL) (sQ R (Z0 R Tryz.underlying5 Tryz.underlying21 iL) (sQ R (YJT R iL iL) (sA R R (sA R R (aZ (hK35 _ ?_))))))))))))))))))))))
         refine Zk ?_
         exact YEO (P:=Tryz.prog) (fun (r:Int × Int)=>.r (.int .i32 r.1)) (fun (r:Int × Int)=>rI (r.2)) h14 iL (.t (.d R)) (.t (.d R))
theorem YDw {s1:List UInt8} {r:Int × Int} (h:YAp s1=some r):ARO Tryz.prog 54 [.r (.str s1)] (.tup [.r (.int .i32 r.1),rI (r.2)]):=by
 unfold YAp at h
 refine Zw Tryz.func54 R R Tryz.ntmps54 R (Ze R) fun n0=>?_
 refine aS fun _ hK1 _=>(aR (sA R R (sA R R (aZ (hK1 _ ?_)))))
 refine aS fun _ hK2 _=>(aS fun _ hK3 _=>(aR (sM R R (sQ R (YCz R iL iL) (sM R R (sV R R R (Zf R iL) (Zj h fun ch1 ech1 h1=>(sV R R R (ZZ R Tryz.underlying9 (iR R) iL (gdt ech1)) (sV R R R (Zx R (iR R) iL) (sQ R (Zr R iL (iR R)) (aZ (hK3 _ ?_))))))))))))
 refine aC R (fun hc1=>?_) (fun hc1=>?_)
 ·have h2:=Zn hc1 h1
  refine aS fun _ hK4 _=>?_
  refine Zh (s':=⟨[(0,.r (.str s1))],[],n0,19⟩) (by exact Zc ⟨jL,Za⟩ Za nL) ?_
  refine aR (sM R R (Zj h2 fun ch2 ech2 h3=>(sQ R (ZZ R Tryz.underlying9 iL iL (fun _=>ech2)) (sQ R (Z0 R Tryz.underlying5 Tryz.underlying21 iL) (sA R R (sA R R (aZ (hK4 _ ?_))))))))
  refine Zk ?_
  exact YEO (P:=Tryz.prog) (fun (r:Int × Int)=>.r (.int .i32 r.1)) (fun (r:Int × Int)=>rI (r.2)) h3 iL (.t (.d R)) (.t (.d R))
 ·have h2:=Zo hc1 h1
  refine Zh (s':=⟨[(0,.r (.str s1))],[],n0,19⟩) (by exact Zc ⟨jL,Za⟩ Za nL) ?_
  refine aR (sM R R (ob2k h2 fun r1 r2 er1 h4=>(Zg R R R (Zq (r:=.tup [.r (.int .i32 r1),rI (r2)]) (caps:=[]) (bs:=[.r (.str s1)]) R iL R ⟨⟨_,iL,.d R⟩,Za⟩ (fun _=>YDR (er1)) R) (sM R R (sQ R (ZY (a:=.r (.int .i32 r1)) R iL R) (sQ R (ZY (a:=rI (r2)) R iL R) (sA R R (sA R R (aZ (hK2 _ ?_))))))))))
  refine Zk ?_
  exact YEO (P:=Tryz.prog) (fun (r:Int × Int)=>.r (.int .i32 r.1)) (fun (r:Int × Int)=>rI (r.2)) h4 iL (.t (.d R)) (.t (.d R))
theorem YO4 {s1:List UInt8} {r:Bool} (h:YHD s1=some r):ARO Tryz.prog 216 [.r (.str s1)] (rB (r)):=by
 unfold YHD at h
 refine Zw Tryz.func216 R R Tryz.ntmps216 R (Ze R) fun n0=>?_
 refine aS fun _ hK1 _=>(aR (sA R R (aZ (hK1 _ ?_))))
 refine aS fun K2 hK2 wK2=>(Zp ?_)
 refine jc1k h fun o1 hit1 hk1 he1=>?_
 have J1 : ∀ (u2:Unit) (i5:Nat→Nat),o1 = .nrm u2→K2 ⟨[],[],(i5 0),31⟩:=by
  intro u2 i5 e
  have h1:=hk1 _ e
  refine hK2 _ ?_
  refine aS fun _ hK3 _=>(aR (sA R R (aZ (hK3 _ ?_))))
  refine Zk ?_
  exact Y2_ h1 iL (.t (.d R))
 refine ZS (fun (s3:List UInt8) i3=>⟨[(0,.r (.str s3))],[],(i3 0),31⟩) (vec [n0]) hit1 ((by exact Zc ⟨jL,Za⟩ Za nL)) ?_
 intro s3 i3 v1 hv1 hx1
 have h2:YA6 s3=some v1:=hv1; unfold YA6 at h2
 refine aS fun _ hK4 _=>(aS fun _ hK5 _=>(aR (sM R R (sQ R (YCz R iL iL) (aZ (hK5 _ ?_))))))
 refine aC R (fun hc1=>?_) (fun hc1=>?_)
 ·have h3:=Zn hc1 h2
  refine Zi (hK4 _ ?_)
  refine Zp (aS fun _ hK6 _=>(aR (sM R R (ob2k h3 fun r1 r2 er1 h4=>(Zg R R R (Zq (r:=.tup [.r (.int .i32 r1),rI (r2)]) (caps:=[]) (bs:=[.r (.str s3)]) R iL R ⟨⟨_,iL,.d R⟩,Za⟩ (fun _=>YDw (er1)) R) (sM R R (sQ R (ZY (a:=.r (.int .i32 r1)) R iL R) (sQ R (ZY (a:=rI (r2)) R iL R) (sA R R (sA R R (aZ (hK6 _ ?_))))))))))))
  refine aS fun _ hK7 _=>(aS fun _ hK8 _=>(aR (sM R R (sQ R (Zs R iL iL) (sM R R (sV R R R (Zf R iL) (sV R R R (Zs R (iR R) iL) (sQ R (Zr R iL (iR R)) (sM R R (sV R R R (Zf R iL) (sV R R R (Zs R (iR R) iL) (sQ R (ZC R iL (iR R)) (sM R R (sV R R R (Zf R iL) (sV R R R (Z0 R Tryz.underlying21 Tryz.underlying3 (iR R)) (Zj h4 fun r3 er3 h5=>?_))))))))))))))))
  refine ZE (.one R R R) R R (Zq (r:=rB (r3)) (caps:=[]) (bs:=[rI ((IntKind.i64.wrap r1))]) R iL R ⟨⟨_,(iR R),.d R⟩,Za⟩ (fun hg=>YKb (gdt er3 hg)) R) ?_
  refine sV R R R (ZQ R (iR R)) (sQ R (ZC R iL (iR R)) (aZ (hK8 _ ?_)))
  refine aC R (fun hc2=>?_) (fun hc2=>?_)
  ·have h6:=Zn hc2 h5
   refine aS fun _ hK9 _=>?_
   refine Zh (s':=⟨[],[],(i3 0),31⟩) (by exact Zc Za Za nL) ?_
   refine aR (sA R R (aZ (hK9 _ ?_)))
   refine Zk ?_
   exact Y2_ (he1 _ (hx1 _ (Zd h6).symm)) iL (.t (.d R))
  ·have h6:=Zo hc2 h5
   refine Zi (hK7 _ ?_)
   refine Zh (s':=⟨[(0,.r (.str s3)),(4,rI (r2))],[],(i3 0),31⟩) (by exact Zc ⟨jL,jL,Za⟩ Za nL) ?_
   refine aR (sM R R (sM R R (Zj h6 fun s5 es5 h7=>?_)))
   refine sQ R (YJY R Tryz.underlying9 iL (by exact ⟨_,iL⟩) (by exact R) (fun _=>es5)) ?_
   refine sA R R ?_
   refine Zt ?_
   exact ZO h7 (vec [(i3 0)]) ((by exact Zc ⟨jL,Za⟩ Za nL))
 ·have h3:=Zo hc1 h2
  refine ZJ ?_
  exact wK2 _ _ ((by exact Zc Za Za nL)) (J1 _ (vec [(i3 0)]) (hx1 _ (Zd h3).symm))
theorem YNj {c1:YAY} {r:Bool} (h:YGC c1=some r):ARO Tryz.prog 217 (k11_ c1) (rB (r)):=by
 unfold YGC at h
 refine Zw Tryz.func217 R R Tryz.ntmps217 R (Ze R) fun n0=>?_
 refine aS fun _ hK1 _=>(aR (Zg R R R (ZR (cs:=(k13_ c1)) 1 R iL R R) (sA R R (aZ (hK1 _ ?_)))))
 refine aS fun _ hK2 _=>(aR (sQ R (fB R YEb iL fR R) (sQ R (Zb (a:=.r (.str c1.Text)) R ts_9 iL R R) (sQ R (YET R iL iL) (sM R R (sV R R R (fB R YCY iL fR R) (sV R R R (Zb (a:=rI (c1.Ref)) R ts_3 (iR R) R R) (sV R R R (Zs R (iR R) iL) (sQ R (Zr R iL (iR R)) (sM R R (sV R R R (fB R YEa iL fR R) (sV R R R (Zb (a:=qa c1.Attrs) R YCi (iR R) R R) (sV R R R (ZA R YDI.slice (iR R)) (sV R R R (Zs R (iR R) iL) (sQ R (Zr R iL (iR R)) (sA R R (aZ (hK2 _ ?_))))))))))))))))))
 refine Zk ?_
 exact Y2_ h iL (.t (.d R))
theorem YGq {x1:Int} {r:Bool} (h:YEJ x1=some r):ARO Tryz.prog 243 [rI (x1)] (rB (r)):=by
 unfold YEJ at h
 refine Zw Tryz.func243 R R Tryz.ntmps243 R (Ze R) fun n0=>?_
 refine aS fun _ hK1 _=>(aR (sA R R (aZ (hK1 _ ?_))))
 refine aS fun _ hK2 _=>(aR (sM R R (sM R R (sQ R (ZH R iL iL) (sA R R (aZ (hK2 _ ?_)))))))
 refine Zk ?_
 exact Y2_ h iL (.t (.d R))
theorem YDH {x1:Int} {y1:Int} {r:Int} (h:YBX x1 y1=some r):ARO Tryz.prog 222 [rI (x1),rI (y1)] (rI (r)):=by
 unfold YBX at h
 refine Zw Tryz.func222 R R Tryz.ntmps222 R (Ze R) fun n0=>?_
 refine aS fun _ hK1 _=>(aR (sA R R (aZ (hK1 _ ?_))))
 refine aS fun _ hK2 _=>(aR (sM R R (Zj h fun xNaN1 exNaN1 h1=>(Zg R R R (Zq (r:=rB (xNaN1)) (caps:=[]) (bs:=[rI (x1)]) R iL R ⟨⟨_,iL,.d R⟩,Za⟩ (fun _=>YGq (exNaN1)) R) (sA R R (aZ (hK2 _ ?_)))))))
 refine aS fun _ hK3 _=>(aR (sM R R (Zj h1 fun yNaN1 eyNaN1 h2=>(Zg R R R (Zq (r:=rB (yNaN1)) (caps:=[]) (bs:=[rI (y1)]) R iL R ⟨⟨_,iL,.d R⟩,Za⟩ (fun _=>YGq (eyNaN1)) R) (sA R R (aZ (hK3 _ ?_)))))))
 refine aS fun _ hK4 _=>(aS fun _ hK5 _=>(aR (sM R R (aZ (hK5 _ ?_)))))
 refine aC R (fun hc1=>?_) (fun hc1=>?_)
 ·have h3:=Zn hc1 h2
  refine aS fun _ hK6 _=>(aS fun _ hK7 _=>?_)
  refine Zh (s':=⟨[(6,rB (yNaN1))],[],n0,20⟩) (by exact Zc ⟨jL,Za⟩ Za nL) ?_
  refine aR (sM R R (aZ (hK7 _ ?_)))
  refine aC R (fun hc2=>?_) (fun hc2=>?_)
  ·have h4:=Zn hc2 h3
   refine aS fun _ hK8 _=>(aR (sA R R (aZ (hK8 _ ?_))))
   refine Zk ?_
   exact Y1_ h4 iL (.t (.d R))
  ·have h4:=Zo hc2 h3
   refine Zi (hK6 _ ?_)
   refine aS fun _ hK9 _=>(aR (sA R R (aZ (hK9 _ ?_))))
   refine Zk ?_
   exact Y1_ h4 iL (.t (.d R))
 ·have h3:=Zo hc1 h2
  refine Zi (hK4 _ ?_)
  refine aS fun _ hK10 _=>(aS fun _ hK11 _=>(aR (sM R R (aZ (hK11 _ ?_)))))
  refine aC R (fun hc3=>?_) (fun hc3=>?_)
  ·have h5:=Zn hc3 h3
   refine aS fun _ hK12 _=>?_
   refine Zh (s':=⟨[],[],n0,20⟩) (by exact Zc Za Za nL) ?_
   refine aR (sA R R (aZ (hK12 _ ?_)))
   refine Zk ?_
   exact Y1_ h5 iL (.t (.d R))
  ·have h5:=Zo hc3 h3
   refine Zi (hK10 _ ?_)
   refine aS fun _ hK13 _=>(aS fun _ hK14 _=>?_)
   refine Zh (s':=⟨[(0,rI (x1)),(1,rI (y1))],[],n0,20⟩) (by exact Zc ⟨jL,jL,Za⟩ Za nL) ?_
   refine aR (sM R R (sM R R (sQ R (Zx R iL iL) (aZ (hK14 _ ?_)))))
   refine aC R (fun hc4=>?_) (fun hc4=>?_)
   ·have h6:=Zn hc4 h5
    refine aS fun _ hK15 _=>(aR (sA R R (aZ (hK15 _ ?_))))
    refine Zk ?_
    exact Y1_ h6 iL (.t (.d R))
   ·have h6:=Zo hc4 h5
    refine Zi (hK13 _ ?_)
    refine aS fun _ hK16 _=>(aS fun _ hK17 _=>(aR (sM R R (sM R R (sQ R (ZV R iL iL) (aZ (hK17 _ ?_)))))))
    refine aC R (fun hc5=>?_) (fun hc5=>?_)
    ·have h7:=Zn hc5 h6
     refine aS fun _ hK18 _=>(aR (sA R R (aZ (hK18 _ ?_))))
     refine Zk ?_
     exact Y1_ h7 iL (.t (.d R))
    ·have h7:=Zo hc5 h6
     refine Zi (hK16 _ ?_)
     refine aS fun _ hK19 _=>(aR (sA R R (aZ (hK19 _ ?_))))
     refine Zk ?_
     exact Y1_ h7 iL (.t (.d R))
theorem YJK {vals1:List Int} {r:Int} (h:YFJ vals1=some r):ARO Tryz.prog 221 [.r (.sl (vals1.map (rInt .i64)))] (rI (r)):=by
 unfold YFJ at h
 refine Zw Tryz.func221 R R Tryz.ntmps221 R (Ze R) fun n0=>?_
 refine aS fun _ hK1 _=>(aR (sA R R (aZ (hK1 _ ?_))))
 refine aS fun _ hK2 _=>(aR (sA R R (aZ (hK2 _ ?_))))
 refine aS fun K3 hK3 wK3=>(aS fun _ hK4 _=>(aR (sM R R (sQ R (ZA R YCD.slice iL) (sM R R (aZ (hK4 _ ?_)))))))
 refine Zp ?_
 refine jc1k h fun o1 hit1 hk1 he1=>?_
 have J1 : ∀ (u2:Unit) (i5:Nat→Nat),o1 = .nrm u2→K3 ⟨[(3,rI (0))],[],(i5 0),18⟩:=by
  intro u2 i5 e
  have h1:=hk1 _ e
  refine hK3 _ ?_
  refine aS fun _ hK5 _=>(aR (sM R R (sA R R (aZ (hK5 _ ?_)))))
  refine Zk ?_
  exact Y1_ h1 iL (.t (.d R))
 refine ZS (fun (x2:Int) i3=>⟨[(3,rI (0)),(6,.r (.sl (vals1.map (rInt .i64)))),(7,rI ((vals1.length:Int))),(8,rI (x2))],[],(i3 0),18⟩) (vec [n0]) hit1 ((by exact Zc ⟨jL,jL,jL,jL,Za⟩ Za nL)) ?_
 intro x2 i3 v1 hv1 hx1
 have h2:YAk vals1 x2=some v1:=hv1; unfold YAk at h2
 refine aS fun _ hK6 _=>(aR (sQ R (Zx R iL iL) (aZ (hK6 _ ?_))))
 refine aS fun _ hK7 _=>?_
 refine aC R (fun hc1=>?_) (fun hc1=>?_)
 ·have h3:=Zn hc1 h2
  refine Zi (hK7 _ ?_)
  refine aS fun _ hK8 _=>(Zp (aS fun _ hK9 _=>(aR (Zj h3 fun x4 ex4 h4=>(sQ R (Zz R YCD.slice iL iL (fun _=>R) (fun _=>ex4)) (sQ R (ZN (d:=.int .i64 x4) R ts_3 iL R) (sA R R (aZ (hK9 _ ?_)))))))))
  refine aS fun _ hK10 _=>(aR (sM R R (sM R R (sQ R (ZH R iL iL) (aZ (hK10 _ ?_))))))
  refine aC R (fun hc2=>?_) (fun hc2=>?_)
  ·have h5:=Zn hc2 h4
   refine aS fun _ hK11 _=>?_
   refine Zh (s':=⟨[(5,rI (x4))],[],(i3 0),18⟩) (by exact Zc ⟨jL,Za⟩ Za nL) ?_
   refine aR (sM R R (sA R R (aZ (hK11 _ ?_))))
   refine Zk ?_
   exact Y1_ (he1 _ (hx1 _ (Zd h5).symm)) iL (.t (.d R))
  ·have h5:=Zo hc2 h4
   refine Zi (hK8 _ ?_)
   refine aR (Zj h5 fun x5 ex5 h6=>(sQ R (ZI R iL iL (fun _=>ex5)) (sM R R ?_)))
   refine Zt ?_
   exact ZO h6 (vec [(i3 0)]) ((by exact Zc ⟨jL,jL,jL,jL,Za⟩ Za nL))
 ·have h3:=Zo hc1 h2
  refine ZJ ?_
  exact wK3 _ _ ((by exact Zc ⟨jL,Za⟩ Za nL)) (J1 _ (vec [(i3 0)]) (hx1 _ (Zd h3).symm))
theorem YNh {a1:YAY} {b1:YAY} {r:Int} (h:YFH a1 b1=some r):ARO Tryz.prog 218 [.agg (k13_ a1),.agg (k13_ b1)] (rI (r)):=by
 unfold YFH at h
 refine Zw Tryz.func218 R R Tryz.ntmps218 R (Ze R) fun n0=>?_
 refine aS fun _ hK1 _=>(aR (Zg R R R (ZR (cs:=(k13_ a1)) 2 R iL R R) (Zg R R R (ZR (cs:=(k13_ b1)) 3 R iL R R) (sA R R (aZ (hK1 _ ?_))))))
 refine aS fun _ hK2 _=>(Zj h fun r1 er1 h1=>?_)
 refine AW.regionP 9 [⟨some 5,(fun _=>.ptr 2 n0 0 0),none,[]⟩,⟨some 6,(fun _=>rI (a1.Row)),none,[]⟩,⟨some 7,(fun _=>.ptr 3 (n0+1) 0 0),none,[]⟩,⟨some 8,(fun _=>rI (b1.Row)),none,[]⟩,⟨some 9,(fun _=>rI (r1)),none,[]⟩,⟨some 10,(fun _=>.ptr 2 n0 0 1),none,[]⟩,⟨some 11,(fun _=>rI (a1.Col)),none,[]⟩,⟨some 12,(fun _=>.ptr 3 (n0+1) 0 1),none,[]⟩,⟨some 13,(fun _=>rI (b1.Col)),none,[]⟩] hmix (by kernel_rfl) (by exact ⟨fun _ _ h=>⟨R,fun _ _ e=>by cases e⟩,fun _ _ h=>⟨R,fun _ _ e=>by cases e⟩,fun _ _ h=>⟨R,fun _ _ e=>by cases e⟩,fun _ _ h=>⟨R,fun _ _ e=>by cases e⟩,fun _ _ h=>⟨R,fun _ _ e=>by cases e⟩,fun _ _ h=>⟨R,fun _ _ e=>by cases e⟩,fun _ _ h=>⟨R,fun _ _ e=>by cases e⟩,fun _ _ h=>⟨R,fun _ _ e=>by cases e⟩,fun _ _ h=>⟨R,fun _ _ e=>by cases e⟩,Za⟩) R (by exact ⟨Zu (n1:=fun n=>n) R R (by intro d h; cases h; rfl) R (fun _=>[(2,.ptr 2 n0 0 0)]) (fun _=>[(2,some (.box n0 140 (k13_ a1)))]) (fun D G1 hr=>⟨ZU R R,Za⟩) (fun D G1 hr=>⟨ZG R R,Za⟩) (fun _ _=>R) (fun G1 e h' n=>Zv (v:=.ptr 2 n0 0 0) (fB R YDJ (.inl R) (fun _=>R) R) _),
   Zu (n1:=fun n=>n) R R (by intro d h; cases h; rfl) R (fun _=>[(5,.ptr 2 n0 0 0)]) (fun _=>[(2,some (.box n0 140 (k13_ a1)))]) (fun D G1 hr=>⟨ZK hr 0 R R (by kernel_rfl) R R,Za⟩) (fun D G1 hr=>⟨ZG R R,Za⟩) (fun _ _=>R) (fun G1 e h' n=>Zv (v:=rI (a1.Row)) (Zb (a:=rI (a1.Row)) R ts_3 (.inl R) R R) _),
   Zu (n1:=fun n=>n) R R (by intro d h; cases h; rfl) R (fun _=>[(3,.ptr 3 (n0+1) 0 0)]) (fun _=>[(3,some (.box (n0+1) 140 (k13_ b1)))]) (fun D G1 hr=>⟨ZU R R,Za⟩) (fun D G1 hr=>⟨ZG R R,Za⟩) (fun _ _=>R) (fun G1 e h' n=>Zv (v:=.ptr 3 (n0+1) 0 0) (fB R YDJ (.inl R) (fun _=>R) R) _),
   Zu (n1:=fun n=>n) R R (by intro d h; cases h; rfl) R (fun _=>[(7,.ptr 3 (n0+1) 0 0)]) (fun _=>[(3,some (.box (n0+1) 140 (k13_ b1)))]) (fun D G1 hr=>⟨ZK hr 2 R R (by kernel_rfl) R R,Za⟩) (fun D G1 hr=>⟨ZG R R,Za⟩) (fun _ _=>R) (fun G1 e h' n=>Zv (v:=rI (b1.Row)) (Zb (a:=rI (b1.Row)) R ts_3 (.inl R) R R) _),
   Zu (n1:=fun n=>n) R R (by intro d h; cases h; rfl) R (fun _=>[(6,rI (a1.Row)),(8,rI (b1.Row))]) (fun _=>[]) (fun D G1 hr=>⟨ZK hr 1 R R (by kernel_rfl) R R,ZK hr 3 R R (by kernel_rfl) R R,Za⟩) (fun D G1 hr=>Za) (fun _ _=>R) (fun G1 e h' n=>Zq (r:=rI (r1)) (caps:=[]) (bs:=[rI (a1.Row),rI (b1.Row)]) R (.inl R) R ⟨⟨_,(.inl R),.d R⟩,⟨_,(.inl R),.d R⟩,Za⟩ (fun _=>YDH (er1)) R),
   Zu (n1:=fun n=>n) R R (by intro d h; cases h; rfl) R (fun _=>[(2,.ptr 2 n0 0 0)]) (fun _=>[(2,some (.box n0 140 (k13_ a1)))]) (fun D G1 hr=>⟨ZU R R,Za⟩) (fun D G1 hr=>⟨ZG R R,Za⟩) (fun _ _=>R) (fun G1 e h' n=>Zv (v:=.ptr 2 n0 0 1) (fB R YDz (.inl R) (fun _=>R) R) _),
   Zu (n1:=fun n=>n) R R (by intro d h; cases h; rfl) R (fun _=>[(10,.ptr 2 n0 0 1)]) (fun _=>[(2,some (.box n0 140 (k13_ a1)))]) (fun D G1 hr=>⟨ZK hr 5 R R (by kernel_rfl) R R,Za⟩) (fun D G1 hr=>⟨ZG R R,Za⟩) (fun _ _=>R) (fun G1 e h' n=>Zv (v:=rI (a1.Col)) (Zb (a:=rI (a1.Col)) R ts_3 (.inl R) R R) _),
   Zu (n1:=fun n=>n) R R (by intro d h; cases h; rfl) R (fun _=>[(3,.ptr 3 (n0+1) 0 0)]) (fun _=>[(3,some (.box (n0+1) 140 (k13_ b1)))]) (fun D G1 hr=>⟨ZU R R,Za⟩) (fun D G1 hr=>⟨ZG R R,Za⟩) (fun _ _=>R) (fun G1 e h' n=>Zv (v:=.ptr 3 (n0+1) 0 1) (fB R YDz (.inl R) (fun _=>R) R) _),
   Zu (n1:=fun n=>n) R R (by intro d h; cases h; rfl) R (fun _=>[(12,.ptr 3 (n0+1) 0 1)]) (fun _=>[(3,some (.box (n0+1) 140 (k13_ b1)))]) (fun D G1 hr=>⟨ZK hr 7 R R (by kernel_rfl) R R,Za⟩) (fun D G1 hr=>⟨ZG R R,Za⟩) (fun _ _=>R) (fun G1 e h' n=>Zv (v:=rI (b1.Col)) (Zb (a:=rI (b1.Col)) R ts_3 (.inl R) R R) _),
   Za⟩) fun G1 n1=>?_
 refine ZT (s':=⟨[(0,.agg (k13_ a1)),(1,.agg (k13_ b1)),(2,.ptr 2 n0 0 0),(3,.ptr 3 (n0+1) 0 0),(4,rI (0)),(5,.ptr 2 n0 0 0),(6,rI (a1.Row)),(7,.ptr 3 (n0+1) 0 0),(8,rI (b1.Row)),(9,rI (r1)),(10,.ptr 2 n0 0 1),(11,rI (a1.Col)),(12,.ptr 3 (n0+1) 0 1),(13,rI (b1.Col))],[(2,some (.box n0 140 (k13_ a1))),(3,some (.box (n0+1) 140 (k13_ b1)))],n1,17⟩) (by exact Zc ⟨jL,jL,jL,jL,jL,jL,jL,jL,jL,jL,jL,jL,jL,jL,Za⟩ ⟨.inl R,.inl R,Za⟩ nL) ?_
 refine Zj h1 fun r2 er2 h2=>(Zg R R R (Zq (r:=rI (r2)) (caps:=[]) (bs:=[rI (a1.Col),rI (b1.Col)]) R iL R ⟨⟨_,iL,.d R⟩,⟨_,iL,.d R⟩,Za⟩ (fun _=>YDH (er2)) R) (Zg R R R (YCs 15 R YCD (f:=(rInt .i64)) (l:=([r1,r2]:List Int)) ⟨R,⟨_,iL,R⟩,R,⟨_,iL,R⟩,Za⟩ R (fun _=>R) R) (Zj h2 fun r3 er3 h3=>(Zg R R R (Zq (r:=rI (r3)) (caps:=[]) (bs:=[.r (.sl ([r1,r2].map (rInt .i64)))]) R iL R ⟨⟨_,iL,.one (.own R)⟩,Za⟩ (fun _=>YJK (er3)) R) (sA R R (aZ (hK2 _ ?_)))))))
 refine Zk ?_
 exact Y1_ h3 iL (.t (.d R))
theorem YNk {l1:List YAY} {rows1:Int} {cols1:Int} {none1:Bool} {r:Int} (h:YGD l1 rows1 cols1 none1=some r):ARO Tryz.prog 195 [qd l1,rI (rows1),rI (cols1),rB (none1)] (rI (r)):=by
 unfold YGD at h
 refine Zw Tryz.func195 R R Tryz.ntmps195 R (Ze R) fun n0=>?_
 refine aS fun _ hK1 _=>(aR (sA R R (aZ (hK1 _ ?_))))
 refine aS fun K2 hK2 wK2=>(aS fun _ hK3 _=>(aR (sM R R (sQ R (ZA R YDu.slice iL) (sM R R (aZ (hK3 _ ?_)))))))
 refine Zp ?_
 refine jc1k h fun o1 hit1 hk1 he1=>?_
 have J1 : ∀ (u2:Unit) (i5:Nat→Nat),o1 = .nrm u2→K2 ⟨[],[],(i5 0),79⟩:=by
  intro u2 i5 e
  have h1:=hk1 _ e
  refine hK2 _ ?_
  refine aS fun _ hK4 _=>(aR (sA R R (aZ (hK4 _ ?_))))
  refine Zk ?_
  exact Y1_ h1 iL (.t (.d R))
 refine ZS (fun (x2:Int) i3=>⟨[(0,qd l1),(1,rI (rows1)),(2,rI (cols1)),(3,rB (none1)),(12,qd l1),(13,rI ((l1.length:Int))),(14,rI (x2))],[],(i3 0),79⟩) (vec [n0]) hit1 ((by exact Zc ⟨jL,jL,jL,jL,jL,jL,jL,Za⟩ Za nL)) ?_
 intro x2 i3 v1 hv1 hx1
 have h2:YED l1 rows1 cols1 none1 x2=some v1:=hv1; unfold YED at h2
 refine aS fun _ hK5 _=>(aR (sQ R (Zx R iL iL) (aZ (hK5 _ ?_))))
 refine aS fun _ hK6 _=>?_
 refine aC R (fun hc1=>?_) (fun hc1=>?_)
 ·have h3:=Zn hc1 h2
  refine Zi (hK6 _ ?_)
  refine aS fun _ hK7 _=>(Zp (aS fun _ hK8 _=>(aR (sM R R (Zj h3 fun x4 ex4 h4=>(sQ R (Zz R YDu.slice iL iL (fun _=>R) (fun _=>ex4)) (sQ R (ZM (cs:=(k13_ x4)) R YFk iL R R) (Zg R R R (ZX (cs:=z16_) 10 R YMD R R) (sA R R (ZD R R (ZB (ds:=(k13_ x4)) R YL7 iL R iL R R R R) (aZ (hK8 _ ?_))))))))))))
  refine aS fun _ hK9 _=>(Zp (aS fun _ hK10 _=>(aR (sQ R (fB R YDJ iL fR R) (sQ R (Zb (a:=rI (x4.Row)) R ts_3 iL R R) (sQ R (Zx R iL iL) (sM R R (sV R R R (fB R YDJ iL fR R) (sV R R R (Zb (a:=rI (x4.Row)) R ts_3 (iR R) R R) (sV R R R (Zf R iL) (sV R R R (YB5 R (iR R) (iR R)) (sQ R (ZC R iL (iR R)) (sM R R (sV R R R (fB R YDz iL fR R) (sV R R R (Zb (a:=rI (x4.Col)) R ts_3 (iR R) R R) (sV R R R (Zx R (iR R) iL) (sQ R (ZC R iL (iR R)) (sM R R (sV R R R (fB R YDz iL fR R) (sV R R R (Zb (a:=rI (x4.Col)) R ts_3 (iR R) R R) (sV R R R (Zf R iL) (sV R R R (YB5 R (iR R) (iR R)) (sQ R (ZC R iL (iR R)) (sA R R (aZ (hK10 _ ?_))))))))))))))))))))))))))
  refine aC R (fun hc2=>?_) (fun hc2=>?_)
  ·have h5:=Zn hc2 h4
   refine aS fun _ hK11 _=>?_
   refine Zh (s':=⟨[],[],((i3 0)+1),79⟩) (by exact Zc Za Za nL) ?_
   refine aR (sA R R (aZ (hK11 _ ?_)))
   refine Zk ?_
   exact Y1_ (he1 _ (hx1 _ (Zd h5).symm)) iL (.t (.d R))
  ·have h5:=Zo hc2 h4
   refine aS fun _ hK12 _=>?_
   refine Zh (s':=⟨[(0,qd l1),(1,rI (rows1)),(2,rI (cols1)),(3,rB (none1)),(9,rI (x2)),(10,.ptr 10 (i3 0) 0 0),(12,qd l1),(13,rI ((l1.length:Int))),(14,rI (x2))],[(10,some (.box (i3 0) 140 (k13_ x4)))],((i3 0)+1),79⟩) (by exact Zc ⟨jL,jL,jL,jL,jL,jL,jL,jL,jL,Za⟩ ⟨.inl R,Za⟩ nL) ?_
   refine aR (sQ R (fB R YCY iL fR R) (sQ R (Zb (a:=rI (x4.Ref)) R ts_3 iL R R) (sQ R (Zx R iL iL) (sM R R (sV R R R (fB R YCY iL fR R) (sV R R R (Zb (a:=rI (x4.Ref)) R ts_3 (iR R) R R) (sV R R R (ZV R (iR R) iL) (sQ R (ZC R iL (iR R)) (sA R R (aZ (hK12 _ ?_)))))))))))
   refine aC R (fun hc3=>?_) (fun hc3=>?_)
   ·have h6:=Zn hc3 h5
    refine aS fun _ hK13 _=>?_
    refine Zh (s':=⟨[],[],((i3 0)+1),79⟩) (by exact Zc Za Za nL) ?_
    refine aR (sA R R (aZ (hK13 _ ?_)))
    refine Zk ?_
    exact Y1_ (he1 _ (hx1 _ (Zd h6).symm)) iL (.t (.d R))
   ·have h6:=Zo hc3 h5
    refine aS fun _ hK14 _=>(aR (sQ R (fB R YEb iL fR R) (sQ R (Zb (a:=.r (.str x4.Text)) R ts_9 iL R R) (Zj h6 fun r1 er1 h7=>(Zg R R R (Zq (r:=rB (r1)) (caps:=[]) (bs:=[.r (.str x4.Text)]) R iL R ⟨⟨_,iL,.d R⟩,Za⟩ (fun _=>YO4 (er1)) R) (sQ R (ZQ R iL) (sA R R (aZ (hK14 _ ?_)))))))))
    refine aC R (fun hc4=>?_) (fun hc4=>?_)
    ·have h8:=Zn hc4 h7
     refine aS fun _ hK15 _=>?_
     refine Zh (s':=⟨[],[],((i3 0)+1),79⟩) (by exact Zc Za Za nL) ?_
     refine aR (sA R R (aZ (hK15 _ ?_)))
     refine Zk ?_
     exact Y1_ (he1 _ (hx1 _ (Zd h8).symm)) iL (.t (.d R))
    ·have h8:=Zo hc4 h7
     refine Zi (hK9 _ ?_)
     refine aS fun _ hK16 _=>(aS fun _ hK17 _=>?_)
     refine Zh (s':=⟨[(0,qd l1),(1,rI (rows1)),(2,rI (cols1)),(3,rB (none1)),(9,rI (x2)),(10,.ptr 10 (i3 0) 0 0),(12,qd l1),(13,rI ((l1.length:Int))),(14,rI (x2))],[(10,some (.box (i3 0) 140 (k13_ x4)))],((i3 0)+1),79⟩) (by exact Zc ⟨jL,jL,jL,jL,jL,jL,jL,jL,jL,Za⟩ ⟨.inl R,Za⟩ nL) ?_
     refine aR (sQ R (fB R YEa iL fR R) (sQ R (Zb (a:=qa x4.Attrs) R YCi iL R R) (Zj h8 fun e1 ee1 h9=>(Zg R R R (Zq (r:=rI (e1)) (caps:=[]) (bs:=[qa x4.Attrs]) R iL R ⟨⟨_,iL,.d R⟩,Za⟩ (fun _=>YGs (ee1)) R) (sA R R (aZ (hK17 _ ?_)))))))
     refine aS fun _ hK18 _=>(aR (sM R R (sQ R (ZH R iL iL) (aZ (hK18 _ ?_)))))
     refine aC R (fun hc5=>?_) (fun hc5=>?_)
     ·have h10:=Zn hc5 h9
      refine aS fun _ hK19 _=>?_
      refine Zh (s':=⟨[(11,rI (e1))],[],((i3 0)+1),79⟩) (by exact Zc ⟨jL,Za⟩ Za nL) ?_
      refine aR (sM R R (sA R R (aZ (hK19 _ ?_))))
      refine Zk ?_
      exact Y1_ (he1 _ (hx1 _ (Zd h10).symm)) iL (.t (.d R))
     ·have h10:=Zo hc5 h9
      refine Zi (hK16 _ ?_)
      refine aS fun _ hK20 _=>(aS fun _ hK21 _=>(aR (sQ R (ZF R YFk iL R R) (Zj h10 fun r2 er2 h11=>(Zg R R R (Zq (r:=rB (r2)) (caps:=[]) (bs:=(k11_ x4)) R iL R ⟨⟨_,iL,.g (cs:=[.int .i64 x4.Row,.int .i64 x4.Col,.str x4.Text,.int .i64 x4.Ref,.sl (x4.Attrs.map YAG.row)]) R R⟩,Za⟩ (fun _=>YNj (er2)) R) (sM R R (sV R R R (Zf R iL) (sV R R R (ZQ R (iR R)) (sQ R (Zr R iL (iR R)) (aZ (hK21 _ ?_)))))))))))
      refine aC R (fun hc6=>?_) (fun hc6=>?_)
      ·have h12:=Zn hc6 h11
       refine aS fun _ hK22 _=>?_
       refine Zh (s':=⟨[],[],((i3 0)+1),79⟩) (by exact Zc Za Za nL) ?_
       refine aR (sA R R (aZ (hK22 _ ?_)))
       refine Zk ?_
       exact Y1_ (he1 _ (hx1 _ (Zd h12).symm)) iL (.t (.d R))
      ·have h12:=Zo hc6 h11
       refine Zi (hK20 _ ?_)
       refine aS fun _ hK23 _=>?_
       refine Zh (s':=⟨[(0,qd l1),(1,rI (rows1)),(2,rI (cols1)),(3,rB (none1)),(9,rI (x2)),(10,.ptr 10 (i3 0) 0 0),(12,qd l1),(13,rI ((l1.length:Int))),(14,rI (x2))],[(10,some (.box (i3 0) 140 (k13_ x4)))],((i3 0)+1),79⟩) (by exact Zc ⟨jL,jL,jL,jL,jL,jL,jL,jL,jL,Za⟩ ⟨.inl R,Za⟩ nL) ?_
       refine ZW hmix (by kernel_rfl) ?_
       refine Zm R R R (Zf R iL) (Zm R R R (ZV R iL iL) (Zm R R R (Zf R iL) ?_))
       refine Zl (.one R R R) R R (Zf R iL) ?_
       refine Zl (.one R R R) R R (Zf R iL) ?_
       refine Zj h12 fun x5 ex5 h13=>?_
       refine Zl (.one R R R) R R (YBf R (iR R) iL (gdt ex5)) ?_
       refine Zj h13 fun x6 ex6 h14=>?_
       refine Zl (.one R R R) R R (Zz R YDu.slice (iR R) (iR R) (fun _=>R) (gdt ex6)) ?_
       refine Zl (.one R R R) R R (ZM (cs:=(k13_ x6)) R YFk (iR R) R R) ?_
       refine Zl (.one R R R) R R (ZF R YFk iL R R) ?_
       refine Zj h14 fun r3 er3 h15=>?_
       refine AQ.stepWC (.one R R R) R R (r:=rI (r3)) (caps:=[]) (bs:=[.agg (k13_ x6),.agg (k13_ x4)]) R iL R ⟨⟨_,(iR R),.g (cs:=[.int .i64 x6.Row,.int .i64 x6.Col,.str x6.Text,.int .i64 x6.Ref,.sl (x6.Attrs.map YAG.row)]) R R⟩,⟨_,(iR R),.g (cs:=[.int .i64 x4.Row,.int .i64 x4.Col,.str x4.Text,.int .i64 x4.Ref,.sl (x4.Attrs.map YAG.row)]) R R⟩,Za⟩ (fun hg=>YNh (gdt er3 hg)) R ?_
       refine Zl (.one R R R) R R (YB5 R (iR R) iL) ?_
       refine Zm R R R (Zr R iL (iR R)) ?_
       refine AQ.nil ?_
       refine hK23 _ ?_
       refine aC R (fun hc7=>?_) (fun hc7=>?_)
       ·have h16:=Zn hc7 h15
        refine aS fun _ hK24 _=>?_
        refine Zh (s':=⟨[],[],((i3 0)+1),79⟩) (by exact Zc Za Za nL) ?_
        refine aR (sA R R (aZ (hK24 _ ?_)))
        refine Zk ?_
        exact Y1_ (he1 _ (hx1 _ (Zd h16).symm)) iL (.t (.d R))
       ·have h16:=Zo hc7 h15
        refine Zi (hK7 _ ?_)
        refine aR (Zj h16 fun x7 ex7 h17=>(sQ R (ZI R iL iL (fun _=>ex7)) (sM R R ?_)))
        refine Zt ?_
        exact ZO h17 (vec [((i3 0)+1)]) ((by exact Zc ⟨jL,jL,jL,jL,jL,jL,jL,Za⟩ Za nL))
 ·have h3:=Zo hc1 h2
  refine ZJ ?_
  exact wK2 _ _ ((by exact Zc Za Za nL)) (J1 _ (vec [(i3 0)]) (hx1 _ (Zd h3).symm))
theorem YMk {r1:YAX} {rows1:Int} {cols1:Int} {r:Bool} (h:YFW r1 rows1 cols1=some r):ARO Tryz.prog 196 [.agg (k22_ r1),rI (rows1),rI (cols1)] (rB (r)):=by
 unfold YFW at h
 refine Zw Tryz.func196 R R Tryz.ntmps196 R (Ze R) fun n0=>?_
 refine aS fun _ hK1 _=>(aR (Zg R R R (ZR (cs:=(k22_ r1)) 3 R iL R R) (sA R R (aZ (hK1 _ ?_)))))
 refine aS fun _ hK2 _=>(aR (sQ R (fB R YBU iL fR R) (sQ R (Zb (a:=rI (r1.Row)) R ts_3 iL R R) (sQ R (YB5 R iL iL) (sM R R (sV R R R (fB R YB2 iL fR R) (sV R R R (Zb (a:=rI (r1.Col)) R ts_3 (iR R) R R) (sV R R R (YB5 R (iR R) iL) (sQ R (Zr R iL (iR R)) (sM R R (sV R R R (fB R YE5 iL fR R) (sV R R R (Zb (a:=rI (r1.H)) R ts_3 (iR R) R R) (sV R R R (YB5 R (iR R) iL) (sQ R (Zr R iL (iR R)) (sM R R (sV R R R (fB R YE4 iL fR R) (sV R R R (Zb (a:=rI (r1.W)) R ts_3 (iR R) R R) (sV R R R (YB5 R (iR R) iL) (sQ R (Zr R iL (iR R)) (sM R R (sV R R R (fB R YBU iL fR R) (sV R R R (Zb (a:=rI (r1.Row)) R ts_3 (iR R) R R) (sV R R R (Zf R iL) (sV R R R (Zx R (iR R) (iR R)) (sQ R (Zr R iL (iR R)) (sM R R (sV R R R (fB R YB2 iL fR R) (sV R R R (Zb (a:=rI (r1.Col)) R ts_3 (iR R) R R) (sV R R R (Zf R iL) ?_)))))))))))))))))))))))))))))
 refine sV R R R (Zx R (iR R) (iR R)) (sQ R (Zr R iL (iR R)) (sM R R (sV R R R (fB R YE5 iL fR R) (sV R R R (Zb (a:=rI (r1.H)) R ts_3 (iR R) R R) (sV R R R (Zf R iL) (sV R R R (fB R YBU iL fR R) (sV R R R (Zb (a:=rI (r1.Row)) R ts_3 (iR R) R R) (Zj h fun x1 ex1 h1=>(sV R R R (YBf R (iR R) (iR R) (gdt ex1)) (sV R R R (YEP R (iR R) (iR R)) (sQ R (Zr R iL (iR R)) (sM R R (sV R R R (fB R YE4 iL fR R) (sV R R R (Zb (a:=rI (r1.W)) R ts_3 (iR R) R R) (sV R R R (Zf R iL) (sV R R R (fB R YB2 iL fR R) (sV R R R (Zb (a:=rI (r1.Col)) R ts_3 (iR R) R R) (Zj h1 fun x2 ex2 h2=>(sV R R R (YBf R (iR R) (iR R) (gdt ex2)) (sV R R R (YEP R (iR R) (iR R)) (sQ R (Zr R iL (iR R)) (sA R R (aZ (hK2 _ ?_))))))))))))))))))))))))
 refine Zk ?_
 exact Y2_ h2 iL (.t (.d R))
theorem YMl {a1:YAX} {b1:YAX} {r:Bool} (h:YFX a1 b1=some r):ARO Tryz.prog 197 [.agg (k22_ a1),.agg (k22_ b1)] (rB (r)):=by
 unfold YFX at h
 refine Zw Tryz.func197 R R Tryz.ntmps197 R (Ze R) fun n0=>?_
 refine aS fun _ hK1 _=>(aR (Zg R R R (ZR (cs:=(k22_ a1)) 2 R iL R R) (Zg R R R (ZR (cs:=(k22_ b1)) 3 R iL R R) (sA R R (aZ (hK1 _ ?_))))))
 refine aS fun _ hK2 _=>(aR (sQ R (fB R YBU iL fR R) (sQ R (Zb (a:=rI (a1.Row)) R ts_3 iL R R) (sQ R (fB R YBU iL fR R) (sQ R (Zb (a:=rI (b1.Row)) R ts_3 iL R R) (sQ R (Zx R iL iL) (sM R R (sV R R R (fB R YBU iL fR R) (sV R R R (Zb (a:=rI (a1.Row)) R ts_3 (iR R) R R) (sV R R R (fB R YBU iL fR R) (sV R R R (Zb (a:=rI (b1.Row)) R ts_3 (iR R) R R) (sV R R R (Zs R (iR R) (iR R)) (sV R R R (Zf R (iR R)) ?_)))))))))))))
 refine sW (.two R R R) R (fB R YB2 iL fR R) ?_
 refine sW (.two R R R) R (Zb (a:=rI (a1.Col)) R ts_3 (iR R) R R) ?_
 refine sW (.two R R R) R (fB R YB2 iL fR R) ?_
 refine sW (.two R R R) R (Zb (a:=rI (b1.Col)) R ts_3 (iR R) R R) ?_
 refine sW (.two R R R) R (Zx R (iR R) (iR R)) ?_
 refine sV R R R (Zr R (iR R) (iR R)) (sQ R (ZC R iL (iR R)) (sA R R (aZ (hK2 _ ?_))))
 refine Zk ?_
 exact Y2_ h iL (.t (.d R))
theorem YNi {a1:YAX} {b1:YAX} {r:Bool} (h:YGB a1 b1=some r):ARO Tryz.prog 200 [.agg (k22_ a1),.agg (k22_ b1)] (rB (r)):=by
 unfold YGB at h
 refine Zw Tryz.func200 R R Tryz.ntmps200 R (Ze R) fun n0=>?_
 refine aS fun _ hK1 _=>(aR (Zg R R R (ZR (cs:=(k22_ a1)) 2 R iL R R) (Zg R R R (ZR (cs:=(k22_ b1)) 3 R iL R R) (sA R R (aZ (hK1 _ ?_))))))
 refine aS fun _ hK2 _=>(aR (sQ R (fB R YBU iL fR R) (sQ R (Zb (a:=rI (a1.Row)) R ts_3 iL R R) (sQ R (fB R YBU iL fR R) (sQ R (Zb (a:=rI (b1.Row)) R ts_3 iL R R) (sQ R (fB R YE5 iL fR R) (sQ R (Zb (a:=rI (b1.H)) R ts_3 iL R R) (Zj h fun x1 ex1 h1=>(sQ R (ZI R iL iL (fun _=>ex1)) (sQ R (Zx R iL iL) (sM R R (sV R R R (fB R YBU iL fR R) (sV R R R (Zb (a:=rI (b1.Row)) R ts_3 (iR R) R R) (sV R R R (fB R YBU iL fR R) (sV R R R (Zb (a:=rI (a1.Row)) R ts_3 (iR R) R R) (sV R R R (fB R YE5 iL fR R) (sV R R R (Zb (a:=rI (a1.H)) R ts_3 (iR R) R R) (Zj h1 fun x2 ex2 h2=>(sV R R R (ZI R (iR R) (iR R) (gdt ex2)) (sV R R R (Zx R (iR R) (iR R)) (sQ R (Zr R iL (iR R)) (sM R R (sV R R R (fB R YB2 iL fR R) (sV R R R (Zb (a:=rI (a1.Col)) R ts_3 (iR R) R R) (sV R R R (fB R YB2 iL fR R) (sV R R R (Zb (a:=rI (b1.Col)) R ts_3 (iR R) R R) (sV R R R (fB R YE4 iL fR R) (sV R R R (Zb (a:=rI (b1.W)) R ts_3 (iR R) R R) (Zj h2 fun x3 ex3 h3=>?_)))))))))))))))))))))))))))))
 refine sV R R R (ZI R (iR R) (iR R) (gdt ex3)) (sV R R R (Zx R (iR R) (iR R)) (sQ R (Zr R iL (iR R)) (sM R R (sV R R R (fB R YB2 iL fR R) (sV R R R (Zb (a:=rI (b1.Col)) R ts_3 (iR R) R R) (sV R R R (fB R YB2 iL fR R) (sV R R R (Zb (a:=rI (a1.Col)) R ts_3 (iR R) R R) (sV R R R (fB R YE4 iL fR R) (sV R R R (Zb (a:=rI (a1.W)) R ts_3 (iR R) R R) (Zj h3 fun x4 ex4 h4=>(sV R R R (ZI R (iR R) (iR R) (gdt ex4)) (sV R R R (Zx R (iR R) (iR R)) (sQ R (Zr R iL (iR R)) (sA R R (aZ (hK2 _ ?_))))))))))))))))
 refine Zk ?_
 exact Y2_ h4 iL (.t (.d R))
theorem YKZ {w1:YAX} {q1:YAX} {r:Bool} {gb1000:Nat} (h:YFD w1 q1=some r):AHC Tryz.prog 199 1 [.agg (k22_ q1),.ptr 1000 gb1000 0 0] [(1000,some (.box gb1000 211 (k22_ w1)))] (fun rr h'=>∃ (i:Nat→Nat),rr=rB (r)∧h'=[(1000,some (.box gb1000 211 (k22_ w1)))]):=by
 unfold YFD at h
 refine AHC.mkw Tryz.func199 R R Tryz.ntmps199 (Ze R) fun n0=>?_
 refine aS fun _ hK1 _=>(aR (Zg R R R (ZR (cs:=(k22_ q1)) 2 R iL R R) (sA R R (aZ (hK1 _ ?_)))))
 refine aS fun _ hK2 _=>(aR (sQ R (ZF R YFO iL R R) (sQ R (ZF R YFO iL R R) (Zj h fun r1 er1 h1=>(Zg R R R (Zq (r:=rB (r1)) (caps:=[]) (bs:=[.agg (k22_ q1),.agg (k22_ w1)]) R iL R ⟨⟨_,iL,.g (cs:=[.int .i64 q1.Row,.int .i64 q1.Col,.int .i64 q1.H,.int .i64 q1.W]) R R⟩,⟨_,iL,.g (cs:=[.int .i64 w1.Row,.int .i64 w1.Col,.int .i64 w1.H,.int .i64 w1.W]) R R⟩,Za⟩ (fun _=>YNi (er1)) R) (sA R R (aZ (hK2 _ ?_))))))))
 refine Zk ?_
 exact RetW.mk (s':=⟨[(3,rB (r1))],[(1000,some (.box gb1000 211 (k22_ w1)))],(n0+1),7⟩) ((by exact Zc ⟨jL,Za⟩ ⟨.inl R,Za⟩ nL)) (YBQ (fun (r:Bool) rr h'=>∃ (i:Nat→Nat),rr=rB (r)∧h'=[(1000,some (.box gb1000 211 (k22_ w1)))]) h1 (by exact ⟨rB (r1),[(1000,some (.box gb1000 211 (k22_ w1)))],R,⟨.inr R,Za⟩,R,R,vec [],R,R⟩))
theorem YCI {w1:YAX} {s1:List YAX} {r:Int} {gb1000:Nat} (h:YAd w1 s1=some r):AHC Tryz.prog 219 1 [qc s1,.fn 199 [.ptr 1000 gb1000 0 0]] [(1000,some (.box gb1000 211 (k22_ w1)))] (fun rr h'=>∃ (i:Nat→Nat),rr=rI (r)∧h'=[(1000,some (.box gb1000 211 (k22_ w1)))]):=by
 unfold YAd at h
 refine AHC.mkw Tryz.func219 R R Tryz.ntmps219 (Ze R) fun n0=>?_
 refine aS fun _ hK1 _=>(aR (sA R R (aZ (hK1 _ ?_))))
 refine aS fun K2 hK2 wK2=>(aS fun _ hK3 _=>(aR (sM R R (sQ R (ZA R YFN.slice iL) (sM R R (aZ (hK3 _ ?_)))))))
 refine Zp ?_
 refine jc1k h fun o1 hit1 hk1 he1=>?_
 have J1 : ∀ (u2:Unit) (i5:Nat→Nat),o1 = .nrm u2→K2 ⟨[],[(1000,some (.box gb1000 211 (k22_ w1)))],(i5 0),19⟩:=by
  intro u2 i5 e
  have h1:=hk1 _ e
  refine hK2 _ ?_
  refine aS fun _ hK4 _=>(aR (sA R R (aZ (hK4 _ ?_))))
  refine Zk ?_
  exact RetW.mk (s':=⟨[(4,rI ((-1)))],[(1000,some (.box gb1000 211 (k22_ w1)))],(i5 0),19⟩) ((by exact Zc ⟨jL,Za⟩ ⟨.inl R,Za⟩ nL)) (YBQ (fun (r:Int) rr h'=>∃ (i:Nat→Nat),rr=rI (r)∧h'=[(1000,some (.box gb1000 211 (k22_ w1)))]) h1 (by exact ⟨rI ((-1)),[(1000,some (.box gb1000 211 (k22_ w1)))],R,⟨.inr R,Za⟩,R,R,vec [],R,R⟩))
 refine ZS (fun (x2:Int) i3=>⟨[(0,qc s1),(1,.fn 199 [.ptr 1000 gb1000 0 0]),(7,rI ((s1.length:Int))),(8,rI (x2))],[(1000,some (.box gb1000 211 (k22_ w1)))],(i3 0),19⟩) (vec [n0]) hit1 ((by exact Zc ⟨jL,jL,jL,jL,Za⟩ ⟨.inl R,Za⟩ nL)) ?_
 intro x2 i3 v1 hv1 hx1
 have h2:YAU w1 s1 x2=some v1:=hv1; unfold YAU at h2
 refine aS fun _ hK5 _=>(aR (sQ R (Zx R iL iL) (aZ (hK5 _ ?_))))
 refine aS fun _ hK6 _=>?_
 refine aC R (fun hc1=>?_) (fun hc1=>?_)
 ·have h3:=Zn hc1 h2
  refine Zi (hK6 _ ?_)
  refine aS fun _ hK7 _=>(Zp (aS fun _ hK8 _=>(aR (sM R R (sA R R (aZ (hK8 _ ?_)))))))
  refine aS fun _ hK9 _=>(aR (sM R R (sM R R (sM R R (Zj h3 fun x4 ex4 h4=>(sQ R (Zz R YFN.slice iL iL (fun _=>R) (fun _=>ex4)) (sQ R (ZM (cs:=(k22_ x4)) R YFO iL R R) (Zj h4 fun r1 er1 h5=>?_))))))))
  refine AOps.stepHI [1000] (hc:=[(1000,some (.box gb1000 211 (k22_ w1)))]) (bs:=[.agg (k22_ x4)]) (caps:=[.ptr 1000 gb1000 0 0]) R R R R iL R ⟨.inl ⟨iL,R⟩,Za⟩ ⟨R,R,R,Za⟩ (by decide) (YKZ er1) ?_
  intro i6 n1
  refine ZT (s':=⟨[(0,qc s1),(1,.fn 199 [.ptr 1000 gb1000 0 0]),(5,rI (x2)),(7,rI ((s1.length:Int))),(8,rI (x2)),(9,rB ((decide (x2<(s1.length:Int))))),(10,rI (x2)),(11,.fn 199 [.ptr 1000 gb1000 0 0]),(12,qc s1),(13,rI (x2)),(14,.rop (YAX.row x4) 0),(15,.agg (k22_ x4)),(16,rB (r1))],[(1000,some (.box gb1000 211 (k22_ w1)))],n1,19⟩) (by exact Zc ⟨jL,jL,jL,jL,jL,jL,jL,jL,jL,jL,jL,jL,jL,Za⟩ ⟨.inl R,Za⟩ nL) ?_
  refine aZ (hK9 _ ?_)
  refine aC R (fun hc2=>?_) (fun hc2=>?_)
  ·have h6:=Zn hc2 h5
   refine aS fun _ hK10 _=>?_
   refine Zh (s':=⟨[(5,rI (x2))],[(1000,some (.box gb1000 211 (k22_ w1)))],n1,19⟩) (by exact Zc ⟨jL,Za⟩ ⟨.inl R,Za⟩ nL) ?_
   refine aR (sM R R (sA R R (aZ (hK10 _ ?_))))
   refine Zk ?_
   exact RetW.mk (s':=⟨[(4,rI (x2))],[(1000,some (.box gb1000 211 (k22_ w1)))],n1,19⟩) ((by exact Zc ⟨jL,Za⟩ ⟨.inl R,Za⟩ nL)) (YBQ (fun (r:Int) rr h'=>∃ (i:Nat→Nat),rr=rI (r)∧h'=[(1000,some (.box gb1000 211 (k22_ w1)))]) (he1 _ (hx1 _ (Zd h6).symm)) (by exact ⟨rI (x2),[(1000,some (.box gb1000 211 (k22_ w1)))],R,⟨.inr R,Za⟩,R,R,vec [],R,R⟩))
  ·have h6:=Zo hc2 h5
   refine Zi (hK7 _ ?_)
   refine Zh (s':=⟨[(0,qc s1),(1,.fn 199 [.ptr 1000 gb1000 0 0]),(7,rI ((s1.length:Int))),(8,rI (x2))],[(1000,some (.box gb1000 211 (k22_ w1)))],n1,19⟩) (by exact Zc ⟨jL,jL,jL,jL,Za⟩ ⟨.inl R,Za⟩ nL) ?_
   refine aR (Zj h6 fun x5 ex5 h7=>(sQ R (ZI R iL iL (fun _=>ex5)) (sM R R ?_)))
   refine Zt ?_
   exact ZO h7 (vec [n1]) ((by exact Zc ⟨jL,jL,jL,jL,Za⟩ ⟨.inl R,Za⟩ nL))
 ·have h3:=Zo hc1 h2
  refine ZJ ?_
  exact wK2 _ _ ((by exact Zc Za ⟨.inl R,Za⟩ nL)) (J1 _ (vec [(i3 0)]) (hx1 _ (Zd h3).symm))
theorem YBu {w1:YAX} {s1:List YAX} {r:Bool} {gb1000:Nat} (h:YAO w1 s1=some r):AHC Tryz.prog 198 1 [qc s1,.fn 199 [.ptr 1000 gb1000 0 0]] [(1000,some (.box gb1000 211 (k22_ w1)))] (fun rr h'=>∃ (i:Nat→Nat),rr=rB (r)∧h'=[(1000,some (.box gb1000 211 (k22_ w1)))]):=by
 unfold YAO at h
 refine AHC.mkw Tryz.func198 R R Tryz.ntmps198 (Ze R) fun n0=>?_
 refine aS fun _ hK1 _=>(aR (sA R R (aZ (hK1 _ ?_))))
 refine aS fun _ hK2 _=>(aR (sM R R (sM R R (Zj h fun r1 er1 h1=>?_))))
 refine AOps.stepHI [1000] (hc:=[(1000,some (.box gb1000 211 (k22_ w1)))]) (bs:=[qc s1,.fn 199 [.ptr 1000 gb1000 0 0]]) (caps:=[]) R R R R iL R ⟨.inl ⟨iL,R⟩,.inl ⟨iL,R⟩,Za⟩ ⟨R,R,R,Za⟩ (by decide) (YCI er1) ?_
 intro i1 n1
 refine ZT (s':=⟨[(0,qc s1),(1,.fn 199 [.ptr 1000 gb1000 0 0]),(4,rB (false)),(5,qc s1),(6,.fn 199 [.ptr 1000 gb1000 0 0]),(7,rI (r1))],[(1000,some (.box gb1000 211 (k22_ w1)))],n1,9⟩) (by exact Zc ⟨jL,jL,jL,jL,jL,jL,Za⟩ ⟨.inl R,Za⟩ nL) ?_
 refine sQ R (YB5 R iL iL) (sA R R (aZ (hK2 _ ?_)))
 refine Zk ?_
 exact RetW.mk (s':=⟨[(4,rB ((decide (0≤r1))))],[(1000,some (.box gb1000 211 (k22_ w1)))],n1,9⟩) ((by exact Zc ⟨jL,Za⟩ ⟨.inl R,Za⟩ nL)) (YBQ (fun (r:Bool) rr h'=>∃ (i:Nat→Nat),rr=rB (r)∧h'=[(1000,some (.box gb1000 211 (k22_ w1)))]) h1 (by exact ⟨rB ((decide (0≤r1))),[(1000,some (.box gb1000 211 (k22_ w1)))],R,⟨.inr R,Za⟩,R,R,vec [],R,R⟩))
theorem YNl {g1:YAy} {r:Int} (h:YGF g1=some r):ARO Tryz.prog 171 (k17_ g1) (rI (r)):=by
 unfold YGF at h
 refine Zw Tryz.func171 R R Tryz.ntmps171 R (Ze R) fun n0=>?_
 refine aS fun _ hK1 _=>(aR (Zg R R R (ZR (cs:=(k20_ g1)) 1 R iL R R) (sA R R (aZ (hK1 _ ?_)))))
 refine aS fun _ hK2 _=>(aS fun _ hK3 _=>(aR (sQ R (fB R YEx iL fR R) (sQ R (Zb (a:=rI (g1.Rows)) R ts_3 iL R R) (sQ R (Zx R iL iL) (sM R R (sV R R R (fB R YEx iL fR R) (sV R R R (Zb (a:=rI (g1.Rows)) R ts_3 (iR R) R R) (sV R R R (ZV R (iR R) iL) (sQ R (ZC R iL (iR R)) (sM R R (sV R R R (fB R YEw iL fR R) (sV R R R (Zb (a:=rI (g1.Cols)) R ts_3 (iR R) R R) (sV R R R (Zx R (iR R) iL) (sQ R (ZC R iL (iR R)) (sM R R (sV R R R (fB R YEw iL fR R) (sV R R R (Zb (a:=rI (g1.Cols)) R ts_3 (iR R) R R) (sV R R R (ZV R (iR R) iL) (sQ R (ZC R iL (iR R)) (aZ (hK3 _ ?_))))))))))))))))))))))
 refine aC R (fun hc1=>?_) (fun hc1=>?_)
 ·have h1:=Zn hc1 h
  refine aS fun _ hK4 _=>?_
  refine Zh (s':=⟨[],[],(n0+1),81⟩) (by exact Zc Za Za nL) ?_
  refine aR (sA R R (aZ (hK4 _ ?_)))
  refine Zk ?_
  exact Y1_ h1 iL (.t (.d R))
 ·have h1:=Zo hc1 h
  refine Zi (hK2 _ ?_)
  refine aS fun _ hK5 _=>(aS fun _ hK6 _=>?_)
  refine Zh (s':=⟨[(1,.ptr 1 n0 0 0)],[(1,some (.box n0 43 (k20_ g1)))],(n0+1),81⟩) (by exact Zc ⟨jL,Za⟩ ⟨.inl R,Za⟩ nL) ?_
  refine aR (sQ R (fB R YES iL fR R) (sQ R (Zb (a:=qd g1.Cells) R YHv iL R R) (sQ R (fB R YEx iL fR R) (sQ R (Zb (a:=rI (g1.Rows)) R ts_3 iL R R) (sQ R (fB R YEw iL fR R) (sQ R (Zb (a:=rI (g1.Cols)) R ts_3 iL R R) (Zj h1 fun e1 ee1 h2=>(Zg R R R (Zq (r:=rI (e1)) (caps:=[]) (bs:=[qd g1.Cells,rI (g1.Rows),rI (g1.Cols),rB (false)]) R iL R ⟨⟨_,iL,.d R⟩,⟨_,iL,.d R⟩,⟨_,iL,.d R⟩,⟨_,iL,.d R⟩,Za⟩ (fun _=>YNk (ee1)) R) (sA R R (aZ (hK6 _ ?_)))))))))))
  refine aS fun _ hK7 _=>(aR (sM R R (sQ R (ZH R iL iL) (aZ (hK7 _ ?_)))))
  refine aC R (fun hc2=>?_) (fun hc2=>?_)
  ·have h3:=Zn hc2 h2
   refine aS fun _ hK8 _=>?_
   refine Zh (s':=⟨[(3,rI (e1))],[],(n0+1),81⟩) (by exact Zc ⟨jL,Za⟩ Za nL) ?_
   refine aR (sM R R (sA R R (aZ (hK8 _ ?_))))
   refine Zk ?_
   exact Y1_ h3 iL (.t (.d R))
  ·have h3:=Zo hc2 h2
   refine Zi (hK5 _ ?_)
   refine aS fun K9 hK9 wK9=>(aS fun _ hK10 _=>?_)
   refine Zh (s':=⟨[(1,.ptr 1 n0 0 0)],[(1,some (.box n0 43 (k20_ g1)))],(n0+1),81⟩) (by exact Zc ⟨jL,Za⟩ ⟨.inl R,Za⟩ nL) ?_
   refine aR (sQ R (fB R YDx iL fR R) (sQ R (Zb (a:=qc g1.Merges) R YGj iL R R) (sQ R (ZA R YFN.slice iL) (sM R R (aZ (hK10 _ ?_))))))
   refine Zp ?_
   refine jc1k h3 fun o1 hit1 hk1 he1=>?_
   have J1 : ∀ (u2:Unit) (i5:Nat→Nat),o1 = .nrm u2→K9 ⟨[],[],(i5 0),81⟩:=by
    intro u2 i5 e
    have h4:=hk1 _ e
    refine hK9 _ ?_
    refine aS fun _ hK11 _=>(aR (sA R R (aZ (hK11 _ ?_))))
    refine Zk ?_
    exact Y1_ h4 iL (.t (.d R))
   refine ZS (fun (x2:Int) i3=>⟨[(1,.ptr 1 n0 0 0),(35,qc g1.Merges),(36,rI ((g1.Merges.length:Int))),(37,rI (x2))],[(1,some (.box n0 43 (k20_ g1)))],(i3 0),81⟩) (vec [(n0+1)]) hit1 ((by exact Zc ⟨jL,jL,jL,jL,Za⟩ ⟨.inl R,Za⟩ nL)) ?_
   intro x2 i3 v1 hv1 hx1
   have h5:YEF g1 x2=some v1:=hv1; unfold YEF at h5
   refine aS fun _ hK12 _=>(aR (sQ R (Zx R iL iL) (aZ (hK12 _ ?_))))
   refine aS fun _ hK13 _=>?_
   refine aC R (fun hc3=>?_) (fun hc3=>?_)
   ·have h6:=Zn hc3 h5
    refine Zi (hK13 _ ?_)
    refine aS fun _ hK14 _=>(Zp (aS fun _ hK15 _=>(aR (sM R R (Zj h6 fun x4 ex4 h7=>(sQ R (Zz R YFN.slice iL iL (fun _=>R) (fun _=>ex4)) (sQ R (ZM (cs:=(k22_ x4)) R YFO iL R R) (Zg R R R (ZX (cs:=[rI (0),rI (0),rI (0),rI (0)]) 5 R YVC R R) (sA R R (ZD R R (ZB (ds:=(k22_ x4)) R YU7 iL R iL R R R R) (aZ (hK15 _ ?_))))))))))))
    refine Zp (aS fun _ hK16 _=>(aR (sQ R (ZF R YFO iL R R) (sQ R (fB R YEx iL fR R) (sQ R (Zb (a:=rI (g1.Rows)) R ts_3 iL R R) (sQ R (fB R YEw iL fR R) (sQ R (Zb (a:=rI (g1.Cols)) R ts_3 iL R R) (Zj h7 fun r1 er1 h8=>(Zg R R R (Zq (r:=rB (r1)) (caps:=[]) (bs:=[.agg (k22_ x4),rI (g1.Rows),rI (g1.Cols)]) R iL R ⟨⟨_,iL,.g (cs:=[.int .i64 x4.Row,.int .i64 x4.Col,.int .i64 x4.H,.int .i64 x4.W]) R R⟩,⟨_,iL,.d R⟩,⟨_,iL,.d R⟩,Za⟩ (fun _=>YMk (er1)) R) (sQ R (ZQ R iL) (sA R R (aZ (hK16 _ ?_)))))))))))))
    refine aC R (fun hc4=>?_) (fun hc4=>?_)
    ·have h9:=Zn hc4 h8
     refine aS fun _ hK17 _=>?_
     refine Zh (s':=⟨[],[],((i3 0)+1),81⟩) (by exact Zc Za Za nL) ?_
     refine aR (sA R R (aZ (hK17 _ ?_)))
     refine Zk ?_
     exact Y1_ (he1 _ (hx1 _ (Zd h9).symm)) iL (.t (.d R))
    ·have h9:=Zo hc4 h8
     refine aS fun _ hK18 _=>?_
     refine Zh (s':=⟨[(1,.ptr 1 n0 0 0),(4,rI (x2)),(5,.ptr 5 (i3 0) 0 0),(35,qc g1.Merges),(36,rI ((g1.Merges.length:Int))),(37,rI (x2))],[(1,some (.box n0 43 (k20_ g1))),(5,some (.box (i3 0) 211 (k22_ x4)))],((i3 0)+1),81⟩) (by exact Zc ⟨jL,jL,jL,jL,jL,jL,Za⟩ ⟨.inl R,.inl R,Za⟩ nL) ?_
     refine aR (sQ R (fB R YE5 iL fR R) (sQ R (Zb (a:=rI (x4.H)) R ts_3 iL R R) (sQ R (Zs R iL iL) (sM R R (sV R R R (fB R YE4 iL fR R) (sV R R R (Zb (a:=rI (x4.W)) R ts_3 (iR R) R R) (sV R R R (Zs R (iR R) iL) (sQ R (Zr R iL (iR R)) (sA R R (aZ (hK18 _ ?_)))))))))))
     refine aC R (fun hc5=>?_) (fun hc5=>?_)
     ·have h10:=Zn hc5 h9
      refine aS fun _ hK19 _=>?_
      refine Zh (s':=⟨[],[],((i3 0)+1),81⟩) (by exact Zc Za Za nL) ?_
      refine aR (sA R R (aZ (hK19 _ ?_)))
      refine Zk ?_
      exact Y1_ (he1 _ (hx1 _ (Zd h10).symm)) iL (.t (.d R))
     ·have h10:=Zo hc5 h9
      refine aS fun _ hK20 _=>?_
      refine ZW hmix (by kernel_rfl) ?_
      refine Zm R R R (Zf R iL) (Zm R R R (ZV R iL iL) (Zm R R R (Zf R iL) ?_))
      refine Zl (.one R R R) R R (fB R YDx iL fR R) ?_
      refine Zl (.one R R R) R R (Zb (a:=qc g1.Merges) R YGj (iR R) R R) ?_
      refine Zl (.one R R R) R R (Zf R iL) ?_
      refine Zj h10 fun x5 ex5 h11=>?_
      refine Zl (.one R R R) R R (YBf R (iR R) iL (gdt ex5)) ?_
      refine Zj h11 fun x6 ex6 h12=>?_
      refine Zl (.one R R R) R R (Zz R YFN.slice (iR R) (iR R) (fun _=>R) (gdt ex6)) ?_
      refine Zl (.one R R R) R R (ZM (cs:=(k22_ x6)) R YFO (iR R) R R) ?_
      refine Zl (.one R R R) R R (ZF R YFO iL R R) ?_
      refine Zj h12 fun r2 er2 h13=>?_
      refine AQ.stepWC (.one R R R) R R (r:=rB (r2)) (caps:=[]) (bs:=[.agg (k22_ x6),.agg (k22_ x4)]) R iL R ⟨⟨_,(iR R),.g (cs:=[.int .i64 x6.Row,.int .i64 x6.Col,.int .i64 x6.H,.int .i64 x6.W]) R R⟩,⟨_,(iR R),.g (cs:=[.int .i64 x4.Row,.int .i64 x4.Col,.int .i64 x4.H,.int .i64 x4.W]) R R⟩,Za⟩ (fun hg=>YMl (gdt er2 hg)) R ?_
      refine Zl (.one R R R) R R (ZQ R (iR R)) ?_
      refine Zm R R R (Zr R iL (iR R)) (Zm R R R (YCj R iL) ?_)
      refine AQ.nil ?_
      refine hK20 _ ?_
      refine aC R (fun hc6=>?_) (fun hc6=>?_)
      ·have h14:=Zn hc6 h13
       refine aS fun _ hK21 _=>?_
       refine Zh (s':=⟨[],[],((i3 0)+1),81⟩) (by exact Zc Za Za nL) ?_
       refine aR (sA R R (aZ (hK21 _ ?_)))
       refine Zk ?_
       exact Y1_ (he1 _ (hx1 _ (Zd h14).symm)) iL (.t (.d R))
      ·have h14:=Zo hc6 h13
       refine aS fun _ hK22 _=>?_
       refine Zh (s':=⟨[(1,.ptr 1 n0 0 0),(4,rI (x2)),(5,.ptr 5 (i3 0) 0 0),(35,qc g1.Merges),(36,rI ((g1.Merges.length:Int))),(37,rI (x2))],[(1,some (.box n0 43 (k20_ g1))),(5,some (.box (i3 0) 211 (k22_ x4)))],((i3 0)+1),81⟩) (by exact Zc ⟨jL,jL,jL,jL,jL,jL,Za⟩ ⟨.inl R,.inl R,Za⟩ nL) ?_
       refine aR (sQ R (fB R YDx iL fR R) (sQ R (Zb (a:=qc g1.Merges) R YGj iL R R) (sM R R (Zj h14 fun l1 el1 h15=>?_))))
       refine sQ R (YUM R YFN.slice iL (by exact R) (by exact ⟨_,iL⟩) (fun _=>R) (fun _=>el1)) ?_
       refine sQ R (YGQ (bs:=[.ptr 5 (i3 0) 0 0]) R (by exact ⟨iL,Za⟩)) ?_
       refine Zj h15 fun r3 er3 h16=>?_
       refine AOps.stepHI [5] (hc:=[(1000,some (.box (i3 0) 211 (k22_ x4)))]) (bs:=[qc l1,.fn 199 [.ptr 1000 (i3 0) 0 0]]) (caps:=[]) R R R R iL R ⟨.inl ⟨iL,R⟩,.inl ⟨iL,R⟩,Za⟩ ⟨R,R,R,Za⟩ (by decide) (YBu er3) ?_
       intro i6 n1
       refine ZT (s':=⟨[(1,.ptr 1 n0 0 0),(4,rI (x2)),(5,.ptr 5 (i3 0) 0 0),(35,qc g1.Merges),(36,rI ((g1.Merges.length:Int))),(37,rI (x2)),(74,.ptr 1 n0 0 3),(75,qc g1.Merges),(76,rI (x2)),(77,qc l1),(78,.fn 199 [.ptr 5 (i3 0) 0 0]),(79,rB (r3))],[(1,some (.box n0 43 (k20_ g1))),(5,some (.box (i3 0) 211 (k22_ x4)))],n1,81⟩) (by exact Zc ⟨jL,jL,jL,jL,jL,jL,jL,jL,jL,jL,jL,jL,Za⟩ ⟨.inl R,.inl R,Za⟩ nL) ?_
       refine sA R R (aZ (hK22 _ ?_))
       refine aC R (fun hc7=>?_) (fun hc7=>?_)
       ·have h17:=Zn hc7 h16
        refine aS fun _ hK23 _=>?_
        refine Zh (s':=⟨[],[],n1,81⟩) (by exact Zc Za Za nL) ?_
        refine aR (sA R R (aZ (hK23 _ ?_)))
        refine Zk ?_
        exact Y1_ (he1 _ (hx1 _ (Zd h17).symm)) iL (.t (.d R))
       ·have h17:=Zo hc7 h16
        refine Zi (hK14 _ ?_)
        refine Zh (s':=⟨[(1,.ptr 1 n0 0 0),(35,qc g1.Merges),(36,rI ((g1.Merges.length:Int))),(37,rI (x2))],[(1,some (.box n0 43 (k20_ g1)))],n1,81⟩) (by exact Zc ⟨jL,jL,jL,jL,Za⟩ ⟨.inl R,Za⟩ nL) ?_
        refine aR (Zj h17 fun x7 ex7 h18=>(sQ R (ZI R iL iL (fun _=>ex7)) (sM R R ?_)))
        refine Zt ?_
        exact ZO h18 (vec [n1]) ((by exact Zc ⟨jL,jL,jL,jL,Za⟩ ⟨.inl R,Za⟩ nL))
   ·have h6:=Zo hc3 h5
    refine ZJ ?_
    exact wK9 _ _ ((by exact Zc Za Za nL)) (J1 _ (vec [(i3 0)]) (hx1 _ (Zd h6).symm))
theorem YJp {kind1:Int} {l1:List YAY} {r:Int} (h:YDZ kind1 l1=some r):ARO Tryz.prog 172 [rI (kind1),qd l1] (rI (r)):=by
 unfold YDZ at h
 refine Zw Tryz.func172 R R Tryz.ntmps172 R (Ze R) fun n0=>?_
 refine aS fun _ hK1 _=>(aR (sA R R (aZ (hK1 _ ?_))))
 refine aS fun K2 hK2 wK2=>(aS fun _ hK3 _=>(aR (sM R R (sQ R (ZA R YDu.slice iL) (sM R R (aZ (hK3 _ ?_)))))))
 refine Zp ?_
 refine jc1k h fun o1 hit1 hk1 he1=>?_
 have J1 : ∀ (u2:Unit) (i5:Nat→Nat),o1 = .nrm u2→K2 ⟨[],[],(i5 0),36⟩:=by
  intro u2 i5 e
  have h1:=hk1 _ e
  refine hK2 _ ?_
  refine aS fun _ hK4 _=>(aR (sA R R (aZ (hK4 _ ?_))))
  refine Zk ?_
  exact Y1_ h1 iL (.t (.d R))
 refine ZS (fun (x2:Int) i3=>⟨[(0,rI (kind1)),(7,qd l1),(8,rI ((l1.length:Int))),(9,rI (x2))],[],(i3 0),36⟩) (vec [n0]) hit1 ((by exact Zc ⟨jL,jL,jL,jL,Za⟩ Za nL)) ?_
 intro x2 i3 v1 hv1 hx1
 have h2:YCS kind1 l1 x2=some v1:=hv1; unfold YCS at h2
 refine aS fun _ hK5 _=>(aR (sQ R (Zx R iL iL) (aZ (hK5 _ ?_))))
 refine aS fun _ hK6 _=>?_
 refine aC R (fun hc1=>?_) (fun hc1=>?_)
 ·have h3:=Zn hc1 h2
  refine Zi (hK6 _ ?_)
  refine aS fun _ hK7 _=>(Zp (aS fun _ hK8 _=>(aR (Zj h3 fun x4 ex4 h4=>(sQ R (Zz R YDu.slice iL iL (fun _=>R) (fun _=>ex4)) (sQ R (ZM (cs:=(k13_ x4)) R YFk iL R R) (Zg R R R (ZX (cs:=z16_) 6 R YMD R R) (ZD R R (ZB (ds:=(k13_ x4)) R YL7 iL R iL R R R R) (aZ (hK8 _ ?_))))))))))
  refine aS fun _ hK9 _=>(aR (sM R R (sQ R (Zs R iL iL) (sM R R (sV R R R (fB R YEb iL fR R) (sV R R R (Zb (a:=.r (.str x4.Text)) R ts_9 (iR R) R R) (sV R R R (YCz R (iR R) iL) (sV R R R (Zf R (iR R)) ?_))))))))
  refine sW (.two R R R) R (fB R YEa iL fR R) ?_
  refine sW (.two R R R) R (Zb (a:=qa x4.Attrs) R YCi (iR R) R R) ?_
  refine sW (.two R R R) R (ZA R YDI.slice (iR R)) ?_
  refine sW (.two R R R) R (ZV R (iR R) iL) ?_
  refine sV R R R (ZC R (iR R) (iR R)) (sQ R (Zr R iL (iR R)) (sM R R (sV R R R (Zf R iL) (sV R R R (Zs R (iR R) iL) (sV R R R (Zf R (iR R)) ?_)))))
  refine sW (.two R R R) R (fB R YCY iL fR R) ?_
  refine sW (.two R R R) R (Zb (a:=rI (x4.Ref)) R ts_3 (iR R) R R) ?_
  refine sW (.two R R R) R (ZH R (iR R) iL) ?_
  refine sV R R R (Zr R (iR R) (iR R)) (sQ R (ZC R iL (iR R)) (aZ (hK9 _ ?_)))
  refine aC R (fun hc2=>?_) (fun hc2=>?_)
  ·have h5:=Zn hc2 h4
   refine aS fun _ hK10 _=>?_
   refine Zh (s':=⟨[],[],((i3 0)+1),36⟩) (by exact Zc Za Za nL) ?_
   refine aR (sA R R (aZ (hK10 _ ?_)))
   refine Zk ?_
   exact Y1_ (he1 _ (hx1 _ (Zd h5).symm)) iL (.t (.d R))
  ·have h5:=Zo hc2 h4
   refine Zi (hK7 _ ?_)
   refine Zh (s':=⟨[(0,rI (kind1)),(7,qd l1),(8,rI ((l1.length:Int))),(9,rI (x2))],[],((i3 0)+1),36⟩) (by exact Zc ⟨jL,jL,jL,jL,Za⟩ Za nL) ?_
   refine aR (Zj h5 fun x5 ex5 h6=>(sQ R (ZI R iL iL (fun _=>ex5)) (sM R R ?_)))
   refine Zt ?_
   exact ZO h6 (vec [((i3 0)+1)]) ((by exact Zc ⟨jL,jL,jL,jL,Za⟩ Za nL))
 ·have h3:=Zo hc1 h2
  refine ZJ ?_
  exact wK2 _ _ ((by exact Zc Za Za nL)) (J1 _ (vec [(i3 0)]) (hx1 _ (Zd h3).symm))
theorem YKK {s1:List UInt8} {r:Bool} (h:YD1 s1=some r):ARO Tryz.prog 220 [.r (.str s1)] (rB (r)):=by
 unfold YD1 at h
 refine Zw Tryz.func220 R R Tryz.ntmps220 R (Ze R) fun n0=>?_
 refine aS fun _ hK1 _=>(aR (sA R R (aZ (hK1 _ ?_))))
 refine aS fun _ hK2 _=>(aS fun _ hK3 _=>(aR (sM R R (sQ R (YET R iL iL) (sM R R (sV R R R (Zf R iL) (sV R R R (YA1 R Tryz.underlying9 (iR R)) (sV R R R (ZV R (iR R) iL) (sQ R (ZC R iL (iR R)) (sM R R (sV R R R (Zf R iL) (sV R R R (Zf R iL) (sV R R R (YA1 R Tryz.underlying9 (iR R)) (Zj h fun x1 ex1 h1=>(sV R R R (YBf R (iR R) iL (gdt ex1)) (Zj h1 fun ch1 ech1 h2=>(sV R R R (ZZ R Tryz.underlying9 (iR R) (iR R) (gdt ech1)) (sV R R R (Zs R (iR R) iL) (sQ R (ZC R iL (iR R)) (aZ (hK3 _ ?_)))))))))))))))))))))
 refine aC R (fun hc1=>?_) (fun hc1=>?_)
 ·have h3:=Zn hc1 h2
  refine aS fun _ hK4 _=>?_
  refine Zh (s':=⟨[],[],n0,35⟩) (by exact Zc Za Za nL) ?_
  refine aR (sA R R (aZ (hK4 _ ?_)))
  refine Zk ?_
  exact Y2_ h3 iL (.t (.d R))
 ·have h3:=Zo hc1 h2
  refine Zi (hK2 _ ?_)
  refine aS fun K5 hK5 wK5=>(aS fun _ hK6 _=>?_)
  refine Zh (s':=⟨[(0,.r (.str s1))],[],n0,35⟩) (by exact Zc ⟨jL,Za⟩ Za nL) ?_
  refine aR (sM R R (sQ R (YA1 R Tryz.underlying9 iL) (sM R R (aZ (hK6 _ ?_)))))
  refine Zp ?_
  refine jc1k h3 fun o1 hit1 hk1 he1=>?_
  have J1 : ∀ (u2:Unit) (i5:Nat→Nat),o1 = .nrm u2→K5 ⟨[],[],(i5 0),35⟩:=by
   intro u2 i5 e
   have h4:=hk1 _ e
   refine hK5 _ ?_
   refine aS fun _ hK7 _=>(aR (sA R R (aZ (hK7 _ ?_))))
   refine Zk ?_
   exact Y2_ h4 iL (.t (.d R))
  refine ZS (fun (x3:Int) i3=>⟨[(0,.r (.str s1)),(20,rI ((s1.length:Int))),(21,rI (x3))],[],(i3 0),35⟩) (vec [n0]) hit1 ((by exact Zc ⟨jL,jL,jL,Za⟩ Za nL)) ?_
  intro x3 i3 v1 hv1 hx1
  have h5:YDd s1 x3=some v1:=hv1; unfold YDd at h5
  refine aS fun _ hK8 _=>(aR (sQ R (Zx R iL iL) (aZ (hK8 _ ?_))))
  refine aS fun _ hK9 _=>?_
  refine aC R (fun hc2=>?_) (fun hc2=>?_)
  ·have h6:=Zn hc2 h5
   refine Zi (hK9 _ ?_)
   refine aS fun _ hK10 _=>(Zp (aS fun _ hK11 _=>(aR (sM R R (sA R R (aZ (hK11 _ ?_)))))))
   refine aS fun _ hK12 _=>(aR (sM R R (sM R R (Zj h6 fun ch2 ech2 h7=>(sQ R (ZZ R Tryz.underlying9 iL iL (fun _=>ech2)) (sQ R (Zx R iL iL) (sM R R (sV R R R (Zf R iL) (sV R R R (Zf R iL) (sV R R R (ZZ R Tryz.underlying9 (iR R) (iR R) (fun _=>ech2)) (sV R R R (ZV R (iR R) iL) (sQ R (ZC R iL (iR R)) (aZ (hK12 _ ?_))))))))))))))
   refine aC R (fun hc3=>?_) (fun hc3=>?_)
   ·have h8:=Zn hc3 h7
    refine aS fun _ hK13 _=>?_
    refine Zh (s':=⟨[],[],(i3 0),35⟩) (by exact Zc Za Za nL) ?_
    refine aR (sA R R (aZ (hK13 _ ?_)))
    refine Zk ?_
    exact Y2_ (he1 _ (hx1 _ (Zd h8).symm)) iL (.t (.d R))
   ·have h8:=Zo hc3 h7
    refine Zi (hK10 _ ?_)
    refine Zh (s':=⟨[(0,.r (.str s1)),(20,rI ((s1.length:Int))),(21,rI (x3))],[],(i3 0),35⟩) (by exact Zc ⟨jL,jL,jL,Za⟩ Za nL) ?_
    refine aR (Zj h8 fun x5 ex5 h9=>(sQ R (ZI R iL iL (fun _=>ex5)) (sM R R ?_)))
    refine Zt ?_
    exact ZO h9 (vec [(i3 0)]) ((by exact Zc ⟨jL,jL,jL,Za⟩ Za nL))
  ·have h6:=Zo hc2 h5
   refine ZJ ?_
   exact wK5 _ _ ((by exact Zc Za Za nL)) (J1 _ (vec [(i3 0)]) (hx1 _ (Zd h6).symm))
theorem YNd {o1:YAN} {r:Int} (h:YF1 o1=some r):ARO Tryz.prog 201 (k6_ o1) (rI (r)):=by
 unfold YF1 at h
 refine Zw Tryz.func201 R R Tryz.ntmps201 R (Ze R) fun n0=>?_
 refine aS fun _ hK1 _=>(aR (Zg R R R (ZR (cs:=(k8_ o1)) 1 R iL R R) (sA R R (aZ (hK1 _ ?_)))))
 refine aS fun _ hK2 _=>(Zp (aS fun _ hK3 _=>(aR (sQ R (fB R YDy iL fR R) (sQ R (Zb (a:=rI (o1.Kind)) R ts_3 iL R R) (sQ R (ZH R iL iL) (sM R R (sV R R R (fB R YDy iL fR R) (sV R R R (Zb (a:=rI (o1.Kind)) R ts_3 (iR R) R R) (sV R R R (ZH R (iR R) iL) (sQ R (Zr R iL (iR R)) (sA R R (aZ (hK3 _ ?_))))))))))))))
 refine aC R (fun hc1=>?_) (fun hc1=>?_)
 ·have h1:=Zn hc1 h
  refine aS fun _ hK4 _=>?_
  refine Zh (s':=⟨[],[],(n0+1),116⟩) (by exact Zc Za Za nL) ?_
  refine aR (sA R R (aZ (hK4 _ ?_)))
  refine Zk ?_
  exact Y1_ h1 iL (.t (.d R))
 ·have h1:=Zo hc1 h
  refine aS fun _ hK5 _=>?_
  refine Zh (s':=⟨[(1,.ptr 1 n0 0 0)],[(1,some (.box n0 176 (k8_ o1)))],(n0+1),116⟩) (by exact Zc ⟨jL,Za⟩ ⟨.inl R,Za⟩ nL) ?_
  refine aR (sQ R (fB R YE6 iL fR R) (sQ R (Zb (a:=rI (o1.Clock)) R ts_3 iL R R) (sQ R (Zx R iL iL) (sM R R (sV R R R (fB R YE6 iL fR R) (sV R R R (Zb (a:=rI (o1.Clock)) R ts_3 (iR R) R R) (sV R R R (ZV R (iR R) iL) (sQ R (ZC R iL (iR R)) (sM R R (sV R R R (fB R YGO iL fR R) (sV R R R (Zb (a:=rI (o1.Site)) R ts_3 (iR R) R R) (sV R R R (Zx R (iR R) iL) (sQ R (ZC R iL (iR R)) (sM R R (sV R R R (fB R YGO iL fR R) (sV R R R (Zb (a:=rI (o1.Site)) R ts_3 (iR R) R R) (sV R R R (ZV R (iR R) iL) (sQ R (ZC R iL (iR R)) (sM R R (sV R R R (fB R YMt iL fR R) (sV R R R (Zb (a:=rI (o1.Item)) R ts_3 (iR R) R R) (sV R R R (Zx R (iR R) iL) (sQ R (ZC R iL (iR R)) (sM R R (sV R R R (fB R YMt iL fR R) (sV R R R (Zb (a:=rI (o1.Item)) R ts_3 (iR R) R R) (sV R R R (ZV R (iR R) iL) (sQ R (ZC R iL (iR R)) (sA R R ?_)))))))))))))))))))))))))))))
  refine aZ (hK5 _ ?_)
  refine aC R (fun hc2=>?_) (fun hc2=>?_)
  ·have h2:=Zn hc2 h1
   refine aS fun _ hK6 _=>?_
   refine Zh (s':=⟨[],[],(n0+1),116⟩) (by exact Zc Za Za nL) ?_
   refine aR (sA R R (aZ (hK6 _ ?_)))
   refine Zk ?_
   exact Y1_ h2 iL (.t (.d R))
  ·have h2:=Zo hc2 h1
   refine aS fun K7 hK7 wK7=>(aS fun _ hK8 _=>?_)
   refine Zh (s':=⟨[(1,.ptr 1 n0 0 0)],[(1,some (.box n0 176 (k8_ o1)))],(n0+1),116⟩) (by exact Zc ⟨jL,Za⟩ ⟨.inl R,Za⟩ nL) ?_
   refine aR (sQ R (fB R YDy iL fR R) (sQ R (Zb (a:=rI (o1.Kind)) R ts_3 iL R R) (sQ R (Zs R iL iL) (sM R R (sV R R R (fB R YJ0 iL fR R) (sV R R R (Zb (a:=.r (.str o1.Name)) R ts_9 (iR R) R R) (sV R R R (YCz R (iR R) iL) (sV R R R (Zf R (iR R)) ?_))))))))
   refine sW (.two R R R) R (fB R YHQ iL fR R) ?_
   refine sW (.two R R R) R (Zb (a:=.r (.str o1.Value)) R ts_9 (iR R) R R) ?_
   refine sW (.two R R R) R (YCz R (iR R) iL) ?_
   refine sV R R R (ZC R (iR R) (iR R)) (sQ R (Zr R iL (iR R)) (sA R R (aZ (hK8 _ ?_))))
   refine jb1k h2 fun p1 hp1 hk1=>?_
   have J1 : ∀ (x1:Bool) (i1:Nat→Nat),p1=x1→K7 ⟨[(1,.ptr 1 n0 0 0),(41,rB (x1))],[(1,some (.box n0 176 (k8_ o1)))],(i1 0),116⟩:=by
    intro x1 i1 e
    have h3:=hk1 _ e
    refine hK7 _ ?_
    refine aC R (fun hc3=>?_) (fun hc3=>?_)
    ·have h4:=Zn hc3 h3
     refine aS fun _ hK9 _=>(aR (sA R R (aZ (hK9 _ ?_))))
     refine Zk ?_
     exact Y1_ h4 iL (.t (.d R))
    ·have h4:=Zo hc3 h3
     refine aS fun _ hK10 _=>(aR (sQ R (fB R YDy iL fR R) (sQ R (Zb (a:=rI (o1.Kind)) R ts_3 iL R R) (sQ R (Zs R iL iL) (sM R R (sV R R R (fB R YIL iL fR R) (sV R R R (Zb (a:=rI (o1.Parent)) R ts_3 (iR R) R R) (sV R R R (Zx R (iR R) iL) (sV R R R (Zf R (iR R)) ?_)))))))))
     refine sW (.two R R R) R (fB R YIL iL fR R) ?_
     refine sW (.two R R R) R (Zb (a:=rI (o1.Parent)) R ts_3 (iR R) R R) ?_
     refine sW (.two R R R) R (ZV R (iR R) iL) ?_
     refine sV R R R (ZC R (iR R) (iR R)) (sQ R (Zr R iL (iR R)) (sA R R (aZ (hK10 _ ?_))))
     refine aC R (fun hc4=>?_) (fun hc4=>?_)
     ·have h5:=Zn hc4 h4
      refine aS fun _ hK11 _=>?_
      refine Zh (s':=⟨[],[],(i1 0),116⟩) (by exact Zc Za Za nL) ?_
      refine aR (sA R R (aZ (hK11 _ ?_)))
      refine Zk ?_
      exact Y1_ h5 iL (.t (.d R))
     ·have h5:=Zo hc4 h4
      refine aS fun K12 hK12 wK12=>(aS fun _ hK13 _=>?_)
      refine Zh (s':=⟨[(1,.ptr 1 n0 0 0)],[(1,some (.box n0 176 (k8_ o1)))],(i1 0),116⟩) (by exact Zc ⟨jL,Za⟩ ⟨.inl R,Za⟩ nL) ?_
      refine aR (sQ R (fB R YDy iL fR R) (sQ R (Zb (a:=rI (o1.Kind)) R ts_3 iL R R) (sQ R (Zs R iL iL) (sM R R (sV R R R (fB R YJ1 iL fR R) (sV R R R (Zb (a:=.r (.str o1.Place)) R ts_9 (iR R) R R) (Zj h5 fun r1 er1 h6=>?_)))))))
      refine ZE (.one R R R) R R (Zq (r:=rB (r1)) (caps:=[]) (bs:=[.r (.str o1.Place)]) R iL R ⟨⟨_,(iR R),.d R⟩,Za⟩ (fun hg=>YKK (gdt er1 hg)) R) ?_
      refine sV R R R (ZQ R (iR R)) (sQ R (Zr R iL (iR R)) (sA R R (aZ (hK13 _ ?_))))
      refine jb1k h6 fun p2 hp2 hk2=>?_
      have J2 : ∀ (x2:Bool) (i2:Nat→Nat),p2=x2→K12 ⟨[(1,.ptr 1 n0 0 0),(82,rB (x2))],[(1,some (.box n0 176 (k8_ o1)))],(i2 0),116⟩:=by
       intro x2 i2 e
       have h7:=hk2 _ e
       refine hK12 _ ?_
       refine aC R (fun hc5=>?_) (fun hc5=>?_)
       ·have h8:=Zn hc5 h7
        refine aS fun _ hK14 _=>(aR (sA R R (aZ (hK14 _ ?_))))
        refine Zk ?_
        exact Y1_ h8 iL (.t (.d R))
       ·have h8:=Zo hc5 h7
        refine aS fun _ hK15 _=>(aR (sQ R (fB R YDy iL fR R) (sQ R (Zb (a:=rI (o1.Kind)) R ts_3 iL R R) (sQ R (Zs R iL iL) (sM R R (sV R R R (fB R YHQ iL fR R) (sV R R R (Zb (a:=.r (.str o1.Value)) R ts_9 (iR R) R R) (sV R R R (YCz R (iR R) iL) (sQ R (Zr R iL (iR R)) (sM R R (sV R R R (fB R YHQ iL fR R) (sV R R R (Zb (a:=.r (.str o1.Value)) R ts_9 (iR R) R R) (Zj h8 fun r2 er2 h9=>?_)))))))))))))
        refine ZE (.one R R R) R R (Zq (r:=rB (r2)) (caps:=[]) (bs:=[.r (.str o1.Value)]) R iL R ⟨⟨_,(iR R),.d R⟩,Za⟩ (fun hg=>YGr (gdt er2 hg)) R) ?_
        refine sV R R R (ZQ R (iR R)) (sQ R (Zr R iL (iR R)) (sA R R (aZ (hK15 _ ?_))))
        refine aC R (fun hc6=>?_) (fun hc6=>?_)
        ·have h10:=Zn hc6 h9
         refine aS fun _ hK16 _=>?_
         refine Zh (s':=⟨[],[],(i2 0),116⟩) (by exact Zc Za Za nL) ?_
         refine aR (sA R R (aZ (hK16 _ ?_)))
         refine Zk ?_
         exact Y1_ h10 iL (.t (.d R))
        ·have h10:=Zo hc6 h9
         refine Zi (hK2 _ ?_)
         refine aS fun _ hK17 _=>?_
         refine Zh (s':=⟨[],[],(i2 0),116⟩) (by exact Zc Za Za nL) ?_
         refine aR (sA R R (aZ (hK17 _ ?_)))
         refine Zk ?_
         exact Y1_ h10 iL (.t (.d R))
      refine aC R (fun hc7=>?_) (fun hc7=>?_)
      ·have h11:=Zn hc7 hp2
       refine Zi ?_
       exact wK12 _ _ ((by exact Zc ⟨jL,jL,Za⟩ ⟨.inl R,Za⟩ nL)) (J2 _ (vec [(i1 0)]) (Zd h11).symm)
      ·have h11:=Zo hc7 hp2
       refine Zh (s':=⟨[(1,.ptr 1 n0 0 0)],[(1,some (.box n0 176 (k8_ o1)))],(i1 0),116⟩) (by exact Zc ⟨jL,Za⟩ ⟨.inl R,Za⟩ nL) ?_
       refine aR (sQ R (fB R YDy iL fR R) (sQ R (Zb (a:=rI (o1.Kind)) R ts_3 iL R R) (sQ R (Zs R iL iL) (sM R R (sV R R R (fB R YJ0 iL fR R) (sV R R R (Zb (a:=.r (.str o1.Name)) R ts_9 (iR R) R R) (Zj h11 fun r3 er3 h12=>?_)))))))
       refine ZE (.one R R R) R R (Zq (r:=rB (r3)) (caps:=[]) (bs:=[.r (.str o1.Name)]) R iL R ⟨⟨_,(iR R),.d R⟩,Za⟩ (fun hg=>YKf (gdt er3 hg)) R) ?_
       refine sV R R R (ZQ R (iR R)) (sQ R (Zr R iL (iR R)) (sA R R ?_))
       refine Zt ?_
       exact wK12 _ _ ((by exact Zc ⟨jL,jL,Za⟩ ⟨.inl R,Za⟩ nL)) (J2 _ (vec [(i1 0)]) (Zd h12).symm)
   refine aC R (fun hc8=>?_) (fun hc8=>?_)
   ·have h13:=Zn hc8 hp1
    refine Zi ?_
    exact wK7 _ _ ((by exact Zc ⟨jL,jL,Za⟩ ⟨.inl R,Za⟩ nL)) (J1 _ (vec [(n0+1)]) (Zd h13).symm)
   ·have h13:=Zo hc8 hp1
    refine Zh (s':=⟨[(1,.ptr 1 n0 0 0)],[(1,some (.box n0 176 (k8_ o1)))],(n0+1),116⟩) (by exact Zc ⟨jL,Za⟩ ⟨.inl R,Za⟩ nL) ?_
    refine aR (sQ R (fB R YDy iL fR R) (sQ R (Zb (a:=rI (o1.Kind)) R ts_3 iL R R) (sQ R (Zs R iL iL) (sM R R (sV R R R (fB R YIL iL fR R) (sV R R R (Zb (a:=rI (o1.Parent)) R ts_3 (iR R) R R) (sV R R R (ZH R (iR R) iL) (sV R R R (Zf R (iR R)) ?_))))))))
    refine sW (.two R R R) R (fB R YJ1 iL fR R) ?_
    refine sW (.two R R R) R (Zb (a:=.r (.str o1.Place)) R ts_9 (iR R) R R) ?_
    refine sW (.two R R R) R (YCz R (iR R) iL) ?_
    refine sV R R R (ZC R (iR R) (iR R)) (sQ R (Zr R iL (iR R)) (sA R R ?_))
    refine Zt ?_
    exact wK7 _ _ ((by exact Zc ⟨jL,jL,Za⟩ ⟨.inl R,Za⟩ nL)) (J1 _ (vec [(n0+1)]) (Zd h13).symm)
theorem YJm {a1:YAN} {b1:YAN} {r:Int} (h:YDV a1 b1=some r):ARO Tryz.prog 202 [.agg (k8_ a1),.agg (k8_ b1)] (rI (r)):=by
 unfold YDV at h
 refine Zw Tryz.func202 R R Tryz.ntmps202 R (Ze R) fun n0=>?_
 refine aS fun _ hK1 _=>(aR (Zg R R R (ZR (cs:=(k8_ a1)) 2 R iL R R) (Zg R R R (ZR (cs:=(k8_ b1)) 3 R iL R R) (sA R R (aZ (hK1 _ ?_))))))
 refine aS fun _ hK2 _=>(Zj h fun r1 er1 h1=>?_)
 refine AW.regionP 9 [⟨some 5,(fun _=>.ptr 2 n0 0 0),none,[]⟩,⟨some 6,(fun _=>rI (a1.Clock)),none,[]⟩,⟨some 7,(fun _=>.ptr 3 (n0+1) 0 0),none,[]⟩,⟨some 8,(fun _=>rI (b1.Clock)),none,[]⟩,⟨some 9,(fun _=>rI (r1)),none,[]⟩,⟨some 10,(fun _=>.ptr 2 n0 0 1),none,[]⟩,⟨some 11,(fun _=>rI (a1.Site)),none,[]⟩,⟨some 12,(fun _=>.ptr 3 (n0+1) 0 1),none,[]⟩,⟨some 13,(fun _=>rI (b1.Site)),none,[]⟩] hmix (by kernel_rfl) (by exact ⟨fun _ _ h=>⟨R,fun _ _ e=>by cases e⟩,fun _ _ h=>⟨R,fun _ _ e=>by cases e⟩,fun _ _ h=>⟨R,fun _ _ e=>by cases e⟩,fun _ _ h=>⟨R,fun _ _ e=>by cases e⟩,fun _ _ h=>⟨R,fun _ _ e=>by cases e⟩,fun _ _ h=>⟨R,fun _ _ e=>by cases e⟩,fun _ _ h=>⟨R,fun _ _ e=>by cases e⟩,fun _ _ h=>⟨R,fun _ _ e=>by cases e⟩,fun _ _ h=>⟨R,fun _ _ e=>by cases e⟩,Za⟩) R (by exact ⟨Zu (n1:=fun n=>n) R R (by intro d h; cases h; rfl) R (fun _=>[(2,.ptr 2 n0 0 0)]) (fun _=>[(2,some (.box n0 176 (k8_ a1)))]) (fun D G1 hr=>⟨ZU R R,Za⟩) (fun D G1 hr=>⟨ZG R R,Za⟩) (fun _ _=>R) (fun G1 e h' n=>Zv (v:=.ptr 2 n0 0 0) (fB R YE6 (.inl R) (fun _=>R) R) _),
   Zu (n1:=fun n=>n) R R (by intro d h; cases h; rfl) R (fun _=>[(5,.ptr 2 n0 0 0)]) (fun _=>[(2,some (.box n0 176 (k8_ a1)))]) (fun D G1 hr=>⟨ZK hr 0 R R (by kernel_rfl) R R,Za⟩) (fun D G1 hr=>⟨ZG R R,Za⟩) (fun _ _=>R) (fun G1 e h' n=>Zv (v:=rI (a1.Clock)) (Zb (a:=rI (a1.Clock)) R ts_3 (.inl R) R R) _),
   Zu (n1:=fun n=>n) R R (by intro d h; cases h; rfl) R (fun _=>[(3,.ptr 3 (n0+1) 0 0)]) (fun _=>[(3,some (.box (n0+1) 176 (k8_ b1)))]) (fun D G1 hr=>⟨ZU R R,Za⟩) (fun D G1 hr=>⟨ZG R R,Za⟩) (fun _ _=>R) (fun G1 e h' n=>Zv (v:=.ptr 3 (n0+1) 0 0) (fB R YE6 (.inl R) (fun _=>R) R) _),
   Zu (n1:=fun n=>n) R R (by intro d h; cases h; rfl) R (fun _=>[(7,.ptr 3 (n0+1) 0 0)]) (fun _=>[(3,some (.box (n0+1) 176 (k8_ b1)))]) (fun D G1 hr=>⟨ZK hr 2 R R (by kernel_rfl) R R,Za⟩) (fun D G1 hr=>⟨ZG R R,Za⟩) (fun _ _=>R) (fun G1 e h' n=>Zv (v:=rI (b1.Clock)) (Zb (a:=rI (b1.Clock)) R ts_3 (.inl R) R R) _),
   Zu (n1:=fun n=>n) R R (by intro d h; cases h; rfl) R (fun _=>[(6,rI (a1.Clock)),(8,rI (b1.Clock))]) (fun _=>[]) (fun D G1 hr=>⟨ZK hr 1 R R (by kernel_rfl) R R,ZK hr 3 R R (by kernel_rfl) R R,Za⟩) (fun D G1 hr=>Za) (fun _ _=>R) (fun G1 e h' n=>Zq (r:=rI (r1)) (caps:=[]) (bs:=[rI (a1.Clock),rI (b1.Clock)]) R (.inl R) R ⟨⟨_,(.inl R),.d R⟩,⟨_,(.inl R),.d R⟩,Za⟩ (fun _=>YDH (er1)) R),
   Zu (n1:=fun n=>n) R R (by intro d h; cases h; rfl) R (fun _=>[(2,.ptr 2 n0 0 0)]) (fun _=>[(2,some (.box n0 176 (k8_ a1)))]) (fun D G1 hr=>⟨ZU R R,Za⟩) (fun D G1 hr=>⟨ZG R R,Za⟩) (fun _ _=>R) (fun G1 e h' n=>Zv (v:=.ptr 2 n0 0 1) (fB R YGO (.inl R) (fun _=>R) R) _),
   Zu (n1:=fun n=>n) R R (by intro d h; cases h; rfl) R (fun _=>[(10,.ptr 2 n0 0 1)]) (fun _=>[(2,some (.box n0 176 (k8_ a1)))]) (fun D G1 hr=>⟨ZK hr 5 R R (by kernel_rfl) R R,Za⟩) (fun D G1 hr=>⟨ZG R R,Za⟩) (fun _ _=>R) (fun G1 e h' n=>Zv (v:=rI (a1.Site)) (Zb (a:=rI (a1.Site)) R ts_3 (.inl R) R R) _),
   Zu (n1:=fun n=>n) R R (by intro d h; cases h; rfl) R (fun _=>[(3,.ptr 3 (n0+1) 0 0)]) (fun _=>[(3,some (.box (n0+1) 176 (k8_ b1)))]) (fun D G1 hr=>⟨ZU R R,Za⟩) (fun D G1 hr=>⟨ZG R R,Za⟩) (fun _ _=>R) (fun G1 e h' n=>Zv (v:=.ptr 3 (n0+1) 0 1) (fB R YGO (.inl R) (fun _=>R) R) _),
   Zu (n1:=fun n=>n) R R (by intro d h; cases h; rfl) R (fun _=>[(12,.ptr 3 (n0+1) 0 1)]) (fun _=>[(3,some (.box (n0+1) 176 (k8_ b1)))]) (fun D G1 hr=>⟨ZK hr 7 R R (by kernel_rfl) R R,Za⟩) (fun D G1 hr=>⟨ZG R R,Za⟩) (fun _ _=>R) (fun G1 e h' n=>Zv (v:=rI (b1.Site)) (Zb (a:=rI (b1.Site)) R ts_3 (.inl R) R R) _),
   Za⟩) fun G1 n1=>?_
 refine ZT (s':=⟨[(0,.agg (k8_ a1)),(1,.agg (k8_ b1)),(2,.ptr 2 n0 0 0),(3,.ptr 3 (n0+1) 0 0),(4,rI (0)),(5,.ptr 2 n0 0 0),(6,rI (a1.Clock)),(7,.ptr 3 (n0+1) 0 0),(8,rI (b1.Clock)),(9,rI (r1)),(10,.ptr 2 n0 0 1),(11,rI (a1.Site)),(12,.ptr 3 (n0+1) 0 1),(13,rI (b1.Site))],[(2,some (.box n0 176 (k8_ a1))),(3,some (.box (n0+1) 176 (k8_ b1)))],n1,17⟩) (by exact Zc ⟨jL,jL,jL,jL,jL,jL,jL,jL,jL,jL,jL,jL,jL,jL,Za⟩ ⟨.inl R,.inl R,Za⟩ nL) ?_
 refine Zj h1 fun r2 er2 h2=>(Zg R R R (Zq (r:=rI (r2)) (caps:=[]) (bs:=[rI (a1.Site),rI (b1.Site)]) R iL R ⟨⟨_,iL,.d R⟩,⟨_,iL,.d R⟩,Za⟩ (fun _=>YDH (er2)) R) (Zg R R R (YCs 15 R YCD (f:=(rInt .i64)) (l:=([r1,r2]:List Int)) ⟨R,⟨_,iL,R⟩,R,⟨_,iL,R⟩,Za⟩ R (fun _=>R) R) (Zj h2 fun r3 er3 h3=>(Zg R R R (Zq (r:=rI (r3)) (caps:=[]) (bs:=[.r (.sl ([r1,r2].map (rInt .i64)))]) R iL R ⟨⟨_,iL,.one (.own R)⟩,Za⟩ (fun _=>YJK (er3)) R) (sA R R (aZ (hK2 _ ?_)))))))
 refine Zk ?_
 exact Y1_ h3 iL (.t (.d R))
theorem YKL {l1:List YAN} {r:Int} (h:YD2 l1=some r):ARO Tryz.prog 173 [qe l1] (rI (r)):=by
 unfold YD2 at h
 refine Zw Tryz.func173 R R Tryz.ntmps173 R (Ze R) fun n0=>?_
 refine aS fun _ hK1 _=>(aR (sA R R (aZ (hK1 _ ?_))))
 refine aS fun K2 hK2 wK2=>(aS fun _ hK3 _=>(aR (sM R R (sQ R (ZA R YHw.slice iL) (sM R R (aZ (hK3 _ ?_)))))))
 refine Zp ?_
 refine jc1k h fun o1 hit1 hk1 he1=>?_
 have J1 : ∀ (u2:Unit) (i5:Nat→Nat),o1 = .nrm u2→K2 ⟨[],[],(i5 0),31⟩:=by
  intro u2 i5 e
  have h1:=hk1 _ e
  refine hK2 _ ?_
  refine aS fun _ hK4 _=>(aR (sA R R (aZ (hK4 _ ?_))))
  refine Zk ?_
  exact Y1_ h1 iL (.t (.d R))
 refine ZS (fun (x2:Int) i3=>⟨[(0,qe l1),(6,qe l1),(7,rI ((l1.length:Int))),(8,rI (x2))],[],(i3 0),31⟩) (vec [n0]) hit1 ((by exact Zc ⟨jL,jL,jL,jL,Za⟩ Za nL)) ?_
 intro x2 i3 v1 hv1 hx1
 have h2:YCk l1 x2=some v1:=hv1; unfold YCk at h2
 refine aS fun _ hK5 _=>(aR (sQ R (Zx R iL iL) (aZ (hK5 _ ?_))))
 refine aS fun _ hK6 _=>?_
 refine aC R (fun hc1=>?_) (fun hc1=>?_)
 ·have h3:=Zn hc1 h2
  refine Zi (hK6 _ ?_)
  refine aS fun _ hK7 _=>(Zp (aS fun _ hK8 _=>(aR (sM R R (Zj h3 fun x4 ex4 h4=>(sQ R (Zz R YHw.slice iL iL (fun _=>R) (fun _=>ex4)) (sQ R (ZM (cs:=(k8_ x4)) R YIN iL R R) (Zg R R R (ZX (cs:=[rI (0),rI (0),rI (0),rI (0),rI (0),.r (.str []),.r (.str []),.r (.str [])]) 4 R YVD R R) (sA R R (ZD R R (ZB (ds:=(k8_ x4)) R YU8 iL R iL R R R R) (aZ (hK8 _ ?_))))))))))))
  refine aS fun _ hK9 _=>(aS fun _ hK10 _=>(aR (sQ R (ZF R YIN iL R R) (Zj h4 fun e1 ee1 h5=>(Zg R R R (Zq (r:=rI (e1)) (caps:=[]) (bs:=(k6_ x4)) R iL R ⟨⟨_,iL,.g (cs:=[.int .i64 x4.Clock,.int .i64 x4.Site,.int .i64 x4.Kind,.int .i64 x4.Item,.int .i64 x4.Parent,.str x4.Place,.str x4.Name,.str x4.Value]) R R⟩,Za⟩ (fun _=>YNd (ee1)) R) (sA R R (aZ (hK10 _ ?_))))))))
  refine aS fun _ hK11 _=>(aR (sM R R (sQ R (ZH R iL iL) (aZ (hK11 _ ?_)))))
  refine aC R (fun hc2=>?_) (fun hc2=>?_)
  ·have h6:=Zn hc2 h5
   refine aS fun _ hK12 _=>?_
   refine Zh (s':=⟨[(5,rI (e1))],[],((i3 0)+1),31⟩) (by exact Zc ⟨jL,Za⟩ Za nL) ?_
   refine aR (sM R R (sA R R (aZ (hK12 _ ?_))))
   refine Zk ?_
   exact Y1_ (he1 _ (hx1 _ (Zd h6).symm)) iL (.t (.d R))
  ·have h6:=Zo hc2 h5
   refine Zi (hK9 _ ?_)
   refine aS fun _ hK13 _=>?_
   refine Zh (s':=⟨[(0,qe l1),(3,rI (x2)),(4,.ptr 4 (i3 0) 0 0),(6,qe l1),(7,rI ((l1.length:Int))),(8,rI (x2))],[(4,some (.box (i3 0) 176 (k8_ x4)))],((i3 0)+1),31⟩) (by exact Zc ⟨jL,jL,jL,jL,jL,jL,Za⟩ ⟨.inl R,Za⟩ nL) ?_
   refine ZW hmix (by kernel_rfl) ?_
   refine Zm R R R (Zf R iL) (Zm R R R (ZV R iL iL) (Zm R R R (Zf R iL) ?_))
   refine Zl (.one R R R) R R (Zf R iL) ?_
   refine Zl (.one R R R) R R (Zf R iL) ?_
   refine Zj h6 fun x5 ex5 h7=>?_
   refine Zl (.one R R R) R R (YBf R (iR R) iL (gdt ex5)) ?_
   refine Zj h7 fun x6 ex6 h8=>?_
   refine Zl (.one R R R) R R (Zz R YHw.slice (iR R) (iR R) (fun _=>R) (gdt ex6)) ?_
   refine Zl (.one R R R) R R (ZM (cs:=(k8_ x6)) R YIN (iR R) R R) ?_
   refine Zl (.one R R R) R R (ZF R YIN iL R R) ?_
   refine Zj h8 fun r1 er1 h9=>?_
   refine AQ.stepWC (.one R R R) R R (r:=rI (r1)) (caps:=[]) (bs:=[.agg (k8_ x6),.agg (k8_ x4)]) R iL R ⟨⟨_,(iR R),.g (cs:=[.int .i64 x6.Clock,.int .i64 x6.Site,.int .i64 x6.Kind,.int .i64 x6.Item,.int .i64 x6.Parent,.str x6.Place,.str x6.Name,.str x6.Value]) R R⟩,⟨_,(iR R),.g (cs:=[.int .i64 x4.Clock,.int .i64 x4.Site,.int .i64 x4.Kind,.int .i64 x4.Item,.int .i64 x4.Parent,.str x4.Place,.str x4.Name,.str x4.Value]) R R⟩,Za⟩ (fun hg=>YJm (gdt er1 hg)) R ?_
   refine Zl (.one R R R) R R (YB5 R (iR R) iL) ?_
   refine Zm R R R (Zr R iL (iR R)) ?_
   refine AQ.nil ?_
   refine hK13 _ ?_
   refine aC R (fun hc3=>?_) (fun hc3=>?_)
   ·have h10:=Zn hc3 h9
    refine aS fun _ hK14 _=>?_
    refine Zh (s':=⟨[],[],((i3 0)+1),31⟩) (by exact Zc Za Za nL) ?_
    refine aR (sA R R (aZ (hK14 _ ?_)))
    refine Zk ?_
    exact Y1_ (he1 _ (hx1 _ (Zd h10).symm)) iL (.t (.d R))
   ·have h10:=Zo hc3 h9
    refine Zi (hK7 _ ?_)
    refine aR (Zj h10 fun x7 ex7 h11=>(sQ R (ZI R iL iL (fun _=>ex7)) (sM R R ?_)))
    refine Zt ?_
    exact ZO h11 (vec [((i3 0)+1)]) ((by exact Zc ⟨jL,jL,jL,jL,Za⟩ Za nL))
 ·have h3:=Zo hc1 h2
  refine ZJ ?_
  exact wK2 _ _ ((by exact Zc Za Za nL)) (J1 _ (vec [(i3 0)]) (hx1 _ (Zd h3).symm))
theorem YKe {n1:YAP} {r:Int} (h:YBL n1=some r):ARO Tryz.prog 127 (k5_ n1) (rI (r)):=by
 unfold YBL at h
 refine Zw Tryz.func127 R R Tryz.ntmps127 R (Ze R) fun n0=>?_
 refine aS fun _ hK1 _=>(aR (Zg R R R (ZR (cs:=(k7_ n1)) 1 R iL R R) (sA R R (aZ (hK1 _ ?_)))))
 refine aS fun _ hK2 _=>(Zp (aS fun _ hK3 _=>(aR (sQ R (fB R YCX iL fR R) (sQ R (Zb (a:=rI (n1.ID)) R ts_3 iL R R) (sQ R (Zx R iL iL) (sM R R (sV R R R (fB R YCX iL fR R) (sV R R R (Zb (a:=rI (n1.ID)) R ts_3 (iR R) R R) (sV R R R (ZV R (iR R) iL) (sQ R (ZC R iL (iR R)) (sA R R (aZ (hK3 _ ?_))))))))))))))
 refine aC R (fun hc1=>?_) (fun hc1=>?_)
 ·have h1:=Zn hc1 h
  refine aS fun _ hK4 _=>?_
  refine Zh (s':=⟨[],[],(n0+1),107⟩) (by exact Zc Za Za nL) ?_
  refine aR (sA R R (aZ (hK4 _ ?_)))
  refine Zk ?_
  exact Y1_ h1 iL (.t (.d R))
 ·have h1:=Zo hc1 h
  refine aS fun _ hK5 _=>?_
  refine Zh (s':=⟨[(1,.ptr 1 n0 0 0)],[(1,some (.box n0 46 (k7_ n1)))],(n0+1),107⟩) (by exact Zc ⟨jL,Za⟩ ⟨.inl R,Za⟩ nL) ?_
  refine aR (sQ R (fB R YBI iL fR R) (sQ R (Zb (a:=rI (n1.Kind)) R ts_3 iL R R) (sQ R (Zx R iL iL) (sM R R (sV R R R (fB R YBI iL fR R) (sV R R R (Zb (a:=rI (n1.Kind)) R ts_3 (iR R) R R) (sV R R R (YB5 R (iR R) iL) (sQ R (ZC R iL (iR R)) (sM R R (sV R R R (fB R YCX iL fR R) (sV R R R (Zb (a:=rI (n1.ID)) R ts_3 (iR R) R R) (sV R R R (Zs R (iR R) iL) (sV R R R (fB R YBI iL fR R) (sV R R R (Zb (a:=rI (n1.Kind)) R ts_3 (iR R) R R) (sV R R R (Zs R (iR R) iL) (sV R R R (YSF R Tryz.underlying4 (iR R) (iR R)) (sQ R (ZC R iL (iR R)) (sA R R (aZ (hK5 _ ?_))))))))))))))))))))
  refine aC R (fun hc2=>?_) (fun hc2=>?_)
  ·have h2:=Zn hc2 h1
   refine aS fun _ hK6 _=>?_
   refine Zh (s':=⟨[],[],(n0+1),107⟩) (by exact Zc Za Za nL) ?_
   refine aR (sA R R (aZ (hK6 _ ?_)))
   refine Zk ?_
   exact Y1_ h2 iL (.t (.d R))
  ·have h2:=Zo hc2 h1
   refine Zi (hK2 _ ?_)
   refine aS fun _ hK7 _=>(aS fun _ hK8 _=>?_)
   refine Zh (s':=⟨[(1,.ptr 1 n0 0 0)],[(1,some (.box n0 46 (k7_ n1)))],(n0+1),107⟩) (by exact Zc ⟨jL,Za⟩ ⟨.inl R,Za⟩ nL) ?_
   refine aR (sQ R (fB R YMs iL fR R) (sQ R (Zb (a:=qa n1.Attrs) R YCi iL R R) (Zj h2 fun e1 ee1 h3=>(Zg R R R (Zq (r:=rI (e1)) (caps:=[]) (bs:=[qa n1.Attrs]) R iL R ⟨⟨_,iL,.d R⟩,Za⟩ (fun _=>YGs (ee1)) R) (sA R R (aZ (hK8 _ ?_)))))))
   refine aS fun _ hK9 _=>(aR (sM R R (sQ R (ZH R iL iL) (aZ (hK9 _ ?_)))))
   refine aC R (fun hc3=>?_) (fun hc3=>?_)
   ·have h4:=Zn hc3 h3
    refine aS fun _ hK10 _=>(aR (sM R R (sA R R (aZ (hK10 _ ?_)))))
    refine Zk ?_
    exact Y1_ h4 iL (.t (.d R))
   ·have h4:=Zo hc3 h3
    refine Zi (hK7 _ ?_)
    refine aS fun _ hK11 _=>?_
    refine ZW hmix (by kernel_rfl) ?_
    refine Zm R R R (fB R YBI iL fR R) (Zm R R R (Zb (a:=rI (n1.Kind)) R ts_3 iL R R) (Zj h4 fun r1 er1 h5=>?_))
    refine AQ.stepC R R R (r:=rB (r1)) (caps:=[]) (bs:=[rI (n1.Kind)]) R iL R ⟨⟨_,iL,.d R⟩,Za⟩ (fun _=>YHq (er1)) R ?_
    refine Zm R R R (Zf R iL) ?_
    refine Zl (.one R R R) R R (fB R YBI iL fR R) ?_
    refine Zl (.one R R R) R R (Zb (a:=rI (n1.Kind)) R ts_3 (iR R) R R) ?_
    refine Zj h5 fun r2 er2 h6=>?_
    refine AQ.stepWC (.one R R R) R R (r:=rB (r2)) (caps:=[]) (bs:=[rI (n1.Kind)]) R iL R ⟨⟨_,(iR R),.d R⟩,Za⟩ (fun hg=>YO7 (gdt er2 hg)) R ?_
    refine Zm R R R (ZC R iL (iR R)) (Zm R R R (fB R YBI iL fR R) (Zm R R R (Zb (a:=rI (n1.Kind)) R ts_3 iL R R) (Zj h6 fun grids1 egrids1 h7=>?_)))
    refine AQ.stepC R R R (r:=rB (grids1)) (caps:=[]) (bs:=[rI (n1.Kind)]) R iL R ⟨⟨_,iL,.d R⟩,Za⟩ (fun _=>YO9 (egrids1)) R ?_
    refine Zm R R R (YCj R iL) (Zm R R R (YCj R iL) ?_)
    refine AQ.nil ?_
    refine hK11 _ ?_
    refine aS fun _ hK12 _=>(aS fun K13 hK13 wK13=>?_)
    refine Zh (s':=⟨[(1,.ptr 1 n0 0 0),(4,rB ((r1 || r2))),(5,rB (grids1))],[(1,some (.box n0 46 (k7_ n1)))],(n0+1),107⟩) (by exact Zc ⟨jL,jL,jL,Za⟩ ⟨.inl R,Za⟩ nL) ?_
    refine aR (sM R R (sQ R (ZQ R iL) (sM R R (sV R R R (fB R YBi iL fR R) (sV R R R (Zb (a:=qb n1.Flow) R YC4 (iR R) R R) (sV R R R (ZA R YBN.slice (iR R)) (sV R R R (ZV R (iR R) iL) (sQ R (Zr R iL (iR R)) (sM R R (sV R R R (Zf R iL) (sV R R R (ZQ R (iR R)) (sV R R R (Zf R (iR R)) ?_))))))))))))
    refine sW (.two R R R) R (fB R YEv iL fR R) ?_
    refine sW (.two R R R) R (YA7 (ds:=(k20_ n1.Grid)) R YQ7 (iR R) R R R) ?_
    refine sW (.two R R R) R (YBD R tb_43 (q:=[]) (by exact Za) (cs:=z14_) (by rfl)) ?_
    refine jb1k h7 fun p1 hp1 hk1=>?_
    have J1 : ∀ (x1:Bool) (i1:Nat→Nat),p1=x1→K13 ⟨[(1,.ptr 1 n0 0 0),(4,rB ((r1 || r2))),(5,rB (grids1)),(81,rB (x1))],[(1,some (.box n0 46 (k7_ n1)))],(i1 0),107⟩:=by
     intro x1 i1 e
     have h8:=hk1 _ e
     refine hK13 _ ?_
     refine aC R (fun hc4=>?_) (fun hc4=>?_)
     ·have h9:=Zn hc4 h8
      refine aS fun _ hK14 _=>(aR (sA R R (aZ (hK14 _ ?_))))
      refine Zk ?_
      exact Y1_ h9 iL (.t (.d R))
     ·have h9:=Zo hc4 h8
      refine Zi (hK12 _ ?_)
      refine aS fun _ hK15 _=>(Zp (aS fun _ hK16 _=>(aR (sM R R (sA R R (aZ (hK16 _ ?_)))))))
      refine aC R (fun hc5=>?_) (fun hc5=>?_)
      ·have h10:=Zn hc5 h9
       refine aS fun _ hK17 _=>?_
       refine ZW hmix (by kernel_rfl) ?_
       refine Zm R R R (fB R YBi iL fR R) (Zm R R R (Zb (a:=qb n1.Flow) R YC4 iL R R) (Zm R R R (fB R YBI iL fR R) (Zm R R R (Zb (a:=rI (n1.Kind)) R ts_3 iL R R) ?_)))
       refine AQ.stepC R R R (r:=rB (r1)) (caps:=[]) (bs:=[rI (n1.Kind)]) R iL R ⟨⟨_,iL,.d R⟩,Za⟩ (fun _=>YHq (er1)) R ?_
       refine Zj h10 fun r4 er4 h11=>?_
       refine AQ.stepC R R R (r:=rI (r4)) (caps:=[]) (bs:=[qb n1.Flow,rB (r1)]) R iL R ⟨⟨_,iL,.d R⟩,⟨_,iL,.d R⟩,Za⟩ (fun _=>YNm (er4)) R ?_
       refine Zm R R R (YCj R iL) ?_
       refine AQ.nil ?_
       refine hK17 _ ?_
       refine Zk ?_
       exact Y1_ h11 iL (.t (.d R))
      ·have h10:=Zo hc5 h9
       refine aS fun _ hK18 _=>(aR (sM R R (sA R R (aZ (hK18 _ ?_)))))
       refine aC R (fun hc6=>?_) (fun hc6=>?_)
       ·have h12:=Zn hc6 h10
        refine aS fun _ hK19 _=>(aS fun _ hK20 _=>(aR (sQ R (fB R YEv iL fR R) (sQ R (YA7 (ds:=(k20_ n1.Grid)) R YQ7 iL R R R) (Zj h12 fun e2 ee2 h13=>(Zg R R R (Zq (r:=rI (e2)) (caps:=[]) (bs:=(k17_ n1.Grid)) R iL R ⟨⟨_,iL,.g (cs:=[.int .i64 n1.Grid.Rows,.int .i64 n1.Grid.Cols,.sl (n1.Grid.Cells.map YAY.row),.sl (n1.Grid.Merges.map YAX.row)]) R R⟩,Za⟩ (fun _=>YNl (ee2)) R) (sA R R (aZ (hK20 _ ?_)))))))))
        refine aS fun _ hK21 _=>?_
        refine Zh (s':=⟨[(1,.ptr 1 n0 0 0),(6,rI (e2))],[(1,some (.box n0 46 (k7_ n1)))],(i1 0),107⟩) (by exact Zc ⟨jL,jL,Za⟩ ⟨.inl R,Za⟩ nL) ?_
        refine aR (sM R R (sQ R (ZH R iL iL) (aZ (hK21 _ ?_))))
        refine aC R (fun hc7=>?_) (fun hc7=>?_)
        ·have h14:=Zn hc7 h13
         refine aS fun _ hK22 _=>(aR (sM R R (sA R R (aZ (hK22 _ ?_)))))
         refine Zk ?_
         exact Y1_ h14 iL (.t (.d R))
        ·have h14:=Zo hc7 h13
         refine Zi (hK19 _ ?_)
         refine aS fun _ hK23 _=>(aR (sQ R (fB R YBI iL fR R) (sQ R (Zb (a:=rI (n1.Kind)) R ts_3 iL R R) (sQ R (fB R YEv iL fR R) (sQ R (fB R YES iL fR R) (sQ R (Zb (a:=qd n1.Grid.Cells) R YHv iL R R) (Zj h14 fun r5 er5 h15=>(Zg R R R (Zq (r:=rI (r5)) (caps:=[]) (bs:=[rI (n1.Kind),qd n1.Grid.Cells]) R iL R ⟨⟨_,iL,.d R⟩,⟨_,iL,.d R⟩,Za⟩ (fun _=>YJp (er5)) R) (sA R R (aZ (hK23 _ ?_)))))))))))
         refine Zk ?_
         exact Y1_ h15 iL (.t (.d R))
       ·have h12:=Zo hc6 h10
        refine Zi (hK15 _ ?_)
        refine aS fun _ hK24 _=>(aR (sQ R (fB R YGt iL fR R) (sQ R (Zb (a:=qe n1.Draw) R YLk iL R R) (Zj h12 fun r6 er6 h16=>(Zg R R R (Zq (r:=rI (r6)) (caps:=[]) (bs:=[qe n1.Draw]) R iL R ⟨⟨_,iL,.d R⟩,Za⟩ (fun _=>YKL (er6)) R) (sA R R (aZ (hK24 _ ?_))))))))
        refine Zk ?_
        exact Y1_ h16 iL (.t (.d R))
    refine AOps.split (((!(r1 || r2)) && (decide (0<(n1.Flow.length:Int)))) == false) (fun hg1=>?_) (fun hg1=>?_)
    ·have h17:=Zn hg1 hp1
     refine ZT (by exact Weak.unw2 (e':=[(1,.ptr 1 n0 0 0),(4,rB ((r1 || r2))),(5,rB (grids1)),(51,rB ((r1 || r2))),(52,rB ((!(r1 || r2)))),(53,rB ((!(r1 || r2)))),(58,rB (((!(r1 || r2)) && (decide (0<(n1.Flow.length:Int)))))),(59,rB (((!(r1 || r2)) && (decide (0<(n1.Flow.length:Int)))))),(60,rB (grids1)),(61,rB ((!grids1))),(62,rB ((!grids1))),(63,.whn ((!grids1) == true) (.ptr 1 n0 0 4)),(64,.whn ((!grids1) == true) (.agg (k20_ n1.Grid))),(65,.whn ((!grids1) == true) (.agg z14_))]) hg1 ⟨.inl R,.inl R,.inl R,.inl R,.inl R,.inl R,.inl R,.inl R,.inr iL,.inr iL,.inr iL,.inr (.inr (.inl ⟨_,_,R,R⟩)),.inr (.inr (.inl ⟨_,_,R,R⟩)),.inr (.inr (.inl ⟨_,_,R,R⟩)),Za⟩) ?_
     refine AOps.split ((!grids1) == true) (fun hg2=>?_) (fun hg2=>?_)
     ·have h18:=Zn hg2 h17
      refine ZT (by exact Weak.unw2 (e':=[(1,.ptr 1 n0 0 0),(4,rB ((r1 || r2))),(5,rB (grids1)),(51,rB ((r1 || r2))),(52,rB ((!(r1 || r2)))),(53,rB ((!(r1 || r2)))),(58,rB (((!(r1 || r2)) && (decide (0<(n1.Flow.length:Int)))))),(59,rB (((!(r1 || r2)) && (decide (0<(n1.Flow.length:Int)))))),(60,rB (grids1)),(61,rB ((!grids1))),(62,rB ((!grids1))),(63,.ptr 1 n0 0 4),(64,.agg (k20_ n1.Grid)),(65,.agg z14_)]) hg2 ⟨.inl R,.inl R,.inl R,.inl R,.inl R,.inl R,.inl R,.inl R,.inl R,.inl R,.inl R,.inr iL,.inr iL,.inr iL,Za⟩) ?_
      refine ZT (by exact Zc (e':=[(1,.ptr 1 n0 0 0),(4,rB ((r1 || r2))),(5,rB (grids1)),(51,rB ((r1 || r2))),(52,rB ((!(r1 || r2)))),(53,rB ((!(r1 || r2)))),(58,rB (((!(r1 || r2)) && (decide (0<(n1.Flow.length:Int)))))),(59,rB (((!(r1 || r2)) && (decide (0<(n1.Flow.length:Int)))))),(60,rB (grids1)),(61,rB ((!grids1))),(62,rB ((!grids1))),(63,.ptr 1 n0 0 4),(64,.agg (k20_ n1.Grid)),(65,.agg [rI (0),rI (0),.r (.sl []),.r (.sl [])])]) (h':=[(1,some (.box n0 46 (k7_ n1)))]) ⟨jL,jL,jL,jL,jL,jL,jL,jL,jL,jL,jL,jL,jL,.inr ⟨_,_,R,R,⟨.inl R,.inl R,.inr (.inr ⟨R,R⟩),.inr (.inr ⟨R,R⟩),Za⟩⟩,Za⟩ ⟨.inl R,Za⟩ nL) ?_
      refine Zj h18 fun r7 er7 h19=>?_
      refine AOps.stepGT (.one R R R) hg2 R R (Zq (r:=rB (r7)) (caps:=[]) (bs:=[.agg (k20_ n1.Grid),.agg [rI (0),rI (0),.r (.sl []),.r (.sl [])]]) R (.inl R) R ⟨⟨_,(.inl R),.g (cs:=[.int .i64 n1.Grid.Rows,.int .i64 n1.Grid.Cols,.sl (n1.Grid.Cells.map YAY.row),.sl (n1.Grid.Merges.map YAX.row)]) R R⟩,⟨_,(.inl R),.g (cs:=[.int .i64 0,.int .i64 0,.sl ([].map YAY.row),.sl ([].map YAX.row)]) R R⟩,Za⟩ (fun _=>YO5 (er7)) R) ?_
      refine AOps.stepGT (.one R R R) hg2 R R (Zv (ZQ R (.inl R)) _) ?_
      refine AOps.stepGT (.one R R R) hg1 R R (Zv (Zr R (.inl R) (.inl R)) _) ?_
      refine sQ R (ZC R iL iL) (sM R R (sV R R R (fB R YBI iL fR R) (sV R R R (Zb (a:=rI (n1.Kind)) R ts_3 (iR R) R R) (Zj h19 fun r8 er8 h20=>?_))))
      refine ZE (.one R R R) R R (Zq (r:=rB (r8)) (caps:=[]) (bs:=[rI (n1.Kind)]) R iL R ⟨⟨_,(iR R),.d R⟩,Za⟩ (fun hg=>YHr (gdt er8 hg)) R) ?_
      refine sV R R R (ZQ R (iR R)) (sV R R R (Zf R (iR R)) ?_)
      refine sW (.two R R R) R (fB R YGt iL fR R) ?_
      refine sW (.two R R R) R (Zb (a:=qe n1.Draw) R YLk (iR R) R R) ?_
      refine sW (.two R R R) R (ZA R YHw.slice (iR R)) ?_
      refine sW (.two R R R) R (ZV R (iR R) iL) ?_
      refine sV R R R (Zr R (iR R) (iR R)) (sQ R (ZC R iL (iR R)) ?_)
      refine Zt ?_
      exact wK13 _ _ ((by exact Zc ⟨jL,jL,jL,jL,Za⟩ ⟨.inl R,Za⟩ nL)) (J1 _ (vec [(n0+1)]) (Zd h20).symm)
     ·have h18:=Zo hg2 h17
      refine AOps.stepGF2 (.one R R R) hg2 R R ?_
      refine AOps.stepGF2 (.one R R R) hg2 R R ?_
      refine AOps.stepGT (.one R R R) hg1 R R (Zv (Zr R (.inl R) (iR R)) _) ?_
      refine sQ R (ZC R iL iL) (sM R R (sV R R R (fB R YBI iL fR R) (sV R R R (Zb (a:=rI (n1.Kind)) R ts_3 (iR R) R R) (Zj h18 fun r9 er9 h21=>?_))))
      refine ZE (.one R R R) R R (Zq (r:=rB (r9)) (caps:=[]) (bs:=[rI (n1.Kind)]) R iL R ⟨⟨_,(iR R),.d R⟩,Za⟩ (fun hg=>YHr (gdt er9 hg)) R) ?_
      refine sV R R R (ZQ R (iR R)) (sV R R R (Zf R (iR R)) ?_)
      refine sW (.two R R R) R (fB R YGt iL fR R) ?_
      refine sW (.two R R R) R (Zb (a:=qe n1.Draw) R YLk (iR R) R R) ?_
      refine sW (.two R R R) R (ZA R YHw.slice (iR R)) ?_
      refine sW (.two R R R) R (ZV R (iR R) iL) ?_
      refine sV R R R (Zr R (iR R) (iR R)) (sQ R (ZC R iL (iR R)) ?_)
      refine Zt ?_
      exact wK13 _ _ ((by exact Zc ⟨jL,jL,jL,jL,Za⟩ ⟨.inl R,Za⟩ nL)) (J1 _ (vec [(n0+1)]) (Zd h21).symm)
    ·have h17:=Zo hg1 hp1
     refine AOps.stepGF2 (.two R R R) (andF hg1) R R ?_
     refine AOps.stepGF2 (.two R R R) (andF hg1) R R ?_
     refine AOps.stepGF2 (.one R R R) hg1 R R ?_
     refine sQ R (ZC R iL (iR R)) (sM R R (sV R R R (fB R YBI iL fR R) (sV R R R (Zb (a:=rI (n1.Kind)) R ts_3 (iR R) R R) (Zj h17 fun r10 er10 h22=>?_))))
     refine ZE (.one R R R) R R (Zq (r:=rB (r10)) (caps:=[]) (bs:=[rI (n1.Kind)]) R iL R ⟨⟨_,(iR R),.d R⟩,Za⟩ (fun hg=>YHr (gdt er10 hg)) R) ?_
     refine sV R R R (ZQ R (iR R)) (sV R R R (Zf R (iR R)) ?_)
     refine sW (.two R R R) R (fB R YGt iL fR R) ?_
     refine sW (.two R R R) R (Zb (a:=qe n1.Draw) R YLk (iR R) R R) ?_
     refine sW (.two R R R) R (ZA R YHw.slice (iR R)) ?_
     refine sW (.two R R R) R (ZV R (iR R) iL) ?_
     refine sV R R R (Zr R (iR R) (iR R)) (sQ R (ZC R iL (iR R)) ?_)
     refine Zt ?_
     exact wK13 _ _ ((by exact Zc ⟨jL,jL,jL,jL,Za⟩ ⟨.inl R,Za⟩ nL)) (J1 _ (vec [(n0+1)]) (Zd h22).symm)
theorem YVa {f1:List YAC} {r:(List Int)} (h:YOW f1=some r):ARO Tryz.prog 174 [qb f1] (.r (.sl (r.map (rInt .i64)))):=by
 unfold YOW at h
 refine Zw Tryz.func174 R R Tryz.ntmps174 R (Ze R) fun n0=>?_
 refine aS fun _ hK1 _=>(aR (sA R R (aZ (hK1 _ ?_))))
 refine aS fun _ hK2 _=>(aR (sA R R (aZ (hK2 _ ?_))))
 refine aS fun K3 hK3 wK3=>(aS fun _ hK4 _=>(aR (sM R R (sQ R (ZA R YBN.slice iL) (sM R R (aZ (hK4 _ ?_)))))))
 refine Zp ?_
 refine jb1k h fun o1 hit1 hk1=>?_
 have J1 : ∀ (out4:List Int) (i5:Nat→Nat),o1=out4→K3 ⟨[(3,.own 5003 (i5 0))],[(5003,some (.arr (i5 0) 3 1 (out4.map (rInt .i64))))],(i5 1),22⟩:=by
  intro out4 i5 e
  have h1:=hk1 _ e
  refine hK3 _ ?_
  refine aS fun _ hK5 _=>(aR (sM R R (sA R R (aZ (hK5 _ ?_)))))
  refine Zk ?_
  exact YIw (P:=Tryz.prog) (fun (r:(List Int))=>.r (.sl (r.map (rInt .i64)))) h1 iL (.t (.one (.own R)))
 refine AW.iter2 (fun (x2:Int) (out2:List Int) i3=>⟨[(3,.own 5003 (i3 0)),(6,qb f1),(7,rI ((f1.length:Int))),(8,rI (x2))],[(5003,some (.arr (i3 0) 3 1 (out2.map (rInt .i64))))],(i3 1),22⟩) (vec [n0,(n0+1)]) hit1 (ZP (ZP (Weak.adopt 3 5003 3 1 (by decide) R) (by exact Zc (e':=[(0,qb f1),(2,.cst (.slice none 0 0)),(3,.own 5003 n0),(6,qb f1),(7,rI ((f1.length:Int))),(8,rI (0))]) (h':=[(5003,some (.arr n0 3 1 (([]:List Int).map (rInt .i64))))]) ⟨jL,jL,jL,jL,jL,jL,Za⟩ ⟨.inl R,Za⟩ nL)) (by exact Zc ⟨jL,jL,jL,jL,Za⟩ ⟨.inl R,Za⟩ nL)) ?_
 intro x2 out2 i3 v1 hv1 hx1
 have h2:YCU f1 x2 out2=some v1:=hv1; unfold YCU at h2
 refine aS fun _ hK6 _=>(aR (sQ R (Zx R iL iL) (aZ (hK6 _ ?_))))
 refine aS fun _ hK7 _=>?_
 refine aC R (fun hc1=>?_) (fun hc1=>?_)
 ·have h3:=Zn hc1 h2
  refine Zi (hK7 _ ?_)
  refine aS fun K8 hK8 wK8=>(Zp ?_)
  refine jb1k h3 fun p1 hp1 hk2=>?_
  have J2 : ∀ (out5:List Int) (i6:Nat→Nat),p1=out5→K8 ⟨[(3,.own 5003 (i6 0)),(6,qb f1),(7,rI ((f1.length:Int))),(8,rI (x2))],[(5003,some (.arr (i6 0) 3 1 (out5.map (rInt .i64))))],(i6 1),22⟩:=by
   intro out5 i6 e
   have h4:=hk2 _ e
   refine hK8 _ ?_
   refine aR (Zj h4 fun x4 ex4 h5=>(sQ R (ZI R iL iL (fun _=>ex4)) (sM R R ?_)))
   refine Zt ?_
   exact YEQ.mk h5 (vec [(i6 0),(i6 1)]) ((by exact Zc ⟨jL,jL,jL,jL,Za⟩ ⟨.inl R,Za⟩ nL))
  refine aS fun _ hK9 _=>(aR (Zj hp1 fun x5 ex5 h6=>(sQ R (Zz R YBN.slice iL iL (fun _=>R) (fun _=>ex5)) (sQ R (ZM (cs:=(k26_ x5)) R YHx iL R R) (Zg R R R (ZX (cs:=z24_) 5 R YPH R R) (ZD R R (ZB (ds:=(k26_ x5)) R YMq iL R iL R R R R) (aZ (hK9 _ ?_))))))))
  refine aS fun _ hK10 _=>(aR (sQ R (fB R YCW iL fR R) (sQ R (Zb (a:=rI (x5.Ref)) R ts_3 iL R R) (sQ R (ZH R iL iL) (aZ (hK10 _ ?_))))))
  refine aC R (fun hc2=>?_) (fun hc2=>?_)
  ·have h7:=Zn hc2 h6
   refine aR (sM R R (sQ R (fB R YCW iL fR R) (sQ R (Zb (a:=rI (x5.Ref)) R ts_3 iL R R) (Zg R R R (YCs 18 R YCD (f:=(rInt .i64)) (l:=([x5.Ref]:List Int)) ⟨R,⟨_,iL,R⟩,Za⟩ R (fun _=>R) R) (Zj h7 fun out6 eout6 h8=>(Zg R R R (YEq R YCD iL R (.inr (.inl ⟨_,_,iL,R⟩)) eout6) (sA R R ?_)))))))
   refine Zt ?_
   exact wK8 _ _ ((by exact Zc ⟨jL,jL,jL,jL,Za⟩ ⟨.inl R,Za⟩ nL)) (J2 _ (vec [((i3 1)+2),((i3 1)+3)]) (Zd h8).symm)
  ·have h7:=Zo hc2 h6
   refine Zi ?_
   exact wK8 _ _ ((by exact Zc ⟨jL,jL,jL,jL,Za⟩ ⟨.inl R,Za⟩ nL)) (J2 _ (vec [(i3 0),((i3 1)+1)]) (Zd h7).symm)
 ·have h3:=Zo hc1 h2
  refine ZJ ?_
  exact wK3 _ _ ((by exact Zc ⟨jL,Za⟩ ⟨.inl R,Za⟩ nL)) (J1 _ (vec [(i3 0),(i3 1)]) (hx1 _ (Zd h3).symm))
theorem YMm {f1:List YAC} {r:(List Int)} (h:YFY f1=some r):AHC Tryz.prog 174 1 [qb f1] [] (fun rr h'=>∃ (i:Nat→Nat),rr = .own 1000 (i 0)∧h'=[(1000,some (.arr (i 0) 3 1 (r.map (rInt .i64))))]):=by
 unfold YFY at h
 refine AHC.mkw Tryz.func174 R R Tryz.ntmps174 (Ze R) fun n0=>?_
 refine aS fun _ hK1 _=>(aR (sA R R (aZ (hK1 _ ?_))))
 refine aS fun _ hK2 _=>(aR (sA R R (aZ (hK2 _ ?_))))
 refine aS fun K3 hK3 wK3=>(aS fun _ hK4 _=>(aR (sM R R (sQ R (ZA R YBN.slice iL) (sM R R (aZ (hK4 _ ?_)))))))
 refine Zp ?_
 refine jb1k h fun o1 hit1 hk1=>?_
 have J1 : ∀ (out4:List Int) (i5:Nat→Nat),o1=out4→K3 ⟨[(3,.own 5003 (i5 0))],[(5003,some (.arr (i5 0) 3 1 (out4.map (rInt .i64))))],(i5 1),22⟩:=by
  intro out4 i5 e
  have h1:=hk1 _ e
  refine hK3 _ ?_
  refine aS fun _ hK5 _=>(aR (sM R R (sA R R (aZ (hK5 _ ?_)))))
  refine Zk ?_
  exact RetW.mk (s':=⟨[(2,.own 1000 (i5 1))],[(1000,some (.arr (i5 1) 3 1 (out4.map (rInt .i64))))],((i5 1)+1),22⟩) (ZP (ZP (Weak.ren 2 5003 1000 R R R) (by exact Zc (e':=[(2,.own 1000 (i5 1))]) (h':=[(1000,some (.arr (i5 1) 3 1 (out4.map (rInt .i64))))]) ⟨jL,Za⟩ ⟨.inl R,Za⟩ nL)) (by exact Zc ⟨jL,Za⟩ ⟨.inl R,Za⟩ nL)) (YBQ (fun (r:(List Int)) rr h'=>∃ (i:Nat→Nat),rr = .own 1000 (i 0)∧h'=[(1000,some (.arr (i 0) 3 1 (r.map (rInt .i64))))]) h1 (by exact ⟨.own 1000 (i5 1),[(1000,some (.arr (i5 1) 3 1 (out4.map (rInt .i64))))],R,⟨.inr R,Za⟩,R,R,vec [(i5 1)],R,R⟩))
 refine AW.iter2 (fun (x2:Int) (out2:List Int) i3=>⟨[(3,.own 5003 (i3 0)),(6,qb f1),(7,rI ((f1.length:Int))),(8,rI (x2))],[(5003,some (.arr (i3 0) 3 1 (out2.map (rInt .i64))))],(i3 1),22⟩) (vec [n0,(n0+1)]) hit1 (ZP (ZP (Weak.adopt 3 5003 3 1 (by decide) R) (by exact Zc (e':=[(0,qb f1),(2,.cst (.slice none 0 0)),(3,.own 5003 n0),(6,qb f1),(7,rI ((f1.length:Int))),(8,rI (0))]) (h':=[(5003,some (.arr n0 3 1 (([]:List Int).map (rInt .i64))))]) ⟨jL,jL,jL,jL,jL,jL,Za⟩ ⟨.inl R,Za⟩ nL)) (by exact Zc ⟨jL,jL,jL,jL,Za⟩ ⟨.inl R,Za⟩ nL)) ?_
 intro x2 out2 i3 v1 hv1 hx1
 have h2:YBH f1 x2 out2=some v1:=hv1; unfold YBH at h2
 refine aS fun _ hK6 _=>(aR (sQ R (Zx R iL iL) (aZ (hK6 _ ?_))))
 refine aS fun _ hK7 _=>?_
 refine aC R (fun hc1=>?_) (fun hc1=>?_)
 ·have h3:=Zn hc1 h2
  refine Zi (hK7 _ ?_)
  refine aS fun K8 hK8 wK8=>(Zp ?_)
  refine jb1k h3 fun p1 hp1 hk2=>?_
  have J2 : ∀ (out5:List Int) (i6:Nat→Nat),p1=out5→K8 ⟨[(3,.own 5003 (i6 0)),(6,qb f1),(7,rI ((f1.length:Int))),(8,rI (x2))],[(5003,some (.arr (i6 0) 3 1 (out5.map (rInt .i64))))],(i6 1),22⟩:=by
   intro out5 i6 e
   have h4:=hk2 _ e
   refine hK8 _ ?_
   refine aR (Zj h4 fun x4 ex4 h5=>(sQ R (ZI R iL iL (fun _=>ex4)) (sM R R ?_)))
   refine Zt ?_
   exact YEQ.mk h5 (vec [(i6 0),(i6 1)]) ((by exact Zc ⟨jL,jL,jL,jL,Za⟩ ⟨.inl R,Za⟩ nL))
  refine aS fun _ hK9 _=>(aR (Zj hp1 fun x5 ex5 h6=>(sQ R (Zz R YBN.slice iL iL (fun _=>R) (fun _=>ex5)) (sQ R (ZM (cs:=(k26_ x5)) R YHx iL R R) (Zg R R R (ZX (cs:=z24_) 5 R YPH R R) (ZD R R (ZB (ds:=(k26_ x5)) R YMq iL R iL R R R R) (aZ (hK9 _ ?_))))))))
  refine aS fun _ hK10 _=>(aR (sQ R (fB R YCW iL fR R) (sQ R (Zb (a:=rI (x5.Ref)) R ts_3 iL R R) (sQ R (ZH R iL iL) (aZ (hK10 _ ?_))))))
  refine aC R (fun hc2=>?_) (fun hc2=>?_)
  ·have h7:=Zn hc2 h6
   refine aR (sM R R (sQ R (fB R YCW iL fR R) (sQ R (Zb (a:=rI (x5.Ref)) R ts_3 iL R R) (Zg R R R (YCs 18 R YCD (f:=(rInt .i64)) (l:=([x5.Ref]:List Int)) ⟨R,⟨_,iL,R⟩,Za⟩ R (fun _=>R) R) (Zj h7 fun out6 eout6 h8=>(Zg R R R (YEq R YCD iL R (.inr (.inl ⟨_,_,iL,R⟩)) eout6) (sA R R ?_)))))))
   refine Zt ?_
   exact wK8 _ _ ((by exact Zc ⟨jL,jL,jL,jL,Za⟩ ⟨.inl R,Za⟩ nL)) (J2 _ (vec [((i3 1)+2),((i3 1)+3)]) (Zd h8).symm)
  ·have h7:=Zo hc2 h6
   refine Zi ?_
   exact wK8 _ _ ((by exact Zc ⟨jL,jL,jL,jL,Za⟩ ⟨.inl R,Za⟩ nL)) (J2 _ (vec [(i3 0),((i3 1)+1)]) (Zd h7).symm)
 ·have h3:=Zo hc1 h2
  refine ZJ ?_
  exact wK3 _ _ ((by exact Zc ⟨jL,Za⟩ ⟨.inl R,Za⟩ nL)) (J1 _ (vec [(i3 0),(i3 1)]) (hx1 _ (Zd h3).symm))
theorem YQz {n1:YAP} {r:(List Int)} (h:YGX n1=some r):ARO Tryz.prog 129 (k5_ n1) (.r (.sl (r.map (rInt .i64)))):=by
 unfold YGX at h
 refine Zw Tryz.func129 R R Tryz.ntmps129 R (Ze R) fun n0=>?_
 refine aS fun _ hK1 _=>(aR (Zg R R R (ZR (cs:=(k7_ n1)) 1 R iL R R) (sA R R (aZ (hK1 _ ?_)))))
 refine aS fun _ hK2 _=>(aR (sQ R (fB R YBi iL fR R) (sQ R (Zb (a:=qb n1.Flow) R YC4 iL R R) (Zj h fun w1 ew1 h1=>?_))))
 refine AOps.stepHI [8] (hc:=[]) (bs:=[qb n1.Flow]) (caps:=[]) R R R R iL R ⟨.inl ⟨iL,R⟩,Za⟩ Za (by decide) (YMm ew1) ?_
 intro i1 n2
 refine ZT (s':=⟨[(0,.agg (k7_ n1)),(1,.ptr 1 n0 0 0),(2,.cst (.slice none 0 0)),(6,.ptr 1 n0 0 3),(7,qb n1.Flow),(8,.own 8 (i1 0))],[(1,some (.box n0 46 (k7_ n1))),(8,some (.arr (i1 0) 3 1 (w1.map (rInt .i64))))],n2,27⟩) (by exact Zc ⟨jL,jL,jL,jL,jL,jL,Za⟩ ⟨.inl R,.inl R,Za⟩ nL) ?_
 refine sA R R (aZ (hK2 _ ?_))
 refine aS fun K3 hK3 wK3=>(aS fun _ hK4 _=>(aR (sQ R (fB R YEv iL fR R) (sQ R (fB R YES iL fR R) (sQ R (Zb (a:=qd n1.Grid.Cells) R YHv iL R R) (sQ R (ZA R YDu.slice iL) (sM R R (aZ (hK4 _ ?_)))))))))
 refine Zp ?_
 refine jb1k h1 fun o1 hit1 hk1=>?_
 have J1 : ∀ (out4:List Int) (i6:Nat→Nat),o1=out4→K3 ⟨[(3,.own 8 (i6 0))],[(8,some (.arr (i6 0) 3 1 (out4.map (rInt .i64))))],(i6 1),27⟩:=by
  intro out4 i6 e
  have h2:=hk1 _ e
  refine hK3 _ ?_
  refine aS fun _ hK5 _=>(aR (sM R R (sA R R (aZ (hK5 _ ?_)))))
  refine Zk ?_
  exact YIw (P:=Tryz.prog) (fun (r:(List Int))=>.r (.sl (r.map (rInt .i64)))) h2 iL (.t (.one (.own R)))
 refine AW.iter2 (fun (x2:Int) (out2:List Int) i4=>⟨[(3,.own 8 (i4 0)),(11,qd n1.Grid.Cells),(12,rI ((n1.Grid.Cells.length:Int))),(13,rI (x2))],[(8,some (.arr (i4 0) 3 1 (out2.map (rInt .i64))))],(i4 1),27⟩) (vec [(i1 0),n2]) hit1 ((by exact Zc ⟨jL,jL,jL,jL,Za⟩ ⟨.inl R,Za⟩ nL)) ?_
 intro x2 out2 i4 v1 hv1 hx1
 have h3:YCF n1 x2 out2=some v1:=hv1; unfold YCF at h3
 refine aS fun _ hK6 _=>(aR (sQ R (Zx R iL iL) (aZ (hK6 _ ?_))))
 refine aS fun _ hK7 _=>?_
 refine aC R (fun hc1=>?_) (fun hc1=>?_)
 ·have h4:=Zn hc1 h3
  refine Zi (hK7 _ ?_)
  refine aS fun K8 hK8 wK8=>(Zp ?_)
  refine jb1k h4 fun p1 hp1 hk2=>?_
  have J2 : ∀ (out5:List Int) (i7:Nat→Nat),p1=out5→K8 ⟨[(3,.own 8 (i7 0)),(11,qd n1.Grid.Cells),(12,rI ((n1.Grid.Cells.length:Int))),(13,rI (x2))],[(8,some (.arr (i7 0) 3 1 (out5.map (rInt .i64))))],(i7 1),27⟩:=by
   intro out5 i7 e
   have h5:=hk2 _ e
   refine hK8 _ ?_
   refine aR (Zj h5 fun x4 ex4 h6=>(sQ R (ZI R iL iL (fun _=>ex4)) (sM R R ?_)))
   refine Zt ?_
   exact YEQ.mk h6 (vec [(i7 0),(i7 1)]) ((by exact Zc ⟨jL,jL,jL,jL,Za⟩ ⟨.inl R,Za⟩ nL))
  refine aS fun _ hK9 _=>(aR (Zj hp1 fun x5 ex5 h7=>(sQ R (Zz R YDu.slice iL iL (fun _=>R) (fun _=>ex5)) (sQ R (ZM (cs:=(k13_ x5)) R YFk iL R R) (Zg R R R (ZX (cs:=z16_) 5 R YMD R R) (ZD R R (ZB (ds:=(k13_ x5)) R YL7 iL R iL R R R R) (aZ (hK9 _ ?_))))))))
  refine aS fun _ hK10 _=>(aR (sQ R (fB R YCY iL fR R) (sQ R (Zb (a:=rI (x5.Ref)) R ts_3 iL R R) (sQ R (ZH R iL iL) (aZ (hK10 _ ?_))))))
  refine aC R (fun hc2=>?_) (fun hc2=>?_)
  ·have h8:=Zn hc2 h7
   refine aR (sM R R (sQ R (fB R YCY iL fR R) (sQ R (Zb (a:=rI (x5.Ref)) R ts_3 iL R R) (Zg R R R (YCs 23 R YCD (f:=(rInt .i64)) (l:=([x5.Ref]:List Int)) ⟨R,⟨_,iL,R⟩,Za⟩ R (fun _=>R) R) (Zj h8 fun out6 eout6 h9=>(Zg R R R (YEq R YCD iL R (.inr (.inl ⟨_,_,iL,R⟩)) eout6) (sA R R ?_)))))))
   refine Zt ?_
   exact wK8 _ _ ((by exact Zc ⟨jL,jL,jL,jL,Za⟩ ⟨.inl R,Za⟩ nL)) (J2 _ (vec [((i4 1)+2),((i4 1)+3)]) (Zd h9).symm)
  ·have h8:=Zo hc2 h7
   refine Zi ?_
   exact wK8 _ _ ((by exact Zc ⟨jL,jL,jL,jL,Za⟩ ⟨.inl R,Za⟩ nL)) (J2 _ (vec [(i4 0),((i4 1)+1)]) (Zd h8).symm)
 ·have h4:=Zo hc1 h3
  refine ZJ ?_
  exact wK3 _ _ ((by exact Zc ⟨jL,Za⟩ ⟨.inl R,Za⟩ nL)) (J1 _ (vec [(i4 0),(i4 1)]) (hx1 _ (Zd h4).symm))
theorem YIH {n1:YAP} {id1:Int} {r:Int} (h:YEX n1 id1=some r):ARO Tryz.prog 184 [.agg (k7_ n1),rI (id1)] (rI (r)):=by
 unfold YEX at h
 refine Zw Tryz.func184 R R Tryz.ntmps184 R (Ze R) fun n0=>?_
 refine aS fun _ hK1 _=>(aR (Zg R R R (ZR (cs:=(k7_ n1)) 2 R iL R R) (sA R R (aZ (hK1 _ ?_)))))
 refine aS fun _ hK2 _=>(Zp (aS fun _ hK3 _=>(aR (sQ R (fB R YCX iL fR R) (sQ R (Zb (a:=rI (n1.ID)) R ts_3 iL R R) (sM R R (sQ R (Zx R iL iL) (sA R R (aZ (hK3 _ ?_))))))))))
 refine aC R (fun hc1=>?_) (fun hc1=>?_)
 ·have h1:=Zn hc1 h
  refine aS fun _ hK4 _=>?_
  refine Zh (s':=⟨[],[],(n0+1),15⟩) (by exact Zc Za Za nL) ?_
  refine aR (sA R R (aZ (hK4 _ ?_)))
  refine Zk ?_
  exact Y1_ h1 iL (.t (.d R))
 ·have h1:=Zo hc1 h
  refine aS fun _ hK5 _=>(aR (sQ R (fB R YCX iL fR R) (sQ R (Zb (a:=rI (n1.ID)) R ts_3 iL R R) (sM R R (sQ R (ZV R iL iL) (sA R R (aZ (hK5 _ ?_))))))))
  refine aC R (fun hc2=>?_) (fun hc2=>?_)
  ·have h2:=Zn hc2 h1
   refine aS fun _ hK6 _=>?_
   refine Zh (s':=⟨[],[],(n0+1),15⟩) (by exact Zc Za Za nL) ?_
   refine aR (sA R R (aZ (hK6 _ ?_)))
   refine Zk ?_
   exact Y1_ h2 iL (.t (.d R))
  ·have h2:=Zo hc2 h1
   refine Zi (hK2 _ ?_)
   refine aS fun _ hK7 _=>?_
   refine Zh (s':=⟨[],[],(n0+1),15⟩) (by exact Zc Za Za nL) ?_
   refine aR (sA R R (aZ (hK7 _ ?_)))
   refine Zk ?_
   exact Y1_ h2 iL (.t (.d R))
theorem YBY {x1:List YAP} {target1:Int} {r:Int × Bool} (h:YAV x1 target1=some r):ARO Tryz.prog 183 [qf x1,rI (target1),.fn 184 []] (.tup [rI (r.1),rB (r.2)]):=by
 unfold YAV at h
 refine Zw Tryz.func183 R R Tryz.ntmps183 R (Ze R) fun n0=>?_
 refine aS fun _ hK1 _=>(aR (sA R R (sA R R (aZ (hK1 _ ?_)))))
 refine aS fun _ hK2 _=>(aR (sM R R (sQ R (ZA R YEg.slice iL) (sA R R (aZ (hK2 _ ?_))))))
 refine aS fun _ hK3 _=>(aR (sM R R (sA R R (sA R R (aZ (hK3 _ ?_))))))
 refine aS fun K4 hK4 wK4=>(Zp ?_)
 refine jb1k h fun o1 hit1 hk1=>?_
 have J1 : ∀ (i8:Int) (i9:Nat→Nat),o1=i8→K4 ⟨[(0,qf x1),(1,rI (target1)),(2,.fn 184 []),(8,rI ((x1.length:Int))),(9,rI (i8))],[],(i9 0),49⟩:=by
  intro i8 i9 e
  have h1:=hk1 _ e
  refine hK4 _ ?_
  refine aS fun _ hK5 _=>(aR (sM R R (sM R R (sM R R (sQ R (Zx R iL iL) (sM R R (sV R R R (Zf R iL) (sV R R R (Zf R iL) (sV R R R (Zf R iL) (Zj h1 fun x2 ex2 h2=>(sV R R R (Zz R YEg.slice (iR R) (iR R) (fun _=>R) (gdt ex2)) (sV R R R (ZM (cs:=(k7_ x2)) R YJq (iR R) R R) (sV R R R (Zf R iL) (Zj h2 fun r1 er1 h3=>?_))))))))))))))
  refine ZE (.one R R R) R R (Zq (r:=rI (r1)) (caps:=[]) (bs:=[.agg (k7_ x2),rI (target1)]) R (iR R) R ⟨⟨_,(iR R),.g (cs:=[.int .i64 x2.ID,.int .i64 x2.Kind,.sl (x2.Attrs.map YAG.row),.sl (x2.Flow.map YAC.row),.int .i64 x2.Grid.Rows,.int .i64 x2.Grid.Cols,.sl (x2.Grid.Cells.map YAY.row),.sl (x2.Grid.Merges.map YAX.row),.sl (x2.Draw.map YAN.row)]) R R⟩,⟨_,(iR R),.d R⟩,Za⟩ (fun hg=>YIH (gdt er1 hg)) R) ?_
  refine sV R R R (Zs R (iR R) iL) (sQ R (Zr R iL (iR R)) (sA R R (sA R R (aZ (hK5 _ ?_)))))
  refine Zk ?_
  exact YEO (P:=Tryz.prog) (fun (r:Int × Bool)=>rI (r.1)) (fun (r:Int × Bool)=>rB (r.2)) h3 iL (.t (.d R)) (.t (.d R))
 refine AW.iter2 (fun (i4:Int) (j2:Int) i5=>⟨[(0,qf x1),(1,rI (target1)),(2,.fn 184 []),(8,rI ((x1.length:Int))),(9,rI (i4)),(10,rI (j2))],[],(i5 0),49⟩) (vec [n0]) hit1 ((by exact Zc ⟨jL,jL,jL,jL,jL,jL,Za⟩ Za nL)) ?_
 intro i4 j2 i5 v1 hv1 hx1
 have h4:YAI x1 target1 i4 j2=some v1:=hv1; unfold YAI at h4
 refine aS fun _ hK6 _=>(aS fun _ hK7 _=>(aR (sM R R (sM R R (sQ R (Zx R iL iL) (aZ (hK7 _ ?_)))))))
 refine aC R (fun hc1=>?_) (fun hc1=>?_)
 ·have h5:=Zn hc1 h4
  refine Zi (hK6 _ ?_)
  refine Zp (aS fun _ hK8 _=>(aR (sM R R (sM R R (Zj h5 fun x3 ex3 h6=>(sQ R (ZI R iL iL (fun _=>ex3)) (sQ R (Z0 R Tryz.underlying3 Tryz.underlying128 iL) (sQ R (YQA (b:=1) R iL iL) (sQ R (Z0 R Tryz.underlying128 Tryz.underlying3 iL) (sA R R (aZ (hK8 _ ?_))))))))))))
  refine aS fun _ hK9 _=>?_
  refine Zh (s':=⟨[(0,qf x1),(1,rI (target1)),(2,.fn 184 []),(8,rI ((x1.length:Int))),(9,rI (i4)),(10,rI (j2)),(11,rI ((IntKind.i64.wrap (shrC .u64 (IntKind.u64.wrap x3) 1))))],[],(i5 0),49⟩) (by exact Zc ⟨jL,jL,jL,jL,jL,jL,jL,Za⟩ Za nL) ?_
  refine aR (sM R R (sM R R (sM R R (Zj h6 fun x4 ex4 h7=>(sQ R (Zz R YEg.slice iL iL (fun _=>R) (fun _=>ex4)) (sQ R (ZM (cs:=(k7_ x4)) R YJq iL R R) (sM R R (Zj h7 fun r2 er2 h8=>(Zg R R R (Zq (r:=rI (r2)) (caps:=[]) (bs:=[.agg (k7_ x4),rI (target1)]) R iL R ⟨⟨_,iL,.g (cs:=[.int .i64 x4.ID,.int .i64 x4.Kind,.sl (x4.Attrs.map YAG.row),.sl (x4.Flow.map YAC.row),.int .i64 x4.Grid.Rows,.int .i64 x4.Grid.Cols,.sl (x4.Grid.Cells.map YAY.row),.sl (x4.Grid.Merges.map YAX.row),.sl (x4.Draw.map YAN.row)]) R R⟩,⟨_,iL,.d R⟩,Za⟩ (fun _=>YIH (er2)) R) (sQ R (Zx R iL iL) (aZ (hK9 _ ?_))))))))))))
  refine aC R (fun hc2=>?_) (fun hc2=>?_)
  ·have h9:=Zn hc2 h8
   refine Zh (s':=⟨[(0,qf x1),(1,rI (target1)),(2,.fn 184 []),(8,rI ((x1.length:Int))),(10,rI (j2)),(11,rI ((IntKind.i64.wrap (shrC .u64 (IntKind.u64.wrap x3) 1))))],[],(i5 0),49⟩) (by exact Zc ⟨jL,jL,jL,jL,jL,jL,Za⟩ Za nL) ?_
   refine aR (sM R R (Zj h9 fun i10 ei10 h10=>(sQ R (ZI R iL iL (fun _=>ei10)) (sA R R ?_))))
   refine Zt ?_
   exact YEQ.mk h10 (vec [(i5 0)]) ((by exact Zc ⟨jL,jL,jL,jL,jL,jL,Za⟩ Za nL))
  ·have h9:=Zo hc2 h8
   refine Zh (s':=⟨[(0,qf x1),(1,rI (target1)),(2,.fn 184 []),(8,rI ((x1.length:Int))),(9,rI (i4)),(11,rI ((IntKind.i64.wrap (shrC .u64 (IntKind.u64.wrap x3) 1))))],[],(i5 0),49⟩) (by exact Zc ⟨jL,jL,jL,jL,jL,jL,Za⟩ Za nL) ?_
   refine aR (sM R R (sA R R ?_))
   refine Zt ?_
   exact YEQ.mk h9 (vec [(i5 0)]) ((by exact Zc ⟨jL,jL,jL,jL,jL,jL,Za⟩ Za nL))
 ·have h5:=Zo hc1 h4
  refine ZJ ?_
  exact wK4 _ _ ((by exact Zc ⟨jL,jL,jL,jL,jL,Za⟩ Za nL)) (J1 _ (vec [(i5 0)]) (hx1 _ (Zd h5).symm))
theorem YL6 {d1:GDoc} {id1:Int} {r:Int × Bool} (h:YHZ d1 id1=some r):ARO Tryz.prog 142 [.agg [qf d1.Nodes],rI (id1)] (.tup [rI (r.1),rB (r.2)]):=by
 unfold YHZ at h
 refine Zw Tryz.func142 R R Tryz.ntmps142 R (Ze R) fun n0=>?_
 refine aS fun _ hK1 _=>(aR (Zg R R R (ZR (cs:=[qf d1.Nodes]) 2 R iL R R) (sA R R (sA R R (aZ (hK1 _ ?_))))))
 refine aS fun _ hK2 _=>(aR (sQ R (fB R YBv iL fR R) (sQ R (Zb (a:=qf d1.Nodes) R YFh iL R R) (sM R R (ob2k h fun r1 r2 er1 h1=>(Zg R R R (Zq (r:=.tup [rI (r1),rB (r2)]) (caps:=[]) (bs:=[qf d1.Nodes,rI (id1),.fn 184 []]) R iL R ⟨⟨_,iL,.d R⟩,⟨_,iL,.d R⟩,⟨_,iL,.one (.closed (.fn 184 []) R)⟩,Za⟩ (fun _=>YBY (er1)) R) (sQ R (ZY (a:=rI (r1)) R iL R) (sQ R (ZY (a:=rB (r2)) R iL R) (sA R R (sA R R (aZ (hK2 _ ?_))))))))))))
 refine Zk ?_
 exact YEO (P:=Tryz.prog) (fun (r:Int × Bool)=>rI (r.1)) (fun (r:Int × Bool)=>rB (r.2)) h1 iL (.t (.d R)) (.t (.d R))
theorem YGi {s1:List Int} {v1:Int} {r:Int} (h:YCK s1 v1=some r):ARO Tryz.prog 203 [.r (.sl (s1.map (rInt .i64))),rI (v1)] (rI (r)):=by
 unfold YCK at h
 refine Zw Tryz.func203 R R Tryz.ntmps203 R (Ze R) fun n0=>?_
 refine aS fun _ hK1 _=>(aR (sA R R (aZ (hK1 _ ?_))))
 refine aS fun K2 hK2 wK2=>(aS fun _ hK3 _=>(aR (sM R R (sQ R (ZA R YCD.slice iL) (sM R R (aZ (hK3 _ ?_)))))))
 refine Zp ?_
 refine jc1k h fun o1 hit1 hk1 he1=>?_
 have J1 : ∀ (u2:Unit) (i5:Nat→Nat),o1 = .nrm u2→K2 ⟨[],[],(i5 0),19⟩:=by
  intro u2 i5 e
  have h1:=hk1 _ e
  refine hK2 _ ?_
  refine aS fun _ hK4 _=>(aR (sA R R (aZ (hK4 _ ?_))))
  refine Zk ?_
  exact Y1_ h1 iL (.t (.d R))
 refine ZS (fun (x2:Int) i3=>⟨[(0,.r (.sl (s1.map (rInt .i64)))),(1,rI (v1)),(7,rI ((s1.length:Int))),(8,rI (x2))],[],(i3 0),19⟩) (vec [n0]) hit1 ((by exact Zc ⟨jL,jL,jL,jL,Za⟩ Za nL)) ?_
 intro x2 i3 v2 hv1 hx1
 have h2:YBJ s1 v1 x2=some v2:=hv1; unfold YBJ at h2
 refine aS fun _ hK5 _=>(aR (sQ R (Zx R iL iL) (aZ (hK5 _ ?_))))
 refine aS fun _ hK6 _=>?_
 refine aC R (fun hc1=>?_) (fun hc1=>?_)
 ·have h3:=Zn hc1 h2
  refine Zi (hK6 _ ?_)
  refine aS fun _ hK7 _=>(Zp (aS fun _ hK8 _=>(aR (sM R R (sA R R (aZ (hK8 _ ?_)))))))
  refine aS fun _ hK9 _=>(aR (sM R R (sM R R (sM R R (Zj h3 fun x4 ex4 h4=>(sQ R (Zz R YCD.slice iL iL (fun _=>R) (fun _=>ex4)) (sQ R (ZN (d:=.int .i64 x4) R ts_3 iL R) (sQ R (Zs R iL iL) (aZ (hK9 _ ?_))))))))))
  refine aC R (fun hc2=>?_) (fun hc2=>?_)
  ·have h5:=Zn hc2 h4
   refine aS fun _ hK10 _=>?_
   refine Zh (s':=⟨[(5,rI (x2))],[],(i3 0),19⟩) (by exact Zc ⟨jL,Za⟩ Za nL) ?_
   refine aR (sM R R (sA R R (aZ (hK10 _ ?_))))
   refine Zk ?_
   exact Y1_ (he1 _ (hx1 _ (Zd h5).symm)) iL (.t (.d R))
  ·have h5:=Zo hc2 h4
   refine Zi (hK7 _ ?_)
   refine Zh (s':=⟨[(0,.r (.sl (s1.map (rInt .i64)))),(1,rI (v1)),(7,rI ((s1.length:Int))),(8,rI (x2))],[],(i3 0),19⟩) (by exact Zc ⟨jL,jL,jL,jL,Za⟩ Za nL) ?_
   refine aR (Zj h5 fun x5 ex5 h6=>(sQ R (ZI R iL iL (fun _=>ex5)) (sM R R ?_)))
   refine Zt ?_
   exact ZO h6 (vec [(i3 0)]) ((by exact Zc ⟨jL,jL,jL,jL,Za⟩ Za nL))
 ·have h3:=Zo hc1 h2
  refine ZJ ?_
  exact wK2 _ _ ((by exact Zc Za Za nL)) (J1 _ (vec [(i3 0)]) (hx1 _ (Zd h3).symm))
theorem YFq {s1:List Int} {v1:Int} {r:Bool} (h:YA2 s1 v1=some r):ARO Tryz.prog 175 [.r (.sl (s1.map (rInt .i64))),rI (v1)] (rB (r)):=by
 unfold YA2 at h
 refine Zw Tryz.func175 R R Tryz.ntmps175 R (Ze R) fun n0=>?_
 refine aS fun _ hK1 _=>(aR (sA R R (aZ (hK1 _ ?_))))
 refine aS fun _ hK2 _=>(aR (sM R R (sM R R (Zj h fun r1 er1 h1=>(Zg R R R (Zq (r:=rI (r1)) (caps:=[]) (bs:=[.r (.sl (s1.map (rInt .i64))),rI (v1)]) R iL R ⟨⟨_,iL,.d R⟩,⟨_,iL,.d R⟩,Za⟩ (fun _=>YGi (er1)) R) (sQ R (YB5 R iL iL) (sA R R (aZ (hK2 _ ?_)))))))))
 refine Zk ?_
 exact Y2_ h1 iL (.t (.d R))
theorem YKc {parent1:Int} {kid1:Int} {r:Bool} (h:YEH parent1 kid1=some r):ARO Tryz.prog 130 [rI (parent1),rI (kid1)] (rB (r)):=by
 unfold YEH at h
 refine Zw Tryz.func130 R R Tryz.ntmps130 R (Ze R) fun n0=>?_
 refine aS fun _ hK1 _=>(aR (sA R R (aZ (hK1 _ ?_))))
 refine aS fun _ hK2 _=>(aR (sA R R (aZ (hK2 _ ?_))))
 refine aS fun K3 hK3 wK3=>(aS fun _ hK4 _=>(aR (sM R R (aZ (hK4 _ ?_)))))
 refine Zp ?_
 refine jb1k h fun p1 hp1 hk1=>?_
 have J1 : ∀ (l1:List Int) (i1:Nat→Nat),p1=l1→K3 ⟨[(1,rI (kid1)),(5,.r (.sl (l1.map (rInt .i64))))],[],(i1 0),29⟩:=by
  intro l1 i1 e
  have h1:=hk1 _ e
  refine hK3 _ ?_
  refine aS fun _ hK5 _=>(aR (sM R R (sM R R (Zj h1 fun r1 er1 h2=>(Zg R R R (Zq (r:=rB (r1)) (caps:=[]) (bs:=[.r (.sl (l1.map (rInt .i64))),rI (kid1)]) R iL R ⟨⟨_,iL,.d R⟩,⟨_,iL,.d R⟩,Za⟩ (fun _=>YFq (er1)) R) (sA R R (aZ (hK5 _ ?_))))))))
  refine Zk ?_
  exact Y2_ h2 iL (.t (.d R))
 refine aS fun _ hK6 _=>(aR (sQ R (Zs R iL iL) (sA R R (aZ (hK6 _ ?_)))))
 refine aC R (fun hc1=>?_) (fun hc1=>?_)
 ·have h3:=Zn hc1 hp1
  refine aR (Zg R R R (YCs 9 R YCD (f:=(rInt .i64)) (l:=([1,6,7,10,11,12]:List Int)) ⟨R,⟨_,iL,R⟩,R,⟨_,iL,R⟩,R,⟨_,iL,R⟩,R,⟨_,iL,R⟩,R,⟨_,iL,R⟩,R,⟨_,iL,R⟩,Za⟩ R (fun _=>R) R) (sA R R ?_))
  refine Zt ?_
  exact wK3 _ _ (ZP (by exact Weak.frz (e':=[(0,rI (parent1)),(1,rI (kid1)),(4,rB (false)),(5,.r (.sl ([1,6,7,10,11,12].map (rInt .i64)))),(6,rI (parent1)),(7,rB ((decide (parent1=0)))),(8,rB ((decide (parent1=0)))),(9,.r (.sl ([1,6,7,10,11,12].map (rInt .i64))))]) (h':=[]) 9 R ⟨jL,jL,jL,.inl (.inr (.inr ⟨R,R⟩)),jL,jL,jL,.inl (.inr (.inr ⟨R,R⟩)),Za⟩ Za) (by exact Zc ⟨jL,jL,Za⟩ Za nL)) (J1 _ (vec [(n0+1)]) (Zd h3).symm)
 ·have h3:=Zo hc1 hp1
  refine aS fun _ hK7 _=>(aR (sQ R (Zs R iL iL) (sA R R (aZ (hK7 _ ?_)))))
  refine aC R (fun hc2=>?_) (fun hc2=>?_)
  ·have h4:=Zn hc2 h3
   refine aR (Zg R R R (YCs 12 R YCD (f:=(rInt .i64)) (l:=([2,4,5,10]:List Int)) ⟨R,⟨_,iL,R⟩,R,⟨_,iL,R⟩,R,⟨_,iL,R⟩,R,⟨_,iL,R⟩,Za⟩ R (fun _=>R) R) (sA R R ?_))
   refine Zt ?_
   exact wK3 _ _ (ZP (by exact Weak.frz (e':=[(0,rI (parent1)),(1,rI (kid1)),(4,rB (false)),(5,.r (.sl ([2,4,5,10].map (rInt .i64)))),(6,rI (parent1)),(7,rB ((decide (parent1=0)))),(8,rB ((decide (parent1=0)))),(10,rB ((decide (parent1=1)))),(11,rB ((decide (parent1=1)))),(12,.r (.sl ([2,4,5,10].map (rInt .i64))))]) (h':=[]) 12 R ⟨jL,jL,jL,.inl (.inr (.inr ⟨R,R⟩)),jL,jL,jL,jL,jL,.inl (.inr (.inr ⟨R,R⟩)),Za⟩ Za) (by exact Zc ⟨jL,jL,Za⟩ Za nL)) (J1 _ (vec [(n0+1)]) (Zd h4).symm)
  ·have h4:=Zo hc2 h3
   refine aS fun _ hK8 _=>(aR (sQ R (Zs R iL iL) (sA R R (aZ (hK8 _ ?_)))))
   refine aC R (fun hc3=>?_) (fun hc3=>?_)
   ·have h5:=Zn hc3 h4
    refine Zh (s':=⟨[(1,rI (kid1))],[],n0,29⟩) (by exact Zc ⟨jL,Za⟩ Za nL) ?_
    refine aR (Zg R R R (YCs 15 R YCD (f:=(rInt .i64)) (l:=([4,5,10]:List Int)) ⟨R,⟨_,iL,R⟩,R,⟨_,iL,R⟩,R,⟨_,iL,R⟩,Za⟩ R (fun _=>R) R) (sA R R ?_))
    refine Zt ?_
    exact wK3 _ _ (ZP (by exact Weak.frz (e':=[(1,rI (kid1)),(5,.r (.sl ([4,5,10].map (rInt .i64)))),(15,.r (.sl ([4,5,10].map (rInt .i64))))]) (h':=[]) 15 R ⟨jL,.inl (.inr (.inr ⟨R,R⟩)),.inl (.inr (.inr ⟨R,R⟩)),Za⟩ Za) (by exact Zc ⟨jL,jL,Za⟩ Za nL)) (J1 _ (vec [(n0+1)]) (Zd h5).symm)
   ·have h5:=Zo hc3 h4
    refine aS fun K9 hK9 wK9=>(aS fun _ hK10 _=>(aR (sQ R (Zs R iL iL) (sA R R (aZ (hK10 _ ?_))))))
    refine jb1k h5 fun p2 hp2 hk2=>?_
    have J2 : ∀ (x1:Bool) (i2:Nat→Nat),p2=x1→K9 ⟨[(1,rI (kid1)),(5,.cst (.slice none 0 0)),(6,rI (parent1)),(16,rB (x1))],[],(i2 0),29⟩:=by
     intro x1 i2 e
     have h6:=hk2 _ e
     refine hK9 _ ?_
     refine aC R (fun hc4=>?_) (fun hc4=>?_)
     ·have h7:=Zn hc4 h6
      refine aR (Zg R R R (YCs 19 R YCD (f:=(rInt .i64)) (l:=([5]:List Int)) ⟨R,⟨_,iL,R⟩,Za⟩ R (fun _=>R) R) (sA R R ?_))
      refine Zt ?_
      exact wK3 _ _ (ZP (by exact Weak.frz (e':=[(1,rI (kid1)),(5,.r (.sl ([5].map (rInt .i64)))),(6,rI (parent1)),(16,rB (x1)),(19,.r (.sl ([5].map (rInt .i64))))]) (h':=[]) 19 R ⟨jL,.inl (.inr (.inr ⟨R,R⟩)),jL,jL,.inl (.inr (.inr ⟨R,R⟩)),Za⟩ Za) (by exact Zc ⟨jL,jL,Za⟩ Za nL)) (J1 _ (vec [((i2 0)+1)]) (Zd h7).symm)
     ·have h7:=Zo hc4 h6
      refine aS fun _ hK11 _=>(aR (sQ R (Zs R iL iL) (sA R R (aZ (hK11 _ ?_)))))
      refine aC R (fun hc5=>?_) (fun hc5=>?_)
      ·have h8:=Zn hc5 h7
       refine aR (Zg R R R (YCs 22 R YCD (f:=(rInt .i64)) (l:=([3]:List Int)) ⟨R,⟨_,iL,R⟩,Za⟩ R (fun _=>R) R) (sA R R ?_))
       refine Zt ?_
       exact wK3 _ _ (ZP (by exact Weak.frz (e':=[(1,rI (kid1)),(5,.r (.sl ([3].map (rInt .i64)))),(6,rI (parent1)),(16,rB (x1)),(20,rB ((decide (parent1=2)))),(21,rB ((decide (parent1=2)))),(22,.r (.sl ([3].map (rInt .i64))))]) (h':=[]) 22 R ⟨jL,.inl (.inr (.inr ⟨R,R⟩)),jL,jL,jL,jL,.inl (.inr (.inr ⟨R,R⟩)),Za⟩ Za) (by exact Zc ⟨jL,jL,Za⟩ Za nL)) (J1 _ (vec [((i2 0)+1)]) (Zd h8).symm)
      ·have h8:=Zo hc5 h7
       refine aS fun _ hK12 _=>(aR (sQ R (Zs R iL iL) (sA R R (aZ (hK12 _ ?_)))))
       refine aC R (fun hc6=>?_) (fun hc6=>?_)
       ·have h9:=Zn hc6 h8
        refine aR (Zg R R R (YCs 25 R YCD (f:=(rInt .i64)) (l:=([8,9]:List Int)) ⟨R,⟨_,iL,R⟩,R,⟨_,iL,R⟩,Za⟩ R (fun _=>R) R) (sA R R ?_))
        refine Zt ?_
        exact wK3 _ _ (ZP (by exact Weak.frz (e':=[(1,rI (kid1)),(5,.r (.sl ([8,9].map (rInt .i64)))),(6,rI (parent1)),(16,rB (x1)),(20,rB ((decide (parent1=2)))),(21,rB ((decide (parent1=2)))),(23,rB ((decide (parent1=7)))),(24,rB ((decide (parent1=7)))),(25,.r (.sl ([8,9].map (rInt .i64))))]) (h':=[]) 25 R ⟨jL,.inl (.inr (.inr ⟨R,R⟩)),jL,jL,jL,jL,jL,jL,.inl (.inr (.inr ⟨R,R⟩)),Za⟩ Za) (by exact Zc ⟨jL,jL,Za⟩ Za nL)) (J1 _ (vec [((i2 0)+1)]) (Zd h9).symm)
       ·have h9:=Zo hc6 h8
        refine Zi ?_
        exact wK3 _ _ ((by exact Zc ⟨jL,.inl (.inr (.inr ⟨R,R⟩)),Za⟩ Za nL)) (J1 _ (vec [(i2 0)]) (Zd h9).symm)
    refine aC R (fun hc7=>?_) (fun hc7=>?_)
    ·have h10:=Zn hc7 hp2
     refine Zi ?_
     exact wK9 _ _ ((by exact Zc ⟨jL,jL,jL,jL,Za⟩ Za nL)) (J2 _ (vec [n0]) (Zd h10).symm)
    ·have h10:=Zo hc7 hp2
     refine Zh (s':=⟨[(1,rI (kid1)),(5,.cst (.slice none 0 0)),(6,rI (parent1))],[],n0,29⟩) (by exact Zc ⟨jL,jL,jL,Za⟩ Za nL) ?_
     refine aR (sQ R (Zs R iL iL) (sA R R ?_))
     refine Zt ?_
     exact wK9 _ _ ((by exact Zc ⟨jL,jL,jL,jL,Za⟩ Za nL)) (J2 _ (vec [n0]) (Zd h10).symm)
theorem YKd {d1:GDoc} {kind1:Int} {YDv:List Int} {r:Int} (h:YEI d1 kind1 YDv=some r):ARO Tryz.prog 128 [.agg [qf d1.Nodes],rI (kind1),.r (.sl (YDv.map (rInt .i64)))] (rI (r)):=by
 unfold YEI at h
 refine Zw Tryz.func128 R R Tryz.ntmps128 R (Ze R) fun n0=>?_
 refine aS fun _ hK1 _=>(aR (Zg R R R (ZR (cs:=[qf d1.Nodes]) 3 R iL R R) (sA R R (aZ (hK1 _ ?_)))))
 refine aS fun K2 hK2 wK2=>(aS fun _ hK3 _=>(aR (sM R R (sQ R (ZA R YCD.slice iL) (sM R R (aZ (hK3 _ ?_)))))))
 refine Zp ?_
 refine jc1k h fun o1 hit1 hk1 he1=>?_
 have J1 : ∀ (u2:Unit) (i5:Nat→Nat),o1 = .nrm u2→K2 ⟨[],[],(i5 0),35⟩:=by
  intro u2 i5 e
  have h1:=hk1 _ e
  refine hK2 _ ?_
  refine aS fun _ hK4 _=>(aR (sA R R (aZ (hK4 _ ?_))))
  refine Zk ?_
  exact Y1_ h1 iL (.t (.d R))
 refine ZS (fun (x2:Int) i3=>⟨[(1,rI (kind1)),(3,.ptr 3 n0 0 0),(11,.r (.sl (YDv.map (rInt .i64)))),(12,rI ((YDv.length:Int))),(13,rI (x2))],[(3,some (.box n0 24 [qf d1.Nodes]))],(i3 0),35⟩) (vec [(n0+1)]) hit1 ((by exact Zc ⟨jL,jL,jL,jL,jL,Za⟩ ⟨.inl R,Za⟩ nL)) ?_
 intro x2 i3 v1 hv1 hx1
 have h2:YB1 d1 kind1 YDv x2=some v1:=hv1; unfold YB1 at h2
 refine aS fun _ hK5 _=>(aR (sQ R (Zx R iL iL) (aZ (hK5 _ ?_))))
 refine aS fun _ hK6 _=>?_
 refine aC R (fun hc1=>?_) (fun hc1=>?_)
 ·have h3:=Zn hc1 h2
  refine Zi (hK6 _ ?_)
  refine aS fun _ hK7 _=>(Zp (aS fun _ hK8 _=>(aR (Zj h3 fun x4 ex4 h4=>(sQ R (Zz R YCD.slice iL iL (fun _=>R) (fun _=>ex4)) (sQ R (ZN (d:=.int .i64 x4) R ts_3 iL R) (sA R R (aZ (hK8 _ ?_)))))))))
  refine aS fun _ hK9 _=>(aR (sQ R (ZF R YHy iL R R) (sM R R (ob2k h4 fun r1 r2 er1 h5=>(Zg R R R (Zq (r:=.tup [rI (r1),rB (r2)]) (caps:=[]) (bs:=[.agg [qf d1.Nodes],rI (x4)]) R iL R ⟨⟨_,iL,.g (cs:=[.sl (d1.Nodes.map YAP.row)]) R R⟩,⟨_,iL,.d R⟩,Za⟩ (fun _=>YL6 (er1)) R) (sM R R (sQ R (ZY (a:=rI (r1)) R iL R) (sQ R (ZY (a:=rB (r2)) R iL R) (sA R R (sA R R (aZ (hK9 _ ?_))))))))))))
  refine aS fun _ hK10 _=>(aS fun _ hK11 _=>?_)
  refine Zh (s':=⟨[(1,rI (kind1)),(3,.ptr 3 n0 0 0),(9,rI (r1)),(10,rB (r2)),(11,.r (.sl (YDv.map (rInt .i64)))),(12,rI ((YDv.length:Int))),(13,rI (x2))],[(3,some (.box n0 24 [qf d1.Nodes]))],(i3 0),35⟩) (by exact Zc ⟨jL,jL,jL,jL,jL,jL,jL,Za⟩ ⟨.inl R,Za⟩ nL) ?_
  refine aR (sM R R (sQ R (ZQ R iL) (aZ (hK11 _ ?_))))
  refine aC R (fun hc2=>?_) (fun hc2=>?_)
  ·have h6:=Zn hc2 h5
   refine aS fun _ hK12 _=>?_
   refine Zh (s':=⟨[],[],(i3 0),35⟩) (by exact Zc Za Za nL) ?_
   refine aR (sA R R (aZ (hK12 _ ?_)))
   refine Zk ?_
   exact Y1_ (he1 _ (hx1 _ (Zd h6).symm)) iL (.t (.d R))
  ·have h6:=Zo hc2 h5
   refine Zi (hK10 _ ?_)
   refine aS fun _ hK13 _=>(aR (sM R R (sQ R (fB R YBv iL fR R) (sQ R (Zb (a:=qf d1.Nodes) R YFh iL R R) (sM R R (Zj h6 fun x5 ex5 h7=>(sQ R (Zz R YEg.slice iL iL (fun _=>R) (fun _=>ex5)) (sQ R (Zy R YBI iL) (sQ R (ZN (d:=.int .i64 x5.Kind) R ts_3 iL R) (Zj h7 fun r3 er3 h8=>(Zg R R R (Zq (r:=rB (r3)) (caps:=[]) (bs:=[rI (kind1),rI (x5.Kind)]) R iL R ⟨⟨_,iL,.d R⟩,⟨_,iL,.d R⟩,Za⟩ (fun _=>YKc (er3)) R) (sQ R (ZQ R iL) (aZ (hK13 _ ?_))))))))))))))
   refine aC R (fun hc3=>?_) (fun hc3=>?_)
   ·have h9:=Zn hc3 h8
    refine aS fun _ hK14 _=>?_
    refine Zh (s':=⟨[],[],(i3 0),35⟩) (by exact Zc Za Za nL) ?_
    refine aR (sA R R (aZ (hK14 _ ?_)))
    refine Zk ?_
    exact Y1_ (he1 _ (hx1 _ (Zd h9).symm)) iL (.t (.d R))
   ·have h9:=Zo hc3 h8
    refine Zi (hK7 _ ?_)
    refine Zh (s':=⟨[(1,rI (kind1)),(3,.ptr 3 n0 0 0),(11,.r (.sl (YDv.map (rInt .i64)))),(12,rI ((YDv.length:Int))),(13,rI (x2))],[(3,some (.box n0 24 [qf d1.Nodes]))],(i3 0),35⟩) (by exact Zc ⟨jL,jL,jL,jL,jL,Za⟩ ⟨.inl R,Za⟩ nL) ?_
    refine aR (Zj h9 fun x6 ex6 h10=>(sQ R (ZI R iL iL (fun _=>ex6)) (sM R R ?_)))
    refine Zt ?_
    exact ZO h10 (vec [(i3 0)]) ((by exact Zc ⟨jL,jL,jL,jL,jL,Za⟩ ⟨.inl R,Za⟩ nL))
 ·have h3:=Zo hc1 h2
  refine ZJ ?_
  exact wK2 _ _ ((by exact Zc Za Za nL)) (J1 _ (vec [(i3 0)]) (hx1 _ (Zd h3).symm))
theorem YPA {d1:GDoc} {r:Int} (h:YEs d1=some r):ARO Tryz.prog 82 [.agg [qf d1.Nodes]] (rI (r)):=by
 unfold YEs at h
 refine Zw Tryz.func82 R R Tryz.ntmps82 R (Ze R) fun n0=>?_
 refine aS fun _ hK1 _=>(aR (Zg R R R (ZR (cs:=[qf d1.Nodes]) 1 R iL R R) (sA R R (aZ (hK1 _ ?_)))))
 refine aS fun _ hK2 _=>(aS fun _ hK3 _=>(aR (sQ R (fB R YBv iL fR R) (sQ R (Zb (a:=qf d1.Nodes) R YFh iL R R) (sQ R (ZA R YEg.slice iL) (sQ R (Zs R iL iL) (aZ (hK3 _ ?_))))))))
 refine aC R (fun hc1=>?_) (fun hc1=>?_)
 ·have h1:=Zn hc1 h
  refine aS fun _ hK4 _=>(aR (sA R R (aZ (hK4 _ ?_))))
  refine Zk ?_
  exact Y1_ h1 iL (.t (.d R))
 ·have h1:=Zo hc1 h
  refine Zi (hK2 _ ?_)
  refine aS fun K5 hK5 wK5=>(aS fun _ hK6 _=>(aR (sQ R (fB R YBv iL fR R) (sQ R (Zb (a:=qf d1.Nodes) R YFh iL R R) (sQ R (ZA R YEg.slice iL) (sM R R (aZ (hK6 _ ?_))))))))
  refine Zp ?_
  refine jc1k h1 fun o1 hit1 hk1 he1=>?_
  have J1 : ∀ (u2:Unit) (i5:Nat→Nat),o1 = .nrm u2→K5 ⟨[(1,.ptr 1 n0 0 0)],[(1,some (.box n0 24 [qf d1.Nodes]))],(i5 0),67⟩:=by
   intro u2 i5 e
   have h2:=hk1 _ e
   refine hK5 _ ?_
   refine aS fun K7 hK7 wK7=>(aS fun _ hK8 _=>(aR (sQ R (fB R YBv iL fR R) (sQ R (Zb (a:=qf d1.Nodes) R YFh iL R R) (sQ R (ZA R YEg.slice iL) (sM R R (aZ (hK8 _ ?_))))))))
   refine Zp ?_
   refine jc1k h2 fun o2 hit2 hk2 he2=>?_
   have J2 : ∀ (u4:Unit) (i10:Nat→Nat),o2 = .nrm u4→K7 ⟨[],[],(i10 0),67⟩:=by
    intro u4 i10 e
    have h3:=hk2 _ e
    refine hK7 _ ?_
    refine aS fun _ hK9 _=>(aR (sA R R (aZ (hK9 _ ?_))))
    refine Zk ?_
    exact Y1_ h3 iL (.t (.d R))
   refine ZS (fun (x5:Int) i8=>⟨[(1,.ptr 1 n0 0 0),(51,qf d1.Nodes),(52,rI ((d1.Nodes.length:Int))),(53,rI (x5))],[(1,some (.box n0 24 [qf d1.Nodes]))],(i8 0),67⟩) (vec [(i5 0)]) hit2 ((by exact Zc ⟨jL,jL,jL,jL,Za⟩ ⟨.inl R,Za⟩ nL)) ?_
   intro x5 i8 v1 hv1 hx2
   have h4:YDC d1 x5=some v1:=hv1; unfold YDC at h4
   refine aS fun _ hK10 _=>(aR (sQ R (Zx R iL iL) (aZ (hK10 _ ?_))))
   refine aS fun _ hK11 _=>?_
   refine aC R (fun hc2=>?_) (fun hc2=>?_)
   ·have h5:=Zn hc2 h4
    refine Zi (hK11 _ ?_)
    refine aS fun _ hK12 _=>(Zp (aS fun _ hK13 _=>(aR (Zj h5 fun x7 ex7 h6=>(sQ R (Zz R YEg.slice iL iL (fun _=>R) (fun _=>ex7)) (sQ R (ZM (cs:=(k7_ x7)) R YJq iL R R) (Zg R R R (ZX (cs:=z4_) 7 R YVe R R) (ZD R R (ZB (ds:=(k7_ x7)) R YVd iL R iL R R R R) (aZ (hK13 _ ?_))))))))))
    refine aS fun _ hK14 _=>(Zj h6 fun r1 er1 h7=>?_)
    refine AW.regionP 5 [⟨some 57,(fun _=>.agg [qf d1.Nodes]),none,[]⟩,⟨some 58,(fun _=>.ptr 7 (i8 0) 0 1),none,[]⟩,⟨some 59,(fun _=>rI (x7.Kind)),none,[]⟩,⟨some 60,(fun _=>.agg (k7_ x7)),none,[]⟩,⟨some 61,(fun _=>.r (.sl (r1.map (rInt .i64)))),none,[]⟩] hmix (by kernel_rfl) (by exact ⟨fun _ _ h=>⟨R,fun _ _ e=>by cases e⟩,fun _ _ h=>⟨R,fun _ _ e=>by cases e⟩,fun _ _ h=>⟨R,fun _ _ e=>by cases e⟩,fun _ _ h=>⟨R,fun _ _ e=>by cases e⟩,fun _ _ h=>⟨R,fun _ _ e=>by cases e⟩,Za⟩) R (by exact ⟨Zu (n1:=fun n=>n) R R (by intro d h; cases h; rfl) R (fun _=>[(1,.ptr 1 n0 0 0)]) (fun _=>[(1,some (.box n0 24 [qf d1.Nodes]))]) (fun D G1 hr=>⟨ZU R R,Za⟩) (fun D G1 hr=>⟨ZG R R,Za⟩) (fun _ _=>R) (fun G1 e h' n=>Zv (v:=.agg [qf d1.Nodes]) (ZF R YHy (.inl R) R R) _),
      Zu (n1:=fun n=>n) R R (by intro d h; cases h; rfl) R (fun _=>[(7,.ptr 7 (i8 0) 0 0)]) (fun _=>[(7,some (.box (i8 0) 46 (k7_ x7)))]) (fun D G1 hr=>⟨ZU R R,Za⟩) (fun D G1 hr=>⟨ZG R R,Za⟩) (fun _ _=>R) (fun G1 e h' n=>Zv (v:=.ptr 7 (i8 0) 0 1) (fB R YBI (.inl R) (fun _=>R) R) _),
      Zu (n1:=fun n=>n) R R (by intro d h; cases h; rfl) R (fun _=>[(58,.ptr 7 (i8 0) 0 1)]) (fun _=>[(7,some (.box (i8 0) 46 (k7_ x7)))]) (fun D G1 hr=>⟨ZK hr 1 R R (by kernel_rfl) R R,Za⟩) (fun D G1 hr=>⟨ZG R R,Za⟩) (fun _ _=>R) (fun G1 e h' n=>Zv (v:=rI (x7.Kind)) (Zb (a:=rI (x7.Kind)) R ts_3 (.inl R) R R) _),
      Zu (n1:=fun n=>n) R R (by intro d h; cases h; rfl) R (fun _=>[(7,.ptr 7 (i8 0) 0 0)]) (fun _=>[(7,some (.box (i8 0) 46 (k7_ x7)))]) (fun D G1 hr=>⟨ZU R R,Za⟩) (fun D G1 hr=>⟨ZG R R,Za⟩) (fun _ _=>R) (fun G1 e h' n=>Zv (v:=.agg (k7_ x7)) (ZF R YJq (.inl R) R R) _),
      Zu (n1:=fun n=>n) R R (by intro d h; cases h; rfl) R (fun _=>[(60,.agg (k7_ x7))]) (fun _=>[]) (fun D G1 hr=>⟨ZK hr 3 R R (by kernel_rfl) R R,Za⟩) (fun D G1 hr=>Za) (fun _ _=>R) (fun G1 e h' n=>YCZ (r:=.r (.sl (r1.map (rInt .i64)))) (caps:=[]) (bs:=(k5_ x7)) R (.inl R) R ⟨.inl ⟨(.inl R),R⟩,Za⟩ (fun _=>YQz (er1))),
      Za⟩) fun G1 n1=>?_
    refine ZT (s':=⟨[(1,.ptr 1 n0 0 0),(7,.ptr 7 (i8 0) 0 0),(51,qf d1.Nodes),(52,rI ((d1.Nodes.length:Int))),(53,rI (x5)),(54,rB ((decide (x5<(d1.Nodes.length:Int))))),(55,.rop (YAP.row x7) 0),(56,.agg (k7_ x7)),(57,.agg [qf d1.Nodes]),(58,.ptr 7 (i8 0) 0 1),(59,rI (x7.Kind)),(60,.agg (k7_ x7)),(61,.r (.sl (r1.map (rInt .i64))))],[(1,some (.box n0 24 [qf d1.Nodes])),(7,some (.box (i8 0) 46 (k7_ x7)))],n1,67⟩) (by exact Zc ⟨jL,jL,jL,jL,jL,jL,jL,jL,jL,jL,jL,jL,jL,Za⟩ ⟨.inl R,.inl R,Za⟩ nL) ?_
    refine Zj h7 fun e1 ee1 h8=>(Zg R R R (Zq (r:=rI (e1)) (caps:=[]) (bs:=[.agg [qf d1.Nodes],rI (x7.Kind),.r (.sl (r1.map (rInt .i64)))]) R iL R ⟨⟨_,iL,.g (cs:=[.sl (d1.Nodes.map YAP.row)]) R R⟩,⟨_,iL,.d R⟩,⟨_,iL,.d R⟩,Za⟩ (fun _=>YKd (ee1)) R) (sA R R (aZ (hK14 _ ?_))))
    refine aS fun _ hK15 _=>?_
    refine Zh (s':=⟨[(1,.ptr 1 n0 0 0),(8,rI (e1)),(51,qf d1.Nodes),(52,rI ((d1.Nodes.length:Int))),(53,rI (x5))],[(1,some (.box n0 24 [qf d1.Nodes]))],n1,67⟩) (by exact Zc ⟨jL,jL,jL,jL,jL,Za⟩ ⟨.inl R,Za⟩ nL) ?_
    refine aR (sM R R (sQ R (ZH R iL iL) (aZ (hK15 _ ?_))))
    refine aC R (fun hc3=>?_) (fun hc3=>?_)
    ·have h9:=Zn hc3 h8
     refine aS fun _ hK16 _=>(aR (sM R R (sA R R (aZ (hK16 _ ?_)))))
     refine Zk ?_
     exact Y1_ (he2 _ (hx2 _ (Zd h9).symm)) iL (.t (.d R))
    ·have h9:=Zo hc3 h8
     refine Zi (hK12 _ ?_)
     refine aR (Zj h9 fun x8 ex8 h10=>(sQ R (ZI R iL iL (fun _=>ex8)) (sM R R ?_)))
     refine Zt ?_
     exact ZO h10 (vec [n1]) ((by exact Zc ⟨jL,jL,jL,jL,Za⟩ ⟨.inl R,Za⟩ nL))
   ·have h5:=Zo hc2 h4
    refine ZJ ?_
    exact wK7 _ _ ((by exact Zc Za Za nL)) (J2 _ (vec [(i8 0)]) (hx2 _ (Zd h5).symm))
  refine ZS (fun (x2:Int) i3=>⟨[(1,.ptr 1 n0 0 0),(14,qf d1.Nodes),(15,rI ((d1.Nodes.length:Int))),(16,rI (x2))],[(1,some (.box n0 24 [qf d1.Nodes]))],(i3 0),67⟩) (vec [(n0+1)]) hit1 ((by exact Zc ⟨jL,jL,jL,jL,Za⟩ ⟨.inl R,Za⟩ nL)) ?_
  intro x2 i3 v2 hv2 hx1
  have h11:YCA d1 x2=some v2:=hv2; unfold YCA at h11
  refine aS fun _ hK17 _=>(aR (sQ R (Zx R iL iL) (aZ (hK17 _ ?_))))
  refine aS fun _ hK18 _=>?_
  refine aC R (fun hc4=>?_) (fun hc4=>?_)
  ·have h12:=Zn hc4 h11
   refine Zi (hK18 _ ?_)
   refine aS fun _ hK19 _=>(Zp (aS fun _ hK20 _=>(aR (sM R R (Zj h12 fun x9 ex9 h13=>(sQ R (Zz R YEg.slice iL iL (fun _=>R) (fun _=>ex9)) (sQ R (ZM (cs:=(k7_ x9)) R YJq iL R R) (Zg R R R (ZX (cs:=z4_) 4 R YVe R R) (sA R R (ZD R R (ZB (ds:=(k7_ x9)) R YVd iL R iL R R R R) (aZ (hK20 _ ?_))))))))))))
   refine aS fun _ hK21 _=>(aS fun _ hK22 _=>(aR (sQ R (ZF R YJq iL R R) (Zj h13 fun e2 ee2 h14=>(Zg R R R (Zq (r:=rI (e2)) (caps:=[]) (bs:=(k5_ x9)) R iL R ⟨⟨_,iL,.g (cs:=[.int .i64 x9.ID,.int .i64 x9.Kind,.sl (x9.Attrs.map YAG.row),.sl (x9.Flow.map YAC.row),.int .i64 x9.Grid.Rows,.int .i64 x9.Grid.Cols,.sl (x9.Grid.Cells.map YAY.row),.sl (x9.Grid.Merges.map YAX.row),.sl (x9.Draw.map YAN.row)]) R R⟩,Za⟩ (fun _=>YKe (ee2)) R) (sA R R (aZ (hK22 _ ?_))))))))
   refine aS fun _ hK23 _=>(aR (sM R R (sQ R (ZH R iL iL) (aZ (hK23 _ ?_)))))
   refine aC R (fun hc5=>?_) (fun hc5=>?_)
   ·have h15:=Zn hc5 h14
    refine aS fun _ hK24 _=>?_
    refine Zh (s':=⟨[(5,rI (e2))],[],((i3 0)+1),67⟩) (by exact Zc ⟨jL,Za⟩ Za nL) ?_
    refine aR (sM R R (sA R R (aZ (hK24 _ ?_))))
    refine Zk ?_
    exact Y1_ (he1 _ (hx1 _ (Zd h15).symm)) iL (.t (.d R))
   ·have h15:=Zo hc5 h14
    refine Zi (hK21 _ ?_)
    refine aS fun _ hK25 _=>?_
    refine Zh (s':=⟨[(1,.ptr 1 n0 0 0),(3,rI (x2)),(4,.ptr 4 (i3 0) 0 0),(14,qf d1.Nodes),(15,rI ((d1.Nodes.length:Int))),(16,rI (x2))],[(1,some (.box n0 24 [qf d1.Nodes])),(4,some (.box (i3 0) 46 (k7_ x9)))],((i3 0)+1),67⟩) (by exact Zc ⟨jL,jL,jL,jL,jL,jL,Za⟩ ⟨.inl R,.inl R,Za⟩ nL) ?_
    refine ZW hmix (by kernel_rfl) ?_
    refine Zm R R R (Zf R iL) (Zm R R R (Zs R iL iL) (Zm R R R (Zf R iL) ?_))
    refine Zl (.one R R R) R R (fB R YCX iL fR R) ?_
    refine Zl (.one R R R) R R (Zb (a:=rI (x9.ID)) R ts_3 (iR R) R R) ?_
    refine Zl (.one R R R) R R (ZH R (iR R) iL) ?_
    refine Zm R R R (Zr R iL (iR R)) (Zm R R R (Zf R iL) ?_)
    refine Zl (.one R R R) R R (Zf R iL) ?_
    refine Zl (.one R R R) R R (ZV R (iR R) iL) ?_
    refine Zl (.one R R R) R R (Zf R (iR R)) ?_
    refine Zl (.two R R R) R R (fB R YCX iL fR R) ?_
    refine Zl (.two R R R) R R (Zb (a:=rI (x9.ID)) R ts_3 (iR R) R R) ?_
    refine Zl (.two R R R) R R (fB R YBv iL fR R) ?_
    refine Zl (.two R R R) R R (Zb (a:=qf d1.Nodes) R YFh (iR R) R R) ?_
    refine Zl (.two R R R) R R (Zf R iL) ?_
    refine Zj h15 fun x10 ex10 h16=>?_
    refine Zl (.two R R R) R R (YBf R (iR R) iL (gdt ex10)) ?_
    refine Zj h16 fun x11 ex11 h17=>?_
    refine Zl (.two R R R) R R (Zz R YEg.slice (iR R) (iR R) (fun _=>R) (gdt ex11)) ?_
    refine Zl (.two R R R) R R (Zy R YCX (iR R)) ?_
    refine Zl (.two R R R) R R (ZN (d:=.int .i64 x11.ID) R ts_3 (iR R) R) ?_
    refine Zl (.two R R R) R R (YEP R (iR R) (iR R)) ?_
    refine Zl (.one R R R) R R (Zr R (iR R) (iR R)) ?_
    refine Zm R R R (ZC R iL (iR R)) ?_
    refine AQ.nil ?_
    refine hK25 _ ?_
    refine aC R (fun hc6=>?_) (fun hc6=>?_)
    ·have h18:=Zn hc6 h17
     refine aS fun _ hK26 _=>?_
     refine Zh (s':=⟨[],[],((i3 0)+1),67⟩) (by exact Zc Za Za nL) ?_
     refine aR (sA R R (aZ (hK26 _ ?_)))
     refine Zk ?_
     exact Y1_ (he1 _ (hx1 _ (Zd h18).symm)) iL (.t (.d R))
    ·have h18:=Zo hc6 h17
     refine Zi (hK19 _ ?_)
     refine aR (Zj h18 fun x12 ex12 h19=>(sQ R (ZI R iL iL (fun _=>ex12)) (sM R R ?_)))
     refine Zt ?_
     exact ZO h19 (vec [((i3 0)+1)]) ((by exact Zc ⟨jL,jL,jL,jL,Za⟩ ⟨.inl R,Za⟩ nL))
  ·have h12:=Zo hc4 h11
   refine ZJ ?_
   exact wK5 _ _ ((by exact Zc ⟨jL,Za⟩ ⟨.inl R,Za⟩ nL)) (J1 _ (vec [(i3 0)]) (hx1 _ (Zd h12).symm))
theorem YO8 {d1:GDoc} {id1:Int} {r:Int} (h:YHJ d1 id1=some r):ARO Tryz.prog 95 [.agg [qf d1.Nodes],rI (id1)] (rI (r)):=by
 unfold YHJ at h
 refine Zw Tryz.func95 R R Tryz.ntmps95 R (Ze R) fun n0=>?_
 refine aS fun _ hK1 _=>(aR (Zg R R R (ZR (cs:=[qf d1.Nodes]) 2 R iL R R) (sA R R (aZ (hK1 _ ?_)))))
 refine aS fun _ hK2 _=>(aS fun _ hK3 _=>(aR (sQ R (ZF R YHy iL R R) (sM R R (ob2k h fun r1 r2 er1 h1=>(Zg R R R (Zq (r:=.tup [rI (r1),rB (r2)]) (caps:=[]) (bs:=[.agg [qf d1.Nodes],rI (id1)]) R iL R ⟨⟨_,iL,.g (cs:=[.sl (d1.Nodes.map YAP.row)]) R R⟩,⟨_,iL,.d R⟩,Za⟩ (fun _=>YL6 (er1)) R) (sM R R (sQ R (ZY (a:=rI (r1)) R iL R) (sQ R (ZY (a:=rB (r2)) R iL R) (sA R R (sA R R (aZ (hK3 _ ?_)))))))))))))
 refine aS fun _ hK4 _=>?_
 refine Zh (s':=⟨[(5,rI (r1)),(6,rB (r2))],[],(n0+1),15⟩) (by exact Zc ⟨jL,jL,Za⟩ Za nL) ?_
 refine aR (sM R R (aZ (hK4 _ ?_)))
 refine aC R (fun hc1=>?_) (fun hc1=>?_)
 ·have h2:=Zn hc1 h1
  refine aS fun _ hK5 _=>(aR (sM R R (sA R R (aZ (hK5 _ ?_)))))
  refine Zk ?_
  exact Y1_ h2 iL (.t (.d R))
 ·have h2:=Zo hc1 h1
  refine Zi (hK2 _ ?_)
  refine aS fun _ hK6 _=>(aR (sA R R (aZ (hK6 _ ?_))))
  refine Zk ?_
  exact Y1_ h2 iL (.t (.d R))
theorem YIr {l1:List YAG} {name1:List UInt8} {r:(List UInt8)} (h:YGa l1 name1=some r):ARO Tryz.prog 101 [qa l1,.r (.str name1)] (.r (.str r)):=by
 unfold YGa at h
 refine Zw Tryz.func101 R R Tryz.ntmps101 R (Ze R) fun n0=>?_
 refine aS fun _ hK1 _=>(aR (sA R R (aZ (hK1 _ ?_))))
 refine aS fun K2 hK2 wK2=>(aS fun _ hK3 _=>(aR (sM R R (sQ R (ZA R YDI.slice iL) (sM R R (aZ (hK3 _ ?_)))))))
 refine Zp ?_
 refine jc1k h fun o1 hit1 hk1 he1=>?_
 have J1 : ∀ (u2:Unit) (i5:Nat→Nat),o1 = .nrm u2→K2 ⟨[],[],(i5 0),20⟩:=by
  intro u2 i5 e
  have h1:=hk1 _ e
  refine hK2 _ ?_
  refine aS fun _ hK4 _=>(aR (sA R R (aZ (hK4 _ ?_))))
  refine Zk ?_
  exact YIw (P:=Tryz.prog) (fun (r:(List UInt8))=>.r (.str r)) h1 iL (.t (.d R))
 refine ZS (fun (x2:Int) i3=>⟨[(1,.r (.str name1)),(7,qa l1),(8,rI ((l1.length:Int))),(9,rI (x2))],[],(i3 0),20⟩) (vec [n0]) hit1 ((by exact Zc ⟨jL,jL,jL,jL,Za⟩ Za nL)) ?_
 intro x2 i3 v1 hv1 hx1
 have h2:YFe l1 name1 x2=some v1:=hv1; unfold YFe at h2
 refine aS fun _ hK5 _=>(aR (sQ R (Zx R iL iL) (aZ (hK5 _ ?_))))
 refine aS fun _ hK6 _=>?_
 refine aC R (fun hc1=>?_) (fun hc1=>?_)
 ·have h3:=Zn hc1 h2
  refine Zi (hK6 _ ?_)
  refine aS fun _ hK7 _=>(Zp (aS fun _ hK8 _=>(aR (Zj h3 fun x4 ex4 h4=>(sQ R (Zz R YDI.slice iL iL (fun _=>R) (fun _=>ex4)) (sQ R (ZM (cs:=(k25_ x4)) R YQ6 iL R R) (Zg R R R (ZX (cs:=[.r (.str []),.r (.str [])]) 6 R t0_58 R R) (ZD R R (ZB (ds:=(k25_ x4)) R tz_58 iL R iL R R R R) (aZ (hK8 _ ?_))))))))))
  refine aS fun _ hK9 _=>(aR (sQ R (fB R YGM iL fR R) (sQ R (Zb (a:=.r (.str x4.Name)) R ts_9 iL R R) (sM R R (sQ R (YET R iL iL) (aZ (hK9 _ ?_)))))))
  refine aC R (fun hc2=>?_) (fun hc2=>?_)
  ·have h5:=Zn hc2 h4
   refine aS fun _ hK10 _=>?_
   refine Zh (s':=⟨[(6,.ptr 6 (i3 0) 0 0)],[(6,some (.box (i3 0) 58 (k25_ x4)))],((i3 0)+1),20⟩) (by exact Zc ⟨jL,Za⟩ ⟨.inl R,Za⟩ nL) ?_
   refine aR (sQ R (fB R YIt iL fR R) (sQ R (Zb (a:=.r (.str x4.Value)) R ts_9 iL R R) (sA R R (aZ (hK10 _ ?_)))))
   refine Zk ?_
   exact YIw (P:=Tryz.prog) (fun (r:(List UInt8))=>.r (.str r)) (he1 _ (hx1 _ (Zd h5).symm)) iL (.t (.d R))
  ·have h5:=Zo hc2 h4
   refine Zi (hK7 _ ?_)
   refine aR (Zj h5 fun x5 ex5 h6=>(sQ R (ZI R iL iL (fun _=>ex5)) (sM R R ?_)))
   refine Zt ?_
   exact ZO h6 (vec [((i3 0)+1)]) ((by exact Zc ⟨jL,jL,jL,jL,Za⟩ Za nL))
 ·have h3:=Zo hc1 h2
  refine ZJ ?_
  exact wK2 _ _ ((by exact Zc Za Za nL)) (J1 _ (vec [(i3 0)]) (hx1 _ (Zd h3).symm))
theorem YLa {x1:YAC} {mode1:Int} {r:Bool} (h:YEf x1 mode1=some r):ARO Tryz.prog 143 [.agg (k26_ x1),rI (mode1)] (rB (r)):=by
 unfold YEf at h
 refine Zw Tryz.func143 R R Tryz.ntmps143 R (Ze R) fun n0=>?_
 refine aS fun _ hK1 _=>(aR (Zg R R R (ZR (cs:=(k26_ x1)) 2 R iL R R) (sA R R (aZ (hK1 _ ?_)))))
 refine aS fun _ hK2 _=>(aR (sQ R (fB R YGN iL fR R) (sQ R (Zb (a:=qa x1.Attrs) R YCi iL R R) (Zj h fun r1 er1 h1=>(Zg R R R (Zq (r:=.r (.str r1)) (caps:=[]) (bs:=[qa x1.Attrs,.r (.str [104,105,100,100,101,110])]) R iL R ⟨⟨_,iL,.d R⟩,⟨_,iL,.d R⟩,Za⟩ (fun _=>YIr (er1)) R) (sQ R (YET R iL iL) (sM R R (sV R R R (Zf R iL) (sV R R R (Zs R (iR R) iL) (sV R R R (Zf R (iR R)) ?_))))))))))
 refine sW (.two R R R) R (fB R YGN iL fR R) ?_
 refine sW (.two R R R) R (Zb (a:=qa x1.Attrs) R YCi (iR R) R R) ?_
 refine Zj h1 fun r2 er2 h2=>?_
 refine ZE (.two R R R) R R (Zq (r:=.r (.str r2)) (caps:=[]) (bs:=[qa x1.Attrs,.r (.str [99,117,116])]) R iL R ⟨⟨_,(iR R),.d R⟩,⟨_,iL,.d R⟩,Za⟩ (fun hg=>YIr (gdt er2 hg)) R) ?_
 refine sW (.two R R R) R (YCz R (iR R) iL) ?_
 refine sV R R R (Zr R (iR R) (iR R)) (sQ R (ZC R iL (iR R)) (sM R R (sV R R R (Zf R iL) (sV R R R (Zs R (iR R) iL) (sV R R R (Zf R (iR R)) ?_)))))
 refine sW (.two R R R) R (fB R YGN iL fR R) ?_
 refine sW (.two R R R) R (Zb (a:=qa x1.Attrs) R YCi (iR R) R R) ?_
 refine Zj h2 fun r3 er3 h3=>?_
 refine ZE (.two R R R) R R (Zq (r:=.r (.str r3)) (caps:=[]) (bs:=[qa x1.Attrs,.r (.str [97,100,100])]) R iL R ⟨⟨_,(iR R),.d R⟩,⟨_,iL,.d R⟩,Za⟩ (fun hg=>YIr (gdt er3 hg)) R) ?_
 refine sW (.two R R R) R (YCz R (iR R) iL) ?_
 refine sV R R R (Zr R (iR R) (iR R)) (sQ R (ZC R iL (iR R)) (sA R R (aZ (hK2 _ ?_))))
 refine Zk ?_
 exact Y2_ h3 iL (.t (.d R))
theorem YLZ {f1:List YAC} {mode1:Int} {r:(List Int)} (h:YEe f1 mode1=some r):ARO Tryz.prog 97 [qb f1,rI (mode1)] (.r (.sl (r.map (rInt .i64)))):=by
 unfold YEe at h
 refine Zw Tryz.func97 R R Tryz.ntmps97 R (Ze R) fun n0=>?_
 refine aS fun _ hK1 _=>(aR (sA R R (aZ (hK1 _ ?_))))
 refine aS fun _ hK2 _=>(aR (sA R R (aZ (hK2 _ ?_))))
 refine aS fun K3 hK3 wK3=>(aS fun _ hK4 _=>(aR (sM R R (sQ R (ZA R YBN.slice iL) (sM R R (aZ (hK4 _ ?_)))))))
 refine Zp ?_
 refine jb1k h fun o1 hit1 hk1=>?_
 have J1 : ∀ (out4:List Int) (i5:Nat→Nat),o1=out4→K3 ⟨[(5,.own 5005 (i5 0))],[(5005,some (.arr (i5 0) 3 1 (out4.map (rInt .i64))))],(i5 1),37⟩:=by
  intro out4 i5 e
  have h1:=hk1 _ e
  refine hK3 _ ?_
  refine aS fun _ hK5 _=>(aR (sM R R (sA R R (aZ (hK5 _ ?_)))))
  refine Zk ?_
  exact YIw (P:=Tryz.prog) (fun (r:(List Int))=>.r (.sl (r.map (rInt .i64)))) h1 iL (.t (.one (.own R)))
 refine AW.iter2 (fun (x2:Int) (out2:List Int) i3=>⟨[(0,qb f1),(1,rI (mode1)),(5,.own 5005 (i3 0)),(8,qb f1),(9,rI ((f1.length:Int))),(10,rI (x2))],[(5005,some (.arr (i3 0) 3 1 (out2.map (rInt .i64))))],(i3 1),37⟩) (vec [n0,(n0+1)]) hit1 (ZP (ZP (Weak.adopt 5 5005 3 1 (by decide) R) (by exact Zc (e':=[(0,qb f1),(1,rI (mode1)),(4,.cst (.slice none 0 0)),(5,.own 5005 n0),(8,qb f1),(9,rI ((f1.length:Int))),(10,rI (0))]) (h':=[(5005,some (.arr n0 3 1 (([]:List Int).map (rInt .i64))))]) ⟨jL,jL,jL,jL,jL,jL,jL,Za⟩ ⟨.inl R,Za⟩ nL)) (by exact Zc ⟨jL,jL,jL,jL,jL,jL,Za⟩ ⟨.inl R,Za⟩ nL)) ?_
 intro x2 out2 i3 v1 hv1 hx1
 have h2:YCN f1 mode1 x2 out2=some v1:=hv1; unfold YCN at h2
 refine aS fun _ hK6 _=>(aR (sQ R (Zx R iL iL) (aZ (hK6 _ ?_))))
 refine aS fun _ hK7 _=>?_
 refine aC R (fun hc1=>?_) (fun hc1=>?_)
 ·have h3:=Zn hc1 h2
  refine Zi (hK7 _ ?_)
  refine aS fun K8 hK8 wK8=>(Zp ?_)
  refine jb1k h3 fun p1 hp1 hk2=>?_
  have J2 : ∀ (out5:List Int) (i6:Nat→Nat),p1=out5→K8 ⟨[(0,qb f1),(1,rI (mode1)),(5,.own 5005 (i6 0)),(8,qb f1),(9,rI ((f1.length:Int))),(10,rI (x2))],[(5005,some (.arr (i6 0) 3 1 (out5.map (rInt .i64))))],(i6 1),37⟩:=by
   intro out5 i6 e
   have h4:=hk2 _ e
   refine hK8 _ ?_
   refine aR (Zj h4 fun x4 ex4 h5=>(sQ R (ZI R iL iL (fun _=>ex4)) (sM R R ?_)))
   refine Zt ?_
   exact YEQ.mk h5 (vec [(i6 0),(i6 1)]) ((by exact Zc ⟨jL,jL,jL,jL,jL,jL,Za⟩ ⟨.inl R,Za⟩ nL))
  refine aS fun _ hK9 _=>(aR (sM R R (Zj hp1 fun x5 ex5 h6=>(sQ R (Zz R YBN.slice iL iL (fun _=>R) (fun _=>ex5)) (sQ R (ZM (cs:=(k26_ x5)) R YHx iL R R) (Zg R R R (ZX (cs:=z24_) 7 R YPH R R) (sA R R (ZD R R (ZB (ds:=(k26_ x5)) R YMq iL R iL R R R R) (aZ (hK9 _ ?_))))))))))
  refine aS fun _ hK10 _=>(aR (sQ R (ZF R YHx iL R R) (sM R R (Zj h6 fun r1 er1 h7=>(Zg R R R (Zq (r:=rB (r1)) (caps:=[]) (bs:=[.agg (k26_ x5),rI (mode1)]) R iL R ⟨⟨_,iL,.g (cs:=[.int .i64 x5.Char,.int .i64 x5.Ref,.sl (x5.Attrs.map YAG.row)]) R R⟩,⟨_,iL,.d R⟩,Za⟩ (fun _=>YLa (er1)) R) (sQ R (ZQ R iL) (sM R R (sV R R R (Zf R iL) (sV R R R (Zf R iL) (sV R R R (ZA R YBN.slice (iR R)) (Zj h7 fun x6 ex6 h8=>(sV R R R (YBf R (iR R) iL (gdt ex6)) (sV R R R (Zs R (iR R) (iR R)) (sV R R R (Zf R (iR R)) ?_))))))))))))))
  refine sW (.two R R R) R (fB R YDT iL fR R) ?_
  refine sW (.two R R R) R (Zb (a:=rI (x5.Char)) R ts_3 (iR R) R R) ?_
  refine sW (.two R R R) R (Zs R (iR R) iL) ?_
  refine sV R R R (Zr R (iR R) (iR R)) (sQ R (ZC R iL (iR R)) (aZ (hK10 _ ?_)))
  refine aC R (fun hc2=>?_) (fun hc2=>?_)
  ·have h9:=Zn hc2 h8
   refine Zh (s':=⟨[(0,qb f1),(1,rI (mode1)),(5,.own 5005 (i3 0)),(6,rI (x2)),(8,qb f1),(9,rI ((f1.length:Int))),(10,rI (x2))],[(5005,some (.arr (i3 0) 3 1 (out2.map (rInt .i64))))],((i3 1)+1),37⟩) (by exact Zc ⟨jL,jL,jL,jL,jL,jL,jL,Za⟩ ⟨.inl R,Za⟩ nL) ?_
   refine aR (sM R R (sM R R (Zg R R R (YCs 33 R YCD (f:=(rInt .i64)) (l:=([x2]:List Int)) ⟨R,⟨_,iL,R⟩,Za⟩ R (fun _=>R) R) (Zj h9 fun out6 eout6 h10=>(Zg R R R (YEq R YCD iL R (.inr (.inl ⟨_,_,iL,R⟩)) eout6) (sA R R ?_))))))
   refine Zt ?_
   exact wK8 _ _ ((by exact Zc ⟨jL,jL,jL,jL,jL,jL,Za⟩ ⟨.inl R,Za⟩ nL)) (J2 _ (vec [((i3 1)+2),((i3 1)+3)]) (Zd h10).symm)
  ·have h9:=Zo hc2 h8
   refine Zi ?_
   exact wK8 _ _ ((by exact Zc ⟨jL,jL,jL,jL,jL,jL,Za⟩ ⟨.inl R,Za⟩ nL)) (J2 _ (vec [(i3 0),((i3 1)+1)]) (Zd h9).symm)
 ·have h3:=Zo hc1 h2
  refine ZJ ?_
  exact wK3 _ _ ((by exact Zc ⟨jL,Za⟩ ⟨.inl R,Za⟩ nL)) (J1 _ (vec [(i3 0),(i3 1)]) (hx1 _ (Zd h3).symm))
theorem YHi {d1:GDoc} {s1:GSel} {author1:List UInt8} {r:YAD × Int} (h:YC5 d1 s1 author1=some r):ARO Tryz.prog 47 [.agg [qf d1.Nodes],.agg (k27_ s1),.r (.str author1)] (.tup [.agg (k2_ r.1),rI (r.2)]):=by
 unfold YC5 at h
 refine Zw Tryz.func47 R R Tryz.ntmps47 R (Ze R) fun n0=>?_
 refine aS fun _ hK1 _=>(aR (Zg R R R (ZR (cs:=[qf d1.Nodes]) 3 R iL R R) (Zg R R R (ZR (cs:=(k27_ s1)) 4 R iL R R) (Zg R R R (ZX (cs:=z3_) 6 R YP8 R R) (sA R R (aZ (hK1 _ ?_)))))))
 refine aS fun _ hK2 _=>(aS fun _ hK3 _=>(aR (sQ R (ZF R YHy iL R R) (Zj h fun e1 ee1 h1=>(Zg R R R (Zq (r:=rI (e1)) (caps:=[]) (bs:=[.agg [qf d1.Nodes]]) R iL R ⟨⟨_,iL,.g (cs:=[.sl (d1.Nodes.map YAP.row)]) R R⟩,Za⟩ (fun _=>YPA (ee1)) R) (sA R R (aZ (hK3 _ ?_))))))))
 refine aS fun _ hK4 _=>(aR (sM R R (sQ R (ZH R iL iL) (aZ (hK4 _ ?_)))))
 refine aC R (fun hc1=>?_) (fun hc1=>?_)
 ·have h2:=Zn hc1 h1
  refine aS fun _ hK5 _=>?_
  refine Zh (s':=⟨[(6,.ptr 6 (n0+2) 0 0),(8,rI (e1))],[(6,some (.box (n0+2) 102 z3_))],(n0+3),70⟩) (by exact Zc ⟨jL,jL,Za⟩ ⟨.inl R,Za⟩ nL) ?_
  refine aR ?_
  refine sQ R (YBD R YMC (q:=[]) (by exact Za) (cs:=z3_) (by rfl)) ?_
  refine sM R R (ZD R R (ZB (ds:=z3_) R YII iL R iL R R R R) (sA R R (aZ (hK5 _ ?_))))
  refine Zk ?_
  exact YEO (P:=Tryz.prog) (fun (r:YAD × Int)=>.agg (k2_ r.1)) (fun (r:YAD × Int)=>rI (r.2)) h2 iL (.a YKr R R R (.agg (by exact ⟨.closed _ R,.closed _ R,.nil,.nil,.closed _ R,.closed _ R,.nil,.nil,.nil,.nil,.closed _ R,Za⟩))) (.t (.d R))
 ·have h2:=Zo hc1 h1
  refine Zi (hK2 _ ?_)
  refine aS fun _ hK6 _=>(aR (sQ R (ZF R YHy iL R R) (sQ R (fB R YKp iL fR R) (sQ R (Zb (a:=rI (s1.Node)) R ts_3 iL R R) (Zj h2 fun i1 ei1 h3=>(Zg R R R (Zq (r:=rI (i1)) (caps:=[]) (bs:=[.agg [qf d1.Nodes],rI (s1.Node)]) R iL R ⟨⟨_,iL,.g (cs:=[.sl (d1.Nodes.map YAP.row)]) R R⟩,⟨_,iL,.d R⟩,Za⟩ (fun _=>YO8 (ei1)) R) (sA R R (aZ (hK6 _ ?_)))))))))
  refine aS fun _ hK7 _=>(aS fun _ hK8 _=>?_)
  refine Zh (s':=⟨[(2,.r (.str author1)),(3,.ptr 3 n0 0 0),(4,.ptr 4 (n0+1) 0 0),(6,.ptr 6 (n0+2) 0 0),(9,rI (i1))],[(3,some (.box n0 24 [qf d1.Nodes])),(4,some (.box (n0+1) 26 (k27_ s1))),(6,some (.box (n0+2) 102 z3_))],(n0+3),70⟩) (by exact Zc ⟨jL,jL,jL,jL,jL,Za⟩ ⟨.inl R,.inl R,.inl R,Za⟩ nL) ?_
  refine aR (sM R R (sQ R (Zx R iL iL) (aZ (hK8 _ ?_))))
  refine aC R (fun hc2=>?_) (fun hc2=>?_)
  ·have h4:=Zn hc2 h3
   refine aS fun _ hK9 _=>(aR ?_)
   refine sQ R (YBD R YMC (q:=[]) (by exact Za) (cs:=z3_) (by rfl)) ?_
   refine ZD R R (ZB (ds:=z3_) R YII iL R iL R R R R) (sA R R (aZ (hK9 _ ?_)))
   refine Zk ?_
   exact YEO (P:=Tryz.prog) (fun (r:YAD × Int)=>.agg (k2_ r.1)) (fun (r:YAD × Int)=>rI (r.2)) h4 iL (.a YKr R R R (.agg (by exact ⟨.closed _ R,.closed _ R,.nil,.nil,.closed _ R,.closed _ R,.nil,.nil,.nil,.nil,.closed _ R,Za⟩))) (.t (.d R))
  ·have h4:=Zo hc2 h3
   refine Zi (hK7 _ ?_)
   refine aS fun _ hK10 _=>(aR (sQ R (fB R YBv iL fR R) (sQ R (Zb (a:=qf d1.Nodes) R YFh iL R R) (sM R R (Zj h4 fun x1 ex1 h5=>(sQ R (Zz R YEg.slice iL iL (fun _=>R) (fun _=>ex1)) (sQ R (ZM (cs:=(k7_ x1)) R YJq iL R R) (sM R R ?_))))))))
   refine sQ R (YBD R YMC (q:=[(0,_),(10,_)]) (by exact ⟨R,R,R,iL,R,R,R,iL,Za⟩) (cs:=[rI (x1.ID),rI (x1.Kind),qa x1.Attrs,qb x1.Flow,rI (x1.Grid.Rows),rI (x1.Grid.Cols),qd x1.Grid.Cells,qc x1.Grid.Merges,qe x1.Draw,.cst (.slice none 0 0),.r (.str author1)]) (by rfl)) ?_
   refine Zg R R R (ZX (cs:=z3_) 10 R YP8 R R) (ZD R R (ZB (ds:=[rI (x1.ID),rI (x1.Kind),qa x1.Attrs,qb x1.Flow,rI (x1.Grid.Rows),rI (x1.Grid.Cols),qd x1.Grid.Cells,qc x1.Grid.Merges,qe x1.Draw,.cst (.slice none 0 0),.r (.str author1)]) R YII iL R iL R R R R) (aZ (hK10 _ ?_)))
   refine aS fun _ hK11 _=>(aS fun _ hK12 _=>?_)
   refine Zh (s':=⟨[(2,.r (.str author1)),(4,.ptr 4 (n0+1) 0 0),(6,.ptr 6 (n0+2) 0 0),(10,.ptr 10 (n0+3) 0 0)],[(4,some (.box (n0+1) 26 (k27_ s1))),(6,some (.box (n0+2) 102 z3_)),(10,some (.box (n0+3) 102 [rI (x1.ID),rI (x1.Kind),qa x1.Attrs,qb x1.Flow,rI (x1.Grid.Rows),rI (x1.Grid.Cols),qd x1.Grid.Cells,qc x1.Grid.Merges,qe x1.Draw,.cst (.slice none 0 0),.r (.str author1)]))],(n0+4),70⟩) (by exact Zc ⟨jL,jL,jL,jL,Za⟩ ⟨.inl R,.inl R,.inl R,Za⟩ nL) ?_
   refine aR (sQ R (fB R YE7 iL fR R) (sQ R (fB R YBI iL fR R) (sQ R (Zb (a:=rI (x1.Kind)) R ts_3 iL R R) (Zj h5 fun r1 er1 h6=>(Zg R R R (Zq (r:=rB (r1)) (caps:=[]) (bs:=[rI (x1.Kind)]) R iL R ⟨⟨_,iL,.d R⟩,Za⟩ (fun _=>YHq (er1)) R) (sQ R (ZQ R iL) (aZ (hK12 _ ?_))))))))
   refine aC R (fun hc3=>?_) (fun hc3=>?_)
   ·have h7:=Zn hc3 h6
    refine aS fun _ hK13 _=>(aR ?_)
    refine sQ R (YBD R YMC (q:=[]) (by exact Za) (cs:=z3_) (by rfl)) ?_
    refine ZD R R (ZB (ds:=z3_) R YII iL R iL R R R R) (sA R R (aZ (hK13 _ ?_)))
    refine Zk ?_
    exact YEO (P:=Tryz.prog) (fun (r:YAD × Int)=>.agg (k2_ r.1)) (fun (r:YAD × Int)=>rI (r.2)) h7 iL (.a YKr R R R (.agg (by exact ⟨.closed _ R,.closed _ R,.nil,.nil,.closed _ R,.closed _ R,.nil,.nil,.nil,.nil,.closed _ R,Za⟩))) (.t (.d R))
   ·have h7:=Zo hc3 h6
    refine Zi (hK11 _ ?_)
    refine aS fun _ hK14 _=>(aR (sQ R (fB R YE7 iL fR R) (sQ R (fB R YBi iL fR R) (sQ R (Zb (a:=qb x1.Flow) R YC4 iL R R) (Zj h7 fun r2 er2 h8=>(Zg R R R (YCZ (r:=.r (.sl (r2.map (rInt .i64)))) (caps:=[]) (bs:=[qb x1.Flow,rI (0)]) R iL R ⟨.inl ⟨iL,R⟩,.inl ⟨iL,R⟩,Za⟩ (fun _=>YLZ (er2))) (sQ R (fB R YHR iL fR R) (ZD R R (ZB (ds:=[rI (x1.ID),rI (x1.Kind),qa x1.Attrs,qb x1.Flow,rI (x1.Grid.Rows),rI (x1.Grid.Cols),qd x1.Grid.Cells,qc x1.Grid.Merges,qe x1.Draw,.r (.sl (r2.map (rInt .i64))),.r (.str author1)]) R tz_63 iL R iL R R R R) (aZ (hK14 _ ?_))))))))))
    refine aS fun _ hK15 _=>(aS fun _ hK16 _=>?_)
    refine Zh (s':=⟨[(2,.r (.str author1)),(4,.ptr 4 (n0+1) 0 0),(6,.ptr 6 (n0+2) 0 0),(10,.ptr 10 (n0+3) 0 0)],[(4,some (.box (n0+1) 26 (k27_ s1))),(6,some (.box (n0+2) 102 z3_)),(10,some (.box (n0+3) 102 [rI (x1.ID),rI (x1.Kind),qa x1.Attrs,qb x1.Flow,rI (x1.Grid.Rows),rI (x1.Grid.Cols),qd x1.Grid.Cells,qc x1.Grid.Merges,qe x1.Draw,.r (.sl (r2.map (rInt .i64))),.r (.str author1)]))],(n0+4),70⟩) (by exact Zc ⟨jL,jL,jL,jL,Za⟩ ⟨.inl R,.inl R,.inl R,Za⟩ nL) ?_
    refine aR (sQ R (fB R YFs iL fR R) (sQ R (Zb (a:=rI (s1.From)) R ts_3 iL R R) (sQ R (Zx R iL iL) (sM R R (sV R R R (fB R YGu iL fR R) (sV R R R (Zb (a:=rI (s1.To)) R ts_3 (iR R) R R) (sV R R R (fB R YFs iL fR R) (sV R R R (Zb (a:=rI (s1.From)) R ts_3 (iR R) R R) (sV R R R (Zx R (iR R) (iR R)) (sQ R (ZC R iL (iR R)) (sM R R (sV R R R (fB R YGu iL fR R) (sV R R R (Zb (a:=rI (s1.To)) R ts_3 (iR R) R R) (sV R R R (fB R YHR iL fR R) (sV R R R (Zb (a:=.r (.sl (r2.map (rInt .i64)))) R YRr (iR R) R R) (sV R R R (ZA R YCD.slice (iR R)) (sV R R R (YB5 R (iR R) (iR R)) (sQ R (ZC R iL (iR R)) (aZ (hK16 _ ?_))))))))))))))))))))
    refine aC R (fun hc4=>?_) (fun hc4=>?_)
    ·have h9:=Zn hc4 h8
     refine aS fun _ hK17 _=>?_
     refine Zh (s':=⟨[(6,.ptr 6 (n0+2) 0 0)],[(6,some (.box (n0+2) 102 z3_))],(n0+4),70⟩) (by exact Zc ⟨jL,Za⟩ ⟨.inl R,Za⟩ nL) ?_
     refine aR ?_
     refine sQ R (YBD R YMC (q:=[]) (by exact Za) (cs:=z3_) (by rfl)) ?_
     refine ZD R R (ZB (ds:=z3_) R YII iL R iL R R R R) (sA R R (aZ (hK17 _ ?_)))
     refine Zk ?_
     exact YEO (P:=Tryz.prog) (fun (r:YAD × Int)=>.agg (k2_ r.1)) (fun (r:YAD × Int)=>rI (r.2)) h9 iL (.a YKr R R R (.agg (by exact ⟨.closed _ R,.closed _ R,.nil,.nil,.closed _ R,.closed _ R,.nil,.nil,.nil,.nil,.closed _ R,Za⟩))) (.t (.d R))
    ·have h9:=Zo hc4 h8
     refine Zi (hK15 _ ?_)
     refine aS fun _ hK18 _=>(aS fun _ hK19 _=>?_)
     refine Zh (s':=⟨[(2,.r (.str author1)),(6,.ptr 6 (n0+2) 0 0),(10,.ptr 10 (n0+3) 0 0)],[(6,some (.box (n0+2) 102 z3_)),(10,some (.box (n0+3) 102 [rI (x1.ID),rI (x1.Kind),qa x1.Attrs,qb x1.Flow,rI (x1.Grid.Rows),rI (x1.Grid.Cols),qd x1.Grid.Cells,qc x1.Grid.Merges,qe x1.Draw,.r (.sl (r2.map (rInt .i64))),.r (.str author1)]))],(n0+4),70⟩) (by exact Zc ⟨jL,jL,jL,Za⟩ ⟨.inl R,.inl R,Za⟩ nL) ?_
     refine aR (sM R R (sQ R (YCz R iL iL) (sM R R (sV R R R (Zf R iL) (Zj h9 fun r3 er3 h10=>?_)))))
     refine ZE (.one R R R) R R (Zq (r:=rB (r3)) (caps:=[]) (bs:=[.r (.str author1)]) R iL R ⟨⟨_,(iR R),.d R⟩,Za⟩ (fun hg=>YGr (gdt er3 hg)) R) ?_
     refine sV R R R (ZQ R (iR R)) (sQ R (Zr R iL (iR R)) (aZ (hK19 _ ?_)))
     refine aC R (fun hc5=>?_) (fun hc5=>?_)
     ·have h11:=Zn hc5 h10
      refine aS fun _ hK20 _=>?_
      refine Zh (s':=⟨[(6,.ptr 6 (n0+2) 0 0)],[(6,some (.box (n0+2) 102 z3_))],(n0+4),70⟩) (by exact Zc ⟨jL,Za⟩ ⟨.inl R,Za⟩ nL) ?_
      refine aR ?_
      refine sQ R (YBD R YMC (q:=[]) (by exact Za) (cs:=z3_) (by rfl)) ?_
      refine ZD R R (ZB (ds:=z3_) R YII iL R iL R R R R) (sA R R (aZ (hK20 _ ?_)))
      refine Zk ?_
      exact YEO (P:=Tryz.prog) (fun (r:YAD × Int)=>.agg (k2_ r.1)) (fun (r:YAD × Int)=>rI (r.2)) h11 iL (.a YKr R R R (.agg (by exact ⟨.closed _ R,.closed _ R,.nil,.nil,.closed _ R,.closed _ R,.nil,.nil,.nil,.nil,.closed _ R,Za⟩))) (.t (.d R))
     ·have h11:=Zo hc5 h10
      refine Zi (hK18 _ ?_)
      refine aS fun _ hK21 _=>(aR (sQ R (ZF R YKr iL R R) (ZD R R (ZB (ds:=[rI (x1.ID),rI (x1.Kind),qa x1.Attrs,qb x1.Flow,rI (x1.Grid.Rows),rI (x1.Grid.Cols),qd x1.Grid.Cells,qc x1.Grid.Merges,qe x1.Draw,.r (.sl (r2.map (rInt .i64))),.r (.str author1)]) R YII iL R iL R R R R) (sA R R (aZ (hK21 _ ?_))))))
      refine Zk ?_
      exact YEO (P:=Tryz.prog) (fun (r:YAD × Int)=>.agg (k2_ r.1)) (fun (r:YAD × Int)=>rI (r.2)) h11 iL (.a YKr R R R (.g (cs:=[.int .i64 x1.ID,.int .i64 x1.Kind,.sl (x1.Attrs.map YAG.row),.sl (x1.Flow.map YAC.row),.int .i64 x1.Grid.Rows,.int .i64 x1.Grid.Cols,.sl (x1.Grid.Cells.map YAY.row),.sl (x1.Grid.Merges.map YAX.row),.sl (x1.Draw.map YAN.row),.sl (r2.map (rInt .i64)),.str author1]) R R)) (.t (.d R))
theorem YC0 {l1:List YAG} {r:Int} (h:YBA l1=some r):ARO Tryz.prog 71 [qa l1] (rI (r)):=by
 unfold YBA at h
 refine Zw Tryz.func71 R R Tryz.ntmps71 R (Ze R) fun n0=>?_
 refine aS fun _ hK1 _=>(aR (sA R R (aZ (hK1 _ ?_))))
 refine aS fun _ hK2 _=>(aR (sM R R (Zj h fun r1 er1 h1=>(Zg R R R (Zq (r:=rI (r1)) (caps:=[]) (bs:=[qa l1,rB (true)]) R iL R ⟨⟨_,iL,.d R⟩,⟨_,iL,.d R⟩,Za⟩ (fun _=>YJL (er1)) R) (sA R R (aZ (hK2 _ ?_)))))))
 refine Zk ?_
 exact Y1_ h1 iL (.t (.d R))
theorem YCy {w1:YAD} {k1:Int} {r:YAC} {gb1000:Nat} (h:YA5 w1 k1=some r):AHC Tryz.prog 74 1 [.ptr 1000 gb1000 0 0,rI (k1)] [(1000,some (.box gb1000 102 (k2_ w1)))] (fun rr h'=>∃ (i:Nat→Nat),rr = .agg (k26_ r)∧h'=[(1000,some (.box gb1000 102 (k2_ w1)))]):=by
 unfold YA5 at h
 refine AHC.mkw Tryz.func74 R R Tryz.ntmps74 (Ze R) fun n0=>?_
 refine aS fun _ hK1 _=>(aR (Zg R R R (ZX (cs:=z24_) 4 R YPH R R) (aZ (hK1 _ ?_))))
 refine aS fun _ hK2 _=>(aS fun _ hK3 _=>(aR (sM R R (sQ R (Zx R iL iL) (sM R R (sV R R R (Zf R iL) (sV R R R (Zf R iL) (sV R R R (ZL (ob:=.box _ _ _) R (iR R) fR R) (sV R R R (fB R YHR (iR R) fR R) (sV R R R (Zb (a:=.r (.sl (w1.shown.map (rInt .i64)))) R YRr (iR R) R R) (sV R R R (ZA R YCD.slice (iR R)) (sV R R R (YB5 R (iR R) (iR R)) (sQ R (ZC R iL (iR R)) (aZ (hK3 _ ?_)))))))))))))))
 refine aC R (fun hc1=>?_) (fun hc1=>?_)
 ·have h1:=Zn hc1 h
  refine aS fun _ hK4 _=>?_
  refine Zh (s':=⟨[(4,.ptr 4 n0 0 0)],[(4,some (.box n0 51 z24_)),(1000,some (.box gb1000 102 (k2_ w1)))],(n0+1),31⟩) (by exact Zc ⟨jL,Za⟩ ⟨.inl R,.inl R,Za⟩ nL) ?_
  refine aR ?_
  refine sQ R (YBD R tb_51 (q:=[(0,_)]) (by exact ⟨R,R,R,iL,Za⟩) (cs:=[rI (10),rI (0),.cst (.slice none 0 0)]) (by rfl)) ?_
  refine ZD R R (ZB (ds:=[rI (10),rI (0),.cst (.slice none 0 0)]) R YMq iL R iL R R R R) (aZ (hK4 _ ?_))
  refine Zk ?_
  exact RetW.mk (s':=⟨[(4,.ptr 4 n0 0 0)],[(4,some (.box n0 51 [rI (10),rI (0),.r (.sl [])])),(1000,some (.box gb1000 102 (k2_ w1)))],(n0+1),31⟩) ((by exact Zc ⟨jL,Za⟩ ⟨.inr (.inr ⟨_,_,_,_,R,R,⟨.inl R,.inl R,.inr (.inr ⟨R,R⟩),Za⟩⟩),.inl R,Za⟩ nL)) (YBQ (fun (r:YAC) rr h'=>∃ (i:Nat→Nat),rr = .agg (k26_ r)∧h'=[(1000,some (.box gb1000 102 (k2_ w1)))]) h1 (by exact ⟨.agg [rI (10),rI (0),.r (.sl [])],[(1000,some (.box gb1000 102 (k2_ w1)))],.inr ⟨_,R,YHx,_,_,_,R,R⟩,⟨.inr R,Za⟩,R,R,vec [],R,R⟩))
 ·have h1:=Zo hc1 h
  refine Zi (hK2 _ ?_)
  refine aS fun _ hK5 _=>?_
  refine Zh (s':=⟨[(0,.ptr 1000 gb1000 0 0),(1,rI (k1)),(4,.ptr 4 n0 0 0)],[(4,some (.box n0 51 z24_)),(1000,some (.box gb1000 102 (k2_ w1)))],(n0+1),31⟩) (by exact Zc ⟨jL,jL,jL,Za⟩ ⟨.inl R,.inl R,Za⟩ nL) ?_
  refine AW.regionT 14 hmix (by kernel_rfl) R R ?_
  refine AT.step R R R (Zf R iL) ?_
  refine AT.step R R R (ZL (ob:=.box _ _ _) R iL fR R) ?_
  refine AT.step R R R (fB R YE7 iL fR R) ?_
  refine AT.step R R R (fB R YBi iL fR R) ?_
  refine AT.step R R R (Zb (a:=qb w1.node.Flow) R YC4 iL R R) ?_
  refine AT.step R R R (Zf R iL) ?_
  refine AT.step R R R (ZL (ob:=.box _ _ _) R iL fR R) ?_
  refine AT.step R R R (fB R YHR iL fR R) ?_
  refine AT.step R R R (Zb (a:=.r (.sl (w1.shown.map (rInt .i64)))) R YRr iL R R) ?_
  refine AT.step R R R (Zf R iL) ?_
  refine Zj h1 fun x1 ex1 h2=>?_
  refine AT.step R R R (Zz R YCD.slice iL iL (fun _=>R) (fun _=>ex1)) ?_
  refine AT.step R R R (ZN (d:=.int .i64 x1) R ts_3 iL R) ?_
  refine Zj h2 fun x2 ex2 h3=>?_
  refine AT.step R R R (Zz R YBN.slice iL iL (fun _=>R) (fun _=>ex2)) ?_
  refine AT.step R R R (ZM (cs:=(k26_ x2)) R YHx iL R R) ?_
  refine AT.nil ?_
  refine ZD R R (ZB (ds:=(k26_ x2)) R YMq iL R iL R R R R) (aZ (hK5 _ ?_))
  refine Zk ?_
  exact RetW.mk (s':=⟨[(4,.ptr 4 n0 0 0)],[(4,some (.box n0 51 (k26_ x2))),(1000,some (.box gb1000 102 (k2_ w1)))],(n0+1),31⟩) ((by exact Zc ⟨jL,Za⟩ ⟨.inl R,.inl R,Za⟩ nL)) (YBQ (fun (r:YAC) rr h'=>∃ (i:Nat→Nat),rr = .agg (k26_ r)∧h'=[(1000,some (.box gb1000 102 (k2_ w1)))]) h3 (by exact ⟨.agg (k26_ x2),[(1000,some (.box gb1000 102 (k2_ w1)))],.inr ⟨_,R,YHx,_,_,_,R,R⟩,⟨.inr R,Za⟩,R,R,vec [],R,R⟩))
theorem YGn {w1:GSel} {w2:YAD} {k1:Int} {r:Bool} {gb1000:Nat} {gb1001:Nat} (h:YBp w1 w2 k1=some r):AHC Tryz.prog 73 2 [rI (k1),.ptr 1000 gb1000 0 0,.ptr 1001 gb1001 0 0] [(1000,some (.box gb1000 26 (k27_ w1))),(1001,some (.box gb1001 102 (k2_ w2)))] (fun rr h'=>∃ (i:Nat→Nat),rr=rB (r)∧h'=[(1000,some (.box gb1000 26 (k27_ w1))),(1001,some (.box gb1001 102 (k2_ w2)))]):=by
 unfold YBp at h
 refine AHC.mkw Tryz.func73 R R Tryz.ntmps73 (Ze R) fun n0=>?_
 refine aS fun _ hK1 _=>(aR (sA R R (aZ (hK1 _ ?_))))
 refine aS fun K2 hK2 wK2=>(aR (sM R R (sQ R (fB R YFs iL fR R) (sQ R (Zb (a:=rI (w1.From)) R ts_3 iL R R) (sQ R (YB5 R iL iL) (sM R R (sV R R R (Zf R iL) (sV R R R (fB R YGu iL fR R) (sV R R R (Zb (a:=rI (w1.To)) R ts_3 (iR R) R R) (sV R R R (Zx R (iR R) (iR R)) (sQ R (Zr R iL (iR R)) (sM R R (sV R R R (Zf R iL) ?_)))))))))))))
 refine jb1k h fun p1 hp1 hk1=>?_
 have J1 : ∀ (x1:Bool) (i1:Nat→Nat),p1=x1→K2 ⟨[(4,rB (x1))],[(1000,some (.box gb1000 26 (k27_ w1))),(1001,some (.box gb1001 102 (k2_ w2)))],(i1 0),21⟩:=by
  intro x1 i1 e
  have h1:=hk1 _ e
  refine hK2 _ ?_
  refine Zk ?_
  exact RetW.mk (s':=⟨[(4,rB (x1))],[(1000,some (.box gb1000 26 (k27_ w1))),(1001,some (.box gb1001 102 (k2_ w2)))],(i1 0),21⟩) ((by exact Zc ⟨jL,Za⟩ ⟨.inl R,.inl R,Za⟩ nL)) (YBQ (fun (r:Bool) rr h'=>∃ (i:Nat→Nat),rr=rB (r)∧h'=[(1000,some (.box gb1000 26 (k27_ w1))),(1001,some (.box gb1001 102 (k2_ w2)))]) h1 (by exact ⟨rB (x1),[(1000,some (.box gb1000 26 (k27_ w1))),(1001,some (.box gb1001 102 (k2_ w2)))],R,⟨.inr R,.inr R,Za⟩,R,R,vec [],R,R⟩))
 refine AOps.split (((decide (w1.From≤k1)) && (decide (k1<w1.To))) == true) (fun hg1=>?_) (fun hg1=>?_)
 ·have h2:=Zn hg1 hp1
  refine ZT (by exact Weak.unw2 (e':=[(0,rI (k1)),(1,.ptr 1000 gb1000 0 0),(2,.ptr 1001 gb1001 0 0),(4,rB (false)),(5,rI (k1)),(6,.ptr 1000 gb1000 0 1),(7,rI (w1.From)),(8,rB ((decide (w1.From≤k1)))),(9,rB ((decide (w1.From≤k1)))),(14,rB (((decide (w1.From≤k1)) && (decide (k1<w1.To))))),(15,rB (((decide (w1.From≤k1)) && (decide (k1<w1.To))))),(16,rI (k1))]) hg1 ⟨.inl R,.inl R,.inl R,.inl R,.inl R,.inl R,.inl R,.inl R,.inl R,.inl R,.inl R,.inr iL,Za⟩) ?_
  refine Zj h2 fun r1 er1 h3=>?_
  refine AOps.stepHG (.one R R R) hg1 [1001] (hc:=[(1000,some (.box gb1001 102 (k2_ w2)))]) (bs:=[.ptr 1000 gb1001 0 0,rI (k1)]) (caps:=[]) R R R iL R ⟨.inl ⟨iL,R⟩,.inl ⟨iL,R⟩,Za⟩ ⟨R,R,R,Za⟩ (by decide) (YCy er1) ?_
  intro i2 n1
  refine ZT (s':=⟨[(0,rI (k1)),(1,.ptr 1000 gb1000 0 0),(2,.ptr 1001 gb1001 0 0),(4,rB (false)),(5,rI (k1)),(6,.ptr 1000 gb1000 0 1),(7,rI (w1.From)),(8,rB ((decide (w1.From≤k1)))),(9,rB ((decide (w1.From≤k1)))),(14,rB (((decide (w1.From≤k1)) && (decide (k1<w1.To))))),(15,rB (((decide (w1.From≤k1)) && (decide (k1<w1.To))))),(16,rI (k1)),(17,.agg (k26_ r1))],[(1000,some (.box gb1000 26 (k27_ w1))),(1001,some (.box gb1001 102 (k2_ w2)))],n1,21⟩) (by exact Zc ⟨jL,jL,jL,jL,jL,jL,jL,jL,jL,jL,jL,jL,jL,Za⟩ ⟨.inl R,.inl R,Za⟩ nL) ?_
  refine AOps.stepGT (.one R R R) hg1 R R (Zv (YJ3 (a:=rI (r1.Char)) R YPE (.inl R) R) _) ?_
  refine AOps.stepGT (.one R R R) hg1 R R (Zv (ZH R (.inl R) (.inl R)) _) ?_
  refine sQ R (Zr R iL iL) (sA R R ?_)
  refine Zt ?_
  exact wK2 _ _ ((by exact Zc ⟨jL,Za⟩ ⟨.inl R,.inl R,Za⟩ nL)) (J1 _ (vec [n1]) (Zd h3).symm)
 ·have h2:=Zo hg1 hp1
  refine AOps.stepGF2 (.one R R R) hg1 R R ?_
  refine AOps.stepGF2 (.one R R R) hg1 R R ?_
  refine AOps.stepGF2 (.one R R R) hg1 R R ?_
  refine sQ R (Zr R iL (iR R)) (sA R R ?_)
  refine Zt ?_
  exact wK2 _ _ ((by exact Zc ⟨jL,Za⟩ ⟨.inl R,.inl R,Za⟩ nL)) (J1 _ (vec [n0]) (Zd h2).symm)
theorem YJo {f1:List YAC} {r:Int} (h:YDX f1=some r):ARO Tryz.prog 65 [qb f1] (rI (r)):=by
 unfold YDX at h
 refine Zw Tryz.func65 R R Tryz.ntmps65 R (Ze R) fun n0=>?_
 refine aS fun _ hK1 _=>(aR (sA R R (aZ (hK1 _ ?_))))
 refine aS fun K2 hK2 wK2=>(aS fun _ hK3 _=>(aR (sM R R (sQ R (ZA R YBN.slice iL) (sM R R (aZ (hK3 _ ?_)))))))
 refine Zp ?_
 refine jc1k h fun o1 hit1 hk1 he1=>?_
 have J1 : ∀ (u2:Unit) (i5:Nat→Nat),o1 = .nrm u2→K2 ⟨[],[],(i5 0),18⟩:=by
  intro u2 i5 e
  have h1:=hk1 _ e
  refine hK2 _ ?_
  refine aS fun _ hK4 _=>(aR (sA R R (aZ (hK4 _ ?_))))
  refine Zk ?_
  exact Y1_ h1 iL (.t (.d R))
 refine ZS (fun (x2:Int) i3=>⟨[(6,qb f1),(7,rI ((f1.length:Int))),(8,rI (x2))],[],(i3 0),18⟩) (vec [n0]) hit1 ((by exact Zc ⟨jL,jL,jL,Za⟩ Za nL)) ?_
 intro x2 i3 v1 hv1 hx1
 have h2:YCR f1 x2=some v1:=hv1; unfold YCR at h2
 refine aS fun _ hK5 _=>(aR (sQ R (Zx R iL iL) (aZ (hK5 _ ?_))))
 refine aS fun _ hK6 _=>?_
 refine aC R (fun hc1=>?_) (fun hc1=>?_)
 ·have h3:=Zn hc1 h2
  refine Zi (hK6 _ ?_)
  refine aS fun _ hK7 _=>(Zp (aS fun _ hK8 _=>(aR (Zj h3 fun x4 ex4 h4=>(sQ R (Zz R YBN.slice iL iL (fun _=>R) (fun _=>ex4)) (sQ R (ZM (cs:=(k26_ x4)) R YHx iL R R) (Zg R R R (ZX (cs:=z24_) 4 R YPH R R) (ZD R R (ZB (ds:=(k26_ x4)) R YMq iL R iL R R R R) (aZ (hK8 _ ?_))))))))))
  refine aS fun _ hK9 _=>(aR (sQ R (ZF R YHx iL R R) (Zj h4 fun e1 ee1 h5=>(Zg R R R (Zq (r:=rI (e1)) (caps:=[]) (bs:=(k23_ x4)) R iL R ⟨⟨_,iL,.g (cs:=[.int .i64 x4.Char,.int .i64 x4.Ref,.sl (x4.Attrs.map YAG.row)]) R R⟩,Za⟩ (fun _=>YKa (ee1)) R) (sA R R (aZ (hK9 _ ?_)))))))
  refine aS fun _ hK10 _=>(aR (sM R R (sQ R (ZH R iL iL) (aZ (hK10 _ ?_)))))
  refine aC R (fun hc2=>?_) (fun hc2=>?_)
  ·have h6:=Zn hc2 h5
   refine aS fun _ hK11 _=>?_
   refine Zh (s':=⟨[(5,rI (e1))],[],((i3 0)+1),18⟩) (by exact Zc ⟨jL,Za⟩ Za nL) ?_
   refine aR (sM R R (sA R R (aZ (hK11 _ ?_))))
   refine Zk ?_
   exact Y1_ (he1 _ (hx1 _ (Zd h6).symm)) iL (.t (.d R))
  ·have h6:=Zo hc2 h5
   refine Zi (hK7 _ ?_)
   refine Zh (s':=⟨[(6,qb f1),(7,rI ((f1.length:Int))),(8,rI (x2))],[],((i3 0)+1),18⟩) (by exact Zc ⟨jL,jL,jL,Za⟩ Za nL) ?_
   refine aR (Zj h6 fun x5 ex5 h7=>(sQ R (ZI R iL iL (fun _=>ex5)) (sM R R ?_)))
   refine Zt ?_
   exact ZO h7 (vec [((i3 0)+1)]) ((by exact Zc ⟨jL,jL,jL,Za⟩ Za nL))
 ·have h3:=Zo hc1 h2
  refine ZJ ?_
  exact wK2 _ _ ((by exact Zc Za Za nL)) (J1 _ (vec [(i3 0)]) (hx1 _ (Zd h3).symm))
theorem YJI {s1:YAB} {r:Int} (h:YFI s1=some r):ARO Tryz.prog 165 (k19_ s1) (rI (r)):=by
 unfold YFI at h
 refine Zw Tryz.func165 R R Tryz.ntmps165 R (Ze R) fun n0=>?_
 refine aS fun _ hK1 _=>(aR (Zg R R R (ZR (cs:=(k21_ s1)) 1 R iL R R) (sA R R (aZ (hK1 _ ?_)))))
 refine aS fun _ hK2 _=>(aS fun _ hK3 _=>(aR (sQ R (fB R YB3 iL fR R) (sQ R (Zb (a:=rI (s1.Kind)) R ts_3 iL R R) (aZ (hK3 _ ?_))))))
 refine Zp (aS fun K4 hK4 wK4=>(aS fun _ hK5 _=>(aR (sQ R (Zs R iL iL) (sA R R (aZ (hK5 _ ?_)))))))
 refine jb1k h fun p1 hp1 hk1=>?_
 have J1 : ∀ (x1:Bool) (i1:Nat→Nat),p1=x1→K4 ⟨[(1,.ptr 1 n0 0 0),(4,rI (s1.Kind)),(5,rB (x1))],[(1,some (.box n0 100 (k21_ s1)))],(i1 0),52⟩:=by
  intro x1 i1 e
  have h1:=hk1 _ e
  refine hK4 _ ?_
  refine aC R (fun hc1=>?_) (fun hc1=>?_)
  ·have h2:=Zn hc1 h1
   refine aS fun _ hK6 _=>(aS fun _ hK7 _=>(aR (sQ R (fB R YFj iL fR R) (sQ R (Zb (a:=qb s1.Elems) R YC4 iL R R) (sQ R (ZA R YBN.slice iL) (sQ R (ZV R iL iL) (sM R R (sV R R R (fB R YB3 iL fR R) (sV R R R (Zb (a:=rI (s1.Kind)) R ts_3 (iR R) R R) (sV R R R (Zs R (iR R) iL) (sV R R R (Zf R (iR R)) ?_)))))))))))
   refine sW (.two R R R) R (fB R YDK iL fR R) ?_
   refine sW (.two R R R) R (Zb (a:=qa s1.Attrs) R YCi (iR R) R R) ?_
   refine sW (.two R R R) R (ZA R YDI.slice (iR R)) ?_
   refine sW (.two R R R) R (ZV R (iR R) iL) ?_
   refine sV R R R (Zr R (iR R) (iR R)) (sQ R (ZC R iL (iR R)) (aZ (hK7 _ ?_)))
   refine aC R (fun hc2=>?_) (fun hc2=>?_)
   ·have h3:=Zn hc2 h2
    refine aS fun _ hK8 _=>?_
    refine Zh (s':=⟨[],[],(i1 0),52⟩) (by exact Zc Za Za nL) ?_
    refine aR (sA R R (aZ (hK8 _ ?_)))
    refine Zk ?_
    exact Y1_ h3 iL (.t (.d R))
   ·have h3:=Zo hc2 h2
    refine Zi (hK6 _ ?_)
    refine aS fun _ hK9 _=>(aS fun _ hK10 _=>?_)
    refine Zh (s':=⟨[(1,.ptr 1 n0 0 0)],[(1,some (.box n0 100 (k21_ s1)))],(i1 0),52⟩) (by exact Zc ⟨jL,Za⟩ ⟨.inl R,Za⟩ nL) ?_
    refine aR (sQ R (fB R YC1 iL fR R) (sQ R (Zb (a:=rI (s1.N)) R ts_3 iL R R) (sQ R (Zx R iL iL) (sM R R (sV R R R (fB R YC1 iL fR R) (sV R R R (Zb (a:=rI (s1.N)) R ts_3 (iR R) R R) (sV R R R (ZV R (iR R) iL) (sQ R (ZC R iL (iR R)) (aZ (hK10 _ ?_))))))))))
    refine aC R (fun hc3=>?_) (fun hc3=>?_)
    ·have h4:=Zn hc3 h3
     refine aS fun _ hK11 _=>?_
     refine Zh (s':=⟨[],[],(i1 0),52⟩) (by exact Zc Za Za nL) ?_
     refine aR (sA R R (aZ (hK11 _ ?_)))
     refine Zk ?_
     exact Y1_ h4 iL (.t (.d R))
    ·have h4:=Zo hc3 h3
     refine Zi (hK9 _ ?_)
     refine aS fun _ hK12 _=>(aR (sQ R (fB R YDK iL fR R) (sQ R (Zb (a:=qa s1.Attrs) R YCi iL R R) (Zj h4 fun r1 er1 h5=>(Zg R R R (Zq (r:=rI (r1)) (caps:=[]) (bs:=[qa s1.Attrs]) R iL R ⟨⟨_,iL,.d R⟩,Za⟩ (fun _=>YC0 (er1)) R) (sA R R (aZ (hK12 _ ?_))))))))
     refine Zk ?_
     exact Y1_ h5 iL (.t (.d R))
  ·have h2:=Zo hc1 h1
   refine aS fun _ hK13 _=>(aR (sQ R (Zs R iL iL) (sA R R (aZ (hK13 _ ?_)))))
   refine aC R (fun hc4=>?_) (fun hc4=>?_)
   ·have h6:=Zn hc4 h2
    refine aS fun _ hK14 _=>(aS fun _ hK15 _=>(aR (sQ R (fB R YC1 iL fR R) (sQ R (Zb (a:=rI (s1.N)) R ts_3 iL R R) (sQ R (ZH R iL iL) (sM R R (sV R R R (fB R YDK iL fR R) (sV R R R (Zb (a:=qa s1.Attrs) R YCi (iR R) R R) (sV R R R (ZA R YDI.slice (iR R)) (sV R R R (ZV R (iR R) iL) (sQ R (ZC R iL (iR R)) (aZ (hK15 _ ?_)))))))))))))
    refine aC R (fun hc5=>?_) (fun hc5=>?_)
    ·have h7:=Zn hc5 h6
     refine aS fun _ hK16 _=>?_
     refine Zh (s':=⟨[],[],(i1 0),52⟩) (by exact Zc Za Za nL) ?_
     refine aR (sA R R (aZ (hK16 _ ?_)))
     refine Zk ?_
     exact Y1_ h7 iL (.t (.d R))
    ·have h7:=Zo hc5 h6
     refine Zi (hK14 _ ?_)
     refine aS fun _ hK17 _=>(aS fun _ hK18 _=>?_)
     refine Zh (s':=⟨[(1,.ptr 1 n0 0 0)],[(1,some (.box n0 100 (k21_ s1)))],(i1 0),52⟩) (by exact Zc ⟨jL,Za⟩ ⟨.inl R,Za⟩ nL) ?_
     refine aR (sQ R (fB R YFj iL fR R) (sQ R (Zb (a:=qb s1.Elems) R YC4 iL R R) (sQ R (ZA R YBN.slice iL) (sQ R (Zs R iL iL) (aZ (hK18 _ ?_))))))
     refine aC R (fun hc6=>?_) (fun hc6=>?_)
     ·have h8:=Zn hc6 h7
      refine aS fun _ hK19 _=>(aR (sA R R (aZ (hK19 _ ?_))))
      refine Zk ?_
      exact Y1_ h8 iL (.t (.d R))
     ·have h8:=Zo hc6 h7
      refine Zi (hK17 _ ?_)
      refine aS fun _ hK20 _=>(aR (sQ R (fB R YFj iL fR R) (sQ R (Zb (a:=qb s1.Elems) R YC4 iL R R) (Zj h8 fun r2 er2 h9=>(Zg R R R (Zq (r:=rI (r2)) (caps:=[]) (bs:=[qb s1.Elems]) R iL R ⟨⟨_,iL,.d R⟩,Za⟩ (fun _=>YJo (er2)) R) (sA R R (aZ (hK20 _ ?_))))))))
      refine Zk ?_
      exact Y1_ h9 iL (.t (.d R))
   ·have h6:=Zo hc4 h2
    refine Zi (hK2 _ ?_)
    refine aS fun _ hK21 _=>(aR (sA R R (aZ (hK21 _ ?_))))
    refine Zk ?_
    exact Y1_ h6 iL (.t (.d R))
 refine aC R (fun hc7=>?_) (fun hc7=>?_)
 ·have h10:=Zn hc7 hp1
  refine Zi ?_
  exact wK4 _ _ ((by exact Zc ⟨jL,jL,jL,Za⟩ ⟨.inl R,Za⟩ nL)) (J1 _ (vec [(n0+1)]) (Zd h10).symm)
 ·have h10:=Zo hc7 hp1
  refine aR (sQ R (Zs R iL iL) (sA R R ?_))
  refine Zt ?_
  exact wK4 _ _ ((by exact Zc ⟨jL,jL,jL,Za⟩ ⟨.inl R,Za⟩ nL)) (J1 _ (vec [(n0+1)]) (Zd h10).symm)
theorem YE0 {w1:YAE} {r:YAE} {gb1000:Nat} {ga1001:Nat} {ga1002:Nat} (h:YBc w1=some r):AHC Tryz.prog 187 3 [.ptr 1000 gb1000 0 0] [(1000,some (.box gb1000 193 [.own 1001 ga1001,.own 1002 ga1002,rI (w1.cut)])),(1001,some (.arr ga1001 100 4 (w1.out.map YAB.row))),(1002,some (.arr ga1002 51 3 (w1.add.map YAC.row)))] (fun rr h'=>∃ (i:Nat→Nat),rr = .tup []∧h'=[(1000,some (.box gb1000 193 [.own 1001 (i 0),.cst (.slice none 0 0),rI (r.cut)])),(1001,some (.arr (i 0) 100 4 (r.out.map YAB.row)))]):=by
 unfold YBc at h
 refine AHC.mkw Tryz.func187 R R Tryz.ntmps187 (Ze R) fun n0=>?_
 refine aS fun K1 hK1 wK1=>(aS fun _ hK2 _=>(aR (sM R R (sQ R (ZL (ob:=.box _ _ _) R iL fR R) (sQ R (fB R YIK iL fR R) (sQ R (Zb (a:=.own 1002 ga1002) R YC4 iL R R) (sQ R (YHX R YBN.slice iL R) (sQ R (ZV R iL iL) (aZ (hK2 _ ?_))))))))))
 refine jb1k h fun p1 hp1 hk1=>?_
 have J1 : ∀ (w2:YAE) (i1:Nat→Nat),p1=w2→K1 ⟨[(0,.ptr 1000 gb1000 0 0)],[(1000,some (.box gb1000 193 [.own 1001 (i1 0),qb w2.add,rI (w2.cut)])),(1001,some (.arr (i1 0) 100 4 (w2.out.map YAB.row)))],(i1 1),47⟩:=by
  intro w2 i1 e
  have h1:=hk1 _ e
  refine hK1 _ ?_
  refine aS fun K3 hK3 wK3=>(aS fun _ hK4 _=>(aR (sM R R (sQ R (ZL (ob:=.box _ _ _) R iL fR R) (sQ R (fB R YHP iL fR R) (sQ R (Zb (a:=rI (w2.cut)) R ts_3 iL R R) (sQ R (ZV R iL iL) (aZ (hK4 _ ?_)))))))))
  refine jb1k h1 fun p2 hp2 hk2=>?_
  have J2 : ∀ (w3:YAE) (i2:Nat→Nat),p2=w3→K3 ⟨[(0,.ptr 1000 gb1000 0 0)],[(1000,some (.box gb1000 193 [.own 1001 (i2 0),qb w3.add,rI (w3.cut)])),(1001,some (.arr (i2 0) 100 4 (w3.out.map YAB.row)))],(i2 1),47⟩:=by
   intro w3 i2 e
   have h2:=hk2 _ e
   refine hK3 _ ?_
   refine aR (sM R R (sM R R (sQ R (ZL (ob:=.box _ _ _) R iL fR R) (sQ R (fB R YIK iL fR R) (ZD R R (ZB (ds:=[.own 1001 (i2 0),.cst (.slice none 0 0),rI (w3.cut)]) R tz_36 iL R iL R R R R) (sQ R (ZL (ob:=.box _ _ _) R iL fR R) (sQ R (fB R YHP iL fR R) (ZD R R (ZB (ds:=[.own 1001 (i2 0),.cst (.slice none 0 0),rI (0)]) R tz_3 iL R iL R R R R) ?_))))))))
   refine Zt ?_
   exact RetW.mk (s':=⟨[],[(1000,some (.box gb1000 193 [.own 1001 (i2 0),.cst (.slice none 0 0),rI (0)])),(1001,some (.arr (i2 0) 100 4 (w3.out.map YAB.row)))],(i2 1),47⟩) ((by exact Zc Za ⟨.inl R,.inl R,Za⟩ nL)) (YBQ (fun (r:YAE) rr h'=>∃ (i:Nat→Nat),rr = .tup []∧h'=[(1000,some (.box gb1000 193 [.own 1001 (i 0),.cst (.slice none 0 0),rI (r.cut)])),(1001,some (.arr (i 0) 100 4 (r.out.map YAB.row)))]) h2 (by exact ⟨.tup [],[(1000,some (.box gb1000 193 [.own 1001 (i2 0),.cst (.slice none 0 0),rI (0)])),(1001,some (.arr (i2 0) 100 4 (w3.out.map YAB.row)))],⟨_,R,Za⟩,⟨.inr R,.inr R,Za⟩,R,R,vec [(i2 0)],R,R⟩))
  refine aC R (fun hc1=>?_) (fun hc1=>?_)
  ·have h3:=Zn hc1 hp2
   refine AW.regionF' [0] [1,2,3,4,5,6,7,8,9] [10] 11 hmix (by kernel_rfl) R R R R R ?_
   refine AFl.move R R R R ?_
   refine AFl.nil ?_
   refine AF.step R R R (Zf R iL) ?_
   refine AF.step R R R (ZL (ob:=.box _ _ _) R iL fR R) ?_
   refine AF.step R R R (fB R YDb iL fR R) ?_
   refine AF.step R R R (Zb (a:=.own 1001 (i1 0)) R YKh iL R R) ?_
   refine AF.step R R R (Zf R iL) ?_
   refine AF.step R R R (ZL (ob:=.box _ _ _) R iL fR R) ?_
   refine AF.step R R R (fB R YHP iL fR R) ?_
   refine AF.step R R R (Zb (a:=rI (w2.cut)) R ts_3 iL R R) ?_
   refine AF.step R R R (YBD R YJM (q:=[(0,_),(1,_)]) (by exact ⟨R,R,R,iL,R,R,R,iL,Za⟩) (cs:=[rI (2),rI (w2.cut),.cst (.slice none 0 0),.cst (.slice none 0 0)]) (by rfl)) ?_
   refine AF.nil ?_
   refine AA.step R R R (YSx 37 R YCJ (f:=YAB.row) (l:=([(YAB.mk 2 w2.cut [] [])]:List YAB)) ⟨R,⟨_,iL,R⟩,Za⟩ R (fun _=>R) R) ?_
   refine AA.nil ?_
   refine Zj h3 fun l1 el1 h4=>(Zg R R R (YEq R YCJ iL R (.inr (.inl ⟨_,_,iL,R⟩)) el1) (sQ R (ZL (ob:=.box _ _ _) R iL fR R) (sQ R (fB R YDb iL fR R) (ZD R R (ZB (ds:=[.own 1001 ((i1 1)+1),qb w2.add,rI (w2.cut)]) R YVc iL R iL R R R R) ?_))))
   refine Zt ?_
   exact wK3 _ _ ((by exact Zc ⟨jL,Za⟩ ⟨.inl R,.inl R,Za⟩ nL)) (J2 _ (vec [((i1 1)+1),((i1 1)+2)]) (Zd h4).symm)
  ·have h3:=Zo hc1 hp2
   refine Zi ?_
   exact wK3 _ _ ((by exact Zc ⟨jL,Za⟩ ⟨.inl R,.inl R,Za⟩ nL)) (J2 _ (vec [(i1 0),(i1 1)]) (Zd h3).symm)
 refine aC R (fun hc2=>?_) (fun hc2=>?_)
 ·have h5:=Zn hc2 hp1
  refine Zh (by exact Weak.frz (e':=[(0,.ptr 1000 gb1000 0 0),(2,.ptr 1000 gb1000 0 0),(3,.ptr 1000 gb1000 0 0),(4,.ptr 1000 gb1000 0 1),(5,qb w1.add),(6,rI ((w1.add.length:Int))),(7,rB ((decide (0<(w1.add.length:Int)))))]) (h':=[(1000,some (.box gb1000 193 [.own 1001 ga1001,qb w1.add,rI (w1.cut)])),(1001,some (.arr ga1001 100 4 (w1.out.map YAB.row)))]) 1002 R ⟨jL,jL,jL,jL,.inl (.inr (.inr ⟨R,R⟩)),jL,jL,Za⟩ ⟨R,.inr (.inr (.inl ⟨_,_,_,_,R,R,⟨.inl R,.inr (.inr ⟨R,R⟩),.inl R,Za⟩⟩)),R,.inl R,Za⟩) ?_
  refine AW.regionF' [0] [1,2,3,4,5,6,7,8,9] [10] 11 hmix (by kernel_rfl) R R R R R ?_
  refine AFl.move R R R R ?_
  refine AFl.nil ?_
  refine AF.step R R R (Zf R iL) ?_
  refine AF.step R R R (ZL (ob:=.box _ _ _) R iL fR R) ?_
  refine AF.step R R R (fB R YDb iL fR R) ?_
  refine AF.step R R R (Zb (a:=.own 1001 ga1001) R YKh iL R R) ?_
  refine AF.step R R R (Zf R iL) ?_
  refine AF.step R R R (ZL (ob:=.box _ _ _) R iL fR R) ?_
  refine AF.step R R R (fB R YIK iL fR R) ?_
  refine AF.step R R R (Zb (a:=qb w1.add) R YC4 iL R R) ?_
  refine AF.step R R R (YBD R YJM (q:=[(0,_),(3,_)]) (by exact ⟨R,R,R,iL,R,R,R,iL,Za⟩) (cs:=[rI (1),rI (0),.cst (.slice none 0 0),qb w1.add]) (by rfl)) ?_
  refine AF.nil ?_
  refine AA.step R R R (YSx 18 R YCJ (f:=YAB.row) (l:=([(YAB.mk 1 0 [] w1.add)]:List YAB)) ⟨R,⟨_,iL,R⟩,Za⟩ R (fun _=>R) R) ?_
  refine AA.nil ?_
  refine Zj h5 fun l2 el2 h6=>(Zg R R R (YEq R YCJ iL R (.inr (.inl ⟨_,_,iL,R⟩)) el2) (sQ R (ZL (ob:=.box _ _ _) R iL fR R) (sQ R (fB R YDb iL fR R) (ZD R R (ZB (ds:=[.own 1001 (n0+1),qb w1.add,rI (w1.cut)]) R YVc iL R iL R R R R) ?_))))
  refine Zt ?_
  exact wK1 _ _ ((by exact Zc ⟨jL,Za⟩ ⟨.inl R,.inl R,Za⟩ nL)) (J1 _ (vec [(n0+1),(n0+2)]) (Zd h6).symm)
 ·have h5:=Zo hc2 hp1
  refine Zi ?_
  exact wK1 _ _ (ZP (by exact Weak.frz (e':=[(0,.ptr 1000 gb1000 0 0),(2,.ptr 1000 gb1000 0 0),(3,.ptr 1000 gb1000 0 0),(4,.ptr 1000 gb1000 0 1),(5,qb w1.add),(6,rI ((w1.add.length:Int))),(7,rB ((decide (0<(w1.add.length:Int)))))]) (h':=[(1000,some (.box gb1000 193 [.own 1001 ga1001,qb w1.add,rI (w1.cut)])),(1001,some (.arr ga1001 100 4 (w1.out.map YAB.row)))]) 1002 R ⟨jL,jL,jL,jL,.inl (.inr (.inr ⟨R,R⟩)),jL,jL,Za⟩ ⟨R,.inr (.inr (.inl ⟨_,_,_,_,R,R,⟨.inl R,.inr (.inr ⟨R,R⟩),.inl R,Za⟩⟩)),R,.inl R,Za⟩) (by exact Zc ⟨jL,Za⟩ ⟨.inl R,.inl R,Za⟩ nL)) (J1 _ (vec [ga1001,n0]) (Zd h5).symm)
theorem YHs {w1:YAE} {n1:Int} {attrs1:List YAG} {r:YAE} {gb1000:Nat} {ga1001:Nat} {ga1002:Nat} (h:YCT w1 n1 attrs1=some r):AHC Tryz.prog 153 3 [.ptr 1000 gb1000 0 0,rI (n1),qa attrs1] [(1000,some (.box gb1000 193 [.own 1001 ga1001,.own 1002 ga1002,rI (w1.cut)])),(1001,some (.arr ga1001 100 4 (w1.out.map YAB.row))),(1002,some (.arr ga1002 51 3 (w1.add.map YAC.row)))] (fun rr h'=>∃ (i:Nat→Nat),rr = .tup []∧h'=[(1000,some (.box gb1000 193 [.own 1001 (i 0),.own 1002 (i 1),rI (r.cut)])),(1001,some (.arr (i 0) 100 4 (r.out.map YAB.row))),(1002,some (.arr (i 1) 51 3 (r.add.map YAC.row)))]):=by
 unfold YCT at h
 refine AHC.mkw Tryz.func153 R R Tryz.ntmps153 (Ze R) fun n0=>?_
 refine aS fun _ hK1 _=>(aS fun _ hK2 _=>(aR (sM R R (sQ R (Zs R iL iL) (aZ (hK2 _ ?_))))))
 refine aC R (fun hc1=>?_) (fun hc1=>?_)
 ·have h1:=Zn hc1 h
  refine Zk ?_
  exact RetW.mk (s':=⟨[],[(1000,some (.box gb1000 193 [.own 1001 ga1001,.own 1002 ga1002,rI (w1.cut)])),(1001,some (.arr ga1001 100 4 (w1.out.map YAB.row))),(1002,some (.arr ga1002 51 3 (w1.add.map YAC.row)))],n0,67⟩) ((by exact Zc Za ⟨.inl R,.inl R,.inl R,Za⟩ nL)) (YBQ (fun (r:YAE) rr h'=>∃ (i:Nat→Nat),rr = .tup []∧h'=[(1000,some (.box gb1000 193 [.own 1001 (i 0),.own 1002 (i 1),rI (r.cut)])),(1001,some (.arr (i 0) 100 4 (r.out.map YAB.row))),(1002,some (.arr (i 1) 51 3 (r.add.map YAC.row)))]) h1 (by exact ⟨.tup [],[(1000,some (.box gb1000 193 [.own 1001 ga1001,.own 1002 ga1002,rI (w1.cut)])),(1001,some (.arr ga1001 100 4 (w1.out.map YAB.row))),(1002,some (.arr ga1002 51 3 (w1.add.map YAC.row)))],⟨_,R,Za⟩,⟨.inr R,.inr R,.inr R,Za⟩,R,R,vec [ga1001,ga1002],R,R⟩))
 ·have h1:=Zo hc1 h
  refine Zi (hK1 _ ?_)
  refine aS fun _ hK3 _=>(aR (sM R R (Zj h1 fun w2 ew2 h2=>?_)))
  refine AOps.stepHI [1000,1001,1002] (hc:=[(1000,some (.box gb1000 193 [.own 1001 ga1001,.own 1002 ga1002,rI (w1.cut)])),(1001,some (.arr ga1001 100 4 (w1.out.map YAB.row))),(1002,some (.arr ga1002 51 3 (w1.add.map YAC.row)))]) (bs:=[.ptr 1000 gb1000 0 0]) (caps:=[]) R R R R iL R ⟨.inl ⟨iL,R⟩,Za⟩ ⟨R,R,R,R,R,R,R,R,R,Za⟩ (by decide) (YE0 ew2) ?_
  intro i1 n2
  refine ZT (s':=⟨[(0,.ptr 1000 gb1000 0 0),(1,rI (n1)),(2,qa attrs1),(7,rI (n1)),(8,rB ((decide (n1=0)))),(9,.ptr 1000 gb1000 0 0),(10,.tup [])],[(1000,some (.box gb1000 193 [.own 1001 (i1 0),.cst (.slice none 0 0),rI (w2.cut)])),(1001,some (.arr (i1 0) 100 4 (w2.out.map YAB.row)))],n2,67⟩) (by exact Zc ⟨jL,jL,jL,jL,jL,jL,jL,Za⟩ ⟨.inl R,.inl R,Za⟩ nL) ?_
  refine aZ (hK3 _ ?_)
  refine aS fun _ hK4 _=>(aS fun _ hK5 _=>(aR (sM R R (sQ R (ZL (ob:=.box _ _ _) R iL fR R) (sQ R (fB R YDb iL fR R) (sQ R (Zb (a:=.own 1001 (i1 0)) R YKh iL R R) (sQ R (YHX R YCJ.slice iL R) (Zj h2 fun k1 ek1 h3=>(sQ R (YBf R iL iL (fun _=>ek1)) (sA R R (aZ (hK5 _ ?_))))))))))))
  refine aS fun _ hK6 _=>?_
  refine Zh (s':=⟨[(0,.ptr 1000 gb1000 0 0),(1,rI (n1)),(2,qa attrs1),(6,rI (k1))],[(1000,some (.box gb1000 193 [.own 1001 (i1 0),.cst (.slice none 0 0),rI (w2.cut)])),(1001,some (.arr (i1 0) 100 4 (w2.out.map YAB.row)))],n2,67⟩) (by exact Zc ⟨jL,jL,jL,jL,Za⟩ ⟨.inl R,.inl R,Za⟩ nL) ?_
  refine aR (sM R R (sQ R (YB5 R iL iL) (sM R R (sV R R R (Zf R iL) (sV R R R (ZL (ob:=.box _ _ _) R (iR R) fR R) (sV R R R (fB R YDb (iR R) fR R) (sV R R R (Zb (a:=.own 1001 (i1 0)) R YKh (iR R) R R) (sV R R R (Zf R iL) (Zj h3 fun x1 ex1 h4=>(sV R R R (YBT R YCJ.slice (iR R) R (iR R) (gdt ex1)) (sV R R R (YA0 (ob:=.arr _ _ _ _) R YB3 (iR R) fR R) (sV R R R (YDB (d:=.int .i64 x1.Kind) R ts_3 (iR R) fR (gdt ex1) R) (sV R R R (Zs R (iR R) iL) (sQ R (Zr R iL (iR R)) (sM R R (sV R R R (Zf R iL) (sV R R R (ZL (ob:=.box _ _ _) R (iR R) fR R) (sV R R R (fB R YDb (iR R) fR R) (sV R R R (Zb (a:=.own 1001 (i1 0)) R YKh (iR R) R R) (sV R R R (Zf R iL) (Zj h4 fun x2 ex2 h5=>(sV R R R (YBT R YCJ.slice (iR R) R (iR R) (gdt ex2)) (sV R R R (YA0 (ob:=.arr _ _ _ _) R YDK (iR R) fR R) (sV R R R (YDB (d:=.sl (x2.Attrs.map YAG.row)) R YCi (iR R) fR (gdt ex2) R) (sV R R R (Zf R iL) (Zj h5 fun r1 er1 h6=>?_))))))))))))))))))))))))))
  refine ZE (.one R R R) R R (Zq (r:=rB (r1)) (caps:=[]) (bs:=[qa x2.Attrs,qa attrs1]) R iL R ⟨⟨_,(iR R),.d R⟩,⟨_,(iR R),.d R⟩,Za⟩ (fun hg=>YHu (gdt er1 hg)) R) ?_
  refine sQ R (Zr R iL (iR R)) (aZ (hK6 _ ?_))
  refine aC R (fun hc2=>?_) (fun hc2=>?_)
  ·have h7:=Zn hc2 h6
   refine aS fun _ hK7 _=>?_
   refine Zh (s':=⟨[(0,.ptr 1000 gb1000 0 0),(1,rI (n1)),(6,rI (k1))],[(1000,some (.box gb1000 193 [.own 1001 (i1 0),.cst (.slice none 0 0),rI (w2.cut)])),(1001,some (.arr (i1 0) 100 4 (w2.out.map YAB.row)))],n2,67⟩) (by exact Zc ⟨jL,jL,jL,Za⟩ ⟨.inl R,.inl R,Za⟩ nL) ?_
   refine aR (sM R R (sQ R (ZL (ob:=.box _ _ _) R iL fR R) (sQ R (fB R YDb iL fR R) (sQ R (Zb (a:=.own 1001 (i1 0)) R YKh iL R R) (sM R R (Zj h7 fun x3 ex3 h8=>(sQ R (YBT R YCJ.slice iL R iL (fun _=>ex3)) (sQ R (YA0 (ob:=.arr _ _ _ _) R YC1 iL fR R) (sQ R (YDB (d:=.int .i64 x3.N) R ts_3 iL fR (fun _=>ex3) R) (sM R R (Zj h8 fun x4 ex4 h9=>(sQ R (ZI R iL iL (fun _=>ex4)) (sQ R (YBT R YCJ.slice iL R iL (fun _=>ex3)) (sQ R (YA0 (ob:=.arr _ _ _ _) R YC1 iL fR R) (ZD R R (YHW (v:=(YAB.mk x3.Kind x4 x3.Attrs x3.Elems)) R tz_3 iL R ex3 iL R R R R) (aZ (hK7 _ ?_)))))))))))))))))
   refine Zk ?_
   exact RetW.mk (s':=⟨[],[(1000,some (.box gb1000 193 [.own 1001 (i1 0),.own 1002 n2,rI (w2.cut)])),(1001,some (.arr (i1 0) 100 4 ((w2.out.set k1.toNat (YAB.mk x3.Kind x4 x3.Attrs x3.Elems)).map YAB.row))),(1002,some (.arr n2 51 3 (([]:List YAC).map YAC.row)))],(n2+1),67⟩) (ZP (ZP (Weak.adoptBox 1000 1 1002 51 3 (by decide) R R (by decide)) (by exact Zc (e':=[(0,.ptr 1000 gb1000 0 0),(1,rI (n1)),(6,rI (k1)),(42,.ptr 1000 gb1000 0 0),(43,.ptr 1000 gb1000 0 0),(44,.ptr 1000 gb1000 0 0),(45,.own 1001 (i1 0)),(46,rI (k1)),(47,.ptr 1001 (i1 0) k1.toNat 0),(48,.ptr 1001 (i1 0) k1.toNat 1),(49,rI (x3.N)),(50,rI (n1)),(51,rI (x4)),(52,.ptr 1001 (i1 0) k1.toNat 0),(53,.ptr 1001 (i1 0) k1.toNat 1)]) (h':=[(1000,some (.box gb1000 193 [.own 1001 (i1 0),.own 1002 n2,rI (w2.cut)])),(1001,some (.arr (i1 0) 100 4 ((w2.out.set k1.toNat (YAB.mk x3.Kind x4 x3.Attrs x3.Elems)).map YAB.row))),(1002,some (.arr n2 51 3 (([]:List YAC).map YAC.row)))]) ⟨jL,jL,jL,jL,jL,jL,jL,jL,jL,jL,jL,jL,jL,jL,jL,Za⟩ ⟨.inl R,.inl R,.inl R,Za⟩ nL)) (by exact Zc Za ⟨.inl R,.inl R,.inl R,Za⟩ nL)) (YBQ (fun (r:YAE) rr h'=>∃ (i:Nat→Nat),rr = .tup []∧h'=[(1000,some (.box gb1000 193 [.own 1001 (i 0),.own 1002 (i 1),rI (r.cut)])),(1001,some (.arr (i 0) 100 4 (r.out.map YAB.row))),(1002,some (.arr (i 1) 51 3 (r.add.map YAC.row)))]) h9 (by exact ⟨.tup [],[(1000,some (.box gb1000 193 [.own 1001 (i1 0),.own 1002 n2,rI (w2.cut)])),(1001,some (.arr (i1 0) 100 4 ((w2.out.set k1.toNat (YAB.mk x3.Kind x4 x3.Attrs x3.Elems)).map YAB.row))),(1002,some (.arr n2 51 3 (([]:List YAC).map YAC.row)))],⟨_,R,Za⟩,⟨.inr R,.inr R,.inr R,Za⟩,R,R,vec [(i1 0),n2],R,R⟩))
  ·have h7:=Zo hc2 h6
   refine Zi (hK4 _ ?_)
   refine Zh (s':=⟨[(0,.ptr 1000 gb1000 0 0),(1,rI (n1)),(2,qa attrs1)],[(1000,some (.box gb1000 193 [.own 1001 (i1 0),.cst (.slice none 0 0),rI (w2.cut)])),(1001,some (.arr (i1 0) 100 4 (w2.out.map YAB.row)))],n2,67⟩) (by exact Zc ⟨jL,jL,jL,Za⟩ ⟨.inl R,.inl R,Za⟩ nL) ?_
   refine Zj h7 fun l1 el1 h10=>(Zj h10 fun l2 el2 h11=>?_)
   refine AW.regionP 11 [⟨some 54,(fun _=>.ptr 1000 gb1000 0 0),none,[]⟩,⟨some 55,(fun _=>.ptr 1000 gb1000 0 0),none,[]⟩,⟨some 56,(fun _=>.ptr 1000 gb1000 0 0),none,[]⟩,⟨some 57,(fun _=>.ptr 1000 gb1000 0 0),none,[]⟩,⟨some 58,(fun _=>.own 1001 (i1 0)),none,[]⟩,⟨some 59,(fun _=>rI (n1)),none,[]⟩,⟨some 60,(fun _=>qa attrs1),none,[]⟩,⟨some 61,(fun _=>qa l1),some (61,(fun _=>none)),[]⟩,⟨some 62,(fun _=>.agg [rI (0),rI (n1),qa l1,.cst (.slice none 0 0)]),none,[]⟩,⟨some 63,(fun G1=>.own 63 (G1 9)),some (63,(fun G1=>some (.arr (G1 9) 100 4 ([(YAB.mk 0 n1 l1 [])].map YAB.row)))),[9]⟩,⟨some 64,(fun G1=>.own 1001 (G1 10)),some (1001,(fun G1=>some (.arr (G1 10) 100 4 (l2.map YAB.row)))),[10]⟩] hmix (by kernel_rfl) (by exact ⟨fun _ _ h=>⟨R,fun _ _ e=>by cases e⟩,fun _ _ h=>⟨R,fun _ _ e=>by cases e⟩,fun _ _ h=>⟨R,fun _ _ e=>by cases e⟩,fun _ _ h=>⟨R,fun _ _ e=>by cases e⟩,fun _ _ h=>⟨R,fun _ _ e=>by cases e⟩,fun _ _ h=>⟨R,fun _ _ e=>by cases e⟩,fun _ _ h=>⟨R,fun _ _ e=>by cases e⟩,fun _ _ h=>⟨R,fun _ _ e=>by cases e; rfl⟩,fun _ _ h=>⟨R,fun _ _ e=>by cases e⟩,fun _ _ h=>⟨by simp only [h 9 R],fun _ _ e=>by cases e; simp only [h 9 R]⟩,fun _ _ h=>⟨by simp only [h 10 R],fun _ _ e=>by cases e; simp only [h 10 R]⟩,Za⟩) R (by exact ⟨Zu (n1:=fun n=>n) R R (by intro d h; cases h; rfl) R (fun _=>[(0,.ptr 1000 gb1000 0 0)]) (fun _=>[(1000,some (.box gb1000 193 [.own 1001 (i1 0),.cst (.slice none 0 0),rI (w2.cut)]))]) (fun D G1 hr=>⟨ZU R R,Za⟩) (fun D G1 hr=>⟨ZG R R,Za⟩) (fun _ _=>R) (fun G1 e h' n=>Zv (v:=.ptr 1000 gb1000 0 0) (Zf R (.inl R)) _),
     Zu (n1:=fun n=>n) R R (by intro d h; cases h; rfl) R (fun _=>[(0,.ptr 1000 gb1000 0 0)]) (fun _=>[(1000,some (.box gb1000 193 [.own 1001 (i1 0),.cst (.slice none 0 0),rI (w2.cut)]))]) (fun D G1 hr=>⟨ZU R R,Za⟩) (fun D G1 hr=>⟨ZG R R,Za⟩) (fun _ _=>R) (fun G1 e h' n=>Zv (v:=.ptr 1000 gb1000 0 0) (Zf R (.inl R)) _),
     Zu (n1:=fun n=>n) R R (by intro d h; cases h; rfl) R (fun _=>[(55,.ptr 1000 gb1000 0 0)]) (fun _=>[(1000,some (.box gb1000 193 [.own 1001 (i1 0),.cst (.slice none 0 0),rI (w2.cut)]))]) (fun D G1 hr=>⟨ZK hr 1 R R (by kernel_rfl) R R,Za⟩) (fun D G1 hr=>⟨ZG R R,Za⟩) (fun _ _=>R) (fun G1 e h' n=>Zv (v:=.ptr 1000 gb1000 0 0) (ZL (ob:=.box _ _ _) R (.inl R) (fun _=>R) R) _),
     Zu (n1:=fun n=>n) R R (by intro d h; cases h; rfl) R (fun _=>[(56,.ptr 1000 gb1000 0 0)]) (fun _=>[(1000,some (.box gb1000 193 [.own 1001 (i1 0),.cst (.slice none 0 0),rI (w2.cut)]))]) (fun D G1 hr=>⟨ZK hr 2 R R (by kernel_rfl) R R,Za⟩) (fun D G1 hr=>⟨ZG R R,Za⟩) (fun _ _=>R) (fun G1 e h' n=>Zv (v:=.ptr 1000 gb1000 0 0) (fB R YDb (.inl R) (fun _=>R) R) _),
     Zu (n1:=fun n=>n) R R (by intro d h; cases h; rfl) R (fun _=>[(57,.ptr 1000 gb1000 0 0)]) (fun _=>[(1000,some (.box gb1000 193 [.own 1001 (i1 0),.cst (.slice none 0 0),rI (w2.cut)]))]) (fun D G1 hr=>⟨ZK hr 3 R R (by kernel_rfl) R R,Za⟩) (fun D G1 hr=>⟨ZG R R,Za⟩) (fun _ _=>R) (fun G1 e h' n=>Zv (v:=.own 1001 (i1 0)) (Zb (a:=.own 1001 (i1 0)) R YKh (.inl R) R R) _),
     Zu (n1:=fun n=>n) R R (by intro d h; cases h; rfl) R (fun _=>[(1,rI (n1))]) (fun _=>[]) (fun D G1 hr=>⟨ZU R R,Za⟩) (fun D G1 hr=>Za) (fun _ _=>R) (fun G1 e h' n=>Zv (v:=rI (n1)) (Zf R (.inl R)) _),
     Zu (n1:=fun n=>n) R R (by intro d h; cases h; rfl) R (fun _=>[(2,qa attrs1)]) (fun _=>[]) (fun D G1 hr=>⟨ZU R R,Za⟩) (fun D G1 hr=>Za) (fun _ _=>R) (fun G1 e h' n=>Zv (v:=qa attrs1) (Zf R (.inl R)) _),
     Ob.makeN R R (by intro d h; cases h; rfl) R (fun _=>[(60,qa attrs1)]) (fun _=>[]) (fun D G1 hr=>⟨ZK hr 6 R R (by kernel_rfl) R R,Za⟩) (fun D G1 hr=>Za) (fun G1 e h' n=>(YAr.toN (YMR 61 (f:=YAG.row) R YDI (.inl R) (.inl ⟨(.inl R),fun _=>R⟩) el1)).frz),
     Zu (n1:=fun n=>n) R R (by intro d h; cases h; rfl) R (fun _=>[(59,rI (n1)),(61,qa l1)]) (fun _=>[]) (fun D G1 hr=>⟨ZK hr 5 R R (by kernel_rfl) R R,ZK hr 7 R R (by kernel_rfl) R R,Za⟩) (fun D G1 hr=>Za) (fun _ _=>R) (fun G1 e h' n=>Zv (v:=.agg [rI (0),rI (n1),qa l1,.cst (.slice none 0 0)]) (YBD R YJM (q:=[(0,_),(1,_),(2,_)]) (by exact ⟨R,R,R,(.inl R),R,R,R,(.inl R),R,R,R,(.inl R),Za⟩) (cs:=[rI (0),rI (n1),qa l1,.cst (.slice none 0 0)]) (by rfl)) _),
     Ob.make (n1:=fun n=>n+1) R R (by intro d h; cases h; rfl) R (fun _=>[(62,.agg [rI (0),rI (n1),qa l1,.cst (.slice none 0 0)])]) (fun _=>[]) (fun D G1 hr=>⟨ZK hr 8 R R (by kernel_rfl) R R,Za⟩) (fun D G1 hr=>Za) (fun G1 e h' n=>YCs 63 R YCJ (f:=YAB.row) (l:=([(YAB.mk 0 n1 l1 [])]:List YAB)) ⟨R,⟨_,(.inl R),R⟩,Za⟩ R (fun _=>R) R),
     Ob.make (n1:=fun n=>n+1) R R (by intro d h; cases h; rfl) R (fun G1=>[(58,.own 1001 (i1 0)),(63,.own 63 (G1 9))]) (fun G1=>[(63,some (.arr (G1 9) 100 4 ([(YAB.mk 0 n1 l1 [])].map YAB.row))),(1001,some (.arr (i1 0) 100 4 (w2.out.map YAB.row)))]) (fun D G1 hr=>⟨ZK hr 4 R R (by kernel_rfl) R R,ZK hr 9 R R (by kernel_rfl) R R,Za⟩) (fun D G1 hr=>⟨YMW hr 9 R R (by kernel_rfl) (by kernel_rfl) R,YOS hr (by kernel_rfl) R,Za⟩) (fun G1 e h' n=>YEq R YCJ (.inl R) R (.inr (.inl ⟨_,_,(.inl R),R⟩)) el2),
     Za⟩) fun G1 n3=>?_
   refine ZT (s':=⟨[(0,.ptr 1000 gb1000 0 0),(1,rI (n1)),(2,qa attrs1),(54,.ptr 1000 gb1000 0 0),(55,.ptr 1000 gb1000 0 0),(56,.ptr 1000 gb1000 0 0),(57,.ptr 1000 gb1000 0 0),(59,rI (n1)),(60,qa attrs1),(61,qa l1),(62,.agg [rI (0),rI (n1),qa l1,.cst (.slice none 0 0)]),(63,.own 63 (G1 9)),(64,.own 1001 (G1 10))],[(63,some (.arr (G1 9) 100 4 ([(YAB.mk 0 n1 l1 [])].map YAB.row))),(1000,some (.box gb1000 193 [.own 1001 (i1 0),.cst (.slice none 0 0),rI (w2.cut)])),(1001,some (.arr (G1 10) 100 4 (l2.map YAB.row)))],n3,67⟩) (by exact Zc ⟨jL,jL,jL,jL,jL,jL,jL,jL,jL,jL,jL,jL,jL,Za⟩ ⟨.inl R,.inl R,.inl R,Za⟩ nL) ?_
   refine sQ R (ZL (ob:=.box _ _ _) R iL fR R) (sQ R (fB R YDb iL fR R) (ZD R R (ZB (ds:=[.own 1001 (G1 10),.cst (.slice none 0 0),rI (w2.cut)]) R YVc iL R iL R R R R) ?_))
   refine Zt ?_
   exact RetW.mk (s':=⟨[],[(1000,some (.box gb1000 193 [.own 1001 (G1 10),.own 1002 n3,rI (w2.cut)])),(1001,some (.arr (G1 10) 100 4 (l2.map YAB.row))),(1002,some (.arr n3 51 3 (([]:List YAC).map YAC.row)))],(n3+1),67⟩) (ZP (ZP (Weak.adoptBox 1000 1 1002 51 3 (by decide) R R (by decide)) (by exact Zc (e':=[(0,.ptr 1000 gb1000 0 0),(1,rI (n1)),(2,qa attrs1),(54,.ptr 1000 gb1000 0 0),(55,.ptr 1000 gb1000 0 0),(56,.ptr 1000 gb1000 0 0),(57,.ptr 1000 gb1000 0 0),(59,rI (n1)),(60,qa attrs1),(61,qa l1),(62,.agg [rI (0),rI (n1),qa l1,.cst (.slice none 0 0)]),(63,.own 63 (G1 9)),(64,.own 1001 (G1 10)),(65,.ptr 1000 gb1000 0 0),(66,.ptr 1000 gb1000 0 0)]) (h':=[(63,some (.arr (G1 9) 100 4 ([(YAB.mk 0 n1 l1 [])].map YAB.row))),(1000,some (.box gb1000 193 [.own 1001 (G1 10),.own 1002 n3,rI (w2.cut)])),(1001,some (.arr (G1 10) 100 4 (l2.map YAB.row))),(1002,some (.arr n3 51 3 (([]:List YAC).map YAC.row)))]) ⟨jL,jL,jL,jL,jL,jL,jL,jL,jL,jL,jL,jL,jL,jL,jL,Za⟩ ⟨.inl R,.inl R,.inl R,.inl R,Za⟩ nL)) (by exact Zc Za ⟨.inl R,.inl R,.inl R,Za⟩ nL)) (YBQ (fun (r:YAE) rr h'=>∃ (i:Nat→Nat),rr = .tup []∧h'=[(1000,some (.box gb1000 193 [.own 1001 (i 0),.own 1002 (i 1),rI (r.cut)])),(1001,some (.arr (i 0) 100 4 (r.out.map YAB.row))),(1002,some (.arr (i 1) 51 3 (r.add.map YAC.row)))]) h11 (by exact ⟨.tup [],[(1000,some (.box gb1000 193 [.own 1001 (G1 10),.own 1002 n3,rI (w2.cut)])),(1001,some (.arr (G1 10) 100 4 (l2.map YAB.row))),(1002,some (.arr n3 51 3 (([]:List YAC).map YAC.row)))],⟨_,R,Za⟩,⟨.inr R,.inr R,.inr R,Za⟩,R,R,vec [(G1 10),n3],R,R⟩))
theorem YO6 {f1:List YAC} {r:(List YAC)} (h:YHH f1=some r):ARO Tryz.prog 66 [qb f1] (qb r):=by
 unfold YHH at h
 refine Zw Tryz.func66 R R Tryz.ntmps66 R (Ze R) fun n0=>?_
 refine aS fun _ hK1 _=>(aR (sA R R (aZ (hK1 _ ?_))))
 refine aS fun _ hK2 _=>(aR (sM R R (sQ R (ZA R YBN.slice iL) (Zj h fun out1 eout1 h1=>(Zg R R R (YPf 8 R YBN (f:=YAC.row) (z0:=(YAC.mk 0 0 [])) tr_51 iL iL eout1) (sA R R (aZ (hK2 _ ?_))))))))
 refine aS fun K3 hK3 wK3=>(aS fun _ hK4 _=>(aR (sM R R (sQ R (ZA R YBN.slice iL) (sM R R (aZ (hK4 _ ?_)))))))
 refine Zp ?_
 refine jb1k h1 fun o1 hit1 hk1=>?_
 have J1 : ∀ (out5:List YAC) (i5:Nat→Nat),o1=out5→K3 ⟨[(3,.own 8 (i5 0))],[(8,some (.arr (i5 0) 51 3 (out5.map YAC.row)))],(i5 1),29⟩:=by
  intro out5 i5 e
  have h2:=hk1 _ e
  refine hK3 _ ?_
  refine aS fun _ hK5 _=>(aR (sM R R (sA R R (aZ (hK5 _ ?_)))))
  refine Zk ?_
  exact YIw (P:=Tryz.prog) (fun (r:(List YAC))=>qb r) h2 iL (.t (.one (.own R)))
 refine AW.iter2 (fun (x2:Int) (out3:List YAC) i3=>⟨[(3,.own 8 (i3 0)),(9,qb f1),(10,rI ((f1.length:Int))),(11,rI (x2))],[(8,some (.arr (i3 0) 51 3 (out3.map YAC.row)))],(i3 1),29⟩) (vec [n0,(n0+1)]) hit1 ((by exact Zc ⟨jL,jL,jL,jL,Za⟩ ⟨.inl R,Za⟩ nL)) ?_
 intro x2 out3 i3 v1 hv1 hx1
 have h3:YCV f1 x2 out3=some v1:=hv1; unfold YCV at h3
 refine aS fun _ hK6 _=>(aR (sQ R (Zx R iL iL) (aZ (hK6 _ ?_))))
 refine aS fun _ hK7 _=>?_
 refine aC R (fun hc1=>?_) (fun hc1=>?_)
 ·have h4:=Zn hc1 h3
  refine Zi (hK7 _ ?_)
  refine aS fun _ hK8 _=>(Zp (aS fun _ hK9 _=>(aR (sM R R (Zj h4 fun x4 ex4 h5=>(sQ R (Zz R YBN.slice iL iL (fun _=>R) (fun _=>ex4)) (sQ R (ZM (cs:=(k26_ x4)) R YHx iL R R) (Zg R R R (ZX (cs:=z24_) 5 R YPH R R) (sA R R (ZD R R (ZB (ds:=(k26_ x4)) R YMq iL R iL R R R R) (aZ (hK9 _ ?_))))))))))))
  refine Zj h5 fun l1 el1 h6=>?_
  refine AW.regionP 10 [⟨some 16,(fun _=>.own 8 (i3 0)),none,[]⟩,⟨some 17,(fun _=>rI (x2)),none,[]⟩,⟨some 18,(fun _=>.ptr 5 (i3 1) 0 0),none,[]⟩,⟨some 19,(fun _=>rI (x4.Char)),none,[]⟩,⟨some 20,(fun _=>.ptr 5 (i3 1) 0 1),none,[]⟩,⟨some 21,(fun _=>rI (x4.Ref)),none,[]⟩,⟨some 22,(fun _=>.ptr 5 (i3 1) 0 2),none,[]⟩,⟨some 23,(fun _=>qa x4.Attrs),none,[]⟩,⟨some 24,(fun G1=>.own 24 (G1 8)),some (24,(fun G1=>some (.arr (G1 8) 58 2 (l1.map YAG.row)))),[8]⟩,⟨some 25,(fun G1=>.agg [rI (x4.Char),rI (x4.Ref),.own 24 (G1 8)]),none,[8]⟩] hmix (by kernel_rfl) (by exact ⟨fun _ _ h=>⟨R,fun _ _ e=>by cases e⟩,fun _ _ h=>⟨R,fun _ _ e=>by cases e⟩,fun _ _ h=>⟨R,fun _ _ e=>by cases e⟩,fun _ _ h=>⟨R,fun _ _ e=>by cases e⟩,fun _ _ h=>⟨R,fun _ _ e=>by cases e⟩,fun _ _ h=>⟨R,fun _ _ e=>by cases e⟩,fun _ _ h=>⟨R,fun _ _ e=>by cases e⟩,fun _ _ h=>⟨R,fun _ _ e=>by cases e⟩,fun _ _ h=>⟨by simp only [h 8 R],fun _ _ e=>by cases e; simp only [h 8 R]⟩,fun _ _ h=>⟨by simp only [h 8 R],fun _ _ e=>by cases e⟩,Za⟩) R (by exact ⟨Zu (n1:=fun n=>n) R R (by intro d h; cases h; rfl) R (fun _=>[(3,.own 8 (i3 0))]) (fun _=>[(8,some (.arr (i3 0) 51 3 (out3.map YAC.row)))]) (fun D G1 hr=>⟨ZU R R,Za⟩) (fun D G1 hr=>⟨ZG R R,Za⟩) (fun _ _=>R) (fun G1 e h' n=>Zv (v:=.own 8 (i3 0)) (Zf R (.inl R)) _),
    Zu (n1:=fun n=>n) R R (by intro d h; cases h; rfl) R (fun _=>[(4,rI (x2))]) (fun _=>[]) (fun D G1 hr=>⟨ZU R R,Za⟩) (fun D G1 hr=>Za) (fun _ _=>R) (fun G1 e h' n=>Zv (v:=rI (x2)) (Zf R (.inl R)) _),
    Zu (n1:=fun n=>n) R R (by intro d h; cases h; rfl) R (fun _=>[(5,.ptr 5 (i3 1) 0 0)]) (fun _=>[(5,some (.box (i3 1) 51 (k26_ x4)))]) (fun D G1 hr=>⟨ZU R R,Za⟩) (fun D G1 hr=>⟨ZG R R,Za⟩) (fun _ _=>R) (fun G1 e h' n=>Zv (v:=.ptr 5 (i3 1) 0 0) (fB R YDT (.inl R) (fun _=>R) R) _),
    Zu (n1:=fun n=>n) R R (by intro d h; cases h; rfl) R (fun _=>[(18,.ptr 5 (i3 1) 0 0)]) (fun _=>[(5,some (.box (i3 1) 51 (k26_ x4)))]) (fun D G1 hr=>⟨ZK hr 2 R R (by kernel_rfl) R R,Za⟩) (fun D G1 hr=>⟨ZG R R,Za⟩) (fun _ _=>R) (fun G1 e h' n=>Zv (v:=rI (x4.Char)) (Zb (a:=rI (x4.Char)) R ts_3 (.inl R) R R) _),
    Zu (n1:=fun n=>n) R R (by intro d h; cases h; rfl) R (fun _=>[(5,.ptr 5 (i3 1) 0 0)]) (fun _=>[(5,some (.box (i3 1) 51 (k26_ x4)))]) (fun D G1 hr=>⟨ZU R R,Za⟩) (fun D G1 hr=>⟨ZG R R,Za⟩) (fun _ _=>R) (fun G1 e h' n=>Zv (v:=.ptr 5 (i3 1) 0 1) (fB R YCW (.inl R) (fun _=>R) R) _),
    Zu (n1:=fun n=>n) R R (by intro d h; cases h; rfl) R (fun _=>[(20,.ptr 5 (i3 1) 0 1)]) (fun _=>[(5,some (.box (i3 1) 51 (k26_ x4)))]) (fun D G1 hr=>⟨ZK hr 4 R R (by kernel_rfl) R R,Za⟩) (fun D G1 hr=>⟨ZG R R,Za⟩) (fun _ _=>R) (fun G1 e h' n=>Zv (v:=rI (x4.Ref)) (Zb (a:=rI (x4.Ref)) R ts_3 (.inl R) R R) _),
    Zu (n1:=fun n=>n) R R (by intro d h; cases h; rfl) R (fun _=>[(5,.ptr 5 (i3 1) 0 0)]) (fun _=>[(5,some (.box (i3 1) 51 (k26_ x4)))]) (fun D G1 hr=>⟨ZU R R,Za⟩) (fun D G1 hr=>⟨ZG R R,Za⟩) (fun _ _=>R) (fun G1 e h' n=>Zv (v:=.ptr 5 (i3 1) 0 2) (fB R YGN (.inl R) (fun _=>R) R) _),
    Zu (n1:=fun n=>n) R R (by intro d h; cases h; rfl) R (fun _=>[(22,.ptr 5 (i3 1) 0 2)]) (fun _=>[(5,some (.box (i3 1) 51 (k26_ x4)))]) (fun D G1 hr=>⟨ZK hr 6 R R (by kernel_rfl) R R,Za⟩) (fun D G1 hr=>⟨ZG R R,Za⟩) (fun _ _=>R) (fun G1 e h' n=>Zv (v:=qa x4.Attrs) (Zb (a:=qa x4.Attrs) R YCi (.inl R) R R) _),
    Ob.make (n1:=fun n=>n+1) R R (by intro d h; cases h; rfl) R (fun _=>[(23,qa x4.Attrs)]) (fun _=>[]) (fun D G1 hr=>⟨ZK hr 7 R R (by kernel_rfl) R R,Za⟩) (fun D G1 hr=>Za) (fun G1 e h' n=>YMR 24 (f:=YAG.row) R YDI (.inl R) (.inl ⟨(.inl R),fun _=>R⟩) el1),
    Zu (n1:=fun n=>n) R R (by intro d h; cases h; rfl) R (fun G1=>[(19,rI (x4.Char)),(21,rI (x4.Ref)),(24,.own 24 (G1 8))]) (fun G1=>[(24,some (.arr (G1 8) 58 2 (l1.map YAG.row)))]) (fun D G1 hr=>⟨ZK hr 3 R R (by kernel_rfl) R R,ZK hr 5 R R (by kernel_rfl) R R,ZK hr 8 R R (by kernel_rfl) R R,Za⟩) (fun D G1 hr=>⟨YMW hr 8 R R (by kernel_rfl) (by kernel_rfl) R,Za⟩) (fun _ _=>R) (fun G1 e h' n=>Zv (v:=.agg [rI (x4.Char),rI (x4.Ref),.own 24 (G1 8)]) (YBD R tb_51 (q:=[(0,_),(1,_),(2,_)]) (by exact ⟨R,R,R,(.inl R),R,R,R,(.inl R),R,R,R,(.inl R),Za⟩) (cs:=[rI (x4.Char),rI (x4.Ref),.own 24 (G1 8)]) (by rfl)) _),
    Za⟩) fun G1 n1=>?_
  refine ZT (s':=⟨[(3,.own 8 (i3 0)),(4,rI (x2)),(5,.ptr 5 (i3 1) 0 0),(9,qb f1),(10,rI ((f1.length:Int))),(11,rI (x2)),(12,rB ((decide (x2<(f1.length:Int))))),(13,rI (x2)),(14,.rop (YAC.row x4) 0),(15,.agg (k26_ x4)),(16,.own 8 (i3 0)),(17,rI (x2)),(18,.ptr 5 (i3 1) 0 0),(19,rI (x4.Char)),(20,.ptr 5 (i3 1) 0 1),(21,rI (x4.Ref)),(22,.ptr 5 (i3 1) 0 2),(23,qa x4.Attrs),(24,.own 24 (G1 8)),(25,.agg [rI (x4.Char),rI (x4.Ref),.own 24 (G1 8)])],[(5,some (.box (i3 1) 51 (k26_ x4))),(8,some (.arr (i3 0) 51 3 (out3.map YAC.row))),(24,some (.arr (G1 8) 58 2 (l1.map YAG.row)))],n1,29⟩) (by exact Zc ⟨jL,jL,jL,jL,jL,jL,jL,jL,jL,jL,jL,jL,jL,jL,jL,jL,jL,jL,jL,jL,Za⟩ ⟨.inl R,.inl R,.inl R,Za⟩ nL) ?_
  refine Zj h6 fun x5 ex5 h7=>(sQ R (YBT R YBN.slice iL R iL (fun _=>ex5)) ?_)
  refine ZT (by exact Weak.frz (e':=[(3,.own 8 (i3 0)),(4,rI (x2)),(5,.ptr 5 (i3 1) 0 0),(9,qb f1),(10,rI ((f1.length:Int))),(11,rI (x2)),(12,rB ((decide (x2<(f1.length:Int))))),(13,rI (x2)),(14,.rop (YAC.row x4) 0),(15,.agg (k26_ x4)),(16,.own 8 (i3 0)),(17,rI (x2)),(18,.ptr 5 (i3 1) 0 0),(19,rI (x4.Char)),(20,.ptr 5 (i3 1) 0 1),(21,rI (x4.Ref)),(22,.ptr 5 (i3 1) 0 2),(23,qa x4.Attrs),(24,qa l1),(25,.agg [rI (x4.Char),rI (x4.Ref),qa l1]),(26,.ptr 8 (i3 0) x2.toNat 0)]) (h':=[(5,some (.box (i3 1) 51 (k26_ x4))),(8,some (.arr (i3 0) 51 3 (out3.map YAC.row)))]) 24 R ⟨jL,jL,jL,jL,jL,jL,jL,jL,jL,jL,jL,jL,jL,jL,jL,jL,jL,jL,.inl (.inr (.inr ⟨R,R⟩)),.inr ⟨_,_,R,R,⟨.inl R,.inl R,.inr (.inr ⟨R,R⟩),Za⟩⟩,jL,Za⟩ ⟨R,.inl R,R,.inl R,Za⟩) ?_
  refine ZD R R (YSu (v:=(YAC.mk x4.Char x4.Ref l1)) R YMq iL R ex5 iL R R R R) (aZ (hK8 _ ?_))
  refine Zh (s':=⟨[(3,.own 8 (i3 0)),(9,qb f1),(10,rI ((f1.length:Int))),(11,rI (x2))],[(8,some (.arr (i3 0) 51 3 ((out3.set x2.toNat (YAC.mk x4.Char x4.Ref l1)).map YAC.row)))],n1,29⟩) (by exact Zc ⟨jL,jL,jL,jL,Za⟩ ⟨.inl R,Za⟩ nL) ?_
  refine aR (Zj h7 fun x6 ex6 h8=>(sQ R (ZI R iL iL (fun _=>ex6)) (sM R R ?_)))
  refine Zt ?_
  exact YEQ.mk h8 (vec [(i3 0),n1]) ((by exact Zc ⟨jL,jL,jL,jL,Za⟩ ⟨.inl R,Za⟩ nL))
 ·have h4:=Zo hc1 h3
  refine ZJ ?_
  exact wK3 _ _ ((by exact Zc ⟨jL,Za⟩ ⟨.inl R,Za⟩ nL)) (J1 _ (vec [(i3 0),(i3 1)]) (hx1 _ (Zd h4).symm))
theorem YHd {w1:YAE} {l1:List YAC} {r:YAE} {gb1000:Nat} {ga1001:Nat} {ga1002:Nat} (h:YCB w1 l1=some r):AHC Tryz.prog 152 3 [.ptr 1000 gb1000 0 0,qb l1] [(1000,some (.box gb1000 193 [.own 1001 ga1001,.own 1002 ga1002,rI (w1.cut)])),(1001,some (.arr ga1001 100 4 (w1.out.map YAB.row))),(1002,some (.arr ga1002 51 3 (w1.add.map YAC.row)))] (fun rr h'=>∃ (i:Nat→Nat),rr = .tup []∧h'=[(1000,some (.box gb1000 193 [.own 1001 (i 0),.own 1002 (i 1),rI (r.cut)])),(1001,some (.arr (i 0) 100 4 (r.out.map YAB.row))),(1002,some (.arr (i 1) 51 3 (r.add.map YAC.row)))]):=by
 unfold YCB at h
 refine AHC.mkw Tryz.func152 R R Tryz.ntmps152 (Ze R) fun n0=>?_
 refine Zj h fun r1 er1 h1=>(Zj h1 fun l2 el2 h2=>?_)
 refine AW.regionP 8 [⟨some 4,(fun _=>.ptr 1000 gb1000 0 0),none,[]⟩,⟨some 5,(fun _=>.ptr 1000 gb1000 0 0),none,[]⟩,⟨some 6,(fun _=>.ptr 1000 gb1000 0 0),none,[]⟩,⟨some 7,(fun _=>.ptr 1000 gb1000 0 1),none,[]⟩,⟨some 8,(fun _=>.own 1002 ga1002),none,[]⟩,⟨some 9,(fun _=>qb l1),none,[]⟩,⟨some 10,(fun _=>qb r1),none,[]⟩,⟨some 11,(fun G1=>.own 1002 (G1 7)),some (1002,(fun G1=>some (.arr (G1 7) 51 3 (l2.map YAC.row)))),[7]⟩] hmix (by kernel_rfl) (by exact ⟨fun _ _ h=>⟨R,fun _ _ e=>by cases e⟩,fun _ _ h=>⟨R,fun _ _ e=>by cases e⟩,fun _ _ h=>⟨R,fun _ _ e=>by cases e⟩,fun _ _ h=>⟨R,fun _ _ e=>by cases e⟩,fun _ _ h=>⟨R,fun _ _ e=>by cases e⟩,fun _ _ h=>⟨R,fun _ _ e=>by cases e⟩,fun _ _ h=>⟨R,fun _ _ e=>by cases e⟩,fun _ _ h=>⟨by simp only [h 7 R],fun _ _ e=>by cases e; simp only [h 7 R]⟩,Za⟩) R (by exact ⟨Zu (n1:=fun n=>n) R R (by intro d h; cases h; rfl) R (fun _=>[(0,.ptr 1000 gb1000 0 0)]) (fun _=>[(1000,some (.box gb1000 193 [.own 1001 ga1001,.own 1002 ga1002,rI (w1.cut)]))]) (fun D G1 hr=>⟨ZU R R,Za⟩) (fun D G1 hr=>⟨ZG R R,Za⟩) (fun _ _=>R) (fun G1 e h' n=>Zv (v:=.ptr 1000 gb1000 0 0) (Zf R (.inl R)) _),
   Zu (n1:=fun n=>n) R R (by intro d h; cases h; rfl) R (fun _=>[(0,.ptr 1000 gb1000 0 0)]) (fun _=>[(1000,some (.box gb1000 193 [.own 1001 ga1001,.own 1002 ga1002,rI (w1.cut)]))]) (fun D G1 hr=>⟨ZU R R,Za⟩) (fun D G1 hr=>⟨ZG R R,Za⟩) (fun _ _=>R) (fun G1 e h' n=>Zv (v:=.ptr 1000 gb1000 0 0) (Zf R (.inl R)) _),
   Zu (n1:=fun n=>n) R R (by intro d h; cases h; rfl) R (fun _=>[(5,.ptr 1000 gb1000 0 0)]) (fun _=>[(1000,some (.box gb1000 193 [.own 1001 ga1001,.own 1002 ga1002,rI (w1.cut)]))]) (fun D G1 hr=>⟨ZK hr 1 R R (by kernel_rfl) R R,Za⟩) (fun D G1 hr=>⟨ZG R R,Za⟩) (fun _ _=>R) (fun G1 e h' n=>Zv (v:=.ptr 1000 gb1000 0 0) (ZL (ob:=.box _ _ _) R (.inl R) (fun _=>R) R) _),
   Zu (n1:=fun n=>n) R R (by intro d h; cases h; rfl) R (fun _=>[(6,.ptr 1000 gb1000 0 0)]) (fun _=>[(1000,some (.box gb1000 193 [.own 1001 ga1001,.own 1002 ga1002,rI (w1.cut)]))]) (fun D G1 hr=>⟨ZK hr 2 R R (by kernel_rfl) R R,Za⟩) (fun D G1 hr=>⟨ZG R R,Za⟩) (fun _ _=>R) (fun G1 e h' n=>Zv (v:=.ptr 1000 gb1000 0 1) (fB R YIK (.inl R) (fun _=>R) R) _),
   Zu (n1:=fun n=>n) R R (by intro d h; cases h; rfl) R (fun _=>[(7,.ptr 1000 gb1000 0 1)]) (fun _=>[(1000,some (.box gb1000 193 [.own 1001 ga1001,.own 1002 ga1002,rI (w1.cut)]))]) (fun D G1 hr=>⟨ZK hr 3 R R (by kernel_rfl) R R,Za⟩) (fun D G1 hr=>⟨ZG R R,Za⟩) (fun _ _=>R) (fun G1 e h' n=>Zv (v:=.own 1002 ga1002) (Zb (a:=.own 1002 ga1002) R YC4 (.inl R) R R) _),
   Zu (n1:=fun n=>n) R R (by intro d h; cases h; rfl) R (fun _=>[(1,qb l1)]) (fun _=>[]) (fun D G1 hr=>⟨ZU R R,Za⟩) (fun D G1 hr=>Za) (fun _ _=>R) (fun G1 e h' n=>Zv (v:=qb l1) (Zf R (.inl R)) _),
   Zu (n1:=fun n=>n) R R (by intro d h; cases h; rfl) R (fun _=>[(9,qb l1)]) (fun _=>[]) (fun D G1 hr=>⟨ZK hr 5 R R (by kernel_rfl) R R,Za⟩) (fun D G1 hr=>Za) (fun _ _=>R) (fun G1 e h' n=>YCZ (r:=qb r1) (caps:=[]) (bs:=[qb l1]) R (.inl R) R ⟨.inl ⟨(.inl R),R⟩,Za⟩ (fun _=>YO6 (er1))),
   Ob.make (n1:=fun n=>n+1) R R (by intro d h; cases h; rfl) R (fun _=>[(8,.own 1002 ga1002),(10,qb r1)]) (fun _=>[(1002,some (.arr ga1002 51 3 (w1.add.map YAC.row)))]) (fun D G1 hr=>⟨ZK hr 4 R R (by kernel_rfl) R R,ZK hr 6 R R (by kernel_rfl) R R,Za⟩) (fun D G1 hr=>⟨YOS hr (by kernel_rfl) R,Za⟩) (fun G1 e h' n=>YEq R YBN (.inl R) R (.inl ⟨(.inl R),fun _=>R⟩) el2),
   Za⟩) fun G1 n1=>?_
 refine ZT (s':=⟨[(0,.ptr 1000 gb1000 0 0),(1,qb l1),(4,.ptr 1000 gb1000 0 0),(5,.ptr 1000 gb1000 0 0),(6,.ptr 1000 gb1000 0 0),(7,.ptr 1000 gb1000 0 1),(9,qb l1),(10,qb r1),(11,.own 1002 (G1 7))],[(1000,some (.box gb1000 193 [.own 1001 ga1001,.own 1002 ga1002,rI (w1.cut)])),(1001,some (.arr ga1001 100 4 (w1.out.map YAB.row))),(1002,some (.arr (G1 7) 51 3 (l2.map YAC.row)))],n1,14⟩) (by exact Zc ⟨jL,jL,jL,jL,jL,jL,jL,jL,jL,Za⟩ ⟨.inl R,.inl R,.inl R,Za⟩ nL) ?_
 refine sQ R (ZL (ob:=.box _ _ _) R iL fR R) (sQ R (fB R YIK iL fR R) (ZD R R (ZB (ds:=[.own 1001 ga1001,.own 1002 (G1 7),rI (w1.cut)]) R tz_36 iL R iL R R R R) ?_))
 refine Zt ?_
 exact RetW.mk (s':=⟨[],[(1000,some (.box gb1000 193 [.own 1001 ga1001,.own 1002 (G1 7),rI (w1.cut)])),(1001,some (.arr ga1001 100 4 (w1.out.map YAB.row))),(1002,some (.arr (G1 7) 51 3 (l2.map YAC.row)))],n1,14⟩) ((by exact Zc Za ⟨.inl R,.inl R,.inl R,Za⟩ nL)) (YBQ (fun (r:YAE) rr h'=>∃ (i:Nat→Nat),rr = .tup []∧h'=[(1000,some (.box gb1000 193 [.own 1001 (i 0),.own 1002 (i 1),rI (r.cut)])),(1001,some (.arr (i 0) 100 4 (r.out.map YAB.row))),(1002,some (.arr (i 1) 51 3 (r.add.map YAC.row)))]) h2 (by exact ⟨.tup [],[(1000,some (.box gb1000 193 [.own 1001 ga1001,.own 1002 (G1 7),rI (w1.cut)])),(1001,some (.arr ga1001 100 4 (w1.out.map YAB.row))),(1002,some (.arr (G1 7) 51 3 (l2.map YAC.row)))],⟨_,R,Za⟩,⟨.inr R,.inr R,.inr R,Za⟩,R,R,vec [ga1001,(G1 7)],R,R⟩))
theorem YNn {s1:YAB} {r:Int} (h:YGI s1=some r):ARO Tryz.prog 186 (k19_ s1) (rI (r)):=by
 unfold YGI at h
 refine Zw Tryz.func186 R R Tryz.ntmps186 R (Ze R) fun n0=>?_
 refine aS fun _ hK1 _=>(aR (Zg R R R (ZR (cs:=(k21_ s1)) 1 R iL R R) (sA R R (aZ (hK1 _ ?_)))))
 refine aS fun _ hK2 _=>(aS fun _ hK3 _=>(aR (sQ R (fB R YB3 iL fR R) (sQ R (Zb (a:=rI (s1.Kind)) R ts_3 iL R R) (sQ R (Zs R iL iL) (aZ (hK3 _ ?_)))))))
 refine aC R (fun hc1=>?_) (fun hc1=>?_)
 ·have h1:=Zn hc1 h
  refine aS fun _ hK4 _=>(aR (sQ R (fB R YFj iL fR R) (sQ R (Zb (a:=qb s1.Elems) R YC4 iL R R) (sQ R (ZA R YBN.slice iL) (sA R R (aZ (hK4 _ ?_)))))))
  refine Zk ?_
  exact Y1_ h1 iL (.t (.d R))
 ·have h1:=Zo hc1 h
  refine Zi (hK2 _ ?_)
  refine aS fun _ hK5 _=>(aR (sQ R (fB R YC1 iL fR R) (sQ R (Zb (a:=rI (s1.N)) R ts_3 iL R R) (sA R R (aZ (hK5 _ ?_))))))
  refine Zk ?_
  exact Y1_ h1 iL (.t (.d R))
theorem YMn {d1:List YAB} {r:Int} (h:YFb d1=some r):ARO Tryz.prog 147 [qg d1] (rI (r)):=by
 unfold YFb at h
 refine Zw Tryz.func147 R R Tryz.ntmps147 R (Ze R) fun n0=>?_
 refine aS fun _ hK1 _=>(aR (sA R R (aZ (hK1 _ ?_))))
 refine aS fun _ hK2 _=>(aR (sA R R (sA R R (aZ (hK2 _ ?_)))))
 refine aS fun K3 hK3 wK3=>(aS fun _ hK4 _=>(aR (sM R R (sQ R (ZA R YCJ.slice iL) (sM R R (aZ (hK4 _ ?_)))))))
 refine Zp ?_
 refine jc2k h fun o1 hit1 hk1 he1=>?_
 have J1 : ∀ (before4:Int) (after4:Int) (i5:Nat→Nat),o1 = .nrm (before4,after4)→K3 ⟨[(3,rI (before4)),(4,rI (after4))],[],(i5 0),78⟩:=by
  intro before4 after4 i5 e
  have h1:=hk1 _ _ e
  refine hK3 _ ?_
  refine aS fun _ hK5 _=>(aS fun _ hK6 _=>(aR (sM R R (sQ R (ZV R iL iL) (sM R R (sV R R R (Zf R iL) (sV R R R (ZV R (iR R) iL) (sQ R (ZC R iL (iR R)) (aZ (hK6 _ ?_))))))))))
  refine aC R (fun hc1=>?_) (fun hc1=>?_)
  ·have h2:=Zn hc1 h1
   refine aS fun _ hK7 _=>(aR (sA R R (aZ (hK7 _ ?_))))
   refine Zk ?_
   exact Y1_ h2 iL (.t (.d R))
  ·have h2:=Zo hc1 h1
   refine Zi (hK5 _ ?_)
   refine aS fun _ hK8 _=>(aR (sA R R (aZ (hK8 _ ?_))))
   refine Zk ?_
   exact Y1_ h2 iL (.t (.d R))
 refine AW.iter3 (fun (before2:Int) (after2:Int) (x2:Int) i3=>⟨[(0,qg d1),(3,rI (before2)),(4,rI (after2)),(9,qg d1),(10,rI ((d1.length:Int))),(11,rI (x2))],[],(i3 0),78⟩) (vec [n0]) hit1 ((by exact Zc ⟨jL,jL,jL,jL,jL,jL,Za⟩ Za nL)) ?_
 intro before2 after2 x2 i3 v1 hv1 hx1
 have h3:YBW d1 before2 after2 x2=some v1:=hv1; unfold YBW at h3
 refine aS fun _ hK9 _=>(aR (sQ R (Zx R iL iL) (aZ (hK9 _ ?_))))
 refine aS fun _ hK10 _=>?_
 refine aC R (fun hc2=>?_) (fun hc2=>?_)
 ·have h4:=Zn hc2 h3
  refine Zi (hK10 _ ?_)
  refine aS fun K11 hK11 wK11=>(Zp ?_)
  refine jc2k h4 fun p1 hp1 hk2 he2=>?_
  have J2 : ∀ (before5:Int) (after5:Int) (i6:Nat→Nat),p1 = .nrm (before5,after5)→K11 ⟨[(0,qg d1),(3,rI (before5)),(4,rI (after5)),(9,qg d1),(10,rI ((d1.length:Int))),(11,rI (x2))],[],(i6 0),78⟩:=by
   intro before5 after5 i6 e
   have h5:=hk2 _ _ e
   refine hK11 _ ?_
   refine aR (Zj h5 fun x4 ex4 h6=>(sQ R (ZI R iL iL (fun _=>ex4)) (sM R R ?_)))
   refine Zt ?_
   exact YOw.mk h6 (vec [(i6 0)]) ((by exact Zc ⟨jL,jL,jL,jL,jL,jL,Za⟩ Za nL))
  refine aS fun _ hK12 _=>(aR (sM R R (Zj hp1 fun x5 ex5 h7=>(sQ R (Zz R YCJ.slice iL iL (fun _=>R) (fun _=>ex5)) (sQ R (ZM (cs:=(k21_ x5)) R YJN iL R R) (Zg R R R (ZX (cs:=z14_) 6 R YNq R R) (sA R R (ZD R R (ZB (ds:=(k21_ x5)) R YNp iL R iL R R R R) (aZ (hK12 _ ?_))))))))))
  refine aS fun _ hK13 _=>(aS fun _ hK14 _=>(aR (sQ R (ZF R YJN iL R R) (Zj h7 fun e1 ee1 h8=>(Zg R R R (Zq (r:=rI (e1)) (caps:=[]) (bs:=(k19_ x5)) R iL R ⟨⟨_,iL,.g (cs:=[.int .i64 x5.Kind,.int .i64 x5.N,.sl (x5.Attrs.map YAG.row),.sl (x5.Elems.map YAC.row)]) R R⟩,Za⟩ (fun _=>YJI (ee1)) R) (sA R R (aZ (hK14 _ ?_))))))))
  refine aS fun _ hK15 _=>(aR (sM R R (sQ R (ZH R iL iL) (aZ (hK15 _ ?_)))))
  refine aC R (fun hc3=>?_) (fun hc3=>?_)
  ·have h9:=Zn hc3 h8
   refine aS fun _ hK16 _=>?_
   refine Zh (s':=⟨[(7,rI (e1))],[],((i3 0)+1),78⟩) (by exact Zc ⟨jL,Za⟩ Za nL) ?_
   refine aR (sM R R (sA R R (aZ (hK16 _ ?_))))
   refine Zk ?_
   exact Y1_ (he1 _ (hx1 _ (Zd (he2 _ (Zd h9).symm)).symm)) iL (.t (.d R))
  ·have h9:=Zo hc3 h8
   refine Zi (hK13 _ ?_)
   refine aS fun K17 hK17 wK17=>(aS fun _ hK18 _=>?_)
   refine Zh (s':=⟨[(0,qg d1),(3,rI (before2)),(4,rI (after2)),(5,rI (x2)),(6,.ptr 6 (i3 0) 0 0),(9,qg d1),(10,rI ((d1.length:Int))),(11,rI (x2))],[(6,some (.box (i3 0) 100 (k21_ x5)))],((i3 0)+1),78⟩) (by exact Zc ⟨jL,jL,jL,jL,jL,jL,jL,jL,Za⟩ ⟨.inl R,Za⟩ nL) ?_
   refine aR (sM R R (sQ R (ZV R iL iL) (aZ (hK18 _ ?_))))
   refine jc1k h9 fun p2 hp2 hk3 he3=>?_
   have J3 : ∀ (u2:Unit) (i7:Nat→Nat),p2 = .nrm u2→K17 ⟨[(0,qg d1),(3,rI (before2)),(4,rI (after2)),(6,.ptr 6 (i3 0) 0 0),(9,qg d1),(10,rI ((d1.length:Int))),(11,rI (x2))],[(6,some (.box (i3 0) 100 (k21_ x5)))],(i7 0),78⟩:=by
    intro u2 i7 e
    have h10:=hk3 _ e
    refine hK17 _ ?_
    refine aS fun K19 hK19 wK19=>(aS fun _ hK20 _=>(aR (sQ R (fB R YB3 iL fR R) (sQ R (Zb (a:=rI (x5.Kind)) R ts_3 iL R R) (sQ R (ZH R iL iL) (aZ (hK20 _ ?_)))))))
    refine jb1k h10 fun p3 hp3 hk4=>?_
    have J4 : ∀ (before6:Int) (i8:Nat→Nat),p3=before6→K19 ⟨[(0,qg d1),(3,rI (before6)),(4,rI (after2)),(6,.ptr 6 (i3 0) 0 0),(9,qg d1),(10,rI ((d1.length:Int))),(11,rI (x2))],[(6,some (.box (i3 0) 100 (k21_ x5)))],(i8 0),78⟩:=by
     intro before6 i8 e
     have h11:=hk4 _ e
     refine hK19 _ ?_
     refine aS fun _ hK21 _=>(aR (sQ R (fB R YB3 iL fR R) (sQ R (Zb (a:=rI (x5.Kind)) R ts_3 iL R R) (sQ R (ZH R iL iL) (aZ (hK21 _ ?_))))))
     refine aC R (fun hc4=>?_) (fun hc4=>?_)
     ·have h12:=Zn hc4 h11
      refine aR (sM R R (sQ R (ZF R YJN iL R R) (Zj h12 fun r1 er1 h13=>(Zg R R R (Zq (r:=rI (r1)) (caps:=[]) (bs:=(k19_ x5)) R iL R ⟨⟨_,iL,.g (cs:=[.int .i64 x5.Kind,.int .i64 x5.N,.sl (x5.Attrs.map YAG.row),.sl (x5.Elems.map YAC.row)]) R R⟩,Za⟩ (fun _=>YNn (er1)) R) (Zj h13 fun x6 ex6 h14=>(sQ R (ZI R iL iL (fun _=>ex6)) (sQ R (YNt R iL iL) (sA R R ?_))))))))
      refine Zt ?_
      exact wK11 _ _ ((by exact Zc ⟨jL,jL,jL,jL,jL,jL,Za⟩ Za nL)) (J2 _ _ (vec [(i8 0)]) (Zd h14).symm)
     ·have h12:=Zo hc4 h11
      refine Zi ?_
      exact wK11 _ _ ((by exact Zc ⟨jL,jL,jL,jL,jL,jL,Za⟩ Za nL)) (J2 _ _ (vec [(i8 0)]) (Zd h12).symm)
    refine aC R (fun hc5=>?_) (fun hc5=>?_)
    ·have h15:=Zn hc5 hp3
     refine aR (sM R R (sQ R (fB R YC1 iL fR R) (sQ R (Zb (a:=rI (x5.N)) R ts_3 iL R R) (Zj h15 fun x7 ex7 h16=>(sQ R (ZI R iL iL (fun _=>ex7)) (sQ R (YNt R iL iL) (sA R R ?_)))))))
     refine Zt ?_
     exact wK19 _ _ ((by exact Zc ⟨jL,jL,jL,jL,jL,jL,jL,Za⟩ ⟨.inl R,Za⟩ nL)) (J4 _ (vec [(i7 0)]) (Zd h16).symm)
    ·have h15:=Zo hc5 hp3
     refine Zi ?_
     exact wK19 _ _ ((by exact Zc ⟨jL,jL,jL,jL,jL,jL,jL,Za⟩ ⟨.inl R,Za⟩ nL)) (J4 _ (vec [(i7 0)]) (Zd h15).symm)
   refine aC R (fun hc6=>?_) (fun hc6=>?_)
   ·have h17:=Zn hc6 hp2
    refine aS fun _ hK22 _=>(aR (sM R R (sM R R (Zj h17 fun x8 ex8 h18=>(sQ R (YBf R iL iL (fun _=>ex8)) (Zj h18 fun x9 ex9 h19=>(sQ R (Zz R YCJ.slice iL iL (fun _=>R) (fun _=>ex9)) (sQ R (ZM (cs:=(k21_ x9)) R YJN iL R R) (Zg R R R (ZX (cs:=z14_) 8 R YNq R R) (ZD R R (ZB (ds:=(k21_ x9)) R YNp iL R iL R R R R) (aZ (hK22 _ ?_))))))))))))
    refine aS fun _ hK23 _=>(aR (sQ R (fB R YB3 iL fR R) (sQ R (Zb (a:=rI (x9.Kind)) R ts_3 iL R R) (sQ R (fB R YB3 iL fR R) (sQ R (Zb (a:=rI (x5.Kind)) R ts_3 iL R R) (sQ R (Zs R iL iL) (sM R R (sV R R R (fB R YB3 iL fR R) (sV R R R (Zb (a:=rI (x5.Kind)) R ts_3 (iR R) R R) (sV R R R (ZH R (iR R) iL) (sV R R R (Zf R (iR R)) ?_)))))))))))
    refine sW (.two R R R) R (fB R YDK iL fR R) ?_
    refine sW (.two R R R) R (Zb (a:=qa x9.Attrs) R YCi (iR R) R R) ?_
    refine sW (.two R R R) R (fB R YDK iL fR R) ?_
    refine sW (.two R R R) R (Zb (a:=qa x5.Attrs) R YCi (iR R) R R) ?_
    refine Zj h19 fun r2 er2 h20=>?_
    refine ZE (.two R R R) R R (Zq (r:=rB (r2)) (caps:=[]) (bs:=[qa x9.Attrs,qa x5.Attrs]) R iL R ⟨⟨_,(iR R),.d R⟩,⟨_,(iR R),.d R⟩,Za⟩ (fun hg=>YHu (gdt er2 hg)) R) ?_
    refine sV R R R (ZC R (iR R) (iR R)) (sQ R (Zr R iL (iR R)) (sM R R (sV R R R (fB R YB3 iL fR R) (sV R R R (Zb (a:=rI (x9.Kind)) R ts_3 (iR R) R R) (sV R R R (Zs R (iR R) iL) (sV R R R (Zf R (iR R)) ?_))))))
    refine sW (.two R R R) R (fB R YB3 iL fR R) ?_
    refine sW (.two R R R) R (Zb (a:=rI (x5.Kind)) R ts_3 (iR R) R R) ?_
    refine sW (.two R R R) R (Zs R (iR R) iL) ?_
    refine sV R R R (Zr R (iR R) (iR R)) (sQ R (ZC R iL (iR R)) (aZ (hK23 _ ?_)))
    refine aC R (fun hc7=>?_) (fun hc7=>?_)
    ·have h21:=Zn hc7 h20
     refine aS fun _ hK24 _=>?_
     refine Zh (s':=⟨[],[],((i3 0)+2),78⟩) (by exact Zc Za Za nL) ?_
     refine aR (sA R R (aZ (hK24 _ ?_)))
     refine Zk ?_
     exact Y1_ (he1 _ (hx1 _ (Zd (he2 _ (Zd (he3 _ (Zd h21).symm)).symm)).symm)) iL (.t (.d R))
    ·have h21:=Zo hc7 h20
     refine Zi ?_
     exact wK17 _ _ ((by exact Zc ⟨jL,jL,jL,jL,jL,jL,jL,Za⟩ ⟨.inl R,Za⟩ nL)) (J3 _ (vec [((i3 0)+2)]) (Zd h21).symm)
   ·have h17:=Zo hc6 hp2
    refine Zi ?_
    exact wK17 _ _ ((by exact Zc ⟨jL,jL,jL,jL,jL,jL,jL,Za⟩ ⟨.inl R,Za⟩ nL)) (J3 _ (vec [((i3 0)+1)]) (Zd h17).symm)
 ·have h4:=Zo hc2 h3
  refine ZJ ?_
  exact wK3 _ _ ((by exact Zc ⟨jL,jL,Za⟩ Za nL)) (J1 _ _ (vec [(i3 0)]) (hx1 _ (Zd h4).symm))
end Go.Proofs.YtdafahjmopdleaaGreatDoor.Al
