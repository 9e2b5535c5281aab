/- Walks, as printed. -/
import Derived.Test.YtdafahjmopdleaaGreatDoorPL1
import Derived.Test.YtdafahjmopdleaaGreatDoorProg
set_option maxHeartbeats 4000000
set_option maxRecDepth 20000
set_option linter.unusedVariables false
namespace Go.Proofs.YtdafahjmopdleaaGreatDoor.Al
open Go.Proofs
theorem hmix : Tryz.prog.follows .mixedOrders = true := by kernel_rfl
theorem i_100 : (Tryz.prog.info? 100).map (fun i => (i.zero, i.size, i.bytes)) = some (some (.agg #[.int .i64 0, .int .i64 0, .slice none 0 0, .slice none 0 0]), 4, 64) := by kernel_rfl
theorem YP6 : (Tryz.prog.info? 140).map (fun i => (i.zero, i.size, i.bytes)) = some (some (.agg #[.int .i64 0, .int .i64 0, .string ⟨#[]⟩, .int .i64 0, .slice none 0 0]), 5, 64) := by kernel_rfl
theorem YOh : (Tryz.prog.info? 142).map (fun i => (i.zero, i.size, i.bytes)) = some (some (.agg #[.int .i64 0, .int .i64 0]), 2, 16) := by kernel_rfl
theorem i_143 : (Tryz.prog.info? 143).map (fun i => (i.zero, i.size, i.bytes)) = some (some (.agg #[.int .i64 0, .int .i64 0, .int .i64 0, .int .i64 0, .int .i64 0, .int .i64 0, .int .i64 0, .int .i64 0]), 8, 64) := by kernel_rfl
theorem YRL : (Tryz.prog.info? 176).map (fun i => (i.zero, i.size, i.bytes)) = some (some (.agg #[.int .i64 0, .int .i64 0, .int .i64 0, .int .i64 0, .int .i64 0, .string ⟨#[]⟩, .string ⟨#[]⟩, .string ⟨#[]⟩]), 8, 88) := by kernel_rfl
theorem YRK : (Tryz.prog.info? 205).map (fun i => (i.zero, i.size, i.bytes)) = some (some (.agg #[.int .u8 0, .int .u8 0]), 2, 2) := by kernel_rfl
theorem YRJ : (Tryz.prog.info? 211).map (fun i => (i.zero, i.size, i.bytes)) = some (some (.agg #[.int .i64 0, .int .i64 0, .int .i64 0, .int .i64 0]), 4, 32) := by kernel_rfl
theorem i_22 : (Tryz.prog.info? 22).map (fun i => (i.zero, i.size, i.bytes)) = some (some (.slice none 0 0), 1, 24) := by kernel_rfl
theorem i_24 : (Tryz.prog.info? 24).map (fun i => (i.zero, i.size, i.bytes)) = some (some (.agg #[.slice none 0 0]), 1, 24) := by kernel_rfl
theorem i_3 : (Tryz.prog.info? 3).map (fun i => (i.zero, i.size, i.bytes)) = some (some (.int .i64 0), 1, 8) := by kernel_rfl
theorem i_36 : (Tryz.prog.info? 36).map (fun i => (i.zero, i.size, i.bytes)) = some (some (.slice none 0 0), 1, 24) := by kernel_rfl
theorem i_39 : (Tryz.prog.info? 39).map (fun i => (i.zero, i.size, i.bytes)) = some (some (.slice none 0 0), 1, 24) := by kernel_rfl
theorem i_40 : (Tryz.prog.info? 40).map (fun i => (i.zero, i.size, i.bytes)) = some (some (.slice none 0 0), 1, 24) := by kernel_rfl
theorem i_41 : (Tryz.prog.info? 41).map (fun i => (i.zero, i.size, i.bytes)) = some (some (.slice none 0 0), 1, 24) := by kernel_rfl
theorem i_43 : (Tryz.prog.info? 43).map (fun i => (i.zero, i.size, i.bytes)) = some (some (.agg #[.int .i64 0, .int .i64 0, .slice none 0 0, .slice none 0 0]), 4, 64) := by kernel_rfl
theorem i_44 : (Tryz.prog.info? 44).map (fun i => (i.zero, i.size, i.bytes)) = some (some (.slice none 0 0), 1, 24) := by kernel_rfl
theorem i_46 : (Tryz.prog.info? 46).map (fun i => (i.zero, i.size, i.bytes)) = some (some (.agg #[.int .i64 0, .int .i64 0, .slice none 0 0, .slice none 0 0, .int .i64 0, .int .i64 0, .slice none 0 0, .slice none 0 0, .slice none 0 0]), 9, 152) := by kernel_rfl
theorem i_5 : (Tryz.prog.info? 5).map (fun i => (i.zero, i.size, i.bytes)) = some (some (.int .u8 0), 1, 1) := by kernel_rfl
theorem i_51 : (Tryz.prog.info? 51).map (fun i => (i.zero, i.size, i.bytes)) = some (some (.agg #[.int .i64 0, .int .i64 0, .slice none 0 0]), 3, 40) := by kernel_rfl
theorem i_58 : (Tryz.prog.info? 58).map (fun i => (i.zero, i.size, i.bytes)) = some (some (.agg #[.string ⟨#[]⟩, .string ⟨#[]⟩]), 2, 32) := by kernel_rfl
theorem i_70 : (Tryz.prog.info? 70).map (fun i => (i.zero, i.size, i.bytes)) = some (some (.slice none 0 0), 1, 24) := by kernel_rfl
theorem i_72 : (Tryz.prog.info? 72).map (fun i => (i.zero, i.size, i.bytes)) = some (some (.slice none 0 0), 1, 24) := by kernel_rfl
theorem i_74 : (Tryz.prog.info? 74).map (fun i => (i.zero, i.size, i.bytes)) = some (some (.agg #[.slice none 0 0, .slice none 0 0, .slice none 0 0, .slice none 0 0, .slice none 0 0]), 5, 120) := by kernel_rfl
theorem i_76 : (Tryz.prog.info? 76).map (fun i => (i.zero, i.size, i.bytes)) = some (some (.agg #[.int .i64 0, .int .i64 0, .int .i64 0, .int .i64 0, .slice none 0 0, .slice none 0 0, .int .i64 0, .int .i64 0, .slice none 0 0, .slice none 0 0, .slice none 0 0, .slice none 0 0, .slice none 0 0, .slice none 0 0, .slice none 0 0, .slice none 0 0, .slice none 0 0, .slice none 0 0, .slice none 0 0]), 19, 360) := by kernel_rfl
theorem i_9 : (Tryz.prog.info? 9).map (fun i => (i.zero, i.size, i.bytes)) = some (some (.string ⟨#[]⟩), 1, 16) := by kernel_rfl
theorem YI2 : YBx Tryz.prog 140 (.agg #[.int .i64 0, .int .i64 0, .string ⟨#[]⟩, .int .i64 0, .slice none 0 0]) := YBx.of YP6
theorem YRs : YBx Tryz.prog 142 (.agg #[.int .i64 0, .int .i64 0]) := YBx.of YOh
theorem YRr : YBx Tryz.prog 176 (.agg #[.int .i64 0, .int .i64 0, .int .i64 0, .int .i64 0, .int .i64 0, .string ⟨#[]⟩, .string ⟨#[]⟩, .string ⟨#[]⟩]) := YBx.of YRL
theorem t0_205 : YBx Tryz.prog 205 (.agg #[.int .u8 0, .int .u8 0]) := YBx.of YRK
theorem YRq : YBx Tryz.prog 211 (.agg #[.int .i64 0, .int .i64 0, .int .i64 0, .int .i64 0]) := YBx.of YRJ
theorem YLg : YBx Tryz.prog 46 (.agg #[.int .i64 0, .int .i64 0, .slice none 0 0, .slice none 0 0, .int .i64 0, .int .i64 0, .slice none 0 0, .slice none 0 0, .slice none 0 0]) := YBx.of i_46
theorem YQm : YBx Tryz.prog 51 (.agg #[.int .i64 0, .int .i64 0, .slice none 0 0]) := YBx.of i_51
theorem t0_58 : YBx Tryz.prog 58 (.agg #[.string ⟨#[]⟩, .string ⟨#[]⟩]) := YBx.of i_58
theorem t0_72 : YBx Tryz.prog 72 (.slice none 0 0) := YBx.of i_72
theorem t0_76 : YBx Tryz.prog 76 (.agg #[.int .i64 0, .int .i64 0, .int .i64 0, .int .i64 0, .slice none 0 0, .slice none 0 0, .int .i64 0, .int .i64 0, .slice none 0 0, .slice none 0 0, .slice none 0 0, .slice none 0 0, .slice none 0 0, .slice none 0 0, .slice none 0 0, .slice none 0 0, .slice none 0 0, .slice none 0 0, .slice none 0 0]) := YBx.of i_76
theorem YES : YBs Tryz.prog 140 5 := YBs.of Tryz.underlying140 rfl YP6
theorem YLf : YBs Tryz.prog 142 2 := YBs.of Tryz.underlying142 rfl YOh
theorem YG3 : YBs Tryz.prog 176 8 := YBs.of Tryz.underlying176 rfl YRL
theorem ta_205 : YBs Tryz.prog 205 2 := YBs.of Tryz.underlying205 rfl YRK
theorem YER : YBs Tryz.prog 211 4 := YBs.of Tryz.underlying211 rfl YRJ
theorem YEv : YBs Tryz.prog 24 1 := YBs.of Tryz.underlying24 rfl i_24
theorem YOO : YBs Tryz.prog 43 4 := YBs.of Tryz.underlying43 rfl i_43
theorem YFl : YBs Tryz.prog 46 9 := YBs.of Tryz.underlying46 rfl i_46
theorem YLe : YBs Tryz.prog 51 3 := YBs.of Tryz.underlying51 rfl i_51
theorem YPH : YBs Tryz.prog 58 2 := YBs.of Tryz.underlying58 rfl i_58
theorem ta_74 : YBs Tryz.prog 74 5 := YBs.of Tryz.underlying74 rfl i_74
theorem YPG : YBs Tryz.prog 76 19 := YBs.of Tryz.underlying76 rfl i_76
theorem tab_g0 : YEt 0 = some (YCr.flatMap (rInt .u8)) := by kernel_rfl
theorem tab_g1 : YEt 1 = some (YG2.flatMap YAz.row) := by kernel_rfl
theorem YRo : YB1 Tryz.prog 140 [(0, 1), (1, 1), (2, 1), (3, 1), (4, 1)] [.int .i64 0, .int .i64 0, .string ⟨#[]⟩, .int .i64 0, .slice none 0 0] := YB1.of Tryz.underlying140 (fun w => by kernel_rfl) YP6
theorem YLd : YB1 Tryz.prog 142 [(0, 1), (1, 1)] [.int .i64 0, .int .i64 0] := YB1.of Tryz.underlying142 (fun w => by kernel_rfl) YOh
theorem tb_143 : YHT Tryz.prog 143 [(0, 2), (2, 2), (4, 2), (6, 2)] [.int .i64 0, .int .i64 0, .int .i64 0, .int .i64 0, .int .i64 0, .int .i64 0, .int .i64 0, .int .i64 0] := YHT.of (n := 4) (e := 142) Tryz.underlying143 YOh (YSh (by decide)) i_143
theorem tb_43 : YB1 Tryz.prog 43 [(0, 1), (1, 1), (2, 1), (3, 1)] [.int .i64 0, .int .i64 0, .slice none 0 0, .slice none 0 0] := YB1.of Tryz.underlying43 (fun w => by kernel_rfl) i_43
theorem YPD : YB1 Tryz.prog 46 [(0, 1), (1, 1), (2, 1), (3, 1), (4, 4), (8, 1)] [.int .i64 0, .int .i64 0, .slice none 0 0, .slice none 0 0, .int .i64 0, .int .i64 0, .slice none 0 0, .slice none 0 0, .slice none 0 0] := YB1.of Tryz.underlying46 (fun w => by kernel_rfl) i_46
theorem tb_51 : YB1 Tryz.prog 51 [(0, 1), (1, 1), (2, 1)] [.int .i64 0, .int .i64 0, .slice none 0 0] := YB1.of Tryz.underlying51 (fun w => by kernel_rfl) i_51
theorem YQl : YB1 Tryz.prog 74 [(0, 1), (1, 1), (2, 1), (3, 1), (4, 1)] [.slice none 0 0, .slice none 0 0, .slice none 0 0, .slice none 0 0, .slice none 0 0] := YB1.of Tryz.underlying74 (fun w => by kernel_rfl) i_74
theorem YMu : YB1 Tryz.prog 76 [(0, 1), (1, 1), (2, 9), (11, 1), (12, 1), (13, 5), (18, 1)] [.int .i64 0, .int .i64 0, .int .i64 0, .int .i64 0, .slice none 0 0, .slice none 0 0, .int .i64 0, .int .i64 0, .slice none 0 0, .slice none 0 0, .slice none 0 0, .slice none 0 0, .slice none 0 0, .slice none 0 0, .slice none 0 0, .slice none 0 0, .slice none 0 0, .slice none 0 0, .slice none 0 0] := YB1.of Tryz.underlying76 (fun w => by kernel_rfl) i_76
theorem te_142 : EqTy Tryz.prog 142 [some (.int .i64), some (.int .i64)] := EqTy.of Tryz.underlying142 (by kernel_rfl) (by kernel_rfl) (by exact ⟨rfl, rfl, Tryz.underlying3, rfl, rfl, Tryz.underlying3, trivial⟩)
theorem te_176 : EqTy Tryz.prog 176 [some (.int .i64), some (.int .i64), some (.int .i64), some (.int .i64), some (.int .i64), some .string, some .string, some .string] := EqTy.of Tryz.underlying176 (by kernel_rfl) (by kernel_rfl) (by exact ⟨rfl, rfl, Tryz.underlying3, rfl, rfl, Tryz.underlying3, rfl, rfl, Tryz.underlying3, rfl, rfl, Tryz.underlying3, rfl, rfl, Tryz.underlying3, rfl, rfl, Tryz.underlying9, rfl, rfl, Tryz.underlying9, rfl, rfl, Tryz.underlying9, trivial⟩)
theorem YRn : EqTy Tryz.prog 211 [some (.int .i64), some (.int .i64), some (.int .i64), some (.int .i64)] := EqTy.of Tryz.underlying211 (by kernel_rfl) (by kernel_rfl) (by exact ⟨rfl, rfl, Tryz.underlying3, rfl, rfl, Tryz.underlying3, rfl, rfl, Tryz.underlying3, rfl, rfl, Tryz.underlying3, trivial⟩)
theorem te_58 : EqTy Tryz.prog 58 [some .string, some .string] := EqTy.of Tryz.underlying58 (by kernel_rfl) (by kernel_rfl) (by exact ⟨rfl, rfl, Tryz.underlying9, rfl, rfl, Tryz.underlying9, trivial⟩)
theorem YNg : YAC Tryz.prog 100 0 0 := YAC.of Tryz.underlying100 rfl rfl i_3 (by decide)
theorem YNf : YAC Tryz.prog 100 1 1 := YAC.of Tryz.underlying100 rfl rfl i_3 (by decide)
theorem YNe : YAC Tryz.prog 100 2 2 := YAC.of Tryz.underlying100 rfl rfl i_39 (by decide)
theorem YNd : YAC Tryz.prog 100 3 3 := YAC.of Tryz.underlying100 rfl rfl i_36 (by decide)
theorem YBy : YAC Tryz.prog 140 0 0 := YAC.of Tryz.underlying140 rfl rfl i_3 (by decide)
theorem YCV : YAC Tryz.prog 140 1 1 := YAC.of Tryz.underlying140 rfl rfl i_3 (by decide)
theorem YDq : YAC Tryz.prog 140 2 2 := YAC.of Tryz.underlying140 rfl rfl i_9 (by decide)
theorem YBa : YAC Tryz.prog 140 3 3 := YAC.of Tryz.underlying140 rfl rfl i_3 (by decide)
theorem YDp : YAC Tryz.prog 140 4 4 := YAC.of Tryz.underlying140 rfl rfl i_39 (by decide)
theorem YEo : YAC Tryz.prog 142 0 0 := YAC.of Tryz.underlying142 rfl rfl i_3 (by decide)
theorem YG1 : YAC Tryz.prog 142 1 1 := YAC.of Tryz.underlying142 rfl rfl i_3 (by decide)
theorem YD8 : YAC Tryz.prog 176 0 0 := YAC.of Tryz.underlying176 rfl rfl i_3 (by decide)
theorem YFN : YAC Tryz.prog 176 1 1 := YAC.of Tryz.underlying176 rfl rfl i_3 (by decide)
theorem YDB : YAC Tryz.prog 176 2 2 := YAC.of Tryz.underlying176 rfl rfl i_3 (by decide)
theorem YKn : YAC Tryz.prog 176 3 3 := YAC.of Tryz.underlying176 rfl rfl i_3 (by decide)
theorem YG0 : YAC Tryz.prog 176 4 4 := YAC.of Tryz.underlying176 rfl rfl i_3 (by decide)
theorem YIP : YAC Tryz.prog 176 5 5 := YAC.of Tryz.underlying176 rfl rfl i_9 (by decide)
theorem YIO : YAC Tryz.prog 176 6 6 := YAC.of Tryz.underlying176 rfl rfl i_9 (by decide)
theorem YGK : YAC Tryz.prog 176 7 7 := YAC.of Tryz.underlying176 rfl rfl i_9 (by decide)
theorem YQk : YAC Tryz.prog 205 0 0 := YAC.of Tryz.underlying205 rfl rfl i_5 (by decide)
theorem YQj : YAC Tryz.prog 205 1 1 := YAC.of Tryz.underlying205 rfl rfl i_5 (by decide)
theorem YBC : YAC Tryz.prog 211 0 0 := YAC.of Tryz.underlying211 rfl rfl i_3 (by decide)
theorem YBZ : YAC Tryz.prog 211 1 1 := YAC.of Tryz.underlying211 rfl rfl i_3 (by decide)
theorem YD7 : YAC Tryz.prog 211 2 2 := YAC.of Tryz.underlying211 rfl rfl i_3 (by decide)
theorem YD6 : YAC Tryz.prog 211 3 3 := YAC.of Tryz.underlying211 rfl rfl i_3 (by decide)
theorem YBQ : YAC Tryz.prog 24 0 0 := YAC.of Tryz.underlying24 rfl rfl i_22 (by decide)
theorem YCj : YAC Tryz.prog 43 0 0 := YAC.of Tryz.underlying43 rfl rfl i_3 (by decide)
theorem YCi : YAC Tryz.prog 43 1 1 := YAC.of Tryz.underlying43 rfl rfl i_3 (by decide)
theorem YCJ : YAC Tryz.prog 43 2 2 := YAC.of Tryz.underlying43 rfl rfl i_40 (by decide)
theorem YDA : YAC Tryz.prog 43 3 3 := YAC.of Tryz.underlying43 rfl rfl i_41 (by decide)
theorem YBn : YAC Tryz.prog 46 0 0 := YAC.of Tryz.underlying46 rfl rfl i_3 (by decide)
theorem YA0 : YAC Tryz.prog 46 1 1 := YAC.of Tryz.underlying46 rfl rfl i_3 (by decide)
theorem YKm : YAC Tryz.prog 46 2 2 := YAC.of Tryz.underlying46 rfl rfl i_39 (by decide)
theorem YEu : YAC Tryz.prog 46 3 3 := YAC.of Tryz.underlying46 rfl rfl i_36 (by decide)
theorem YBL : YAC Tryz.prog 46 4 4 := YAC.of Tryz.underlying46 rfl rfl i_43 (by decide)
theorem YFu : YAC Tryz.prog 46 5 8 := YAC.of Tryz.underlying46 rfl rfl i_44 (by decide)
theorem YEQ : YAC Tryz.prog 51 0 0 := YAC.of Tryz.underlying51 rfl rfl i_3 (by decide)
theorem YCI : YAC Tryz.prog 51 1 1 := YAC.of Tryz.underlying51 rfl rfl i_3 (by decide)
theorem YKl : YAC Tryz.prog 51 2 2 := YAC.of Tryz.underlying51 rfl rfl i_39 (by decide)
theorem YHX : YAC Tryz.prog 58 0 0 := YAC.of Tryz.underlying58 rfl rfl i_9 (by decide)
theorem YKk : YAC Tryz.prog 58 1 1 := YAC.of Tryz.underlying58 rfl rfl i_9 (by decide)
theorem YMt : YAC Tryz.prog 74 0 0 := YAC.of Tryz.underlying74 rfl rfl i_72 (by decide)
theorem YMs : YAC Tryz.prog 74 1 1 := YAC.of Tryz.underlying74 rfl rfl i_72 (by decide)
theorem YPA : YAC Tryz.prog 74 2 2 := YAC.of Tryz.underlying74 rfl rfl i_40 (by decide)
theorem YO9 : YAC Tryz.prog 74 3 3 := YAC.of Tryz.underlying74 rfl rfl i_41 (by decide)
theorem YO8 : YAC Tryz.prog 74 4 4 := YAC.of Tryz.underlying74 rfl rfl i_41 (by decide)
theorem YO7 : YAC Tryz.prog 76 0 0 := YAC.of Tryz.underlying76 rfl rfl i_3 (by decide)
theorem YO6 : YAC Tryz.prog 76 1 1 := YAC.of Tryz.underlying76 rfl rfl i_3 (by decide)
theorem YO5 : YAC Tryz.prog 76 2 2 := YAC.of Tryz.underlying76 rfl rfl i_46 (by decide)
theorem YO4 : YAC Tryz.prog 76 3 11 := YAC.of Tryz.underlying76 rfl rfl i_39 (by decide)
theorem YO3 : YAC Tryz.prog 76 4 12 := YAC.of Tryz.underlying76 rfl rfl i_70 (by decide)
theorem YKj : YAC Tryz.prog 76 5 13 := YAC.of Tryz.underlying76 rfl rfl i_74 (by decide)
theorem YO2 : YAC Tryz.prog 76 6 18 := YAC.of Tryz.underlying76 rfl rfl i_44 (by decide)
theorem YDc : YBK Tryz.prog 22 46 9 152 := YBK.of Tryz.underlying22 i_46 rfl rfl (by decide)
theorem YGj : YBK Tryz.prog 30 76 19 360 := YBK.of Tryz.underlying30 i_76 rfl rfl (by decide)
theorem YDf : YBK Tryz.prog 36 51 3 40 := YBK.of Tryz.underlying36 i_51 rfl rfl (by decide)
theorem YEP : YBK Tryz.prog 39 58 2 32 := YBK.of Tryz.underlying39 i_58 rfl rfl (by decide)
theorem YB2 : YBK Tryz.prog 40 140 5 64 := YBK.of Tryz.underlying40 YP6 rfl rfl (by decide)
theorem YEO : YBK Tryz.prog 41 211 4 32 := YBK.of Tryz.underlying41 YRJ rfl rfl (by decide)
theorem YGi : YBK Tryz.prog 44 176 8 88 := YBK.of Tryz.underlying44 YRL rfl rfl (by decide)
theorem YDr : YBK Tryz.prog 63 3 1 8 := YBK.of Tryz.underlying63 i_3 rfl rfl (by decide)
theorem YI1 : YBK Tryz.prog 70 100 4 64 := YBK.of Tryz.underlying70 i_100 rfl rfl (by decide)
theorem YHW : YBK Tryz.prog 72 142 2 16 := YBK.of Tryz.underlying72 YOh rfl rfl (by decide)
theorem tq_143 : YMe Tryz.prog 143 4 142 2 := YMe.of Tryz.underlying143 YLf
theorem YEN : YBJ Tryz.prog 22 := YBJ.of Tryz.underlying22 rfl i_22
theorem ts_3 : YBJ Tryz.prog 3 := YBJ.of Tryz.underlying3 rfl i_3
theorem YID : YBJ Tryz.prog 36 := YBJ.of Tryz.underlying36 rfl i_36
theorem YEm : YBJ Tryz.prog 39 := YBJ.of Tryz.underlying39 rfl i_39
theorem YE1 : YBJ Tryz.prog 40 := YBJ.of Tryz.underlying40 rfl i_40
theorem YFk : YBJ Tryz.prog 41 := YBJ.of Tryz.underlying41 rfl i_41
theorem YJs : YBJ Tryz.prog 44 := YBJ.of Tryz.underlying44 rfl i_44
theorem ts_5 : YBJ Tryz.prog 5 := YBJ.of Tryz.underlying5 rfl i_5
theorem ts_70 : YBJ Tryz.prog 70 := YBJ.of Tryz.underlying70 rfl i_70
theorem YMq : YBJ Tryz.prog 72 := YBJ.of Tryz.underlying72 rfl i_72
theorem ts_9 : YBJ Tryz.prog 9 := YBJ.of Tryz.underlying9 rfl i_9
theorem tt_203 : YS7 Tryz.prog 203 256 5 1 := ⟨Tryz.underlying203, YDD i_5⟩
theorem tt_206 : YS7 Tryz.prog 206 16 205 2 := ⟨Tryz.underlying206, YDD YRK⟩
theorem YI0 : ∃ i, Tryz.prog.info? 140 = some i ∧ i.size = 5 := YDD YP6
theorem YRm : ∃ i, Tryz.prog.info? 142 = some i ∧ i.size = 2 := YDD YOh
theorem YRl : ∃ i, Tryz.prog.info? 176 = some i ∧ i.size = 8 := YDD YRL
theorem tz_205 : ∃ i, Tryz.prog.info? 205 = some i ∧ i.size = 2 := YDD YRK
theorem YRk : ∃ i, Tryz.prog.info? 211 = some i ∧ i.size = 4 := YDD YRJ
theorem YIz : ∃ i, Tryz.prog.info? 46 = some i ∧ i.size = 9 := YDD i_46
theorem YQi : ∃ i, Tryz.prog.info? 51 = some i ∧ i.size = 3 := YDD i_51
theorem tz_58 : ∃ i, Tryz.prog.info? 58 = some i ∧ i.size = 2 := YDD i_58
theorem YSH : ∃ i, Tryz.prog.info? 72 = some i ∧ i.size = 1 := YDD i_72
theorem tz_76 : ∃ i, Tryz.prog.info? 76 = some i ∧ i.size = 19 := YDD i_76
@[reducible] def qa (l : List YAT) : AV := .r (.sl (l.map YAT.row))
@[reducible] def qb (l : List YAQ) : AV := .r (.sl (l.map YAQ.row))
@[reducible] def qc (l : List YAL) : AV := .r (.sl (l.map YAL.row))
@[reducible] def qd (l : List YAI) : AV := .r (.sl (l.map YAI.row))
@[reducible] def qe (l : List YAN) : AV := .r (.sl (l.map YAN.row))
@[reducible] def qf (l : List YAJ) : AV := .r (.sl (l.map YAJ.row))
@[reducible] def qg (l : List YAB) : AV := .r (.sl (l.map YAB.row))
@[reducible] def qh (l : List GOp) : AV := .r (.sl (l.map GOp.row))
@[reducible] def qi (l : List YEn) : AV := .r (.sl (l.map YEn.row))
set_option linter.defProp false
@[reducible] def z1_ : List AV := [rI (0), rI (0), rI (0), rI (0), .cst (.slice none 0 0), .cst (.slice none 0 0), rI (0), rI (0), .cst (.slice none 0 0), .cst (.slice none 0 0), .cst (.slice none 0 0), .cst (.slice none 0 0), .cst (.slice none 0 0), .cst (.slice none 0 0), .cst (.slice none 0 0), .cst (.slice none 0 0), .cst (.slice none 0 0), .cst (.slice none 0 0), .cst (.slice none 0 0)]
@[reducible] def k2_ (x : GOp) : List AV := [rI (x.Kind), rI (x.Node), rI (x.New.ID), rI (x.New.Kind), qa x.New.Attrs, qe x.New.Flow, rI (x.New.Grid.Rows), rI (x.New.Grid.Cols), qc x.New.Grid.Cells, qb x.New.Grid.Merges, qd x.New.Draw, qa x.Attrs, qi x.Steps, qg x.Grid.Rows, qg x.Grid.Cols, qc x.Grid.Cells, qb x.Grid.Split, qb x.Grid.Merge, qd x.Draw]
@[reducible] def z3_ : List AV := [rI (0), rI (0), .cst (.slice none 0 0), .cst (.slice none 0 0), rI (0), rI (0), .cst (.slice none 0 0), .cst (.slice none 0 0), .cst (.slice none 0 0)]
@[reducible] def k4_ (x : YAJ) : List AV := [.agg [rI (x.ID), rI (x.Kind), qa x.Attrs, qe x.Flow, rI (x.Grid.Rows), rI (x.Grid.Cols), qc x.Grid.Cells, qb x.Grid.Merges, qd x.Draw]]
@[reducible] def k5_ (x : YAI) : List AV := [.agg [rI (x.Clock), rI (x.Site), rI (x.Kind), rI (x.Item), rI (x.Parent), .r (.str x.Place), .r (.str x.Name), .r (.str x.Value)]]
@[reducible] def k6_ (x : YAJ) : List AV := [rI (x.ID), rI (x.Kind), qa x.Attrs, qe x.Flow, rI (x.Grid.Rows), rI (x.Grid.Cols), qc x.Grid.Cells, qb x.Grid.Merges, qd x.Draw]
@[reducible] def k7_ (x : YAI) : List AV := [rI (x.Clock), rI (x.Site), rI (x.Kind), rI (x.Item), rI (x.Parent), .r (.str x.Place), .r (.str x.Name), .r (.str x.Value)]
@[reducible] def k8_ (x : YAL) : List AV := [.agg [rI (x.Row), rI (x.Col), .r (.str x.Text), rI (x.Ref), qa x.Attrs]]
@[reducible] def k9_ (x : YAL) : List AV := [rI (x.Row), rI (x.Col), .r (.str x.Text), rI (x.Ref), qa x.Attrs]
@[reducible] def z10_ : List AV := [rI (0), rI (0), .cst (.slice none 0 0), .cst (.slice none 0 0)]
@[reducible] def z11_ : List AV := [rI (0), rI (0), .r (.str []), rI (0), .cst (.slice none 0 0)]
@[reducible] def k12_ (x : YAv) : List AV := [.agg [rI (x.Rows), rI (x.Cols), qc x.Cells, qb x.Merges]]
@[reducible] def k13_ (x : YAh) : List AV := [qg x.Rows, qg x.Cols, qc x.Cells, qb x.Split, qb x.Merge]
@[reducible] def k14_ (x : YAv) : List AV := [rI (x.Rows), rI (x.Cols), qc x.Cells, qb x.Merges]
@[reducible] def k15_ (x : YAQ) : List AV := [rI (x.Row), rI (x.Col), rI (x.H), rI (x.W)]
@[reducible] def k16_ (x : YAN) : List AV := [.agg [rI (x.Char), rI (x.Ref), qa x.Attrs]]
@[reducible] def z17_ : List AV := [rI (10), rI (0), .cst (.slice none 0 0)]
@[reducible] def z18_ : List AV := [rI (0), rI (0), .cst (.slice none 0 0)]
@[reducible] def k19_ (x : YAT) : List AV := [.r (.str x.Name), .r (.str x.Value)]
@[reducible] def k20_ (x : YAN) : List AV := [rI (x.Char), rI (x.Ref), qa x.Attrs]
@[reducible] def Y1_ {T r : Int} {x : Exit} {s : St} {x0 : ResultVar} := @YOY Int Tryz.prog T r x s x0 fun r => rI r
@[reducible] def Y2_ {T r : Bool} {x : Exit} {s : St} {x0 : ResultVar} := @YOY Bool Tryz.prog T r x s x0 fun r => rB r
@[reducible] def Za := @trivial
@[reducible] def Zb := @YNJ
@[reducible] def Zc := @Weak.cv
@[reducible] def Zd := @Option.some.inj
@[reducible] def Ze := @YMx
@[reducible] def Zf := @Nat.le_of_ble_eq_true
@[reducible] def Zg := @AQ.stepW
@[reducible] def Zh := @AOps.step
@[reducible] def Zi := @AW.weak
@[reducible] def Zj := @AW.ret
@[reducible] def Zk := @AW.skip
@[reducible] def Zl := @ob1k
@[reducible] def Zm := @AQ.step
@[reducible] def Zn := @ite_t
@[reducible] def Zo := @ite_f
@[reducible] def Zp := @AW.block
@[reducible] def Zq := @YLq
@[reducible] def Zr := @YMz
@[reducible] def Zs := @YRz
@[reducible] def Zt := @AOps.nil
@[reducible] def Zu := @ARO.mkF
@[reducible] def Zv := @YRx
@[reducible] def Zw := @YFx
@[reducible] def Zx := @ms_idx
@[reducible] def Zy := @YPM
@[reducible] def Zz := @ms_len
@[reducible] def ZA := @AOps.stepW
@[reducible] def ZB := @OpQ.spec
@[reducible] def ZC := @YL8
@[reducible] def ZD := @YRv
@[reducible] def ZE := @inE_op
@[reducible] def ZF := @YL7
@[reducible] def ZG := @YRE
@[reducible] def ZH := @Ob.quiet
@[reducible] def ZI := @ms_add
@[reducible] def ZJ := @YOH.mk
@[reducible] def ZK := @YRu
@[reducible] def ZL := @AW.exit
@[reducible] def ZM := @ms_box
@[reducible] def ZN := @AOps.step0
@[reducible] def ZO := @YSj
@[reducible] def ZP := @AW.iter1
@[reducible] def ZQ := @YKD
@[reducible] def ZR := @YRy
@[reducible] def ZS := @AW.regionQ
@[reducible] def ZT := @YOd
@[reducible] def ZU := @YGa
@[reducible] def R := @rfl
set_option maxHeartbeats 4000000 in
set_option maxRecDepth 100000 in
theorem YGY {r:Bool} (h:YHr=some r):ARO Tryz.prog 94 [] (rB (r)):=by
 unfold YHr at h
 cases h
 exact ARO.runX [] (fun p hp=>by cases hp) [] [] 40 1000000 hmix Tryz.func94 R R R (by kernel_rfl)
set_option maxHeartbeats 4000000 in
set_option maxRecDepth 100000 in
theorem YIa {r:Bool} (h:YG5=some r):ARO Tryz.prog 46 [] (rB (r)):=by
 unfold YG5 at h
 cases h
 exact ARO.runX [(94,true)] (fun p hp=>by simp only [List.mem_cons,List.not_mem_nil,or_false] at hp; subst hp; exact YGY rfl) [] [139,49] 40 1000000 hmix Tryz.func46 rfl rfl rfl (by kernel_rfl)
set_option maxHeartbeats 4000000 in
set_option maxRecDepth 100000 in
theorem YIZ {r:Bool} (h:YD9=some r):ARO Tryz.prog 8 [] (rB (r)):=by
 unfold YD9 at h
 cases h
 exact ARO.runX [(94,true),(46,true)] (fun p hp=>by simp only [List.mem_cons,List.not_mem_nil,or_false] at hp; rcases hp with rfl | rfl <;> first | exact YGY rfl | exact YIa rfl) [44,11,106,120,107,108,102,47,52] [139,49,66] 40 1000000 hmix Tryz.func8 rfl rfl rfl (by kernel_rfl)
theorem YIx {s1:List UInt8} {r:Bool} (h:YFH s1=some r):ARO Tryz.prog 164 [.r (.str s1)] (rB (r)):=by
 unfold YFH at h
 refine Zu Tryz.func164 R R Tryz.ntmps164 R (Zf R) fun n0=>?_
 refine aS fun _ hK1 _=>(aR (sA R R (aZ (hK1 _ ?_))))
 refine aS fun _ hK2 _=>(aS fun _ hK3 _=>(aR (sM R R (sQ R (YFP R iL iL) (sM R R (sV R R R (Ze R iL) (sV R R R (YAm R Tryz.underlying9 (iR R)) (sV R R R (ZR R (iR R) iL) (sQ R (Zy R iL (iR R)) (sM R R (sV R R R (Ze R iL) (Zl h fun ch1 ech1 h1=>(sV R R R (ZT R Tryz.underlying9 (iR R) iL (gdt ech1)) (sV R R R (Zv R (iR R) iL) (sQ R (Zy R iL (iR R)) (sM R R (sV R R R (Ze R iL) (Zl h1 fun ch2 ech2 h2=>(sV R R R (ZT R Tryz.underlying9 (iR R) iL (gdt ech2)) (sV R R R (ZR R (iR R) iL) (sQ R (Zy R iL (iR R)) (aZ (hK3 _ ?_)))))))))))))))))))))))
 refine aC R (fun hc1=>?_) (fun hc1=>?_)
 ·have h3:=Zn hc1 h2
  refine aS fun _ hK4 _=>?_
  refine Zi (s':=⟨[],[],n0,53⟩) (by exact Zc Za Za nL) ?_
  refine aR (sA R R (aZ (hK4 _ ?_)))
  refine Zj ?_
  exact Y2_ h3 iL (.t (.d R))
 ·have h3:=Zo hc1 h2
  refine Zk (hK2 _ ?_)
  refine aS fun K5 hK5 wK5=>(aS fun _ hK6 _=>?_)
  refine Zi (s':=⟨[(0,.r (.str s1))],[],n0,53⟩) (by exact Zc ⟨jL,Za⟩ Za nL) ?_
  refine aR (sM R R (sQ R (YAm R Tryz.underlying9 iL) (sM R R (aZ (hK6 _ ?_)))))
  refine Zp ?_
  refine jc1k h3 fun o1 hit1 hk1 he1=>?_
  have J1 : ∀ (u2:Unit) (i5:Nat→Nat),o1 = .nrm u2→K5 ⟨[],[],(i5 0),53⟩:=by
   intro u2 i5 e
   have h4:=hk1 _ e
   refine hK5 _ ?_
   refine aS fun _ hK7 _=>(aR (sA R R (aZ (hK7 _ ?_))))
   refine Zj ?_
   exact Y2_ h4 iL (.t (.d R))
  refine ZP (fun (x2:Int) i3=>⟨[(0,.r (.str s1)),(23,rI ((s1.length:Int))),(24,rI (x2))],[],(i3 0),53⟩) (vec [n0]) hit1 ((by exact Zc ⟨jL,jL,jL,Za⟩ Za nL)) ?_
  intro x2 i3 v1 hv1 hx1
  have h5:YC6 s1 x2=some v1:=hv1; unfold YC6 at h5
  refine aS fun _ hK8 _=>(aR (sQ R (Zv R iL iL) (aZ (hK8 _ ?_))))
  refine aS fun _ hK9 _=>?_
  refine aC R (fun hc2=>?_) (fun hc2=>?_)
  ·have h6:=Zn hc2 h5
   refine Zk (hK9 _ ?_)
   refine aS fun _ hK10 _=>(Zp (aS fun _ hK11 _=>(aR (sM R R (sA R R (aZ (hK11 _ ?_)))))))
   refine aS fun _ hK12 _=>(aR (sM R R (sM R R (Zl h6 fun c1 ec1 h7=>(sQ R (ZT R Tryz.underlying9 iL iL (fun _=>ec1)) (sA R R (aZ (hK12 _ ?_))))))))
   refine aS fun _ hK13 _=>(aR (sM R R (sQ R (Zv R iL iL) (sM R R (sV R R R (Ze R iL) (sV R R R (ZR R (iR R) iL) (sQ R (Zy R iL (iR R)) (sM R R (sV R R R (Ze R iL) (sV R R R (Zv R (iR R) iL) (sV R R R (Ze R (iR R)) ?_)))))))))))
   refine sW (.two R R R) R (Ze R iL) ?_
   refine sW (.two R R R) R (ZR R (iR R) iL) ?_
   refine sV R R R (Zy R (iR R) (iR R)) (sQ R (Zq R iL (iR R)) (sM R R (sV R R R (Ze R iL) (sV R R R (ZD R (iR R) iL) (sQ R (Zq R iL (iR R)) (sM R R (sV R R R (Ze R iL) (sV R R R (ZD R (iR R) iL) (sQ R (Zq R iL (iR R)) (aZ (hK13 _ ?_)))))))))))
   refine aC R (fun hc3=>?_) (fun hc3=>?_)
   ·have h8:=Zn hc3 h7
    refine aS fun _ hK14 _=>?_
    refine Zi (s':=⟨[],[],(i3 0),53⟩) (by exact Zc Za Za nL) ?_
    refine aR (sA R R (aZ (hK14 _ ?_)))
    refine Zj ?_
    exact Y2_ (he1 _ (hx1 _ (Zd h8).symm)) iL (.t (.d R))
   ·have h8:=Zo hc3 h7
    refine Zk (hK10 _ ?_)
    refine Zi (s':=⟨[(0,.r (.str s1)),(23,rI ((s1.length:Int))),(24,rI (x2))],[],(i3 0),53⟩) (by exact Zc ⟨jL,jL,jL,Za⟩ Za nL) ?_
    refine aR (Zl h8 fun x4 ex4 h9=>(sQ R (ZI R iL iL (fun _=>ex4)) (sM R R ?_)))
    refine Zt ?_
    exact ZJ h9 (vec [(i3 0)]) ((by exact Zc ⟨jL,jL,jL,Za⟩ Za nL))
  ·have h6:=Zo hc2 h5
   refine ZL ?_
   exact wK5 _ _ ((by exact Zc Za Za nL)) (J1 _ (vec [(i3 0)]) (hx1 _ (Zd h6).symm))
theorem YHm {s1:List UInt8} {r:Bool} (h:YEK s1=some r):ARO Tryz.prog 98 [.r (.str s1)] (rB (r)):=by
 unfold YEK at h
 refine Zu Tryz.func98 R R Tryz.ntmps98 R (Zf R) fun n0=>?_
 refine aS fun _ hK1 _=>(aR (sA R R (aZ (hK1 _ ?_))))
 refine aS fun _ hK2 _=>(aS fun _ hK3 _=>(aR (sM R R (sQ R (YFP R iL iL) (sM R R (sV R R R (Ze R iL) (sV R R R (YAm R Tryz.underlying9 (iR R)) (sV R R R (ZR R (iR R) iL) (sQ R (Zy R iL (iR R)) (aZ (hK3 _ ?_)))))))))))
 refine aC R (fun hc1=>?_) (fun hc1=>?_)
 ·have h1:=Zn hc1 h
  refine aS fun _ hK4 _=>?_
  refine Zi (s':=⟨[],[],n0,27⟩) (by exact Zc Za Za nL) ?_
  refine aR (sA R R (aZ (hK4 _ ?_)))
  refine Zj ?_
  exact Y2_ h1 iL (.t (.d R))
 ·have h1:=Zo hc1 h
  refine Zk (hK2 _ ?_)
  refine aS fun K5 hK5 wK5=>(aS fun _ hK6 _=>(aR (sM R R (sQ R (YAm R Tryz.underlying9 iL) (sM R R (aZ (hK6 _ ?_)))))))
  refine Zp ?_
  refine jc1k h1 fun o1 hit1 hk1 he1=>?_
  have J1 : ∀ (u2:Unit) (i5:Nat→Nat),o1 = .nrm u2→K5 ⟨[],[],(i5 0),27⟩:=by
   intro u2 i5 e
   have h2:=hk1 _ e
   refine hK5 _ ?_
   refine aS fun _ hK7 _=>(aR (sA R R (aZ (hK7 _ ?_))))
   refine Zj ?_
   exact Y2_ h2 iL (.t (.d R))
  refine ZP (fun (x2:Int) i3=>⟨[(0,.r (.str s1)),(12,rI ((s1.length:Int))),(13,rI (x2))],[],(i3 0),27⟩) (vec [n0]) hit1 ((by exact Zc ⟨jL,jL,jL,Za⟩ Za nL)) ?_
  intro x2 i3 v1 hv1 hx1
  have h3:YDZ s1 x2=some v1:=hv1; unfold YDZ at h3
  refine aS fun _ hK8 _=>(aR (sQ R (Zv R iL iL) (aZ (hK8 _ ?_))))
  refine aS fun _ hK9 _=>?_
  refine aC R (fun hc2=>?_) (fun hc2=>?_)
  ·have h4:=Zn hc2 h3
   refine Zk (hK9 _ ?_)
   refine aS fun _ hK10 _=>(Zp (aS fun _ hK11 _=>(aR (sM R R (sA R R (aZ (hK11 _ ?_)))))))
   refine aS fun _ hK12 _=>(aR (sM R R (sM R R (Zl h4 fun ch1 ech1 h5=>(sQ R (ZT R Tryz.underlying9 iL iL (fun _=>ech1)) (sQ R (Zv R iL iL) (sM R R (sV R R R (Ze R iL) (sV R R R (Ze R iL) (sV R R R (ZT R Tryz.underlying9 (iR R) (iR R) (fun _=>ech1)) (sV R R R (ZR R (iR R) iL) (sQ R (Zy R iL (iR R)) (aZ (hK12 _ ?_))))))))))))))
   refine aC R (fun hc3=>?_) (fun hc3=>?_)
   ·have h6:=Zn hc3 h5
    refine aS fun _ hK13 _=>?_
    refine Zi (s':=⟨[],[],(i3 0),27⟩) (by exact Zc Za Za nL) ?_
    refine aR (sA R R (aZ (hK13 _ ?_)))
    refine Zj ?_
    exact Y2_ (he1 _ (hx1 _ (Zd h6).symm)) iL (.t (.d R))
   ·have h6:=Zo hc3 h5
    refine Zk (hK10 _ ?_)
    refine Zi (s':=⟨[(0,.r (.str s1)),(12,rI ((s1.length:Int))),(13,rI (x2))],[],(i3 0),27⟩) (by exact Zc ⟨jL,jL,jL,Za⟩ Za nL) ?_
    refine aR (Zl h6 fun x4 ex4 h7=>(sQ R (ZI R iL iL (fun _=>ex4)) (sM R R ?_)))
    refine Zt ?_
    exact ZJ h7 (vec [(i3 0)]) ((by exact Zc ⟨jL,jL,jL,Za⟩ Za nL))
  ·have h4:=Zo hc2 h3
   refine ZL ?_
   exact wK5 _ _ ((by exact Zc Za Za nL)) (J1 _ (vec [(i3 0)]) (hx1 _ (Zd h4).symm))
theorem YLb {l1:List YAT} {empty1:Bool} {r:Int} (h:YFG l1 empty1=some r):ARO Tryz.prog 119 [qa l1,rB (empty1)] (rI (r)):=by
 unfold YFG at h
 refine Zu Tryz.func119 R R Tryz.ntmps119 R (Zf R) fun n0=>?_
 refine aS fun _ hK1 _=>(aR (sA R R (aZ (hK1 _ ?_))))
 refine aS fun K2 hK2 wK2=>(aS fun _ hK3 _=>(aR (sM R R (sQ R (Zz R YEP.slice iL) (sM R R (aZ (hK3 _ ?_)))))))
 refine Zp ?_
 refine jc1k h fun o1 hit1 hk1 he1=>?_
 have J1 : ∀ (u2:Unit) (i5:Nat→Nat),o1 = .nrm u2→K2 ⟨[],[],(i5 0),48⟩:=by
  intro u2 i5 e
  have h1:=hk1 _ e
  refine hK2 _ ?_
  refine aS fun _ hK4 _=>(aR (sA R R (aZ (hK4 _ ?_))))
  refine Zj ?_
  exact Y1_ h1 iL (.t (.d R))
 refine ZP (fun (x2:Int) i3=>⟨[(0,qa l1),(1,rB (empty1)),(7,qa l1),(8,rI ((l1.length:Int))),(9,rI (x2))],[],(i3 0),48⟩) (vec [n0]) hit1 ((by exact Zc ⟨jL,jL,jL,jL,jL,Za⟩ Za nL)) ?_
 intro x2 i3 v1 hv1 hx1
 have h2:YCf l1 empty1 x2=some v1:=hv1; unfold YCf at h2
 refine aS fun _ hK5 _=>(aR (sQ R (Zv R iL iL) (aZ (hK5 _ ?_))))
 refine aS fun _ hK6 _=>?_
 refine aC R (fun hc1=>?_) (fun hc1=>?_)
 ·have h3:=Zn hc1 h2
  refine Zk (hK6 _ ?_)
  refine aS fun _ hK7 _=>(Zp (aS fun _ hK8 _=>(aR (sM R R (Zl h3 fun x4 ex4 h4=>(sQ R (Zx R YEP.slice iL iL (fun _=>R) (fun _=>ex4)) (sQ R (ZG (cs:=(k19_ x4)) R YPH iL R R) (Zh R R R (YAi (cs:=[.r (.str []),.r (.str [])]) 6 R t0_58 R R) (sA R R (ZN R R (ZF (ds:=(k19_ x4)) R tz_58 iL R iL R R R R) (aZ (hK8 _ ?_))))))))))))
  refine Zp (aS fun _ hK9 _=>(aR (sQ R (fB R YHX iL fR R) (sQ R (Zb (a:=.r (.str x4.Name)) R ts_9 iL R R) (Zl h4 fun r1 er1 h5=>(Zh R R R (Zr (r:=rB (r1)) (caps:=[]) (bs:=[.r (.str x4.Name)]) R iL R ⟨⟨_,iL,.d R⟩,Za⟩ (fun _=>YIx (er1)) R) (sQ R (ZK R iL) (sA R R (aZ (hK9 _ ?_))))))))))
  refine aC R (fun hc2=>?_) (fun hc2=>?_)
  ·have h6:=Zn hc2 h5
   refine aS fun _ hK10 _=>?_
   refine Zi (s':=⟨[],[],((i3 0)+1),48⟩) (by exact Zc Za Za nL) ?_
   refine aR (sA R R (aZ (hK10 _ ?_)))
   refine Zj ?_
   exact Y1_ (he1 _ (hx1 _ (Zd h6).symm)) iL (.t (.d R))
  ·have h6:=Zo hc2 h5
   refine aS fun _ hK11 _=>?_
   refine Zi (s':=⟨[(0,qa l1),(1,rB (empty1)),(5,rI (x2)),(6,.ptr 6 (i3 0) 0 0),(7,qa l1),(8,rI ((l1.length:Int))),(9,rI (x2))],[(6,some (.box (i3 0) 58 (k19_ x4)))],((i3 0)+1),48⟩) (by exact Zc ⟨jL,jL,jL,jL,jL,jL,jL,Za⟩ ⟨.inl R,Za⟩ nL) ?_
   refine aR (sQ R (fB R YKk iL fR R) (sQ R (Zb (a:=.r (.str x4.Value)) R ts_9 iL R R) (Zl h6 fun r2 er2 h7=>(Zh R R R (Zr (r:=rB (r2)) (caps:=[]) (bs:=[.r (.str x4.Value)]) R iL R ⟨⟨_,iL,.d R⟩,Za⟩ (fun _=>YHm (er2)) R) (sQ R (ZK R iL) (sM R R (sV R R R (Ze R iL) (sV R R R (Ze R (iR R)) ?_))))))))
   refine sW (.two R R R) R (fB R YKk iL fR R) ?_
   refine sW (.two R R R) R (Zb (a:=.r (.str x4.Value)) R ts_9 (iR R) R R) ?_
   refine sW (.two R R R) R (YFP R (iR R) iL) ?_
   refine sV R R R (Zq R (iR R) (iR R)) (sV R R R (ZK R (iR R)) (sQ R (Zq R iL (iR R)) (sA R R (aZ (hK11 _ ?_)))))
   refine aC R (fun hc3=>?_) (fun hc3=>?_)
   ·have h8:=Zn hc3 h7
    refine aS fun _ hK12 _=>?_
    refine Zi (s':=⟨[],[],((i3 0)+1),48⟩) (by exact Zc Za Za nL) ?_
    refine aR (sA R R (aZ (hK12 _ ?_)))
    refine Zj ?_
    exact Y1_ (he1 _ (hx1 _ (Zd h8).symm)) iL (.t (.d R))
   ·have h8:=Zo hc3 h7
    refine aS fun _ hK13 _=>?_
    refine ZS hmix (by kernel_rfl) ?_
    refine Zm R R R (Ze R iL) (Zm R R R (ZR R iL iL) (Zm R R R (Ze R iL) ?_))
    refine Zg (.one R R R) R R (fB R YHX iL fR R) ?_
    refine Zg (.one R R R) R R (Zb (a:=.r (.str x4.Name)) R ts_9 (iR R) R R) ?_
    refine Zg (.one R R R) R R (Ze R iL) ?_
    refine Zg (.one R R R) R R (Ze R iL) ?_
    refine Zl h8 fun x5 ex5 h9=>?_
    refine Zg (.one R R R) R R (YBA R (iR R) iL (gdt ex5)) ?_
    refine Zl h9 fun x6 ex6 h10=>?_
    refine Zg (.one R R R) R R (Zx R YEP.slice (iR R) (iR R) (fun _=>R) (gdt ex6)) ?_
    refine Zg (.one R R R) R R (Zw R YHX (iR R)) ?_
    refine Zg (.one R R R) R R (ZO (d:=.str x6.Name) R ts_9 (iR R) R) ?_
    refine Zg (.one R R R) R R (YPK R (iR R) (iR R)) ?_
    refine Zm R R R (Zq R iL (iR R)) (Zm R R R (YA8 R iL) ?_)
    refine AQ.nil ?_
    refine hK13 _ ?_
    refine aC R (fun hc4=>?_) (fun hc4=>?_)
    ·have h11:=Zn hc4 h10
     refine aS fun _ hK14 _=>?_
     refine Zi (s':=⟨[],[],((i3 0)+1),48⟩) (by exact Zc Za Za nL) ?_
     refine aR (sA R R (aZ (hK14 _ ?_)))
     refine Zj ?_
     exact Y1_ (he1 _ (hx1 _ (Zd h11).symm)) iL (.t (.d R))
    ·have h11:=Zo hc4 h10
     refine Zk (hK7 _ ?_)
     refine Zi (s':=⟨[(0,qa l1),(1,rB (empty1)),(7,qa l1),(8,rI ((l1.length:Int))),(9,rI (x2))],[],((i3 0)+1),48⟩) (by exact Zc ⟨jL,jL,jL,jL,jL,Za⟩ Za nL) ?_
     refine aR (Zl h11 fun x7 ex7 h12=>(sQ R (ZI R iL iL (fun _=>ex7)) (sM R R ?_)))
     refine Zt ?_
     exact ZJ h12 (vec [((i3 0)+1)]) ((by exact Zc ⟨jL,jL,jL,jL,jL,Za⟩ Za nL))
 ·have h3:=Zo hc1 h2
  refine ZL ?_
  exact wK2 _ _ ((by exact Zc Za Za nL)) (J1 _ (vec [(i3 0)]) (hx1 _ (Zd h3).symm))
theorem YFt {l1:List YAT} {r:Int} (h:YDo l1=some r):ARO Tryz.prog 85 [qa l1] (rI (r)):=by
 unfold YDo at h
 refine Zu Tryz.func85 R R Tryz.ntmps85 R (Zf R) fun n0=>?_
 refine aS fun _ hK1 _=>(aR (sA R R (aZ (hK1 _ ?_))))
 refine aS fun _ hK2 _=>(aR (sM R R (Zl h fun r1 er1 h1=>(Zh R R R (Zr (r:=rI (r1)) (caps:=[]) (bs:=[qa l1,rB (false)]) R iL R ⟨⟨_,iL,.d R⟩,⟨_,iL,.d R⟩,Za⟩ (fun _=>YLb (er1)) R) (sA R R (aZ (hK2 _ ?_)))))))
 refine Zj ?_
 exact Y1_ h1 iL (.t (.d R))
theorem YIr {kind1:Int} {r:Bool} (h:YEd kind1=some r):ARO Tryz.prog 96 [rI (kind1)] (rB (r)):=by
 unfold YEd at h
 refine Zu Tryz.func96 R R Tryz.ntmps96 R (Zf R) fun n0=>?_
 refine aS fun _ hK1 _=>(aR (sA R R (aZ (hK1 _ ?_))))
 refine aS fun _ hK2 _=>(aR (sM R R (sQ R (Zs R iL iL) (sM R R (sV R R R (Ze R iL) (sV R R R (Zs R (iR R) iL) (sQ R (Zy R iL (iR R)) (sM R R (sV R R R (Ze R iL) (sV R R R (Zs R (iR R) iL) (sQ R (Zy R iL (iR R)) (sM R R (sV R R R (Ze R iL) (sV R R R (Zs R (iR R) iL) (sQ R (Zy R iL (iR R)) (sA R R (aZ (hK2 _ ?_))))))))))))))))))
 refine Zj ?_
 exact Y2_ h iL (.t (.d R))
theorem YMm {kind1:Int} {r:Bool} (h:YEe kind1=some r):ARO Tryz.prog 167 [rI (kind1)] (rB (r)):=by
 unfold YEe at h
 refine Zu Tryz.func167 R R Tryz.ntmps167 R (Zf R) fun n0=>?_
 refine aS fun _ hK1 _=>(aR (sA R R (aZ (hK1 _ ?_))))
 refine aS fun _ hK2 _=>(aR (sM R R (sQ R (Zs R iL iL) (sM R R (sV R R R (Ze R iL) (sV R R R (Zs R (iR R) iL) (sQ R (Zy R iL (iR R)) (sA R R (aZ (hK2 _ ?_))))))))))
 refine Zj ?_
 exact Y2_ h iL (.t (.d R))
theorem YIt {kind1:Int} {r:Bool} (h:YCo kind1=some r):ARO Tryz.prog 135 [rI (kind1)] (rB (r)):=by
 unfold YCo at h
 refine Zu Tryz.func135 R R Tryz.ntmps135 R (Zf R) fun n0=>?_
 refine aS fun _ hK1 _=>(aR (sA R R (aZ (hK1 _ ?_))))
 refine aS fun _ hK2 _=>(aR (sM R R (sQ R (Zs R iL iL) (sM R R (sV R R R (Ze R iL) (sV R R R (Zs R (iR R) iL) (sQ R (Zy R iL (iR R)) (sA R R (aZ (hK2 _ ?_))))))))))
 refine Zj ?_
 exact Y2_ h iL (.t (.d R))
theorem YDb {s11:List YAQ} {s21:List YAQ} {r:Bool} (h:YAe s11 s21=some r):ARO Tryz.prog 192 [qb s11,qb s21] (rB (r)):=by
 unfold YAe at h
 refine Zu Tryz.func192 R R Tryz.ntmps192 R (Zf R) fun n0=>?_
 refine aS fun _ hK1 _=>(aR (sA R R (aZ (hK1 _ ?_))))
 refine aS fun _ hK2 _=>(aS fun _ hK3 _=>(aR (sM R R (sQ R (Zz R YEO.slice iL) (sM R R (sQ R (Zz R YEO.slice iL) (sQ R (ZD R iL iL) (aZ (hK3 _ ?_)))))))))
 refine aC R (fun hc1=>?_) (fun hc1=>?_)
 ·have h1:=Zn hc1 h
  refine aS fun _ hK4 _=>(aR (sA R R (aZ (hK4 _ ?_))))
  refine Zj ?_
  exact Y2_ h1 iL (.t (.d R))
 ·have h1:=Zo hc1 h
  refine Zk (hK2 _ ?_)
  refine aS fun K5 hK5 wK5=>(aS fun _ hK6 _=>(aR (sM R R (sQ R (Zz R YEO.slice iL) (sM R R (aZ (hK6 _ ?_)))))))
  refine Zp ?_
  refine jc1k h1 fun o1 hit1 hk1 he1=>?_
  have J1 : ∀ (u2:Unit) (i5:Nat→Nat),o1 = .nrm u2→K5 ⟨[],[],(i5 0),26⟩:=by
   intro u2 i5 e
   have h2:=hk1 _ e
   refine hK5 _ ?_
   refine aS fun _ hK7 _=>(aR (sA R R (aZ (hK7 _ ?_))))
   refine Zj ?_
   exact Y2_ h2 iL (.t (.d R))
  refine ZP (fun (x2:Int) i3=>⟨[(0,qb s11),(1,qb s21),(12,rI ((s11.length:Int))),(13,rI (x2))],[],(i3 0),26⟩) (vec [n0]) hit1 ((by exact Zc ⟨jL,jL,jL,jL,Za⟩ Za nL)) ?_
  intro x2 i3 v1 hv1 hx1
  have h3:YAZ s11 s21 x2=some v1:=hv1; unfold YAZ at h3
  refine aS fun _ hK8 _=>(aR (sQ R (Zv R iL iL) (aZ (hK8 _ ?_))))
  refine aS fun _ hK9 _=>?_
  refine aC R (fun hc2=>?_) (fun hc2=>?_)
  ·have h4:=Zn hc2 h3
   refine Zk (hK9 _ ?_)
   refine aS fun _ hK10 _=>(Zp (aS fun _ hK11 _=>(aR (sM R R (sA R R (aZ (hK11 _ ?_)))))))
   refine aS fun _ hK12 _=>?_
   refine ZS hmix (by kernel_rfl) ?_
   refine Zm R R R (Ze R iL) (Zm R R R (Ze R iL) (Zl h4 fun x4 ex4 h5=>(Zm R R R (Zx R YEO.slice iL iL (fun _=>R) (fun _=>ex4)) (Zm R R R (ZG (cs:=(k15_ x4)) R YER iL R R) (Zm R R R (Ze R iL) (Zm R R R (Ze R iL) (Zl h5 fun x5 ex5 h6=>(Zm R R R (Zx R YEO.slice iL iL (fun _=>R) (fun _=>ex5)) (Zm R R R (ZG (cs:=(k15_ x5)) R YER iL R R) (Zm R R R (YEU R YRn iL iL R) ?_))))))))))
   refine AQ.nil ?_
   refine hK12 _ ?_
   refine aC R (fun hc3=>?_) (fun hc3=>?_)
   ·have h7:=Zn hc3 h6
    refine aS fun _ hK13 _=>?_
    refine Zi (s':=⟨[],[],(i3 0),26⟩) (by exact Zc Za Za nL) ?_
    refine aR (sA R R (aZ (hK13 _ ?_)))
    refine Zj ?_
    exact Y2_ (he1 _ (hx1 _ (Zd h7).symm)) iL (.t (.d R))
   ·have h7:=Zo hc3 h6
    refine Zk (hK10 _ ?_)
    refine Zi (s':=⟨[(0,qb s11),(1,qb s21),(12,rI ((s11.length:Int))),(13,rI (x2))],[],(i3 0),26⟩) (by exact Zc ⟨jL,jL,jL,jL,Za⟩ Za nL) ?_
    refine aR (Zl h7 fun x6 ex6 h8=>(sQ R (ZI R iL iL (fun _=>ex6)) (sM R R ?_)))
    refine Zt ?_
    exact ZJ h8 (vec [(i3 0)]) ((by exact Zc ⟨jL,jL,jL,jL,Za⟩ Za nL))
  ·have h4:=Zo hc2 h3
   refine ZL ?_
   exact wK5 _ _ ((by exact Zc Za Za nL)) (J1 _ (vec [(i3 0)]) (hx1 _ (Zd h4).symm))
theorem YMo {a1:List YAT} {b1:List YAT} {r:Bool} (h:YEj a1 b1=some r):ARO Tryz.prog 185 [qa a1,qa b1] (rB (r)):=by
 unfold YEj at h
 refine Zu Tryz.func185 R R Tryz.ntmps185 R (Zf R) fun n0=>?_
 refine aS fun _ hK1 _=>(aR (sA R R (aZ (hK1 _ ?_))))
 refine aS fun _ hK2 _=>(aS fun _ hK3 _=>(aR (sM R R (sQ R (Zz R YEP.slice iL) (sM R R (sQ R (Zz R YEP.slice iL) (sQ R (ZD R iL iL) (aZ (hK3 _ ?_)))))))))
 refine aC R (fun hc1=>?_) (fun hc1=>?_)
 ·have h1:=Zn hc1 h
  refine aS fun _ hK4 _=>(aR (sA R R (aZ (hK4 _ ?_))))
  refine Zj ?_
  exact Y2_ h1 iL (.t (.d R))
 ·have h1:=Zo hc1 h
  refine Zk (hK2 _ ?_)
  refine aS fun K5 hK5 wK5=>(aS fun _ hK6 _=>(aR (sM R R (sQ R (Zz R YEP.slice iL) (sM R R (aZ (hK6 _ ?_)))))))
  refine Zp ?_
  refine jc1k h1 fun o1 hit1 hk1 he1=>?_
  have J1 : ∀ (u2:Unit) (i5:Nat→Nat),o1 = .nrm u2→K5 ⟨[],[],(i5 0),26⟩:=by
   intro u2 i5 e
   have h2:=hk1 _ e
   refine hK5 _ ?_
   refine aS fun _ hK7 _=>(aR (sA R R (aZ (hK7 _ ?_))))
   refine Zj ?_
   exact Y2_ h2 iL (.t (.d R))
  refine ZP (fun (x2:Int) i3=>⟨[(0,qa a1),(1,qa b1),(12,rI ((a1.length:Int))),(13,rI (x2))],[],(i3 0),26⟩) (vec [n0]) hit1 ((by exact Zc ⟨jL,jL,jL,jL,Za⟩ Za nL)) ?_
  intro x2 i3 v1 hv1 hx1
  have h3:YD2 a1 b1 x2=some v1:=hv1; unfold YD2 at h3
  refine aS fun _ hK8 _=>(aR (sQ R (Zv R iL iL) (aZ (hK8 _ ?_))))
  refine aS fun _ hK9 _=>?_
  refine aC R (fun hc2=>?_) (fun hc2=>?_)
  ·have h4:=Zn hc2 h3
   refine Zk (hK9 _ ?_)
   refine aS fun _ hK10 _=>(Zp (aS fun _ hK11 _=>(aR (sM R R (sA R R (aZ (hK11 _ ?_)))))))
   refine aS fun _ hK12 _=>?_
   refine ZS hmix (by kernel_rfl) ?_
   refine Zm R R R (Ze R iL) (Zm R R R (Ze R iL) (Zl h4 fun x4 ex4 h5=>(Zm R R R (Zx R YEP.slice iL iL (fun _=>R) (fun _=>ex4)) (Zm R R R (ZG (cs:=(k19_ x4)) R YPH iL R R) (Zm R R R (Ze R iL) (Zm R R R (Ze R iL) (Zl h5 fun x5 ex5 h6=>(Zm R R R (Zx R YEP.slice iL iL (fun _=>R) (fun _=>ex5)) (Zm R R R (ZG (cs:=(k19_ x5)) R YPH iL R R) (Zm R R R (YEU R te_58 iL iL R) ?_))))))))))
   refine AQ.nil ?_
   refine hK12 _ ?_
   refine aC R (fun hc3=>?_) (fun hc3=>?_)
   ·have h7:=Zn hc3 h6
    refine aS fun _ hK13 _=>?_
    refine Zi (s':=⟨[],[],(i3 0),26⟩) (by exact Zc Za Za nL) ?_
    refine aR (sA R R (aZ (hK13 _ ?_)))
    refine Zj ?_
    exact Y2_ (he1 _ (hx1 _ (Zd h7).symm)) iL (.t (.d R))
   ·have h7:=Zo hc3 h6
    refine Zk (hK10 _ ?_)
    refine Zi (s':=⟨[(0,qa a1),(1,qa b1),(12,rI ((a1.length:Int))),(13,rI (x2))],[],(i3 0),26⟩) (by exact Zc ⟨jL,jL,jL,jL,Za⟩ Za nL) ?_
    refine aR (Zl h7 fun x6 ex6 h8=>(sQ R (ZI R iL iL (fun _=>ex6)) (sM R R ?_)))
    refine Zt ?_
    exact ZJ h8 (vec [(i3 0)]) ((by exact Zc ⟨jL,jL,jL,jL,Za⟩ Za nL))
  ·have h4:=Zo hc2 h3
   refine ZL ?_
   exact wK5 _ _ ((by exact Zc Za Za nL)) (J1 _ (vec [(i3 0)]) (hx1 _ (Zd h4).symm))
theorem YIo {a1:YAL} {b1:YAL} {r:Bool} (h:YDT a1 b1=some r):ARO Tryz.prog 194 [.agg (k9_ a1),.agg (k9_ b1)] (rB (r)):=by
 unfold YDT at h
 refine Zu Tryz.func194 R R Tryz.ntmps194 R (Zf R) fun n0=>?_
 refine aS fun _ hK1 _=>(aR (Zh R R R (ZM (cs:=(k9_ a1)) 2 R iL R R) (Zh R R R (ZM (cs:=(k9_ b1)) 3 R iL R R) (sA R R (aZ (hK1 _ ?_))))))
 refine aS fun _ hK2 _=>(aR (sQ R (fB R YBy iL fR R) (sQ R (Zb (a:=rI (a1.Row)) R ts_3 iL R R) (sQ R (fB R YBy iL fR R) (sQ R (Zb (a:=rI (b1.Row)) R ts_3 iL R R) (sQ R (Zs R iL iL) (sM R R (sV R R R (fB R YCV iL fR R) (sV R R R (Zb (a:=rI (a1.Col)) R ts_3 (iR R) R R) (sV R R R (fB R YCV iL fR R) (sV R R R (Zb (a:=rI (b1.Col)) R ts_3 (iR R) R R) (sV R R R (Zs R (iR R) (iR R)) (sQ R (Zq R iL (iR R)) (sM R R (sV R R R (fB R YDq iL fR R) (sV R R R (Zb (a:=.r (.str a1.Text)) R ts_9 (iR R) R R) (sV R R R (fB R YDq iL fR R) (sV R R R (Zb (a:=.r (.str b1.Text)) R ts_9 (iR R) R R) (sV R R R (YFP R (iR R) (iR R)) (sQ R (Zq R iL (iR R)) (sM R R (sV R R R (fB R YBa iL fR R) (sV R R R (Zb (a:=rI (a1.Ref)) R ts_3 (iR R) R R) (sV R R R (fB R YBa iL fR R) (sV R R R (Zb (a:=rI (b1.Ref)) R ts_3 (iR R) R R) (sV R R R (Zs R (iR R) (iR R)) (sQ R (Zq R iL (iR R)) (sM R R (sV R R R (fB R YDp iL fR R) ?_)))))))))))))))))))))))))))))
 refine sV R R R (Zb (a:=qa a1.Attrs) R YEm (iR R) R R) (sV R R R (fB R YDp iL fR R) (sV R R R (Zb (a:=qa b1.Attrs) R YEm (iR R) R R) (Zl h fun r1 er1 h1=>?_)))
 refine ZA (.one R R R) R R (Zr (r:=rB (r1)) (caps:=[]) (bs:=[qa a1.Attrs,qa b1.Attrs]) R iL R ⟨⟨_,(iR R),.d R⟩,⟨_,(iR R),.d R⟩,Za⟩ (fun hg=>YMo (gdt er1 hg)) R) ?_
 refine sQ R (Zq R iL (iR R)) (sA R R (aZ (hK2 _ ?_)))
 refine Zj ?_
 exact Y2_ h1 iL (.t (.d R))
theorem YA3 {s11:List YAL} {s21:List YAL} {r:Bool} (h:YAH s11 s21=some r):ARO Tryz.prog 193 [qc s11,qc s21,.fn 194 []] (rB (r)):=by
 unfold YAH at h
 refine Zu Tryz.func193 R R Tryz.ntmps193 R (Zf R) fun n0=>?_
 refine aS fun _ hK1 _=>(aR (sA R R (aZ (hK1 _ ?_))))
 refine aS fun _ hK2 _=>(aS fun _ hK3 _=>(aR (sM R R (sQ R (Zz R YB2.slice iL) (sM R R (sQ R (Zz R YB2.slice iL) (sQ R (ZD R iL iL) (aZ (hK3 _ ?_)))))))))
 refine aC R (fun hc1=>?_) (fun hc1=>?_)
 ·have h1:=Zn hc1 h
  refine aS fun _ hK4 _=>?_
  refine Zi (s':=⟨[],[],n0,32⟩) (by exact Zc Za Za nL) ?_
  refine aR (sA R R (aZ (hK4 _ ?_)))
  refine Zj ?_
  exact Y2_ h1 iL (.t (.d R))
 ·have h1:=Zo hc1 h
  refine Zk (hK2 _ ?_)
  refine aS fun K5 hK5 wK5=>(aS fun _ hK6 _=>(aR (sM R R (sQ R (Zz R YB2.slice iL) (sM R R (aZ (hK6 _ ?_)))))))
  refine Zp ?_
  refine jc1k h1 fun o1 hit1 hk1 he1=>?_
  have J1 : ∀ (u2:Unit) (i5:Nat→Nat),o1 = .nrm u2→K5 ⟨[],[],(i5 0),32⟩:=by
   intro u2 i5 e
   have h2:=hk1 _ e
   refine hK5 _ ?_
   refine aS fun _ hK7 _=>(aR (sA R R (aZ (hK7 _ ?_))))
   refine Zj ?_
   exact Y2_ h2 iL (.t (.d R))
  refine ZP (fun (x2:Int) i3=>⟨[(1,qc s21),(2,.fn 194 []),(15,qc s11),(16,rI ((s11.length:Int))),(17,rI (x2))],[],(i3 0),32⟩) (vec [n0]) hit1 ((by exact Zc ⟨jL,jL,jL,jL,jL,Za⟩ Za nL)) ?_
  intro x2 i3 v1 hv1 hx1
  have h3:YAE s11 s21 x2=some v1:=hv1; unfold YAE at h3
  refine aS fun _ hK8 _=>(aR (sQ R (Zv R iL iL) (aZ (hK8 _ ?_))))
  refine aS fun _ hK9 _=>?_
  refine aC R (fun hc2=>?_) (fun hc2=>?_)
  ·have h4:=Zn hc2 h3
   refine Zk (hK9 _ ?_)
   refine aS fun _ hK10 _=>(Zp (aS fun _ hK11 _=>(aR (sM R R (Zl h4 fun x4 ex4 h5=>(sQ R (Zx R YB2.slice iL iL (fun _=>R) (fun _=>ex4)) (sQ R (ZG (cs:=(k9_ x4)) R YES iL R R) (Zh R R R (YAi (cs:=z11_) 8 R YI2 R R) (sA R R (ZN R R (ZF (ds:=(k9_ x4)) R YI0 iL R iL R R R R) (aZ (hK11 _ ?_))))))))))))
   refine aS fun _ hK12 _=>(aR (sM R R (sM R R (Zl h5 fun x5 ex5 h6=>(sQ R (Zx R YB2.slice iL iL (fun _=>R) (fun _=>ex5)) (sQ R (ZG (cs:=(k9_ x5)) R YES iL R R) (Zh R R R (YAi (cs:=z11_) 9 R YI2 R R) (ZN R R (ZF (ds:=(k9_ x5)) R YI0 iL R iL R R R R) (aZ (hK12 _ ?_))))))))))
   refine aS fun _ hK13 _=>?_
   refine Zi (s':=⟨[(1,qc s21),(2,.fn 194 []),(8,.ptr 8 (i3 0) 0 0),(9,.ptr 9 ((i3 0)+1) 0 0),(15,qc s11),(16,rI ((s11.length:Int))),(17,rI (x2))],[(8,some (.box (i3 0) 140 (k9_ x4))),(9,some (.box ((i3 0)+1) 140 (k9_ x5)))],((i3 0)+2),32⟩) (by exact Zc ⟨jL,jL,jL,jL,jL,jL,jL,Za⟩ ⟨.inl R,.inl R,Za⟩ nL) ?_
   refine aR (sM R R (sQ R (ZC R YES iL R R) (sQ R (ZC R YES iL R R) (Zl h6 fun r1 er1 h7=>(Zh R R R (Zr (r:=rB (r1)) (caps:=[]) (bs:=[.agg (k9_ x4),.agg (k9_ x5)]) R iL R ⟨⟨_,iL,.g (cs:=[.int .i64 x4.Row,.int .i64 x4.Col,.str x4.Text,.int .i64 x4.Ref,.sl (x4.Attrs.map YAT.row)]) R R⟩,⟨_,iL,.g (cs:=[.int .i64 x5.Row,.int .i64 x5.Col,.str x5.Text,.int .i64 x5.Ref,.sl (x5.Attrs.map YAT.row)]) R R⟩,Za⟩ (fun _=>YIo (er1)) R) (sQ R (ZK R iL) (aZ (hK13 _ ?_))))))))
   refine aC R (fun hc3=>?_) (fun hc3=>?_)
   ·have h8:=Zn hc3 h7
    refine aS fun _ hK14 _=>?_
    refine Zi (s':=⟨[],[],((i3 0)+2),32⟩) (by exact Zc Za Za nL) ?_
    refine aR (sA R R (aZ (hK14 _ ?_)))
    refine Zj ?_
    exact Y2_ (he1 _ (hx1 _ (Zd h8).symm)) iL (.t (.d R))
   ·have h8:=Zo hc3 h7
    refine Zk (hK10 _ ?_)
    refine aR (Zl h8 fun x6 ex6 h9=>(sQ R (ZI R iL iL (fun _=>ex6)) (sM R R ?_)))
    refine Zt ?_
    exact ZJ h9 (vec [((i3 0)+2)]) ((by exact Zc ⟨jL,jL,jL,jL,jL,Za⟩ Za nL))
  ·have h4:=Zo hc2 h3
   refine ZL ?_
   exact wK5 _ _ ((by exact Zc Za Za nL)) (J1 _ (vec [(i3 0)]) (hx1 _ (Zd h4).symm))
theorem YMk {a1:YAv} {b1:YAv} {r:Bool} (h:YFD a1 b1=some r):ARO Tryz.prog 168 [.agg (k14_ a1),.agg (k14_ b1)] (rB (r)):=by
 unfold YFD at h
 refine Zu Tryz.func168 R R Tryz.ntmps168 R (Zf R) fun n0=>?_
 refine aS fun _ hK1 _=>(aR (Zh R R R (ZM (cs:=(k14_ a1)) 2 R iL R R) (Zh R R R (ZM (cs:=(k14_ b1)) 3 R iL R R) (sA R R (aZ (hK1 _ ?_))))))
 refine aS fun _ hK2 _=>(aR (sQ R (fB R YCj iL fR R) (sQ R (Zb (a:=rI (a1.Rows)) R ts_3 iL R R) (sQ R (fB R YCj iL fR R) (sQ R (Zb (a:=rI (b1.Rows)) R ts_3 iL R R) (sQ R (Zs R iL iL) (sM R R (sV R R R (fB R YCi iL fR R) (sV R R R (Zb (a:=rI (a1.Cols)) R ts_3 (iR R) R R) (sV R R R (fB R YCi iL fR R) (sV R R R (Zb (a:=rI (b1.Cols)) R ts_3 (iR R) R R) (sV R R R (Zs R (iR R) (iR R)) (sQ R (Zq R iL (iR R)) (sM R R (sV R R R (fB R YDA iL fR R) (sV R R R (Zb (a:=qb a1.Merges) R YFk (iR R) R R) (sV R R R (fB R YDA iL fR R) (sV R R R (Zb (a:=qb b1.Merges) R YFk (iR R) R R) (Zl h fun r1 er1 h1=>?_)))))))))))))))))))
 refine ZA (.one R R R) R R (Zr (r:=rB (r1)) (caps:=[]) (bs:=[qb a1.Merges,qb b1.Merges]) R iL R ⟨⟨_,(iR R),.d R⟩,⟨_,(iR R),.d R⟩,Za⟩ (fun hg=>YDb (gdt er1 hg)) R) ?_
 refine sQ R (Zq R iL (iR R)) (sM R R (sV R R R (fB R YCJ iL fR R) (sV R R R (Zb (a:=qc a1.Cells) R YE1 (iR R) R R) (sV R R R (fB R YCJ iL fR R) (sV R R R (Zb (a:=qc b1.Cells) R YE1 (iR R) R R) (Zl h1 fun r2 er2 h2=>?_))))))
 refine ZA (.one R R R) R R (Zr (r:=rB (r2)) (caps:=[]) (bs:=[qc a1.Cells,qc b1.Cells,.fn 194 []]) R iL R ⟨⟨_,(iR R),.d R⟩,⟨_,(iR R),.d R⟩,⟨_,iL,.one (.closed (.fn 194 []) R)⟩,Za⟩ (fun hg=>YA3 (gdt er2 hg)) R) ?_
 refine sQ R (Zq R iL (iR R)) (sA R R (aZ (hK2 _ ?_)))
 refine Zj ?_
 exact Y2_ h2 iL (.t (.d R))
theorem YGh {kind1:Int} {r:Bool} (h:YEf kind1=some r):ARO Tryz.prog 169 [rI (kind1)] (rB (r)):=by
 unfold YEf at h
 refine Zu Tryz.func169 R R Tryz.ntmps169 R (Zf R) fun n0=>?_
 refine aS fun _ hK1 _=>(aR (sA R R (aZ (hK1 _ ?_))))
 refine aS fun _ hK2 _=>(aR (sM R R (sQ R (Zs R iL iL) (sM R R (sV R R R (Ze R iL) (sV R R R (Zs R (iR R) iL) (sQ R (Zy R iL (iR R)) (sM R R (sV R R R (Ze R iL) (sV R R R (Zs R (iR R) iL) (sQ R (Zy R iL (iR R)) (sA R R (aZ (hK2 _ ?_))))))))))))))
 refine Zj ?_
 exact Y2_ h iL (.t (.d R))
theorem YIq {c1:Int} {r:Bool} (h:YFF c1=some r):ARO Tryz.prog 99 [rI (c1)] (rB (r)):=by
 unfold YFF at h
 refine Zu Tryz.func99 R R Tryz.ntmps99 R (Zf R) fun n0=>?_
 refine aS fun _ hK1 _=>(aR (sA R R (aZ (hK1 _ ?_))))
 refine aS fun _ hK2 _=>(aR (sM R R (sQ R (Zs R iL iL) (sM R R (sV R R R (Ze R iL) (sV R R R (Zs R (iR R) iL) (sQ R (Zy R iL (iR R)) (sM R R (sV R R R (Ze R iL) (sV R R R (YCg R (iR R) iL) (sV R R R (Ze R (iR R)) ?_)))))))))))
 refine sW (.two R R R) R (Ze R iL) ?_
 refine sW (.two R R R) R (Zv R (iR R) iL) ?_
 refine sV R R R (Zq R (iR R) (iR R)) (sQ R (Zy R iL (iR R)) (sM R R (sV R R R (Ze R iL) (sV R R R (YCg R (iR R) iL) (sV R R R (Ze R (iR R)) ?_)))))
 refine sW (.two R R R) R (Ze R iL) ?_
 refine sW (.two R R R) R (Zv R (iR R) iL) ?_
 refine sV R R R (Zq R (iR R) (iR R)) (sQ R (Zy R iL (iR R)) (sM R R (sV R R R (Ze R iL) (sV R R R (ZR R (iR R) iL) (sV R R R (Ze R (iR R)) ?_)))))
 refine sW (.two R R R) R (Ze R iL) ?_
 refine sW (.two R R R) R (YET R (iR R) iL) ?_
 refine sV R R R (Zq R (iR R) (iR R)) (sQ R (Zy R iL (iR R)) (sA R R (aZ (hK2 _ ?_))))
 refine Zj ?_
 exact Y2_ h iL (.t (.d R))
theorem YMl {x1:YAN} {r:Int} (h:YGC x1=some r):ARO Tryz.prog 117 (k16_ x1) (rI (r)):=by
 unfold YGC at h
 refine Zu Tryz.func117 R R Tryz.ntmps117 R (Zf R) fun n0=>?_
 refine aS fun _ hK1 _=>(aR (Zh R R R (ZM (cs:=(k20_ x1)) 1 R iL R R) (sA R R (aZ (hK1 _ ?_)))))
 refine aS fun _ hK2 _=>(Zp (aS fun _ hK3 _=>(aR (sQ R (fB R YEQ iL fR R) (sQ R (Zb (a:=rI (x1.Char)) R ts_3 iL R R) (sQ R (ZD R iL iL) (sQ R (fB R YCI iL fR R) (sQ R (Zb (a:=rI (x1.Ref)) R ts_3 iL R R) (sQ R (ZD R iL iL) (sQ R (YPO R Tryz.underlying4 iL iL) (sA R R (aZ (hK3 _ ?_)))))))))))))
 refine aC R (fun hc1=>?_) (fun hc1=>?_)
 ·have h1:=Zn hc1 h
  refine aS fun _ hK4 _=>?_
  refine Zi (s':=⟨[],[],(n0+1),37⟩) (by exact Zc Za Za nL) ?_
  refine aR (sA R R (aZ (hK4 _ ?_)))
  refine Zj ?_
  exact Y1_ h1 iL (.t (.d R))
 ·have h1:=Zo hc1 h
  refine aS fun K5 hK5 wK5=>(aS fun _ hK6 _=>?_)
  refine Zi (s':=⟨[(1,.ptr 1 n0 0 0)],[(1,some (.box n0 51 (k20_ x1)))],(n0+1),37⟩) (by exact Zc ⟨jL,Za⟩ ⟨.inl R,Za⟩ nL) ?_
  refine aR (sQ R (fB R YCI iL fR R) (sQ R (Zb (a:=rI (x1.Ref)) R ts_3 iL R R) (sQ R (Zs R iL iL) (sM R R (sV R R R (fB R YEQ iL fR R) (sV R R R (Zb (a:=rI (x1.Char)) R ts_3 (iR R) R R) (Zl h1 fun r1 er1 h2=>?_)))))))
  refine ZA (.one R R R) R R (Zr (r:=rB (r1)) (caps:=[]) (bs:=[rI (x1.Char)]) R iL R ⟨⟨_,(iR R),.d R⟩,Za⟩ (fun hg=>YIq (gdt er1 hg)) R) ?_
  refine sV R R R (ZK R (iR R)) (sQ R (Zq R iL (iR R)) (sA R R (aZ (hK6 _ ?_))))
  refine jb1k h2 fun p1 hp1 hk1=>?_
  have J1 : ∀ (x2:Bool) (i1:Nat→Nat),p1=x2→K5 ⟨[(1,.ptr 1 n0 0 0),(11,rB (x2))],[(1,some (.box n0 51 (k20_ x1)))],(i1 0),37⟩:=by
   intro x2 i1 e
   have h3:=hk1 _ e
   refine hK5 _ ?_
   refine aC R (fun hc2=>?_) (fun hc2=>?_)
   ·have h4:=Zn hc2 h3
    refine aS fun _ hK7 _=>(aR (sA R R (aZ (hK7 _ ?_))))
    refine Zj ?_
    exact Y1_ h4 iL (.t (.d R))
   ·have h4:=Zo hc2 h3
    refine Zk (hK2 _ ?_)
    refine aS fun _ hK8 _=>(aR (sQ R (fB R YKl iL fR R) (sQ R (Zb (a:=qa x1.Attrs) R YEm iL R R) (Zl h4 fun r2 er2 h5=>(Zh R R R (Zr (r:=rI (r2)) (caps:=[]) (bs:=[qa x1.Attrs]) R iL R ⟨⟨_,iL,.d R⟩,Za⟩ (fun _=>YFt (er2)) R) (sA R R (aZ (hK8 _ ?_))))))))
    refine Zj ?_
    exact Y1_ h5 iL (.t (.d R))
  refine aC R (fun hc3=>?_) (fun hc3=>?_)
  ·have h6:=Zn hc3 hp1
   refine Zk ?_
   exact wK5 _ _ ((by exact Zc ⟨jL,jL,Za⟩ ⟨.inl R,Za⟩ nL)) (J1 _ (vec [(n0+1)]) (Zd h6).symm)
  ·have h6:=Zo hc3 hp1
   refine Zi (s':=⟨[(1,.ptr 1 n0 0 0)],[(1,some (.box n0 51 (k20_ x1)))],(n0+1),37⟩) (by exact Zc ⟨jL,Za⟩ ⟨.inl R,Za⟩ nL) ?_
   refine aR (sQ R (fB R YCI iL fR R) (sQ R (Zb (a:=rI (x1.Ref)) R ts_3 iL R R) (sQ R (ZD R iL iL) (sM R R (sV R R R (fB R YCI iL fR R) (sV R R R (Zb (a:=rI (x1.Ref)) R ts_3 (iR R) R R) (sV R R R (Zv R (iR R) iL) (sV R R R (Ze R (iR R)) ?_))))))))
   refine sW (.two R R R) R (fB R YCI iL fR R) ?_
   refine sW (.two R R R) R (Zb (a:=rI (x1.Ref)) R ts_3 (iR R) R R) ?_
   refine sW (.two R R R) R (ZR R (iR R) iL) ?_
   refine sV R R R (Zy R (iR R) (iR R)) (sQ R (Zq R iL (iR R)) (sA R R ?_))
   refine Zt ?_
   exact wK5 _ _ ((by exact Zc ⟨jL,jL,Za⟩ ⟨.inl R,Za⟩ nL)) (J1 _ (vec [(n0+1)]) (Zd h6).symm)
theorem YLZ {f1:List YAN} {text1:Bool} {r:Int} (h:YC2 f1 text1=some r):ARO Tryz.prog 170 [qe f1,rB (text1)] (rI (r)):=by
 unfold YC2 at h
 refine Zu Tryz.func170 R R Tryz.ntmps170 R (Zf R) fun n0=>?_
 refine aS fun _ hK1 _=>(aR (sA R R (aZ (hK1 _ ?_))))
 refine aS fun K2 hK2 wK2=>(aS fun _ hK3 _=>(aR (sM R R (sQ R (Zz R YDf.slice iL) (sM R R (aZ (hK3 _ ?_)))))))
 refine Zp ?_
 refine jc1k h fun o1 hit1 hk1 he1=>?_
 have J1 : ∀ (u2:Unit) (i5:Nat→Nat),o1 = .nrm u2→K2 ⟨[(0,qe f1),(1,rB (text1))],[],(i5 0),43⟩:=by
  intro u2 i5 e
  have h1:=hk1 _ e
  refine hK2 _ ?_
  refine aS fun _ hK4 _=>(aS fun _ hK5 _=>(aR (sM R R (sM R R (sV R R R (Ze R iL) (sV R R R (Zz R YDf.slice (iR R)) (sV R R R (Zs R (iR R) iL) (sV R R R (Ze R (iR R)) ?_))))))))
  refine sW (.two R R R) R (Ze R iL) ?_
  refine sW (.two R R R) R (Ze R iL) ?_
  refine sW (.two R R R) R (Zz R YDf.slice (iR R)) ?_
  refine Zl h1 fun x4 ex4 h2=>?_
  refine sW (.two R R R) R (YBA R (iR R) iL (gdt ex4)) ?_
  refine Zl h2 fun x5 ex5 h3=>?_
  refine sW (.two R R R) R (Zx R YDf.slice (iR R) (iR R) (fun _=>R) (gdt ex5)) ?_
  refine sW (.two R R R) R (Zw R YEQ (iR R)) ?_
  refine sW (.two R R R) R (ZO (d:=.int .i64 x5.Char) R ts_3 (iR R) R) ?_
  refine sW (.two R R R) R (ZD R (iR R) iL) ?_
  refine sV R R R (Zy R (iR R) (iR R)) (sQ R (Zq R iL (iR R)) (aZ (hK5 _ ?_)))
  refine aC R (fun hc1=>?_) (fun hc1=>?_)
  ·have h4:=Zn hc1 h3
   refine aS fun _ hK6 _=>?_
   refine Zi (s':=⟨[],[],(i5 0),43⟩) (by exact Zc Za Za nL) ?_
   refine aR (sA R R (aZ (hK6 _ ?_)))
   refine Zj ?_
   exact Y1_ h4 iL (.t (.d R))
  ·have h4:=Zo hc1 h3
   refine Zk (hK4 _ ?_)
   refine aS fun _ hK7 _=>?_
   refine Zi (s':=⟨[],[],(i5 0),43⟩) (by exact Zc Za Za nL) ?_
   refine aR (sA R R (aZ (hK7 _ ?_)))
   refine Zj ?_
   exact Y1_ h4 iL (.t (.d R))
 refine ZP (fun (x2:Int) i3=>⟨[(0,qe f1),(1,rB (text1)),(8,qe f1),(9,rI ((f1.length:Int))),(10,rI (x2))],[],(i3 0),43⟩) (vec [n0]) hit1 ((by exact Zc ⟨jL,jL,jL,jL,jL,Za⟩ Za nL)) ?_
 intro x2 i3 v1 hv1 hx1
 have h5:YB0 f1 text1 x2=some v1:=hv1; unfold YB0 at h5
 refine aS fun _ hK8 _=>(aR (sQ R (Zv R iL iL) (aZ (hK8 _ ?_))))
 refine aS fun _ hK9 _=>?_
 refine aC R (fun hc2=>?_) (fun hc2=>?_)
 ·have h6:=Zn hc2 h5
  refine Zk (hK9 _ ?_)
  refine aS fun _ hK10 _=>(Zp (aS fun _ hK11 _=>(aR (Zl h6 fun x6 ex6 h7=>(sQ R (Zx R YDf.slice iL iL (fun _=>R) (fun _=>ex6)) (sQ R (ZG (cs:=(k20_ x6)) R YLe iL R R) (Zh R R R (YAi (cs:=z18_) 6 R YQm R R) (ZN R R (ZF (ds:=(k20_ x6)) R YQi iL R iL R R R R) (aZ (hK11 _ ?_))))))))))
  refine aS fun _ hK12 _=>(aS fun _ hK13 _=>(aR (sQ R (ZC R YLe iL R R) (Zl h7 fun e1 ee1 h8=>(Zh R R R (Zr (r:=rI (e1)) (caps:=[]) (bs:=(k16_ x6)) R iL R ⟨⟨_,iL,.g (cs:=[.int .i64 x6.Char,.int .i64 x6.Ref,.sl (x6.Attrs.map YAT.row)]) R R⟩,Za⟩ (fun _=>YMl (ee1)) R) (sA R R (aZ (hK13 _ ?_))))))))
  refine aS fun _ hK14 _=>(aR (sM R R (sQ R (ZD R iL iL) (aZ (hK14 _ ?_)))))
  refine aC R (fun hc3=>?_) (fun hc3=>?_)
  ·have h9:=Zn hc3 h8
   refine aS fun _ hK15 _=>?_
   refine Zi (s':=⟨[(7,rI (e1))],[],((i3 0)+1),43⟩) (by exact Zc ⟨jL,Za⟩ Za nL) ?_
   refine aR (sM R R (sA R R (aZ (hK15 _ ?_))))
   refine Zj ?_
   exact Y1_ (he1 _ (hx1 _ (Zd h9).symm)) iL (.t (.d R))
  ·have h9:=Zo hc3 h8
   refine Zk (hK12 _ ?_)
   refine aS fun _ hK16 _=>(aR (sM R R (sQ R (ZK R iL) (sM R R (sV R R R (fB R YCI iL fR R) (sV R R R (Zb (a:=rI (x6.Ref)) R ts_3 (iR R) R R) (sV R R R (Zs R (iR R) iL) (sQ R (Zq R iL (iR R)) (aZ (hK16 _ ?_))))))))))
   refine aC R (fun hc4=>?_) (fun hc4=>?_)
   ·have h10:=Zn hc4 h9
    refine aS fun _ hK17 _=>?_
    refine Zi (s':=⟨[],[],((i3 0)+1),43⟩) (by exact Zc Za Za nL) ?_
    refine aR (sA R R (aZ (hK17 _ ?_)))
    refine Zj ?_
    exact Y1_ (he1 _ (hx1 _ (Zd h10).symm)) iL (.t (.d R))
   ·have h10:=Zo hc4 h9
    refine Zk (hK10 _ ?_)
    refine Zi (s':=⟨[(0,qe f1),(1,rB (text1)),(8,qe f1),(9,rI ((f1.length:Int))),(10,rI (x2))],[],((i3 0)+1),43⟩) (by exact Zc ⟨jL,jL,jL,jL,jL,Za⟩ Za nL) ?_
    refine aR (Zl h10 fun x7 ex7 h11=>(sQ R (ZI R iL iL (fun _=>ex7)) (sM R R ?_)))
    refine Zt ?_
    exact ZJ h11 (vec [((i3 0)+1)]) ((by exact Zc ⟨jL,jL,jL,jL,jL,Za⟩ Za nL))
 ·have h6:=Zo hc2 h5
  refine ZL ?_
  exact wK2 _ _ ((by exact Zc ⟨jL,jL,Za⟩ Za nL)) (J1 _ (vec [(i3 0)]) (hx1 _ (Zd h6).symm))
theorem YCh {s1:List UInt8} {r:Int × Int} (h:YAV s1=some r):ARO Tryz.prog 109 [.r (.str s1)] (.tup [.r (.int .i32 r.1),rI (r.2)]):=by
 unfold YAV at h
 refine Zu Tryz.func109 R R Tryz.ntmps109 R (Zf R) fun n0=>?_
 refine aS fun _ hK1 _=>(aR (sA R R (sA R R (aZ (hK1 _ ?_)))))
 refine aS fun _ hK2 _=>(aR (sM R R (sQ R (YAm R Tryz.underlying9 iL) (sA R R (aZ (hK2 _ ?_))))))
 refine aS fun _ hK3 _=>(aS fun _ hK4 _=>(aR (sM R R (sQ R (Zv R iL iL) (aZ (hK4 _ ?_))))))
 refine aC R (fun hc1=>?_) (fun hc1=>?_)
 ·have h1:=Zn hc1 h
  refine aS fun _ hK5 _=>(aR (sA R R (sA R R (aZ (hK5 _ ?_)))))
  refine Zj ?_
  exact YC7 (P:=Tryz.prog) (fun (r:Int × Int)=>.r (.int .i32 r.1)) (fun (r:Int × Int)=>rI (r.2)) h1 iL (.t (.d R)) (.t (.d R))
 ·have h1:=Zo hc1 h
  refine Zk (hK3 _ ?_)
  refine aS fun _ hK6 _=>(aR (sM R R (Zl h1 fun s01 es01 h2=>(sQ R (ZT R Tryz.underlying9 iL iL (fun _=>es01)) (sA R R (aZ (hK6 _ ?_)))))))
  refine aS fun _ hK7 _=>(aR (sM R R (Zl h2 fun x1 ex1 h3=>?_)))
  refine sQ R (YKK (f:=(rInt .u8)) (l:=YCr) R tt_203 tab_g0 (by kernel_rfl) iL (fun _=>R) (by decide) (fun _=>ex1)) ?_
  refine sQ R (ZO (d:=.int .u8 x1) R ts_5 iL R) (sA R R (aZ (hK7 _ ?_)))
  refine aS fun _ hK8 _=>(aS fun _ hK9 _=>?_)
  refine Zi (s':=⟨[(0,.r (.str s1)),(4,rI ((s1.length:Int))),(5,.r (.int .u8 (s01.toNat:Int))),(6,.r (.int .u8 x1))],[],n0,117⟩) (by exact Zc ⟨jL,jL,jL,jL,Za⟩ Za nL) ?_
  refine aR (sM R R (sQ R (YCg R iL iL) (aZ (hK9 _ ?_))))
  refine aC R (fun hc2=>?_) (fun hc2=>?_)
  ·have h4:=Zn hc2 h3
   refine aS fun _ hK10 _=>(aR (sM R R (sQ R (ZU R Tryz.underlying5 Tryz.underlying21 iL) (sQ R (YG4 (b:=31) R iL iL) (sQ R (YLh (b:=31) R iL iL) (sA R R (aZ (hK10 _ ?_))))))))
   refine aS fun _ hK11 _=>?_
   refine Zi (s':=⟨[(0,.r (.str s1)),(7,.r (.int .i32 (shrC .i32 (shlC .i32 (IntKind.i32.wrap x1) 31) 31)))],[],n0,117⟩) (by exact Zc ⟨jL,jL,Za⟩ Za nL) ?_
   refine aR (sM R R (sQ R (ZT R Tryz.underlying9 iL iL (fun _=>es01)) (sQ R (ZU R Tryz.underlying5 Tryz.underlying21 iL) (sM R R (sQ R (YKE R iL iL) (sM R R (sQ R (YDg R iL iL) (sQ R (YHp R iL iL) (sA R R (sA R R (aZ (hK11 _ ?_))))))))))))
   refine Zj ?_
   exact YC7 (P:=Tryz.prog) (fun (r:Int × Int)=>.r (.int .i32 r.1)) (fun (r:Int × Int)=>rI (r.2)) h4 iL (.t (.d R)) (.t (.d R))
  ·have h4:=Zo hc2 h3
   refine Zk (hK8 _ ?_)
   refine aS fun _ hK12 _=>(aR (sM R R (sQ R (YDg R iL iL) (sQ R (ZU R Tryz.underlying5 Tryz.underlying3 iL) (sA R R (aZ (hK12 _ ?_)))))))
   refine aS fun _ hK13 _=>(aR (sM R R (sQ R (YLh (b:=4) R iL iL) (Zl h4 fun x2 ex2 h5=>?_))))
   refine sQ R (YKK (f:=YAz.row) (l:=YG2) R tt_206 tab_g1 (by kernel_rfl) iL (fun _=>R) (by decide) (fun _=>ex2)) ?_
   refine sQ R (ZG (cs:=[.r (.int .u8 x2.lo),.r (.int .u8 x2.hi)]) R ta_205 iL R R) (Zh R R R (YAi (cs:=[.r (.int .u8 0),.r (.int .u8 0)]) 9 R t0_205 R R) (ZN R R (ZF (ds:=[.r (.int .u8 x2.lo),.r (.int .u8 x2.hi)]) R tz_205 iL R iL R R R R) (aZ (hK13 _ ?_))))
   refine aS fun _ hK14 _=>(aS fun _ hK15 _=>?_)
   refine Zi (s':=⟨[(0,.r (.str s1)),(4,rI ((s1.length:Int))),(5,.r (.int .u8 (s01.toNat:Int))),(8,rI ((IntKind.i64.wrap (bAnd .u8 x1 7)))),(9,.ptr 9 n0 0 0)],[(9,some (.box n0 205 [.r (.int .u8 x2.lo),.r (.int .u8 x2.hi)]))],(n0+1),117⟩) (by exact Zc ⟨jL,jL,jL,jL,jL,Za⟩ ⟨.inl R,Za⟩ nL) ?_
   refine aR (sM R R (sM R R (sQ R (Zv R iL iL) (aZ (hK15 _ ?_)))))
   refine aC R (fun hc3=>?_) (fun hc3=>?_)
   ·have h6:=Zn hc3 h5
    refine aS fun _ hK16 _=>(aR (sA R R (sA R R (aZ (hK16 _ ?_)))))
    refine Zj ?_
    exact YC7 (P:=Tryz.prog) (fun (r:Int × Int)=>.r (.int .i32 r.1)) (fun (r:Int × Int)=>rI (r.2)) h6 iL (.t (.d R)) (.t (.d R))
   ·have h6:=Zo hc3 h5
    refine Zk (hK14 _ ?_)
    refine aS fun _ hK17 _=>(aR (sM R R (Zl h6 fun s11 es11 h7=>(sQ R (ZT R Tryz.underlying9 iL iL (fun _=>es11)) (sA R R (aZ (hK17 _ ?_)))))))
    refine aS fun _ hK18 _=>(aS fun _ hK19 _=>(aR (sM R R (sQ R (fB R YQk iL fR R) (sQ R (Zb (a:=.r (.int .u8 x2.lo)) R ts_5 iL R R) (sQ R (Zv R iL iL) (sM R R (sV R R R (fB R YQj iL fR R) (sV R R R (Zb (a:=.r (.int .u8 x2.hi)) R ts_5 (iR R) R R) (sV R R R (Ze R iL) (sV R R R (Zv R (iR R) (iR R)) (sQ R (Zy R iL (iR R)) (aZ (hK19 _ ?_))))))))))))))
    refine aC R (fun hc4=>?_) (fun hc4=>?_)
    ·have h8:=Zn hc4 h7
     refine aS fun _ hK20 _=>?_
     refine Zi (s':=⟨[],[],(n0+1),117⟩) (by exact Zc Za Za nL) ?_
     refine aR (sA R R (sA R R (aZ (hK20 _ ?_))))
     refine Zj ?_
     exact YC7 (P:=Tryz.prog) (fun (r:Int × Int)=>.r (.int .i32 r.1)) (fun (r:Int × Int)=>rI (r.2)) h8 iL (.t (.d R)) (.t (.d R))
    ·have h8:=Zo hc4 h7
     refine Zk (hK18 _ ?_)
     refine aS fun _ hK21 _=>(aS fun _ hK22 _=>?_)
     refine Zi (s':=⟨[(0,.r (.str s1)),(5,.r (.int .u8 (s01.toNat:Int))),(8,rI ((IntKind.i64.wrap (bAnd .u8 x1 7)))),(10,.r (.int .u8 (s11.toNat:Int)))],[],(n0+1),117⟩) (by exact Zc ⟨jL,jL,jL,jL,Za⟩ Za nL) ?_
     refine aR (sM R R (sQ R (YET R iL iL) (aZ (hK22 _ ?_))))
     refine aC R (fun hc5=>?_) (fun hc5=>?_)
     ·have h9:=Zn hc5 h8
      refine aS fun _ hK23 _=>(aR (sM R R (sQ R (YDg R iL iL) (sQ R (ZU R Tryz.underlying5 Tryz.underlying21 iL) (sQ R (YG4 (b:=6) R iL iL) (sM R R (sQ R (YDg R iL iL) (sQ R (ZU R Tryz.underlying5 Tryz.underlying21 iL) (sQ R (YHp R iL iL) (sA R R (sA R R (aZ (hK23 _ ?_)))))))))))))
      refine Zj ?_
      exact YC7 (P:=Tryz.prog) (fun (r:Int × Int)=>.r (.int .i32 r.1)) (fun (r:Int × Int)=>rI (r.2)) h9 iL (.t (.d R)) (.t (.d R))
     ·have h9:=Zo hc5 h8
      refine Zk (hK21 _ ?_)
      refine aS fun _ hK24 _=>(aR (sM R R (Zl h9 fun s21 es21 h10=>(sQ R (ZT R Tryz.underlying9 iL iL (fun _=>es21)) (sA R R (aZ (hK24 _ ?_)))))))
      refine aS fun _ hK25 _=>(aS fun _ hK26 _=>(aR (sM R R (sQ R (Zv R iL iL) (sM R R (sV R R R (Ze R iL) (sV R R R (Zv R iL (iR R)) (sQ R (Zy R iL (iR R)) (aZ (hK26 _ ?_))))))))))
      refine aC R (fun hc6=>?_) (fun hc6=>?_)
      ·have h11:=Zn hc6 h10
       refine aS fun _ hK27 _=>?_
       refine Zi (s':=⟨[],[],(n0+1),117⟩) (by exact Zc Za Za nL) ?_
       refine aR (sA R R (sA R R (aZ (hK27 _ ?_))))
       refine Zj ?_
       exact YC7 (P:=Tryz.prog) (fun (r:Int × Int)=>.r (.int .i32 r.1)) (fun (r:Int × Int)=>rI (r.2)) h11 iL (.t (.d R)) (.t (.d R))
      ·have h11:=Zo hc6 h10
       refine Zk (hK25 _ ?_)
       refine aS fun _ hK28 _=>(aS fun _ hK29 _=>?_)
       refine Zi (s':=⟨[(0,.r (.str s1)),(5,.r (.int .u8 (s01.toNat:Int))),(8,rI ((IntKind.i64.wrap (bAnd .u8 x1 7)))),(10,.r (.int .u8 (s11.toNat:Int))),(11,.r (.int .u8 (s21.toNat:Int)))],[],(n0+1),117⟩) (by exact Zc ⟨jL,jL,jL,jL,jL,Za⟩ Za nL) ?_
       refine aR (sM R R (sQ R (YET R iL iL) (aZ (hK29 _ ?_))))
       refine aC R (fun hc7=>?_) (fun hc7=>?_)
       ·have h12:=Zn hc7 h11
        refine aS fun _ hK30 _=>(aR (sM R R (sQ R (YDg R iL iL) (sQ R (ZU R Tryz.underlying5 Tryz.underlying21 iL) (sQ R (YG4 (b:=12) R iL iL) (sM R R (sQ R (YDg R iL iL) (sQ R (ZU R Tryz.underlying5 Tryz.underlying21 iL) (sQ R (YG4 (b:=6) R iL iL) (sQ R (YHp R iL iL) (sM R R (sQ R (YDg R iL iL) (sQ R (ZU R Tryz.underlying5 Tryz.underlying21 iL) (sQ R (YHp R iL iL) (sA R R (sA R R (aZ (hK30 _ ?_))))))))))))))))))
        refine Zj ?_
        exact YC7 (P:=Tryz.prog) (fun (r:Int × Int)=>.r (.int .i32 r.1)) (fun (r:Int × Int)=>rI (r.2)) h12 iL (.t (.d R)) (.t (.d R))
       ·have h12:=Zo hc7 h11
        refine Zk (hK28 _ ?_)
        refine aS fun _ hK31 _=>(aR (sM R R (Zl h12 fun s31 es31 h13=>(sQ R (ZT R Tryz.underlying9 iL iL (fun _=>es31)) (sA R R (aZ (hK31 _ ?_)))))))
        refine aS fun _ hK32 _=>(aS fun _ hK33 _=>(aR (sM R R (sQ R (Zv R iL iL) (sM R R (sV R R R (Ze R iL) (sV R R R (Zv R iL (iR R)) (sQ R (Zy R iL (iR R)) (aZ (hK33 _ ?_))))))))))
        refine aC R (fun hc8=>?_) (fun hc8=>?_)
        ·have h14:=Zn hc8 h13
         refine aS fun _ hK34 _=>?_
         refine Zi (s':=⟨[],[],(n0+1),117⟩) (by exact Zc Za Za nL) ?_
         refine aR (sA R R (sA R R (aZ (hK34 _ ?_))))
         refine Zj ?_
         exact YC7 (P:=Tryz.prog) (fun (r:Int × Int)=>.r (.int .i32 r.1)) (fun (r:Int × Int)=>rI (r.2)) h14 iL (.t (.d R)) (.t (.d R))
        ·have h14:=Zo hc8 h13
         refine Zk (hK32 _ ?_)
         refine aS fun _ hK35 _=>?_
         refine Zi (s':=⟨[(5,.r (.int .u8 (s01.toNat:Int))),(10,.r (.int .u8 (s11.toNat:Int))),(11,.r (.int .u8 (s21.toNat:Int))),(12,.r (.int .u8 (s31.toNat:Int)))],[],(n0+1),117⟩) (by exact Zc ⟨jL,jL,jL,jL,Za⟩ Za nL) ?_
         refine aR (sM R R (sQ R (YDg R iL iL) (sQ R (ZU R Tryz.underlying5 Tryz.underlying21 iL) (sQ R (YG4 (b:=18) R iL iL) (sM R R (sQ R (YDg R iL iL) (sQ R (ZU R Tryz.underlying5 Tryz.underlying21 iL) (sQ R (YG4 (b:=12) R iL iL) (sQ R (YHp R iL iL) (sM R R (sQ R (YDg R iL iL) (sQ R (ZU R Tryz.underlying5 Tryz.underlying21 iL) (sQ R (YG4 (b:=6) R iL iL) (sQ R (YHp R iL iL) (sM R R (sQ R (YDg R iL iL) (sQ R (ZU R Tryz.underlying5 Tryz.underlying21 iL) (sQ R (YHp R iL iL) (sA R R (sA R R (aZ (hK35 _ ?_))))))))))))))))))))))
         refine Zj ?_
         exact YC7 (P:=Tryz.prog) (fun (r:Int × Int)=>.r (.int .i32 r.1)) (fun (r:Int × Int)=>rI (r.2)) h14 iL (.t (.d R)) (.t (.d R))
theorem YC9 {s1:List UInt8} {r:Int × Int} (h:YAd s1=some r):ARO Tryz.prog 54 [.r (.str s1)] (.tup [.r (.int .i32 r.1),rI (r.2)]):=by
 unfold YAd at h
 refine Zu Tryz.func54 R R Tryz.ntmps54 R (Zf R) fun n0=>?_
 refine aS fun _ hK1 _=>(aR (sA R R (sA R R (aZ (hK1 _ ?_)))))
 refine aS fun _ hK2 _=>(aS fun _ hK3 _=>(aR (sM R R (sQ R (YDC R iL iL) (sM R R (sV R R R (Ze R iL) (Zl h fun ch1 ech1 h1=>(sV R R R (ZT R Tryz.underlying9 (iR R) iL (gdt ech1)) (sV R R R (Zv R (iR R) iL) (sQ R (Zq R iL (iR R)) (aZ (hK3 _ ?_))))))))))))
 refine aC R (fun hc1=>?_) (fun hc1=>?_)
 ·have h2:=Zn hc1 h1
  refine aS fun _ hK4 _=>?_
  refine Zi (s':=⟨[(0,.r (.str s1))],[],n0,19⟩) (by exact Zc ⟨jL,Za⟩ Za nL) ?_
  refine aR (sM R R (Zl h2 fun ch2 ech2 h3=>(sQ R (ZT R Tryz.underlying9 iL iL (fun _=>ech2)) (sQ R (ZU R Tryz.underlying5 Tryz.underlying21 iL) (sA R R (sA R R (aZ (hK4 _ ?_))))))))
  refine Zj ?_
  exact YC7 (P:=Tryz.prog) (fun (r:Int × Int)=>.r (.int .i32 r.1)) (fun (r:Int × Int)=>rI (r.2)) h3 iL (.t (.d R)) (.t (.d R))
 ·have h2:=Zo hc1 h1
  refine Zi (s':=⟨[(0,.r (.str s1))],[],n0,19⟩) (by exact Zc ⟨jL,Za⟩ Za nL) ?_
  refine aR (sM R R (ob2k h2 fun r1 r2 er1 h4=>(Zh R R R (Zr (r:=.tup [.r (.int .i32 r1),rI (r2)]) (caps:=[]) (bs:=[.r (.str s1)]) R iL R ⟨⟨_,iL,.d R⟩,Za⟩ (fun _=>YCh (er1)) R) (sM R R (sQ R (ZQ (a:=.r (.int .i32 r1)) R iL R) (sQ R (ZQ (a:=rI (r2)) R iL R) (sA R R (sA R R (aZ (hK2 _ ?_))))))))))
  refine Zj ?_
  exact YC7 (P:=Tryz.prog) (fun (r:Int × Int)=>.r (.int .i32 r.1)) (fun (r:Int × Int)=>rI (r.2)) h4 iL (.t (.d R)) (.t (.d R))
theorem YMj {s1:List UInt8} {r:Bool} (h:YGA s1=some r):ARO Tryz.prog 216 [.r (.str s1)] (rB (r)):=by
 unfold YGA at h
 refine Zu Tryz.func216 R R Tryz.ntmps216 R (Zf R) fun n0=>?_
 refine aS fun _ hK1 _=>(aR (sA R R (aZ (hK1 _ ?_))))
 refine aS fun K2 hK2 wK2=>(Zp ?_)
 refine jc1k h fun o1 hit1 hk1 he1=>?_
 have J1 : ∀ (u2:Unit) (i5:Nat→Nat),o1 = .nrm u2→K2 ⟨[],[],(i5 0),31⟩:=by
  intro u2 i5 e
  have h1:=hk1 _ e
  refine hK2 _ ?_
  refine aS fun _ hK3 _=>(aR (sA R R (aZ (hK3 _ ?_))))
  refine Zj ?_
  exact Y2_ h1 iL (.t (.d R))
 refine ZP (fun (s3:List UInt8) i3=>⟨[(0,.r (.str s3))],[],(i3 0),31⟩) (vec [n0]) hit1 ((by exact Zc ⟨jL,Za⟩ Za nL)) ?_
 intro s3 i3 v1 hv1 hx1
 have h2:YAw s3=some v1:=hv1; unfold YAw at h2
 refine aS fun _ hK4 _=>(aS fun _ hK5 _=>(aR (sM R R (sQ R (YDC R iL iL) (aZ (hK5 _ ?_))))))
 refine aC R (fun hc1=>?_) (fun hc1=>?_)
 ·have h3:=Zn hc1 h2
  refine Zk (hK4 _ ?_)
  refine Zp (aS fun _ hK6 _=>(aR (sM R R (ob2k h3 fun r1 r2 er1 h4=>(Zh R R R (Zr (r:=.tup [.r (.int .i32 r1),rI (r2)]) (caps:=[]) (bs:=[.r (.str s3)]) R iL R ⟨⟨_,iL,.d R⟩,Za⟩ (fun _=>YC9 (er1)) R) (sM R R (sQ R (ZQ (a:=.r (.int .i32 r1)) R iL R) (sQ R (ZQ (a:=rI (r2)) R iL R) (sA R R (sA R R (aZ (hK6 _ ?_))))))))))))
  refine aS fun _ hK7 _=>(aS fun _ hK8 _=>(aR (sM R R (sQ R (Zs R iL iL) (sM R R (sV R R R (Ze R iL) (sV R R R (Zs R (iR R) iL) (sQ R (Zq R iL (iR R)) (sM R R (sV R R R (Ze R iL) (sV R R R (Zs R (iR R) iL) (sQ R (Zy R iL (iR R)) (sM R R (sV R R R (Ze R iL) (sV R R R (ZU R Tryz.underlying21 Tryz.underlying3 (iR R)) (Zl h4 fun r3 er3 h5=>?_))))))))))))))))
  refine ZA (.one R R R) R R (Zr (r:=rB (r3)) (caps:=[]) (bs:=[rI ((IntKind.i64.wrap r1))]) R iL R ⟨⟨_,(iR R),.d R⟩,Za⟩ (fun hg=>YIq (gdt er3 hg)) R) ?_
  refine sV R R R (ZK R (iR R)) (sQ R (Zy R iL (iR R)) (aZ (hK8 _ ?_)))
  refine aC R (fun hc2=>?_) (fun hc2=>?_)
  ·have h6:=Zn hc2 h5
   refine aS fun _ hK9 _=>?_
   refine Zi (s':=⟨[],[],(i3 0),31⟩) (by exact Zc Za Za nL) ?_
   refine aR (sA R R (aZ (hK9 _ ?_)))
   refine Zj ?_
   exact Y2_ (he1 _ (hx1 _ (Zd h6).symm)) iL (.t (.d R))
  ·have h6:=Zo hc2 h5
   refine Zk (hK7 _ ?_)
   refine Zi (s':=⟨[(0,.r (.str s3)),(4,rI (r2))],[],(i3 0),31⟩) (by exact Zc ⟨jL,jL,Za⟩ Za nL) ?_
   refine aR (sM R R (sM R R (Zl h6 fun s5 es5 h7=>?_)))
   refine sQ R (YHv R Tryz.underlying9 iL (by exact ⟨_,iL⟩) (by exact R) (fun _=>es5)) ?_
   refine sA R R ?_
   refine Zt ?_
   exact ZJ h7 (vec [(i3 0)]) ((by exact Zc ⟨jL,Za⟩ Za nL))
 ·have h3:=Zo hc1 h2
  refine ZL ?_
  exact wK2 _ _ ((by exact Zc Za Za nL)) (J1 _ (vec [(i3 0)]) (hx1 _ (Zd h3).symm))
theorem YLW {c1:YAL} {r:Bool} (h:YFB c1=some r):ARO Tryz.prog 217 (k8_ c1) (rB (r)):=by
 unfold YFB at h
 refine Zu Tryz.func217 R R Tryz.ntmps217 R (Zf R) fun n0=>?_
 refine aS fun _ hK1 _=>(aR (Zh R R R (ZM (cs:=(k9_ c1)) 1 R iL R R) (sA R R (aZ (hK1 _ ?_)))))
 refine aS fun _ hK2 _=>(aR (sQ R (fB R YDq iL fR R) (sQ R (Zb (a:=.r (.str c1.Text)) R ts_9 iL R R) (sQ R (YFP R iL iL) (sM R R (sV R R R (fB R YBa iL fR R) (sV R R R (Zb (a:=rI (c1.Ref)) R ts_3 (iR R) R R) (sV R R R (Zs R (iR R) iL) (sQ R (Zq R iL (iR R)) (sM R R (sV R R R (fB R YDp iL fR R) (sV R R R (Zb (a:=qa c1.Attrs) R YEm (iR R) R R) (sV R R R (Zz R YEP.slice (iR R)) (sV R R R (Zs R (iR R) iL) (sQ R (Zq R iL (iR R)) (sA R R (aZ (hK2 _ ?_))))))))))))))))))
 refine Zj ?_
 exact Y2_ h iL (.t (.d R))
theorem YFs {x1:Int} {r:Bool} (h:YDY x1=some r):ARO Tryz.prog 243 [rI (x1)] (rB (r)):=by
 unfold YDY at h
 refine Zu Tryz.func243 R R Tryz.ntmps243 R (Zf R) fun n0=>?_
 refine aS fun _ hK1 _=>(aR (sA R R (aZ (hK1 _ ?_))))
 refine aS fun _ hK2 _=>(aR (sM R R (sM R R (sQ R (ZD R iL iL) (sA R R (aZ (hK2 _ ?_)))))))
 refine Zj ?_
 exact Y2_ h iL (.t (.d R))
theorem YCU {x1:Int} {y1:Int} {r:Int} (h:YBF x1 y1=some r):ARO Tryz.prog 222 [rI (x1),rI (y1)] (rI (r)):=by
 unfold YBF at h
 refine Zu Tryz.func222 R R Tryz.ntmps222 R (Zf R) fun n0=>?_
 refine aS fun _ hK1 _=>(aR (sA R R (aZ (hK1 _ ?_))))
 refine aS fun _ hK2 _=>(aR (sM R R (Zl h fun xNaN1 exNaN1 h1=>(Zh R R R (Zr (r:=rB (xNaN1)) (caps:=[]) (bs:=[rI (x1)]) R iL R ⟨⟨_,iL,.d R⟩,Za⟩ (fun _=>YFs (exNaN1)) R) (sA R R (aZ (hK2 _ ?_)))))))
 refine aS fun _ hK3 _=>(aR (sM R R (Zl h1 fun yNaN1 eyNaN1 h2=>(Zh R R R (Zr (r:=rB (yNaN1)) (caps:=[]) (bs:=[rI (y1)]) R iL R ⟨⟨_,iL,.d R⟩,Za⟩ (fun _=>YFs (eyNaN1)) R) (sA R R (aZ (hK3 _ ?_)))))))
 refine aS fun _ hK4 _=>(aS fun _ hK5 _=>(aR (sM R R (aZ (hK5 _ ?_)))))
 refine aC R (fun hc1=>?_) (fun hc1=>?_)
 ·have h3:=Zn hc1 h2
  refine aS fun _ hK6 _=>(aS fun _ hK7 _=>?_)
  refine Zi (s':=⟨[(6,rB (yNaN1))],[],n0,20⟩) (by exact Zc ⟨jL,Za⟩ Za nL) ?_
  refine aR (sM R R (aZ (hK7 _ ?_)))
  refine aC R (fun hc2=>?_) (fun hc2=>?_)
  ·have h4:=Zn hc2 h3
   refine aS fun _ hK8 _=>(aR (sA R R (aZ (hK8 _ ?_))))
   refine Zj ?_
   exact Y1_ h4 iL (.t (.d R))
  ·have h4:=Zo hc2 h3
   refine Zk (hK6 _ ?_)
   refine aS fun _ hK9 _=>(aR (sA R R (aZ (hK9 _ ?_))))
   refine Zj ?_
   exact Y1_ h4 iL (.t (.d R))
 ·have h3:=Zo hc1 h2
  refine Zk (hK4 _ ?_)
  refine aS fun _ hK10 _=>(aS fun _ hK11 _=>(aR (sM R R (aZ (hK11 _ ?_)))))
  refine aC R (fun hc3=>?_) (fun hc3=>?_)
  ·have h5:=Zn hc3 h3
   refine aS fun _ hK12 _=>?_
   refine Zi (s':=⟨[],[],n0,20⟩) (by exact Zc Za Za nL) ?_
   refine aR (sA R R (aZ (hK12 _ ?_)))
   refine Zj ?_
   exact Y1_ h5 iL (.t (.d R))
  ·have h5:=Zo hc3 h3
   refine Zk (hK10 _ ?_)
   refine aS fun _ hK13 _=>(aS fun _ hK14 _=>?_)
   refine Zi (s':=⟨[(0,rI (x1)),(1,rI (y1))],[],n0,20⟩) (by exact Zc ⟨jL,jL,Za⟩ Za nL) ?_
   refine aR (sM R R (sM R R (sQ R (Zv R iL iL) (aZ (hK14 _ ?_)))))
   refine aC R (fun hc4=>?_) (fun hc4=>?_)
   ·have h6:=Zn hc4 h5
    refine aS fun _ hK15 _=>(aR (sA R R (aZ (hK15 _ ?_))))
    refine Zj ?_
    exact Y1_ h6 iL (.t (.d R))
   ·have h6:=Zo hc4 h5
    refine Zk (hK13 _ ?_)
    refine aS fun _ hK16 _=>(aS fun _ hK17 _=>(aR (sM R R (sM R R (sQ R (ZR R iL iL) (aZ (hK17 _ ?_)))))))
    refine aC R (fun hc5=>?_) (fun hc5=>?_)
    ·have h7:=Zn hc5 h6
     refine aS fun _ hK18 _=>(aR (sA R R (aZ (hK18 _ ?_))))
     refine Zj ?_
     exact Y1_ h7 iL (.t (.d R))
    ·have h7:=Zo hc5 h6
     refine Zk (hK16 _ ?_)
     refine aS fun _ hK19 _=>(aR (sA R R (aZ (hK19 _ ?_))))
     refine Zj ?_
     exact Y1_ h7 iL (.t (.d R))
theorem YHl {vals1:List Int} {r:Int} (h:YEI vals1=some r):ARO Tryz.prog 221 [.r (.sl (vals1.map (rInt .i64)))] (rI (r)):=by
 unfold YEI at h
 refine Zu Tryz.func221 R R Tryz.ntmps221 R (Zf R) fun n0=>?_
 refine aS fun _ hK1 _=>(aR (sA R R (aZ (hK1 _ ?_))))
 refine aS fun _ hK2 _=>(aR (sA R R (aZ (hK2 _ ?_))))
 refine aS fun K3 hK3 wK3=>(aS fun _ hK4 _=>(aR (sM R R (sQ R (Zz R YDr.slice iL) (sM R R (aZ (hK4 _ ?_)))))))
 refine Zp ?_
 refine jc1k h fun o1 hit1 hk1 he1=>?_
 have J1 : ∀ (u2:Unit) (i5:Nat→Nat),o1 = .nrm u2→K3 ⟨[(3,rI (0))],[],(i5 0),18⟩:=by
  intro u2 i5 e
  have h1:=hk1 _ e
  refine hK3 _ ?_
  refine aS fun _ hK5 _=>(aR (sM R R (sA R R (aZ (hK5 _ ?_)))))
  refine Zj ?_
  exact Y1_ h1 iL (.t (.d R))
 refine ZP (fun (x2:Int) i3=>⟨[(3,rI (0)),(6,.r (.sl (vals1.map (rInt .i64)))),(7,rI ((vals1.length:Int))),(8,rI (x2))],[],(i3 0),18⟩) (vec [n0]) hit1 ((by exact Zc ⟨jL,jL,jL,jL,Za⟩ Za nL)) ?_
 intro x2 i3 v1 hv1 hx1
 have h2:YAW vals1 x2=some v1:=hv1; unfold YAW at h2
 refine aS fun _ hK6 _=>(aR (sQ R (Zv R iL iL) (aZ (hK6 _ ?_))))
 refine aS fun _ hK7 _=>?_
 refine aC R (fun hc1=>?_) (fun hc1=>?_)
 ·have h3:=Zn hc1 h2
  refine Zk (hK7 _ ?_)
  refine aS fun _ hK8 _=>(Zp (aS fun _ hK9 _=>(aR (Zl h3 fun x4 ex4 h4=>(sQ R (Zx R YDr.slice iL iL (fun _=>R) (fun _=>ex4)) (sQ R (ZO (d:=.int .i64 x4) R ts_3 iL R) (sA R R (aZ (hK9 _ ?_)))))))))
  refine aS fun _ hK10 _=>(aR (sM R R (sM R R (sQ R (ZD R iL iL) (aZ (hK10 _ ?_))))))
  refine aC R (fun hc2=>?_) (fun hc2=>?_)
  ·have h5:=Zn hc2 h4
   refine aS fun _ hK11 _=>?_
   refine Zi (s':=⟨[(5,rI (x4))],[],(i3 0),18⟩) (by exact Zc ⟨jL,Za⟩ Za nL) ?_
   refine aR (sM R R (sA R R (aZ (hK11 _ ?_))))
   refine Zj ?_
   exact Y1_ (he1 _ (hx1 _ (Zd h5).symm)) iL (.t (.d R))
  ·have h5:=Zo hc2 h4
   refine Zk (hK8 _ ?_)
   refine aR (Zl h5 fun x5 ex5 h6=>(sQ R (ZI R iL iL (fun _=>ex5)) (sM R R ?_)))
   refine Zt ?_
   exact ZJ h6 (vec [(i3 0)]) ((by exact Zc ⟨jL,jL,jL,jL,Za⟩ Za nL))
 ·have h3:=Zo hc1 h2
  refine ZL ?_
  exact wK3 _ _ ((by exact Zc ⟨jL,Za⟩ Za nL)) (J1 _ (vec [(i3 0)]) (hx1 _ (Zd h3).symm))
theorem YLU {a1:YAL} {b1:YAL} {r:Int} (h:YEH a1 b1=some r):ARO Tryz.prog 218 [.agg (k9_ a1),.agg (k9_ b1)] (rI (r)):=by
 unfold YEH at h
 refine Zu Tryz.func218 R R Tryz.ntmps218 R (Zf R) fun n0=>?_
 refine aS fun _ hK1 _=>(aR (Zh R R R (ZM (cs:=(k9_ a1)) 2 R iL R R) (Zh R R R (ZM (cs:=(k9_ b1)) 3 R iL R R) (sA R R (aZ (hK1 _ ?_))))))
 refine aS fun _ hK2 _=>(Zl h fun r1 er1 h1=>?_)
 refine AW.regionP 9 [⟨some 5,(fun _=>.ptr 2 n0 0 0),none,[]⟩,⟨some 6,(fun _=>rI (a1.Row)),none,[]⟩,⟨some 7,(fun _=>.ptr 3 (n0+1) 0 0),none,[]⟩,⟨some 8,(fun _=>rI (b1.Row)),none,[]⟩,⟨some 9,(fun _=>rI (r1)),none,[]⟩,⟨some 10,(fun _=>.ptr 2 n0 0 1),none,[]⟩,⟨some 11,(fun _=>rI (a1.Col)),none,[]⟩,⟨some 12,(fun _=>.ptr 3 (n0+1) 0 1),none,[]⟩,⟨some 13,(fun _=>rI (b1.Col)),none,[]⟩] hmix (by kernel_rfl) (by exact ⟨fun _ _ h=>⟨R,fun _ _ e=>by cases e⟩,fun _ _ h=>⟨R,fun _ _ e=>by cases e⟩,fun _ _ h=>⟨R,fun _ _ e=>by cases e⟩,fun _ _ h=>⟨R,fun _ _ e=>by cases e⟩,fun _ _ h=>⟨R,fun _ _ e=>by cases e⟩,fun _ _ h=>⟨R,fun _ _ e=>by cases e⟩,fun _ _ h=>⟨R,fun _ _ e=>by cases e⟩,fun _ _ h=>⟨R,fun _ _ e=>by cases e⟩,fun _ _ h=>⟨R,fun _ _ e=>by cases e⟩,Za⟩) R (by exact ⟨ZH (n1:=fun n=>n) R R (by intro d h; cases h; rfl) R (fun _=>[(2,.ptr 2 n0 0 0)]) (fun _=>[(2,some (.box n0 140 (k9_ a1)))]) (fun D G1 hr=>⟨YAq R R,Za⟩) (fun D G1 hr=>⟨YAj R R,Za⟩) (fun _ _=>R) (fun G1 e h' n=>ZB (v:=.ptr 2 n0 0 0) (fB R YBy (.inl R) (fun _=>R) R) _),
   ZH (n1:=fun n=>n) R R (by intro d h; cases h; rfl) R (fun _=>[(5,.ptr 2 n0 0 0)]) (fun _=>[(2,some (.box n0 140 (k9_ a1)))]) (fun D G1 hr=>⟨ZE hr 0 R R (by kernel_rfl) R R,Za⟩) (fun D G1 hr=>⟨YAj R R,Za⟩) (fun _ _=>R) (fun G1 e h' n=>ZB (v:=rI (a1.Row)) (Zb (a:=rI (a1.Row)) R ts_3 (.inl R) R R) _),
   ZH (n1:=fun n=>n) R R (by intro d h; cases h; rfl) R (fun _=>[(3,.ptr 3 (n0+1) 0 0)]) (fun _=>[(3,some (.box (n0+1) 140 (k9_ b1)))]) (fun D G1 hr=>⟨YAq R R,Za⟩) (fun D G1 hr=>⟨YAj R R,Za⟩) (fun _ _=>R) (fun G1 e h' n=>ZB (v:=.ptr 3 (n0+1) 0 0) (fB R YBy (.inl R) (fun _=>R) R) _),
   ZH (n1:=fun n=>n) R R (by intro d h; cases h; rfl) R (fun _=>[(7,.ptr 3 (n0+1) 0 0)]) (fun _=>[(3,some (.box (n0+1) 140 (k9_ b1)))]) (fun D G1 hr=>⟨ZE hr 2 R R (by kernel_rfl) R R,Za⟩) (fun D G1 hr=>⟨YAj R R,Za⟩) (fun _ _=>R) (fun G1 e h' n=>ZB (v:=rI (b1.Row)) (Zb (a:=rI (b1.Row)) R ts_3 (.inl R) R R) _),
   ZH (n1:=fun n=>n) R R (by intro d h; cases h; rfl) R (fun _=>[(6,rI (a1.Row)),(8,rI (b1.Row))]) (fun _=>[]) (fun D G1 hr=>⟨ZE hr 1 R R (by kernel_rfl) R R,ZE hr 3 R R (by kernel_rfl) R R,Za⟩) (fun D G1 hr=>Za) (fun _ _=>R) (fun G1 e h' n=>Zr (r:=rI (r1)) (caps:=[]) (bs:=[rI (a1.Row),rI (b1.Row)]) R (.inl R) R ⟨⟨_,(.inl R),.d R⟩,⟨_,(.inl R),.d R⟩,Za⟩ (fun _=>YCU (er1)) R),
   ZH (n1:=fun n=>n) R R (by intro d h; cases h; rfl) R (fun _=>[(2,.ptr 2 n0 0 0)]) (fun _=>[(2,some (.box n0 140 (k9_ a1)))]) (fun D G1 hr=>⟨YAq R R,Za⟩) (fun D G1 hr=>⟨YAj R R,Za⟩) (fun _ _=>R) (fun G1 e h' n=>ZB (v:=.ptr 2 n0 0 1) (fB R YCV (.inl R) (fun _=>R) R) _),
   ZH (n1:=fun n=>n) R R (by intro d h; cases h; rfl) R (fun _=>[(10,.ptr 2 n0 0 1)]) (fun _=>[(2,some (.box n0 140 (k9_ a1)))]) (fun D G1 hr=>⟨ZE hr 5 R R (by kernel_rfl) R R,Za⟩) (fun D G1 hr=>⟨YAj R R,Za⟩) (fun _ _=>R) (fun G1 e h' n=>ZB (v:=rI (a1.Col)) (Zb (a:=rI (a1.Col)) R ts_3 (.inl R) R R) _),
   ZH (n1:=fun n=>n) R R (by intro d h; cases h; rfl) R (fun _=>[(3,.ptr 3 (n0+1) 0 0)]) (fun _=>[(3,some (.box (n0+1) 140 (k9_ b1)))]) (fun D G1 hr=>⟨YAq R R,Za⟩) (fun D G1 hr=>⟨YAj R R,Za⟩) (fun _ _=>R) (fun G1 e h' n=>ZB (v:=.ptr 3 (n0+1) 0 1) (fB R YCV (.inl R) (fun _=>R) R) _),
   ZH (n1:=fun n=>n) R R (by intro d h; cases h; rfl) R (fun _=>[(12,.ptr 3 (n0+1) 0 1)]) (fun _=>[(3,some (.box (n0+1) 140 (k9_ b1)))]) (fun D G1 hr=>⟨ZE hr 7 R R (by kernel_rfl) R R,Za⟩) (fun D G1 hr=>⟨YAj R R,Za⟩) (fun _ _=>R) (fun G1 e h' n=>ZB (v:=rI (b1.Col)) (Zb (a:=rI (b1.Col)) R ts_3 (.inl R) R R) _),
   Za⟩) fun G1 n1=>?_
 refine AOps.weak (s':=⟨[(0,.agg (k9_ a1)),(1,.agg (k9_ b1)),(2,.ptr 2 n0 0 0),(3,.ptr 3 (n0+1) 0 0),(4,rI (0)),(5,.ptr 2 n0 0 0),(6,rI (a1.Row)),(7,.ptr 3 (n0+1) 0 0),(8,rI (b1.Row)),(9,rI (r1)),(10,.ptr 2 n0 0 1),(11,rI (a1.Col)),(12,.ptr 3 (n0+1) 0 1),(13,rI (b1.Col))],[(2,some (.box n0 140 (k9_ a1))),(3,some (.box (n0+1) 140 (k9_ b1)))],n1,17⟩) (by exact Zc ⟨jL,jL,jL,jL,jL,jL,jL,jL,jL,jL,jL,jL,jL,jL,Za⟩ ⟨.inl R,.inl R,Za⟩ nL) ?_
 refine Zl h1 fun r2 er2 h2=>(Zh R R R (Zr (r:=rI (r2)) (caps:=[]) (bs:=[rI (a1.Col),rI (b1.Col)]) R iL R ⟨⟨_,iL,.d R⟩,⟨_,iL,.d R⟩,Za⟩ (fun _=>YCU (er2)) R) (Zh R R R (YCn 15 R YDr (f:=(rInt .i64)) (l:=([r1,r2]:List Int)) ⟨R,⟨_,iL,R⟩,R,⟨_,iL,R⟩,Za⟩ R (fun _=>R) R) (Zl h2 fun r3 er3 h3=>(Zh R R R (Zr (r:=rI (r3)) (caps:=[]) (bs:=[.r (.sl ([r1,r2].map (rInt .i64)))]) R iL R ⟨⟨_,iL,.one (.own R)⟩,Za⟩ (fun _=>YHl (er3)) R) (sA R R (aZ (hK2 _ ?_)))))))
 refine Zj ?_
 exact Y1_ h3 iL (.t (.d R))
theorem YLX {l1:List YAL} {rows1:Int} {cols1:Int} {none1:Bool} {r:Int} (h:YFC l1 rows1 cols1 none1=some r):ARO Tryz.prog 195 [qc l1,rI (rows1),rI (cols1),rB (none1)] (rI (r)):=by
 unfold YFC at h
 refine Zu Tryz.func195 R R Tryz.ntmps195 R (Zf R) fun n0=>?_
 refine aS fun _ hK1 _=>(aR (sA R R (aZ (hK1 _ ?_))))
 refine aS fun K2 hK2 wK2=>(aS fun _ hK3 _=>(aR (sM R R (sQ R (Zz R YB2.slice iL) (sM R R (aZ (hK3 _ ?_)))))))
 refine Zp ?_
 refine jc1k h fun o1 hit1 hk1 he1=>?_
 have J1 : ∀ (u2:Unit) (i5:Nat→Nat),o1 = .nrm u2→K2 ⟨[],[],(i5 0),79⟩:=by
  intro u2 i5 e
  have h1:=hk1 _ e
  refine hK2 _ ?_
  refine aS fun _ hK4 _=>(aR (sA R R (aZ (hK4 _ ?_))))
  refine Zj ?_
  exact Y1_ h1 iL (.t (.d R))
 refine ZP (fun (x2:Int) i3=>⟨[(0,qc l1),(1,rI (rows1)),(2,rI (cols1)),(3,rB (none1)),(12,qc l1),(13,rI ((l1.length:Int))),(14,rI (x2))],[],(i3 0),79⟩) (vec [n0]) hit1 ((by exact Zc ⟨jL,jL,jL,jL,jL,jL,jL,Za⟩ Za nL)) ?_
 intro x2 i3 v1 hv1 hx1
 have h2:YDS l1 rows1 cols1 none1 x2=some v1:=hv1; unfold YDS at h2
 refine aS fun _ hK5 _=>(aR (sQ R (Zv R iL iL) (aZ (hK5 _ ?_))))
 refine aS fun _ hK6 _=>?_
 refine aC R (fun hc1=>?_) (fun hc1=>?_)
 ·have h3:=Zn hc1 h2
  refine Zk (hK6 _ ?_)
  refine aS fun _ hK7 _=>(Zp (aS fun _ hK8 _=>(aR (sM R R (Zl h3 fun x4 ex4 h4=>(sQ R (Zx R YB2.slice iL iL (fun _=>R) (fun _=>ex4)) (sQ R (ZG (cs:=(k9_ x4)) R YES iL R R) (Zh R R R (YAi (cs:=z11_) 10 R YI2 R R) (sA R R (ZN R R (ZF (ds:=(k9_ x4)) R YI0 iL R iL R R R R) (aZ (hK8 _ ?_))))))))))))
  refine aS fun _ hK9 _=>(Zp (aS fun _ hK10 _=>(aR (sQ R (fB R YBy iL fR R) (sQ R (Zb (a:=rI (x4.Row)) R ts_3 iL R R) (sQ R (Zv R iL iL) (sM R R (sV R R R (fB R YBy iL fR R) (sV R R R (Zb (a:=rI (x4.Row)) R ts_3 (iR R) R R) (sV R R R (Ze R iL) (sV R R R (YCg R (iR R) (iR R)) (sQ R (Zy R iL (iR R)) (sM R R (sV R R R (fB R YCV iL fR R) (sV R R R (Zb (a:=rI (x4.Col)) R ts_3 (iR R) R R) (sV R R R (Zv R (iR R) iL) (sQ R (Zy R iL (iR R)) (sM R R (sV R R R (fB R YCV iL fR R) (sV R R R (Zb (a:=rI (x4.Col)) R ts_3 (iR R) R R) (sV R R R (Ze R iL) (sV R R R (YCg R (iR R) (iR R)) (sQ R (Zy R iL (iR R)) (sA R R (aZ (hK10 _ ?_))))))))))))))))))))))))))
  refine aC R (fun hc2=>?_) (fun hc2=>?_)
  ·have h5:=Zn hc2 h4
   refine aS fun _ hK11 _=>?_
   refine Zi (s':=⟨[],[],((i3 0)+1),79⟩) (by exact Zc Za Za nL) ?_
   refine aR (sA R R (aZ (hK11 _ ?_)))
   refine Zj ?_
   exact Y1_ (he1 _ (hx1 _ (Zd h5).symm)) iL (.t (.d R))
  ·have h5:=Zo hc2 h4
   refine aS fun _ hK12 _=>?_
   refine Zi (s':=⟨[(0,qc l1),(1,rI (rows1)),(2,rI (cols1)),(3,rB (none1)),(9,rI (x2)),(10,.ptr 10 (i3 0) 0 0),(12,qc l1),(13,rI ((l1.length:Int))),(14,rI (x2))],[(10,some (.box (i3 0) 140 (k9_ x4)))],((i3 0)+1),79⟩) (by exact Zc ⟨jL,jL,jL,jL,jL,jL,jL,jL,jL,Za⟩ ⟨.inl R,Za⟩ nL) ?_
   refine aR (sQ R (fB R YBa iL fR R) (sQ R (Zb (a:=rI (x4.Ref)) R ts_3 iL R R) (sQ R (Zv R iL iL) (sM R R (sV R R R (fB R YBa iL fR R) (sV R R R (Zb (a:=rI (x4.Ref)) R ts_3 (iR R) R R) (sV R R R (ZR R (iR R) iL) (sQ R (Zy R iL (iR R)) (sA R R (aZ (hK12 _ ?_)))))))))))
   refine aC R (fun hc3=>?_) (fun hc3=>?_)
   ·have h6:=Zn hc3 h5
    refine aS fun _ hK13 _=>?_
    refine Zi (s':=⟨[],[],((i3 0)+1),79⟩) (by exact Zc Za Za nL) ?_
    refine aR (sA R R (aZ (hK13 _ ?_)))
    refine Zj ?_
    exact Y1_ (he1 _ (hx1 _ (Zd h6).symm)) iL (.t (.d R))
   ·have h6:=Zo hc3 h5
    refine aS fun _ hK14 _=>(aR (sQ R (fB R YDq iL fR R) (sQ R (Zb (a:=.r (.str x4.Text)) R ts_9 iL R R) (Zl h6 fun r1 er1 h7=>(Zh R R R (Zr (r:=rB (r1)) (caps:=[]) (bs:=[.r (.str x4.Text)]) R iL R ⟨⟨_,iL,.d R⟩,Za⟩ (fun _=>YMj (er1)) R) (sQ R (ZK R iL) (sA R R (aZ (hK14 _ ?_)))))))))
    refine aC R (fun hc4=>?_) (fun hc4=>?_)
    ·have h8:=Zn hc4 h7
     refine aS fun _ hK15 _=>?_
     refine Zi (s':=⟨[],[],((i3 0)+1),79⟩) (by exact Zc Za Za nL) ?_
     refine aR (sA R R (aZ (hK15 _ ?_)))
     refine Zj ?_
     exact Y1_ (he1 _ (hx1 _ (Zd h8).symm)) iL (.t (.d R))
    ·have h8:=Zo hc4 h7
     refine Zk (hK9 _ ?_)
     refine aS fun _ hK16 _=>(aS fun _ hK17 _=>?_)
     refine Zi (s':=⟨[(0,qc l1),(1,rI (rows1)),(2,rI (cols1)),(3,rB (none1)),(9,rI (x2)),(10,.ptr 10 (i3 0) 0 0),(12,qc l1),(13,rI ((l1.length:Int))),(14,rI (x2))],[(10,some (.box (i3 0) 140 (k9_ x4)))],((i3 0)+1),79⟩) (by exact Zc ⟨jL,jL,jL,jL,jL,jL,jL,jL,jL,Za⟩ ⟨.inl R,Za⟩ nL) ?_
     refine aR (sQ R (fB R YDp iL fR R) (sQ R (Zb (a:=qa x4.Attrs) R YEm iL R R) (Zl h8 fun e1 ee1 h9=>(Zh R R R (Zr (r:=rI (e1)) (caps:=[]) (bs:=[qa x4.Attrs]) R iL R ⟨⟨_,iL,.d R⟩,Za⟩ (fun _=>YFt (ee1)) R) (sA R R (aZ (hK17 _ ?_)))))))
     refine aS fun _ hK18 _=>(aR (sM R R (sQ R (ZD R iL iL) (aZ (hK18 _ ?_)))))
     refine aC R (fun hc5=>?_) (fun hc5=>?_)
     ·have h10:=Zn hc5 h9
      refine aS fun _ hK19 _=>?_
      refine Zi (s':=⟨[(11,rI (e1))],[],((i3 0)+1),79⟩) (by exact Zc ⟨jL,Za⟩ Za nL) ?_
      refine aR (sM R R (sA R R (aZ (hK19 _ ?_))))
      refine Zj ?_
      exact Y1_ (he1 _ (hx1 _ (Zd h10).symm)) iL (.t (.d R))
     ·have h10:=Zo hc5 h9
      refine Zk (hK16 _ ?_)
      refine aS fun _ hK20 _=>(aS fun _ hK21 _=>(aR (sQ R (ZC R YES iL R R) (Zl h10 fun r2 er2 h11=>(Zh R R R (Zr (r:=rB (r2)) (caps:=[]) (bs:=(k8_ x4)) R iL R ⟨⟨_,iL,.g (cs:=[.int .i64 x4.Row,.int .i64 x4.Col,.str x4.Text,.int .i64 x4.Ref,.sl (x4.Attrs.map YAT.row)]) R R⟩,Za⟩ (fun _=>YLW (er2)) R) (sM R R (sV R R R (Ze R iL) (sV R R R (ZK R (iR R)) (sQ R (Zq R iL (iR R)) (aZ (hK21 _ ?_)))))))))))
      refine aC R (fun hc6=>?_) (fun hc6=>?_)
      ·have h12:=Zn hc6 h11
       refine aS fun _ hK22 _=>?_
       refine Zi (s':=⟨[],[],((i3 0)+1),79⟩) (by exact Zc Za Za nL) ?_
       refine aR (sA R R (aZ (hK22 _ ?_)))
       refine Zj ?_
       exact Y1_ (he1 _ (hx1 _ (Zd h12).symm)) iL (.t (.d R))
      ·have h12:=Zo hc6 h11
       refine Zk (hK20 _ ?_)
       refine aS fun _ hK23 _=>?_
       refine Zi (s':=⟨[(0,qc l1),(1,rI (rows1)),(2,rI (cols1)),(3,rB (none1)),(9,rI (x2)),(10,.ptr 10 (i3 0) 0 0),(12,qc l1),(13,rI ((l1.length:Int))),(14,rI (x2))],[(10,some (.box (i3 0) 140 (k9_ x4)))],((i3 0)+1),79⟩) (by exact Zc ⟨jL,jL,jL,jL,jL,jL,jL,jL,jL,Za⟩ ⟨.inl R,Za⟩ nL) ?_
       refine ZS hmix (by kernel_rfl) ?_
       refine Zm R R R (Ze R iL) (Zm R R R (ZR R iL iL) (Zm R R R (Ze R iL) ?_))
       refine Zg (.one R R R) R R (Ze R iL) ?_
       refine Zg (.one R R R) R R (Ze R iL) ?_
       refine Zl h12 fun x5 ex5 h13=>?_
       refine Zg (.one R R R) R R (YBA R (iR R) iL (gdt ex5)) ?_
       refine Zl h13 fun x6 ex6 h14=>?_
       refine Zg (.one R R R) R R (Zx R YB2.slice (iR R) (iR R) (fun _=>R) (gdt ex6)) ?_
       refine Zg (.one R R R) R R (ZG (cs:=(k9_ x6)) R YES (iR R) R R) ?_
       refine Zg (.one R R R) R R (ZC R YES iL R R) ?_
       refine Zl h14 fun r3 er3 h15=>?_
       refine AQ.stepWC (.one R R R) R R (r:=rI (r3)) (caps:=[]) (bs:=[.agg (k9_ x6),.agg (k9_ x4)]) R iL R ⟨⟨_,(iR R),.g (cs:=[.int .i64 x6.Row,.int .i64 x6.Col,.str x6.Text,.int .i64 x6.Ref,.sl (x6.Attrs.map YAT.row)]) R R⟩,⟨_,(iR R),.g (cs:=[.int .i64 x4.Row,.int .i64 x4.Col,.str x4.Text,.int .i64 x4.Ref,.sl (x4.Attrs.map YAT.row)]) R R⟩,Za⟩ (fun hg=>YLU (gdt er3 hg)) R ?_
       refine Zg (.one R R R) R R (YCg R (iR R) iL) ?_
       refine Zm R R R (Zq R iL (iR R)) ?_
       refine AQ.nil ?_
       refine hK23 _ ?_
       refine aC R (fun hc7=>?_) (fun hc7=>?_)
       ·have h16:=Zn hc7 h15
        refine aS fun _ hK24 _=>?_
        refine Zi (s':=⟨[],[],((i3 0)+1),79⟩) (by exact Zc Za Za nL) ?_
        refine aR (sA R R (aZ (hK24 _ ?_)))
        refine Zj ?_
        exact Y1_ (he1 _ (hx1 _ (Zd h16).symm)) iL (.t (.d R))
       ·have h16:=Zo hc7 h15
        refine Zk (hK7 _ ?_)
        refine aR (Zl h16 fun x7 ex7 h17=>(sQ R (ZI R iL iL (fun _=>ex7)) (sM R R ?_)))
        refine Zt ?_
        exact ZJ h17 (vec [((i3 0)+1)]) ((by exact Zc ⟨jL,jL,jL,jL,jL,jL,jL,Za⟩ Za nL))
 ·have h3:=Zo hc1 h2
  refine ZL ?_
  exact wK2 _ _ ((by exact Zc Za Za nL)) (J1 _ (vec [(i3 0)]) (hx1 _ (Zd h3).symm))
theorem YKf {r1:YAQ} {rows1:Int} {cols1:Int} {r:Bool} (h:YEZ r1 rows1 cols1=some r):ARO Tryz.prog 196 [.agg (k15_ r1),rI (rows1),rI (cols1)] (rB (r)):=by
 unfold YEZ at h
 refine Zu Tryz.func196 R R Tryz.ntmps196 R (Zf R) fun n0=>?_
 refine aS fun _ hK1 _=>(aR (Zh R R R (ZM (cs:=(k15_ r1)) 3 R iL R R) (sA R R (aZ (hK1 _ ?_)))))
 refine aS fun _ hK2 _=>(aR (sQ R (fB R YBC iL fR R) (sQ R (Zb (a:=rI (r1.Row)) R ts_3 iL R R) (sQ R (YCg R iL iL) (sM R R (sV R R R (fB R YBZ iL fR R) (sV R R R (Zb (a:=rI (r1.Col)) R ts_3 (iR R) R R) (sV R R R (YCg R (iR R) iL) (sQ R (Zq R iL (iR R)) (sM R R (sV R R R (fB R YD7 iL fR R) (sV R R R (Zb (a:=rI (r1.H)) R ts_3 (iR R) R R) (sV R R R (YCg R (iR R) iL) (sQ R (Zq R iL (iR R)) (sM R R (sV R R R (fB R YD6 iL fR R) (sV R R R (Zb (a:=rI (r1.W)) R ts_3 (iR R) R R) (sV R R R (YCg R (iR R) iL) (sQ R (Zq R iL (iR R)) (sM R R (sV R R R (fB R YBC iL fR R) (sV R R R (Zb (a:=rI (r1.Row)) R ts_3 (iR R) R R) (sV R R R (Ze R iL) (sV R R R (Zv R (iR R) (iR R)) (sQ R (Zq R iL (iR R)) (sM R R (sV R R R (fB R YBZ iL fR R) (sV R R R (Zb (a:=rI (r1.Col)) R ts_3 (iR R) R R) (sV R R R (Ze R iL) ?_)))))))))))))))))))))))))))))
 refine sV R R R (Zv R (iR R) (iR R)) (sQ R (Zq R iL (iR R)) (sM R R (sV R R R (fB R YD7 iL fR R) (sV R R R (Zb (a:=rI (r1.H)) R ts_3 (iR R) R R) (sV R R R (Ze R iL) (sV R R R (fB R YBC iL fR R) (sV R R R (Zb (a:=rI (r1.Row)) R ts_3 (iR R) R R) (Zl h fun x1 ex1 h1=>(sV R R R (YBA R (iR R) (iR R) (gdt ex1)) (sV R R R (YET R (iR R) (iR R)) (sQ R (Zq R iL (iR R)) (sM R R (sV R R R (fB R YD6 iL fR R) (sV R R R (Zb (a:=rI (r1.W)) R ts_3 (iR R) R R) (sV R R R (Ze R iL) (sV R R R (fB R YBZ iL fR R) (sV R R R (Zb (a:=rI (r1.Col)) R ts_3 (iR R) R R) (Zl h1 fun x2 ex2 h2=>(sV R R R (YBA R (iR R) (iR R) (gdt ex2)) (sV R R R (YET R (iR R) (iR R)) (sQ R (Zq R iL (iR R)) (sA R R (aZ (hK2 _ ?_))))))))))))))))))))))))
 refine Zj ?_
 exact Y2_ h2 iL (.t (.d R))
theorem YKg {a1:YAQ} {b1:YAQ} {r:Bool} (h:YEa a1 b1=some r):ARO Tryz.prog 197 [.agg (k15_ a1),.agg (k15_ b1)] (rB (r)):=by
 unfold YEa at h
 refine Zu Tryz.func197 R R Tryz.ntmps197 R (Zf R) fun n0=>?_
 refine aS fun _ hK1 _=>(aR (Zh R R R (ZM (cs:=(k15_ a1)) 2 R iL R R) (Zh R R R (ZM (cs:=(k15_ b1)) 3 R iL R R) (sA R R (aZ (hK1 _ ?_))))))
 refine aS fun _ hK2 _=>(aR (sQ R (fB R YBC iL fR R) (sQ R (Zb (a:=rI (a1.Row)) R ts_3 iL R R) (sQ R (fB R YBC iL fR R) (sQ R (Zb (a:=rI (b1.Row)) R ts_3 iL R R) (sQ R (Zv R iL iL) (sM R R (sV R R R (fB R YBC iL fR R) (sV R R R (Zb (a:=rI (a1.Row)) R ts_3 (iR R) R R) (sV R R R (fB R YBC iL fR R) (sV R R R (Zb (a:=rI (b1.Row)) R ts_3 (iR R) R R) (sV R R R (Zs R (iR R) (iR R)) (sV R R R (Ze R (iR R)) ?_)))))))))))))
 refine sW (.two R R R) R (fB R YBZ iL fR R) ?_
 refine sW (.two R R R) R (Zb (a:=rI (a1.Col)) R ts_3 (iR R) R R) ?_
 refine sW (.two R R R) R (fB R YBZ iL fR R) ?_
 refine sW (.two R R R) R (Zb (a:=rI (b1.Col)) R ts_3 (iR R) R R) ?_
 refine sW (.two R R R) R (Zv R (iR R) (iR R)) ?_
 refine sV R R R (Zq R (iR R) (iR R)) (sQ R (Zy R iL (iR R)) (sA R R (aZ (hK2 _ ?_))))
 refine Zj ?_
 exact Y2_ h iL (.t (.d R))
theorem YLV {a1:YAQ} {b1:YAQ} {r:Bool} (h:YFA a1 b1=some r):ARO Tryz.prog 200 [.agg (k15_ a1),.agg (k15_ b1)] (rB (r)):=by
 unfold YFA at h
 refine Zu Tryz.func200 R R Tryz.ntmps200 R (Zf R) fun n0=>?_
 refine aS fun _ hK1 _=>(aR (Zh R R R (ZM (cs:=(k15_ a1)) 2 R iL R R) (Zh R R R (ZM (cs:=(k15_ b1)) 3 R iL R R) (sA R R (aZ (hK1 _ ?_))))))
 refine aS fun _ hK2 _=>(aR (sQ R (fB R YBC iL fR R) (sQ R (Zb (a:=rI (a1.Row)) R ts_3 iL R R) (sQ R (fB R YBC iL fR R) (sQ R (Zb (a:=rI (b1.Row)) R ts_3 iL R R) (sQ R (fB R YD7 iL fR R) (sQ R (Zb (a:=rI (b1.H)) R ts_3 iL R R) (Zl h fun x1 ex1 h1=>(sQ R (ZI R iL iL (fun _=>ex1)) (sQ R (Zv R iL iL) (sM R R (sV R R R (fB R YBC iL fR R) (sV R R R (Zb (a:=rI (b1.Row)) R ts_3 (iR R) R R) (sV R R R (fB R YBC iL fR R) (sV R R R (Zb (a:=rI (a1.Row)) R ts_3 (iR R) R R) (sV R R R (fB R YD7 iL fR R) (sV R R R (Zb (a:=rI (a1.H)) R ts_3 (iR R) R R) (Zl h1 fun x2 ex2 h2=>(sV R R R (ZI R (iR R) (iR R) (gdt ex2)) (sV R R R (Zv R (iR R) (iR R)) (sQ R (Zq R iL (iR R)) (sM R R (sV R R R (fB R YBZ iL fR R) (sV R R R (Zb (a:=rI (a1.Col)) R ts_3 (iR R) R R) (sV R R R (fB R YBZ iL fR R) (sV R R R (Zb (a:=rI (b1.Col)) R ts_3 (iR R) R R) (sV R R R (fB R YD6 iL fR R) (sV R R R (Zb (a:=rI (b1.W)) R ts_3 (iR R) R R) (Zl h2 fun x3 ex3 h3=>?_)))))))))))))))))))))))))))))
 refine sV R R R (ZI R (iR R) (iR R) (gdt ex3)) (sV R R R (Zv R (iR R) (iR R)) (sQ R (Zq R iL (iR R)) (sM R R (sV R R R (fB R YBZ iL fR R) (sV R R R (Zb (a:=rI (b1.Col)) R ts_3 (iR R) R R) (sV R R R (fB R YBZ iL fR R) (sV R R R (Zb (a:=rI (a1.Col)) R ts_3 (iR R) R R) (sV R R R (fB R YD6 iL fR R) (sV R R R (Zb (a:=rI (a1.W)) R ts_3 (iR R) R R) (Zl h3 fun x4 ex4 h4=>(sV R R R (ZI R (iR R) (iR R) (gdt ex4)) (sV R R R (Zv R (iR R) (iR R)) (sQ R (Zq R iL (iR R)) (sA R R (aZ (hK2 _ ?_))))))))))))))))
 refine Zj ?_
 exact Y2_ h4 iL (.t (.d R))
theorem YIp {w1:YAQ} {q1:YAQ} {r:Bool} {gb1000:Nat} (h:YEF w1 q1=some r):AHC Tryz.prog 199 1 [.agg (k15_ q1),.ptr 1000 gb1000 0 0] [(1000,some (.box gb1000 211 (k15_ w1)))] (fun rr h'=>∃ (i:Nat→Nat),rr=rB (r)∧h'=[(1000,some (.box gb1000 211 (k15_ w1)))]):=by
 unfold YEF at h
 refine AHC.mkw Tryz.func199 R R Tryz.ntmps199 (Zf R) fun n0=>?_
 refine aS fun _ hK1 _=>(aR (Zh R R R (ZM (cs:=(k15_ q1)) 2 R iL R R) (sA R R (aZ (hK1 _ ?_)))))
 refine aS fun _ hK2 _=>(aR (sQ R (ZC R YER iL R R) (sQ R (ZC R YER iL R R) (Zl h fun r1 er1 h1=>(Zh R R R (Zr (r:=rB (r1)) (caps:=[]) (bs:=[.agg (k15_ q1),.agg (k15_ w1)]) R iL R ⟨⟨_,iL,.g (cs:=[.int .i64 q1.Row,.int .i64 q1.Col,.int .i64 q1.H,.int .i64 q1.W]) R R⟩,⟨_,iL,.g (cs:=[.int .i64 w1.Row,.int .i64 w1.Col,.int .i64 w1.H,.int .i64 w1.W]) R R⟩,Za⟩ (fun _=>YLV (er1)) R) (sA R R (aZ (hK2 _ ?_))))))))
 refine Zj ?_
 exact RetW.mk (s':=⟨[(3,rB (r1))],[(1000,some (.box gb1000 211 (k15_ w1)))],(n0+1),7⟩) ((by exact Zc ⟨jL,Za⟩ ⟨.inl R,Za⟩ nL)) (YEW (fun (r:Bool) rr h'=>∃ (i:Nat→Nat),rr=rB (r)∧h'=[(1000,some (.box gb1000 211 (k15_ w1)))]) h1 (by exact ⟨rB (r1),[(1000,some (.box gb1000 211 (k15_ w1)))],R,⟨.inr R,Za⟩,R,R,vec [],R,R⟩))
theorem YBk {w1:YAQ} {s1:List YAQ} {r:Int} {gb1000:Nat} (h:YAS w1 s1=some r):AHC Tryz.prog 219 1 [qb s1,.fn 199 [.ptr 1000 gb1000 0 0]] [(1000,some (.box gb1000 211 (k15_ w1)))] (fun rr h'=>∃ (i:Nat→Nat),rr=rI (r)∧h'=[(1000,some (.box gb1000 211 (k15_ w1)))]):=by
 unfold YAS at h
 refine AHC.mkw Tryz.func219 R R Tryz.ntmps219 (Zf R) fun n0=>?_
 refine aS fun _ hK1 _=>(aR (sA R R (aZ (hK1 _ ?_))))
 refine aS fun K2 hK2 wK2=>(aS fun _ hK3 _=>(aR (sM R R (sQ R (Zz R YEO.slice iL) (sM R R (aZ (hK3 _ ?_)))))))
 refine Zp ?_
 refine jc1k h fun o1 hit1 hk1 he1=>?_
 have J1 : ∀ (u2:Unit) (i5:Nat→Nat),o1 = .nrm u2→K2 ⟨[],[(1000,some (.box gb1000 211 (k15_ w1)))],(i5 0),19⟩:=by
  intro u2 i5 e
  have h1:=hk1 _ e
  refine hK2 _ ?_
  refine aS fun _ hK4 _=>(aR (sA R R (aZ (hK4 _ ?_))))
  refine Zj ?_
  exact RetW.mk (s':=⟨[(4,rI ((-1)))],[(1000,some (.box gb1000 211 (k15_ w1)))],(i5 0),19⟩) ((by exact Zc ⟨jL,Za⟩ ⟨.inl R,Za⟩ nL)) (YEW (fun (r:Int) rr h'=>∃ (i:Nat→Nat),rr=rI (r)∧h'=[(1000,some (.box gb1000 211 (k15_ w1)))]) h1 (by exact ⟨rI ((-1)),[(1000,some (.box gb1000 211 (k15_ w1)))],R,⟨.inr R,Za⟩,R,R,vec [],R,R⟩))
 refine ZP (fun (x2:Int) i3=>⟨[(0,qb s1),(1,.fn 199 [.ptr 1000 gb1000 0 0]),(7,rI ((s1.length:Int))),(8,rI (x2))],[(1000,some (.box gb1000 211 (k15_ w1)))],(i3 0),19⟩) (vec [n0]) hit1 ((by exact Zc ⟨jL,jL,jL,jL,Za⟩ ⟨.inl R,Za⟩ nL)) ?_
 intro x2 i3 v1 hv1 hx1
 have h2:YAO w1 s1 x2=some v1:=hv1; unfold YAO at h2
 refine aS fun _ hK5 _=>(aR (sQ R (Zv R iL iL) (aZ (hK5 _ ?_))))
 refine aS fun _ hK6 _=>?_
 refine aC R (fun hc1=>?_) (fun hc1=>?_)
 ·have h3:=Zn hc1 h2
  refine Zk (hK6 _ ?_)
  refine aS fun _ hK7 _=>(Zp (aS fun _ hK8 _=>(aR (sM R R (sA R R (aZ (hK8 _ ?_)))))))
  refine aS fun _ hK9 _=>(aR (sM R R (sM R R (sM R R (Zl h3 fun x4 ex4 h4=>(sQ R (Zx R YEO.slice iL iL (fun _=>R) (fun _=>ex4)) (sQ R (ZG (cs:=(k15_ x4)) R YER iL R R) (Zl h4 fun r1 er1 h5=>?_))))))))
  refine AOps.stepHI [1000] (hc:=[(1000,some (.box gb1000 211 (k15_ w1)))]) (bs:=[.agg (k15_ x4)]) (caps:=[.ptr 1000 gb1000 0 0]) R R R R iL R ⟨.inl ⟨iL,R⟩,Za⟩ ⟨R,R,R,Za⟩ (by decide) (YIp er1) ?_
  intro i6 n1
  refine AOps.weak (s':=⟨[(0,qb s1),(1,.fn 199 [.ptr 1000 gb1000 0 0]),(5,rI (x2)),(7,rI ((s1.length:Int))),(8,rI (x2)),(9,rB ((decide (x2<(s1.length:Int))))),(10,rI (x2)),(11,.fn 199 [.ptr 1000 gb1000 0 0]),(12,qb s1),(13,rI (x2)),(14,.rop (YAQ.row x4) 0),(15,.agg (k15_ x4)),(16,rB (r1))],[(1000,some (.box gb1000 211 (k15_ w1)))],n1,19⟩) (by exact Zc ⟨jL,jL,jL,jL,jL,jL,jL,jL,jL,jL,jL,jL,jL,Za⟩ ⟨.inl R,Za⟩ nL) ?_
  refine aZ (hK9 _ ?_)
  refine aC R (fun hc2=>?_) (fun hc2=>?_)
  ·have h6:=Zn hc2 h5
   refine aS fun _ hK10 _=>?_
   refine Zi (s':=⟨[(5,rI (x2))],[(1000,some (.box gb1000 211 (k15_ w1)))],n1,19⟩) (by exact Zc ⟨jL,Za⟩ ⟨.inl R,Za⟩ nL) ?_
   refine aR (sM R R (sA R R (aZ (hK10 _ ?_))))
   refine Zj ?_
   exact RetW.mk (s':=⟨[(4,rI (x2))],[(1000,some (.box gb1000 211 (k15_ w1)))],n1,19⟩) ((by exact Zc ⟨jL,Za⟩ ⟨.inl R,Za⟩ nL)) (YEW (fun (r:Int) rr h'=>∃ (i:Nat→Nat),rr=rI (r)∧h'=[(1000,some (.box gb1000 211 (k15_ w1)))]) (he1 _ (hx1 _ (Zd h6).symm)) (by exact ⟨rI (x2),[(1000,some (.box gb1000 211 (k15_ w1)))],R,⟨.inr R,Za⟩,R,R,vec [],R,R⟩))
  ·have h6:=Zo hc2 h5
   refine Zk (hK7 _ ?_)
   refine Zi (s':=⟨[(0,qb s1),(1,.fn 199 [.ptr 1000 gb1000 0 0]),(7,rI ((s1.length:Int))),(8,rI (x2))],[(1000,some (.box gb1000 211 (k15_ w1)))],n1,19⟩) (by exact Zc ⟨jL,jL,jL,jL,Za⟩ ⟨.inl R,Za⟩ nL) ?_
   refine aR (Zl h6 fun x5 ex5 h7=>(sQ R (ZI R iL iL (fun _=>ex5)) (sM R R ?_)))
   refine Zt ?_
   exact ZJ h7 (vec [n1]) ((by exact Zc ⟨jL,jL,jL,jL,Za⟩ ⟨.inl R,Za⟩ nL))
 ·have h3:=Zo hc1 h2
  refine ZL ?_
  exact wK2 _ _ ((by exact Zc Za ⟨.inl R,Za⟩ nL)) (J1 _ (vec [(i3 0)]) (hx1 _ (Zd h3).symm))
theorem YBW {w1:YAQ} {s1:List YAQ} {r:Bool} {gb1000:Nat} (h:YAK w1 s1=some r):AHC Tryz.prog 198 1 [qb s1,.fn 199 [.ptr 1000 gb1000 0 0]] [(1000,some (.box gb1000 211 (k15_ w1)))] (fun rr h'=>∃ (i:Nat→Nat),rr=rB (r)∧h'=[(1000,some (.box gb1000 211 (k15_ w1)))]):=by
 unfold YAK at h
 refine AHC.mkw Tryz.func198 R R Tryz.ntmps198 (Zf R) fun n0=>?_
 refine aS fun _ hK1 _=>(aR (sA R R (aZ (hK1 _ ?_))))
 refine aS fun _ hK2 _=>(aR (sM R R (sM R R (Zl h fun r1 er1 h1=>?_))))
 refine AOps.stepHI [1000] (hc:=[(1000,some (.box gb1000 211 (k15_ w1)))]) (bs:=[qb s1,.fn 199 [.ptr 1000 gb1000 0 0]]) (caps:=[]) R R R R iL R ⟨.inl ⟨iL,R⟩,.inl ⟨iL,R⟩,Za⟩ ⟨R,R,R,Za⟩ (by decide) (YBk er1) ?_
 intro i1 n1
 refine AOps.weak (s':=⟨[(0,qb s1),(1,.fn 199 [.ptr 1000 gb1000 0 0]),(4,rB (false)),(5,qb s1),(6,.fn 199 [.ptr 1000 gb1000 0 0]),(7,rI (r1))],[(1000,some (.box gb1000 211 (k15_ w1)))],n1,9⟩) (by exact Zc ⟨jL,jL,jL,jL,jL,jL,Za⟩ ⟨.inl R,Za⟩ nL) ?_
 refine sQ R (YCg R iL iL) (sA R R (aZ (hK2 _ ?_)))
 refine Zj ?_
 exact RetW.mk (s':=⟨[(4,rB ((decide (0≤r1))))],[(1000,some (.box gb1000 211 (k15_ w1)))],n1,9⟩) ((by exact Zc ⟨jL,Za⟩ ⟨.inl R,Za⟩ nL)) (YEW (fun (r:Bool) rr h'=>∃ (i:Nat→Nat),rr=rB (r)∧h'=[(1000,some (.box gb1000 211 (k15_ w1)))]) h1 (by exact ⟨rB ((decide (0≤r1))),[(1000,some (.box gb1000 211 (k15_ w1)))],R,⟨.inr R,Za⟩,R,R,vec [],R,R⟩))
theorem YLY {g1:YAv} {r:Int} (h:YFE g1=some r):ARO Tryz.prog 171 (k12_ g1) (rI (r)):=by
 unfold YFE at h
 refine Zu Tryz.func171 R R Tryz.ntmps171 R (Zf R) fun n0=>?_
 refine aS fun _ hK1 _=>(aR (Zh R R R (ZM (cs:=(k14_ g1)) 1 R iL R R) (sA R R (aZ (hK1 _ ?_)))))
 refine aS fun _ hK2 _=>(aS fun _ hK3 _=>(aR (sQ R (fB R YCj iL fR R) (sQ R (Zb (a:=rI (g1.Rows)) R ts_3 iL R R) (sQ R (Zv R iL iL) (sM R R (sV R R R (fB R YCj iL fR R) (sV R R R (Zb (a:=rI (g1.Rows)) R ts_3 (iR R) R R) (sV R R R (ZR R (iR R) iL) (sQ R (Zy R iL (iR R)) (sM R R (sV R R R (fB R YCi iL fR R) (sV R R R (Zb (a:=rI (g1.Cols)) R ts_3 (iR R) R R) (sV R R R (Zv R (iR R) iL) (sQ R (Zy R iL (iR R)) (sM R R (sV R R R (fB R YCi iL fR R) (sV R R R (Zb (a:=rI (g1.Cols)) R ts_3 (iR R) R R) (sV R R R (ZR R (iR R) iL) (sQ R (Zy R iL (iR R)) (aZ (hK3 _ ?_))))))))))))))))))))))
 refine aC R (fun hc1=>?_) (fun hc1=>?_)
 ·have h1:=Zn hc1 h
  refine aS fun _ hK4 _=>?_
  refine Zi (s':=⟨[],[],(n0+1),81⟩) (by exact Zc Za Za nL) ?_
  refine aR (sA R R (aZ (hK4 _ ?_)))
  refine Zj ?_
  exact Y1_ h1 iL (.t (.d R))
 ·have h1:=Zo hc1 h
  refine Zk (hK2 _ ?_)
  refine aS fun _ hK5 _=>(aS fun _ hK6 _=>?_)
  refine Zi (s':=⟨[(1,.ptr 1 n0 0 0)],[(1,some (.box n0 43 (k14_ g1)))],(n0+1),81⟩) (by exact Zc ⟨jL,Za⟩ ⟨.inl R,Za⟩ nL) ?_
  refine aR (sQ R (fB R YCJ iL fR R) (sQ R (Zb (a:=qc g1.Cells) R YE1 iL R R) (sQ R (fB R YCj iL fR R) (sQ R (Zb (a:=rI (g1.Rows)) R ts_3 iL R R) (sQ R (fB R YCi iL fR R) (sQ R (Zb (a:=rI (g1.Cols)) R ts_3 iL R R) (Zl h1 fun e1 ee1 h2=>(Zh R R R (Zr (r:=rI (e1)) (caps:=[]) (bs:=[qc g1.Cells,rI (g1.Rows),rI (g1.Cols),rB (false)]) R iL R ⟨⟨_,iL,.d R⟩,⟨_,iL,.d R⟩,⟨_,iL,.d R⟩,⟨_,iL,.d R⟩,Za⟩ (fun _=>YLX (ee1)) R) (sA R R (aZ (hK6 _ ?_)))))))))))
  refine aS fun _ hK7 _=>(aR (sM R R (sQ R (ZD R iL iL) (aZ (hK7 _ ?_)))))
  refine aC R (fun hc2=>?_) (fun hc2=>?_)
  ·have h3:=Zn hc2 h2
   refine aS fun _ hK8 _=>?_
   refine Zi (s':=⟨[(3,rI (e1))],[],(n0+1),81⟩) (by exact Zc ⟨jL,Za⟩ Za nL) ?_
   refine aR (sM R R (sA R R (aZ (hK8 _ ?_))))
   refine Zj ?_
   exact Y1_ h3 iL (.t (.d R))
  ·have h3:=Zo hc2 h2
   refine Zk (hK5 _ ?_)
   refine aS fun K9 hK9 wK9=>(aS fun _ hK10 _=>?_)
   refine Zi (s':=⟨[(1,.ptr 1 n0 0 0)],[(1,some (.box n0 43 (k14_ g1)))],(n0+1),81⟩) (by exact Zc ⟨jL,Za⟩ ⟨.inl R,Za⟩ nL) ?_
   refine aR (sQ R (fB R YDA iL fR R) (sQ R (Zb (a:=qb g1.Merges) R YFk iL R R) (sQ R (Zz R YEO.slice iL) (sM R R (aZ (hK10 _ ?_))))))
   refine Zp ?_
   refine jc1k h3 fun o1 hit1 hk1 he1=>?_
   have J1 : ∀ (u2:Unit) (i5:Nat→Nat),o1 = .nrm u2→K9 ⟨[],[],(i5 0),81⟩:=by
    intro u2 i5 e
    have h4:=hk1 _ e
    refine hK9 _ ?_
    refine aS fun _ hK11 _=>(aR (sA R R (aZ (hK11 _ ?_))))
    refine Zj ?_
    exact Y1_ h4 iL (.t (.d R))
   refine ZP (fun (x2:Int) i3=>⟨[(1,.ptr 1 n0 0 0),(35,qb g1.Merges),(36,rI ((g1.Merges.length:Int))),(37,rI (x2))],[(1,some (.box n0 43 (k14_ g1)))],(i3 0),81⟩) (vec [(n0+1)]) hit1 ((by exact Zc ⟨jL,jL,jL,jL,Za⟩ ⟨.inl R,Za⟩ nL)) ?_
   intro x2 i3 v1 hv1 hx1
   have h5:YDU g1 x2=some v1:=hv1; unfold YDU at h5
   refine aS fun _ hK12 _=>(aR (sQ R (Zv R iL iL) (aZ (hK12 _ ?_))))
   refine aS fun _ hK13 _=>?_
   refine aC R (fun hc3=>?_) (fun hc3=>?_)
   ·have h6:=Zn hc3 h5
    refine Zk (hK13 _ ?_)
    refine aS fun _ hK14 _=>(Zp (aS fun _ hK15 _=>(aR (sM R R (Zl h6 fun x4 ex4 h7=>(sQ R (Zx R YEO.slice iL iL (fun _=>R) (fun _=>ex4)) (sQ R (ZG (cs:=(k15_ x4)) R YER iL R R) (Zh R R R (YAi (cs:=[rI (0),rI (0),rI (0),rI (0)]) 5 R YRq R R) (sA R R (ZN R R (ZF (ds:=(k15_ x4)) R YRk iL R iL R R R R) (aZ (hK15 _ ?_))))))))))))
    refine Zp (aS fun _ hK16 _=>(aR (sQ R (ZC R YER iL R R) (sQ R (fB R YCj iL fR R) (sQ R (Zb (a:=rI (g1.Rows)) R ts_3 iL R R) (sQ R (fB R YCi iL fR R) (sQ R (Zb (a:=rI (g1.Cols)) R ts_3 iL R R) (Zl h7 fun r1 er1 h8=>(Zh R R R (Zr (r:=rB (r1)) (caps:=[]) (bs:=[.agg (k15_ x4),rI (g1.Rows),rI (g1.Cols)]) R iL R ⟨⟨_,iL,.g (cs:=[.int .i64 x4.Row,.int .i64 x4.Col,.int .i64 x4.H,.int .i64 x4.W]) R R⟩,⟨_,iL,.d R⟩,⟨_,iL,.d R⟩,Za⟩ (fun _=>YKf (er1)) R) (sQ R (ZK R iL) (sA R R (aZ (hK16 _ ?_)))))))))))))
    refine aC R (fun hc4=>?_) (fun hc4=>?_)
    ·have h9:=Zn hc4 h8
     refine aS fun _ hK17 _=>?_
     refine Zi (s':=⟨[],[],((i3 0)+1),81⟩) (by exact Zc Za Za nL) ?_
     refine aR (sA R R (aZ (hK17 _ ?_)))
     refine Zj ?_
     exact Y1_ (he1 _ (hx1 _ (Zd h9).symm)) iL (.t (.d R))
    ·have h9:=Zo hc4 h8
     refine aS fun _ hK18 _=>?_
     refine Zi (s':=⟨[(1,.ptr 1 n0 0 0),(4,rI (x2)),(5,.ptr 5 (i3 0) 0 0),(35,qb g1.Merges),(36,rI ((g1.Merges.length:Int))),(37,rI (x2))],[(1,some (.box n0 43 (k14_ g1))),(5,some (.box (i3 0) 211 (k15_ x4)))],((i3 0)+1),81⟩) (by exact Zc ⟨jL,jL,jL,jL,jL,jL,Za⟩ ⟨.inl R,.inl R,Za⟩ nL) ?_
     refine aR (sQ R (fB R YD7 iL fR R) (sQ R (Zb (a:=rI (x4.H)) R ts_3 iL R R) (sQ R (Zs R iL iL) (sM R R (sV R R R (fB R YD6 iL fR R) (sV R R R (Zb (a:=rI (x4.W)) R ts_3 (iR R) R R) (sV R R R (Zs R (iR R) iL) (sQ R (Zq R iL (iR R)) (sA R R (aZ (hK18 _ ?_)))))))))))
     refine aC R (fun hc5=>?_) (fun hc5=>?_)
     ·have h10:=Zn hc5 h9
      refine aS fun _ hK19 _=>?_
      refine Zi (s':=⟨[],[],((i3 0)+1),81⟩) (by exact Zc Za Za nL) ?_
      refine aR (sA R R (aZ (hK19 _ ?_)))
      refine Zj ?_
      exact Y1_ (he1 _ (hx1 _ (Zd h10).symm)) iL (.t (.d R))
     ·have h10:=Zo hc5 h9
      refine aS fun _ hK20 _=>?_
      refine ZS hmix (by kernel_rfl) ?_
      refine Zm R R R (Ze R iL) (Zm R R R (ZR R iL iL) (Zm R R R (Ze R iL) ?_))
      refine Zg (.one R R R) R R (fB R YDA iL fR R) ?_
      refine Zg (.one R R R) R R (Zb (a:=qb g1.Merges) R YFk (iR R) R R) ?_
      refine Zg (.one R R R) R R (Ze R iL) ?_
      refine Zl h10 fun x5 ex5 h11=>?_
      refine Zg (.one R R R) R R (YBA R (iR R) iL (gdt ex5)) ?_
      refine Zl h11 fun x6 ex6 h12=>?_
      refine Zg (.one R R R) R R (Zx R YEO.slice (iR R) (iR R) (fun _=>R) (gdt ex6)) ?_
      refine Zg (.one R R R) R R (ZG (cs:=(k15_ x6)) R YER (iR R) R R) ?_
      refine Zg (.one R R R) R R (ZC R YER iL R R) ?_
      refine Zl h12 fun r2 er2 h13=>?_
      refine AQ.stepWC (.one R R R) R R (r:=rB (r2)) (caps:=[]) (bs:=[.agg (k15_ x6),.agg (k15_ x4)]) R iL R ⟨⟨_,(iR R),.g (cs:=[.int .i64 x6.Row,.int .i64 x6.Col,.int .i64 x6.H,.int .i64 x6.W]) R R⟩,⟨_,(iR R),.g (cs:=[.int .i64 x4.Row,.int .i64 x4.Col,.int .i64 x4.H,.int .i64 x4.W]) R R⟩,Za⟩ (fun hg=>YKg (gdt er2 hg)) R ?_
      refine Zg (.one R R R) R R (ZK R (iR R)) ?_
      refine Zm R R R (Zq R iL (iR R)) (Zm R R R (YA8 R iL) ?_)
      refine AQ.nil ?_
      refine hK20 _ ?_
      refine aC R (fun hc6=>?_) (fun hc6=>?_)
      ·have h14:=Zn hc6 h13
       refine aS fun _ hK21 _=>?_
       refine Zi (s':=⟨[],[],((i3 0)+1),81⟩) (by exact Zc Za Za nL) ?_
       refine aR (sA R R (aZ (hK21 _ ?_)))
       refine Zj ?_
       exact Y1_ (he1 _ (hx1 _ (Zd h14).symm)) iL (.t (.d R))
      ·have h14:=Zo hc6 h13
       refine aS fun _ hK22 _=>?_
       refine Zi (s':=⟨[(1,.ptr 1 n0 0 0),(4,rI (x2)),(5,.ptr 5 (i3 0) 0 0),(35,qb g1.Merges),(36,rI ((g1.Merges.length:Int))),(37,rI (x2))],[(1,some (.box n0 43 (k14_ g1))),(5,some (.box (i3 0) 211 (k15_ x4)))],((i3 0)+1),81⟩) (by exact Zc ⟨jL,jL,jL,jL,jL,jL,Za⟩ ⟨.inl R,.inl R,Za⟩ nL) ?_
       refine aR (sQ R (fB R YDA iL fR R) (sQ R (Zb (a:=qb g1.Merges) R YFk iL R R) (sM R R (Zl h14 fun l1 el1 h15=>?_))))
       refine sQ R (YRC R YEO.slice iL (by exact R) (by exact ⟨_,iL⟩) (fun _=>R) (fun _=>el1)) ?_
       refine sQ R (YGk (bs:=[.ptr 5 (i3 0) 0 0]) R (by exact ⟨iL,Za⟩)) ?_
       refine Zl h15 fun r3 er3 h16=>?_
       refine AOps.stepHI [5] (hc:=[(1000,some (.box (i3 0) 211 (k15_ x4)))]) (bs:=[qb l1,.fn 199 [.ptr 1000 (i3 0) 0 0]]) (caps:=[]) R R R R iL R ⟨.inl ⟨iL,R⟩,.inl ⟨iL,R⟩,Za⟩ ⟨R,R,R,Za⟩ (by decide) (YBW er3) ?_
       intro i6 n1
       refine AOps.weak (s':=⟨[(1,.ptr 1 n0 0 0),(4,rI (x2)),(5,.ptr 5 (i3 0) 0 0),(35,qb g1.Merges),(36,rI ((g1.Merges.length:Int))),(37,rI (x2)),(74,.ptr 1 n0 0 3),(75,qb g1.Merges),(76,rI (x2)),(77,qb l1),(78,.fn 199 [.ptr 5 (i3 0) 0 0]),(79,rB (r3))],[(1,some (.box n0 43 (k14_ g1))),(5,some (.box (i3 0) 211 (k15_ x4)))],n1,81⟩) (by exact Zc ⟨jL,jL,jL,jL,jL,jL,jL,jL,jL,jL,jL,jL,Za⟩ ⟨.inl R,.inl R,Za⟩ nL) ?_
       refine sA R R (aZ (hK22 _ ?_))
       refine aC R (fun hc7=>?_) (fun hc7=>?_)
       ·have h17:=Zn hc7 h16
        refine aS fun _ hK23 _=>?_
        refine Zi (s':=⟨[],[],n1,81⟩) (by exact Zc Za Za nL) ?_
        refine aR (sA R R (aZ (hK23 _ ?_)))
        refine Zj ?_
        exact Y1_ (he1 _ (hx1 _ (Zd h17).symm)) iL (.t (.d R))
       ·have h17:=Zo hc7 h16
        refine Zk (hK14 _ ?_)
        refine Zi (s':=⟨[(1,.ptr 1 n0 0 0),(35,qb g1.Merges),(36,rI ((g1.Merges.length:Int))),(37,rI (x2))],[(1,some (.box n0 43 (k14_ g1)))],n1,81⟩) (by exact Zc ⟨jL,jL,jL,jL,Za⟩ ⟨.inl R,Za⟩ nL) ?_
        refine aR (Zl h17 fun x7 ex7 h18=>(sQ R (ZI R iL iL (fun _=>ex7)) (sM R R ?_)))
        refine Zt ?_
        exact ZJ h18 (vec [n1]) ((by exact Zc ⟨jL,jL,jL,jL,Za⟩ ⟨.inl R,Za⟩ nL))
   ·have h6:=Zo hc3 h5
    refine ZL ?_
    exact wK9 _ _ ((by exact Zc Za Za nL)) (J1 _ (vec [(i3 0)]) (hx1 _ (Zd h6).symm))
theorem YIB {kind1:Int} {l1:List YAL} {r:Int} (h:YCp kind1 l1=some r):ARO Tryz.prog 172 [rI (kind1),qc l1] (rI (r)):=by
 unfold YCp at h
 refine Zu Tryz.func172 R R Tryz.ntmps172 R (Zf R) fun n0=>?_
 refine aS fun _ hK1 _=>(aR (sA R R (aZ (hK1 _ ?_))))
 refine aS fun K2 hK2 wK2=>(aS fun _ hK3 _=>(aR (sM R R (sQ R (Zz R YB2.slice iL) (sM R R (aZ (hK3 _ ?_)))))))
 refine Zp ?_
 refine jc1k h fun o1 hit1 hk1 he1=>?_
 have J1 : ∀ (u2:Unit) (i5:Nat→Nat),o1 = .nrm u2→K2 ⟨[],[],(i5 0),36⟩:=by
  intro u2 i5 e
  have h1:=hk1 _ e
  refine hK2 _ ?_
  refine aS fun _ hK4 _=>(aR (sA R R (aZ (hK4 _ ?_))))
  refine Zj ?_
  exact Y1_ h1 iL (.t (.d R))
 refine ZP (fun (x2:Int) i3=>⟨[(0,rI (kind1)),(7,qc l1),(8,rI ((l1.length:Int))),(9,rI (x2))],[],(i3 0),36⟩) (vec [n0]) hit1 ((by exact Zc ⟨jL,jL,jL,jL,Za⟩ Za nL)) ?_
 intro x2 i3 v1 hv1 hx1
 have h2:YBr kind1 l1 x2=some v1:=hv1; unfold YBr at h2
 refine aS fun _ hK5 _=>(aR (sQ R (Zv R iL iL) (aZ (hK5 _ ?_))))
 refine aS fun _ hK6 _=>?_
 refine aC R (fun hc1=>?_) (fun hc1=>?_)
 ·have h3:=Zn hc1 h2
  refine Zk (hK6 _ ?_)
  refine aS fun _ hK7 _=>(Zp (aS fun _ hK8 _=>(aR (Zl h3 fun x4 ex4 h4=>(sQ R (Zx R YB2.slice iL iL (fun _=>R) (fun _=>ex4)) (sQ R (ZG (cs:=(k9_ x4)) R YES iL R R) (Zh R R R (YAi (cs:=z11_) 6 R YI2 R R) (ZN R R (ZF (ds:=(k9_ x4)) R YI0 iL R iL R R R R) (aZ (hK8 _ ?_))))))))))
  refine aS fun _ hK9 _=>(aR (sM R R (sQ R (Zs R iL iL) (sM R R (sV R R R (fB R YDq iL fR R) (sV R R R (Zb (a:=.r (.str x4.Text)) R ts_9 (iR R) R R) (sV R R R (YDC R (iR R) iL) (sV R R R (Ze R (iR R)) ?_))))))))
  refine sW (.two R R R) R (fB R YDp iL fR R) ?_
  refine sW (.two R R R) R (Zb (a:=qa x4.Attrs) R YEm (iR R) R R) ?_
  refine sW (.two R R R) R (Zz R YEP.slice (iR R)) ?_
  refine sW (.two R R R) R (ZR R (iR R) iL) ?_
  refine sV R R R (Zy R (iR R) (iR R)) (sQ R (Zq R iL (iR R)) (sM R R (sV R R R (Ze R iL) (sV R R R (Zs R (iR R) iL) (sV R R R (Ze R (iR R)) ?_)))))
  refine sW (.two R R R) R (fB R YBa iL fR R) ?_
  refine sW (.two R R R) R (Zb (a:=rI (x4.Ref)) R ts_3 (iR R) R R) ?_
  refine sW (.two R R R) R (ZD R (iR R) iL) ?_
  refine sV R R R (Zq R (iR R) (iR R)) (sQ R (Zy R iL (iR R)) (aZ (hK9 _ ?_)))
  refine aC R (fun hc2=>?_) (fun hc2=>?_)
  ·have h5:=Zn hc2 h4
   refine aS fun _ hK10 _=>?_
   refine Zi (s':=⟨[],[],((i3 0)+1),36⟩) (by exact Zc Za Za nL) ?_
   refine aR (sA R R (aZ (hK10 _ ?_)))
   refine Zj ?_
   exact Y1_ (he1 _ (hx1 _ (Zd h5).symm)) iL (.t (.d R))
  ·have h5:=Zo hc2 h4
   refine Zk (hK7 _ ?_)
   refine Zi (s':=⟨[(0,rI (kind1)),(7,qc l1),(8,rI ((l1.length:Int))),(9,rI (x2))],[],((i3 0)+1),36⟩) (by exact Zc ⟨jL,jL,jL,jL,Za⟩ Za nL) ?_
   refine aR (Zl h5 fun x5 ex5 h6=>(sQ R (ZI R iL iL (fun _=>ex5)) (sM R R ?_)))
   refine Zt ?_
   exact ZJ h6 (vec [((i3 0)+1)]) ((by exact Zc ⟨jL,jL,jL,jL,Za⟩ Za nL))
 ·have h3:=Zo hc1 h2
  refine ZL ?_
  exact wK2 _ _ ((by exact Zc Za Za nL)) (J1 _ (vec [(i3 0)]) (hx1 _ (Zd h3).symm))
theorem YIb {s1:List UInt8} {r:Bool} (h:YDE s1=some r):ARO Tryz.prog 220 [.r (.str s1)] (rB (r)):=by
 unfold YDE at h
 refine Zu Tryz.func220 R R Tryz.ntmps220 R (Zf R) fun n0=>?_
 refine aS fun _ hK1 _=>(aR (sA R R (aZ (hK1 _ ?_))))
 refine aS fun _ hK2 _=>(aS fun _ hK3 _=>(aR (sM R R (sQ R (YFP R iL iL) (sM R R (sV R R R (Ze R iL) (sV R R R (YAm R Tryz.underlying9 (iR R)) (sV R R R (ZR R (iR R) iL) (sQ R (Zy R iL (iR R)) (sM R R (sV R R R (Ze R iL) (sV R R R (Ze R iL) (sV R R R (YAm R Tryz.underlying9 (iR R)) (Zl h fun x1 ex1 h1=>(sV R R R (YBA R (iR R) iL (gdt ex1)) (Zl h1 fun ch1 ech1 h2=>(sV R R R (ZT R Tryz.underlying9 (iR R) (iR R) (gdt ech1)) (sV R R R (Zs R (iR R) iL) (sQ R (Zy R iL (iR R)) (aZ (hK3 _ ?_)))))))))))))))))))))
 refine aC R (fun hc1=>?_) (fun hc1=>?_)
 ·have h3:=Zn hc1 h2
  refine aS fun _ hK4 _=>?_
  refine Zi (s':=⟨[],[],n0,35⟩) (by exact Zc Za Za nL) ?_
  refine aR (sA R R (aZ (hK4 _ ?_)))
  refine Zj ?_
  exact Y2_ h3 iL (.t (.d R))
 ·have h3:=Zo hc1 h2
  refine Zk (hK2 _ ?_)
  refine aS fun K5 hK5 wK5=>(aS fun _ hK6 _=>?_)
  refine Zi (s':=⟨[(0,.r (.str s1))],[],n0,35⟩) (by exact Zc ⟨jL,Za⟩ Za nL) ?_
  refine aR (sM R R (sQ R (YAm R Tryz.underlying9 iL) (sM R R (aZ (hK6 _ ?_)))))
  refine Zp ?_
  refine jc1k h3 fun o1 hit1 hk1 he1=>?_
  have J1 : ∀ (u2:Unit) (i5:Nat→Nat),o1 = .nrm u2→K5 ⟨[],[],(i5 0),35⟩:=by
   intro u2 i5 e
   have h4:=hk1 _ e
   refine hK5 _ ?_
   refine aS fun _ hK7 _=>(aR (sA R R (aZ (hK7 _ ?_))))
   refine Zj ?_
   exact Y2_ h4 iL (.t (.d R))
  refine ZP (fun (x3:Int) i3=>⟨[(0,.r (.str s1)),(20,rI ((s1.length:Int))),(21,rI (x3))],[],(i3 0),35⟩) (vec [n0]) hit1 ((by exact Zc ⟨jL,jL,jL,Za⟩ Za nL)) ?_
  intro x3 i3 v1 hv1 hx1
  have h5:YCt s1 x3=some v1:=hv1; unfold YCt at h5
  refine aS fun _ hK8 _=>(aR (sQ R (Zv R iL iL) (aZ (hK8 _ ?_))))
  refine aS fun _ hK9 _=>?_
  refine aC R (fun hc2=>?_) (fun hc2=>?_)
  ·have h6:=Zn hc2 h5
   refine Zk (hK9 _ ?_)
   refine aS fun _ hK10 _=>(Zp (aS fun _ hK11 _=>(aR (sM R R (sA R R (aZ (hK11 _ ?_)))))))
   refine aS fun _ hK12 _=>(aR (sM R R (sM R R (Zl h6 fun ch2 ech2 h7=>(sQ R (ZT R Tryz.underlying9 iL iL (fun _=>ech2)) (sQ R (Zv R iL iL) (sM R R (sV R R R (Ze R iL) (sV R R R (Ze R iL) (sV R R R (ZT R Tryz.underlying9 (iR R) (iR R) (fun _=>ech2)) (sV R R R (ZR R (iR R) iL) (sQ R (Zy R iL (iR R)) (aZ (hK12 _ ?_))))))))))))))
   refine aC R (fun hc3=>?_) (fun hc3=>?_)
   ·have h8:=Zn hc3 h7
    refine aS fun _ hK13 _=>?_
    refine Zi (s':=⟨[],[],(i3 0),35⟩) (by exact Zc Za Za nL) ?_
    refine aR (sA R R (aZ (hK13 _ ?_)))
    refine Zj ?_
    exact Y2_ (he1 _ (hx1 _ (Zd h8).symm)) iL (.t (.d R))
   ·have h8:=Zo hc3 h7
    refine Zk (hK10 _ ?_)
    refine Zi (s':=⟨[(0,.r (.str s1)),(20,rI ((s1.length:Int))),(21,rI (x3))],[],(i3 0),35⟩) (by exact Zc ⟨jL,jL,jL,Za⟩ Za nL) ?_
    refine aR (Zl h8 fun x5 ex5 h9=>(sQ R (ZI R iL iL (fun _=>ex5)) (sM R R ?_)))
    refine Zt ?_
    exact ZJ h9 (vec [(i3 0)]) ((by exact Zc ⟨jL,jL,jL,Za⟩ Za nL))
  ·have h6:=Zo hc2 h5
   refine ZL ?_
   exact wK5 _ _ ((by exact Zc Za Za nL)) (J1 _ (vec [(i3 0)]) (hx1 _ (Zd h6).symm))
theorem YLR {o1:YAI} {r:Int} (h:YE6 o1=some r):ARO Tryz.prog 201 (k5_ o1) (rI (r)):=by
 unfold YE6 at h
 refine Zu Tryz.func201 R R Tryz.ntmps201 R (Zf R) fun n0=>?_
 refine aS fun _ hK1 _=>(aR (Zh R R R (ZM (cs:=(k7_ o1)) 1 R iL R R) (sA R R (aZ (hK1 _ ?_)))))
 refine aS fun _ hK2 _=>(Zp (aS fun _ hK3 _=>(aR (sQ R (fB R YDB iL fR R) (sQ R (Zb (a:=rI (o1.Kind)) R ts_3 iL R R) (sQ R (ZD R iL iL) (sM R R (sV R R R (fB R YDB iL fR R) (sV R R R (Zb (a:=rI (o1.Kind)) R ts_3 (iR R) R R) (sV R R R (ZD R (iR R) iL) (sQ R (Zq R iL (iR R)) (sA R R (aZ (hK3 _ ?_))))))))))))))
 refine aC R (fun hc1=>?_) (fun hc1=>?_)
 ·have h1:=Zn hc1 h
  refine aS fun _ hK4 _=>?_
  refine Zi (s':=⟨[],[],(n0+1),116⟩) (by exact Zc Za Za nL) ?_
  refine aR (sA R R (aZ (hK4 _ ?_)))
  refine Zj ?_
  exact Y1_ h1 iL (.t (.d R))
 ·have h1:=Zo hc1 h
  refine aS fun _ hK5 _=>?_
  refine Zi (s':=⟨[(1,.ptr 1 n0 0 0)],[(1,some (.box n0 176 (k7_ o1)))],(n0+1),116⟩) (by exact Zc ⟨jL,Za⟩ ⟨.inl R,Za⟩ nL) ?_
  refine aR (sQ R (fB R YD8 iL fR R) (sQ R (Zb (a:=rI (o1.Clock)) R ts_3 iL R R) (sQ R (Zv R iL iL) (sM R R (sV R R R (fB R YD8 iL fR R) (sV R R R (Zb (a:=rI (o1.Clock)) R ts_3 (iR R) R R) (sV R R R (ZR R (iR R) iL) (sQ R (Zy R iL (iR R)) (sM R R (sV R R R (fB R YFN iL fR R) (sV R R R (Zb (a:=rI (o1.Site)) R ts_3 (iR R) R R) (sV R R R (Zv R (iR R) iL) (sQ R (Zy R iL (iR R)) (sM R R (sV R R R (fB R YFN iL fR R) (sV R R R (Zb (a:=rI (o1.Site)) R ts_3 (iR R) R R) (sV R R R (ZR R (iR R) iL) (sQ R (Zy R iL (iR R)) (sM R R (sV R R R (fB R YKn iL fR R) (sV R R R (Zb (a:=rI (o1.Item)) R ts_3 (iR R) R R) (sV R R R (Zv R (iR R) iL) (sQ R (Zy R iL (iR R)) (sM R R (sV R R R (fB R YKn iL fR R) (sV R R R (Zb (a:=rI (o1.Item)) R ts_3 (iR R) R R) (sV R R R (ZR R (iR R) iL) (sQ R (Zy R iL (iR R)) (sA R R ?_)))))))))))))))))))))))))))))
  refine aZ (hK5 _ ?_)
  refine aC R (fun hc2=>?_) (fun hc2=>?_)
  ·have h2:=Zn hc2 h1
   refine aS fun _ hK6 _=>?_
   refine Zi (s':=⟨[],[],(n0+1),116⟩) (by exact Zc Za Za nL) ?_
   refine aR (sA R R (aZ (hK6 _ ?_)))
   refine Zj ?_
   exact Y1_ h2 iL (.t (.d R))
  ·have h2:=Zo hc2 h1
   refine aS fun K7 hK7 wK7=>(aS fun _ hK8 _=>?_)
   refine Zi (s':=⟨[(1,.ptr 1 n0 0 0)],[(1,some (.box n0 176 (k7_ o1)))],(n0+1),116⟩) (by exact Zc ⟨jL,Za⟩ ⟨.inl R,Za⟩ nL) ?_
   refine aR (sQ R (fB R YDB iL fR R) (sQ R (Zb (a:=rI (o1.Kind)) R ts_3 iL R R) (sQ R (Zs R iL iL) (sM R R (sV R R R (fB R YIO iL fR R) (sV R R R (Zb (a:=.r (.str o1.Name)) R ts_9 (iR R) R R) (sV R R R (YDC R (iR R) iL) (sV R R R (Ze R (iR R)) ?_))))))))
   refine sW (.two R R R) R (fB R YGK iL fR R) ?_
   refine sW (.two R R R) R (Zb (a:=.r (.str o1.Value)) R ts_9 (iR R) R R) ?_
   refine sW (.two R R R) R (YDC R (iR R) iL) ?_
   refine sV R R R (Zy R (iR R) (iR R)) (sQ R (Zq R iL (iR R)) (sA R R (aZ (hK8 _ ?_))))
   refine jb1k h2 fun p1 hp1 hk1=>?_
   have J1 : ∀ (x1:Bool) (i1:Nat→Nat),p1=x1→K7 ⟨[(1,.ptr 1 n0 0 0),(41,rB (x1))],[(1,some (.box n0 176 (k7_ o1)))],(i1 0),116⟩:=by
    intro x1 i1 e
    have h3:=hk1 _ e
    refine hK7 _ ?_
    refine aC R (fun hc3=>?_) (fun hc3=>?_)
    ·have h4:=Zn hc3 h3
     refine aS fun _ hK9 _=>(aR (sA R R (aZ (hK9 _ ?_))))
     refine Zj ?_
     exact Y1_ h4 iL (.t (.d R))
    ·have h4:=Zo hc3 h3
     refine aS fun _ hK10 _=>(aR (sQ R (fB R YDB iL fR R) (sQ R (Zb (a:=rI (o1.Kind)) R ts_3 iL R R) (sQ R (Zs R iL iL) (sM R R (sV R R R (fB R YG0 iL fR R) (sV R R R (Zb (a:=rI (o1.Parent)) R ts_3 (iR R) R R) (sV R R R (Zv R (iR R) iL) (sV R R R (Ze R (iR R)) ?_)))))))))
     refine sW (.two R R R) R (fB R YG0 iL fR R) ?_
     refine sW (.two R R R) R (Zb (a:=rI (o1.Parent)) R ts_3 (iR R) R R) ?_
     refine sW (.two R R R) R (ZR R (iR R) iL) ?_
     refine sV R R R (Zy R (iR R) (iR R)) (sQ R (Zq R iL (iR R)) (sA R R (aZ (hK10 _ ?_))))
     refine aC R (fun hc4=>?_) (fun hc4=>?_)
     ·have h5:=Zn hc4 h4
      refine aS fun _ hK11 _=>?_
      refine Zi (s':=⟨[],[],(i1 0),116⟩) (by exact Zc Za Za nL) ?_
      refine aR (sA R R (aZ (hK11 _ ?_)))
      refine Zj ?_
      exact Y1_ h5 iL (.t (.d R))
     ·have h5:=Zo hc4 h4
      refine aS fun K12 hK12 wK12=>(aS fun _ hK13 _=>?_)
      refine Zi (s':=⟨[(1,.ptr 1 n0 0 0)],[(1,some (.box n0 176 (k7_ o1)))],(i1 0),116⟩) (by exact Zc ⟨jL,Za⟩ ⟨.inl R,Za⟩ nL) ?_
      refine aR (sQ R (fB R YDB iL fR R) (sQ R (Zb (a:=rI (o1.Kind)) R ts_3 iL R R) (sQ R (Zs R iL iL) (sM R R (sV R R R (fB R YIP iL fR R) (sV R R R (Zb (a:=.r (.str o1.Place)) R ts_9 (iR R) R R) (Zl h5 fun r1 er1 h6=>?_)))))))
      refine ZA (.one R R R) R R (Zr (r:=rB (r1)) (caps:=[]) (bs:=[.r (.str o1.Place)]) R iL R ⟨⟨_,(iR R),.d R⟩,Za⟩ (fun hg=>YIb (gdt er1 hg)) R) ?_
      refine sV R R R (ZK R (iR R)) (sQ R (Zq R iL (iR R)) (sA R R (aZ (hK13 _ ?_))))
      refine jb1k h6 fun p2 hp2 hk2=>?_
      have J2 : ∀ (x2:Bool) (i2:Nat→Nat),p2=x2→K12 ⟨[(1,.ptr 1 n0 0 0),(82,rB (x2))],[(1,some (.box n0 176 (k7_ o1)))],(i2 0),116⟩:=by
       intro x2 i2 e
       have h7:=hk2 _ e
       refine hK12 _ ?_
       refine aC R (fun hc5=>?_) (fun hc5=>?_)
       ·have h8:=Zn hc5 h7
        refine aS fun _ hK14 _=>(aR (sA R R (aZ (hK14 _ ?_))))
        refine Zj ?_
        exact Y1_ h8 iL (.t (.d R))
       ·have h8:=Zo hc5 h7
        refine aS fun _ hK15 _=>(aR (sQ R (fB R YDB iL fR R) (sQ R (Zb (a:=rI (o1.Kind)) R ts_3 iL R R) (sQ R (Zs R iL iL) (sM R R (sV R R R (fB R YGK iL fR R) (sV R R R (Zb (a:=.r (.str o1.Value)) R ts_9 (iR R) R R) (sV R R R (YDC R (iR R) iL) (sQ R (Zq R iL (iR R)) (sM R R (sV R R R (fB R YGK iL fR R) (sV R R R (Zb (a:=.r (.str o1.Value)) R ts_9 (iR R) R R) (Zl h8 fun r2 er2 h9=>?_)))))))))))))
        refine ZA (.one R R R) R R (Zr (r:=rB (r2)) (caps:=[]) (bs:=[.r (.str o1.Value)]) R iL R ⟨⟨_,(iR R),.d R⟩,Za⟩ (fun hg=>YHm (gdt er2 hg)) R) ?_
        refine sV R R R (ZK R (iR R)) (sQ R (Zq R iL (iR R)) (sA R R (aZ (hK15 _ ?_))))
        refine aC R (fun hc6=>?_) (fun hc6=>?_)
        ·have h10:=Zn hc6 h9
         refine aS fun _ hK16 _=>?_
         refine Zi (s':=⟨[],[],(i2 0),116⟩) (by exact Zc Za Za nL) ?_
         refine aR (sA R R (aZ (hK16 _ ?_)))
         refine Zj ?_
         exact Y1_ h10 iL (.t (.d R))
        ·have h10:=Zo hc6 h9
         refine Zk (hK2 _ ?_)
         refine aS fun _ hK17 _=>?_
         refine Zi (s':=⟨[],[],(i2 0),116⟩) (by exact Zc Za Za nL) ?_
         refine aR (sA R R (aZ (hK17 _ ?_)))
         refine Zj ?_
         exact Y1_ h10 iL (.t (.d R))
      refine aC R (fun hc7=>?_) (fun hc7=>?_)
      ·have h11:=Zn hc7 hp2
       refine Zk ?_
       exact wK12 _ _ ((by exact Zc ⟨jL,jL,Za⟩ ⟨.inl R,Za⟩ nL)) (J2 _ (vec [(i1 0)]) (Zd h11).symm)
      ·have h11:=Zo hc7 hp2
       refine Zi (s':=⟨[(1,.ptr 1 n0 0 0)],[(1,some (.box n0 176 (k7_ o1)))],(i1 0),116⟩) (by exact Zc ⟨jL,Za⟩ ⟨.inl R,Za⟩ nL) ?_
       refine aR (sQ R (fB R YDB iL fR R) (sQ R (Zb (a:=rI (o1.Kind)) R ts_3 iL R R) (sQ R (Zs R iL iL) (sM R R (sV R R R (fB R YIO iL fR R) (sV R R R (Zb (a:=.r (.str o1.Name)) R ts_9 (iR R) R R) (Zl h11 fun r3 er3 h12=>?_)))))))
       refine ZA (.one R R R) R R (Zr (r:=rB (r3)) (caps:=[]) (bs:=[.r (.str o1.Name)]) R iL R ⟨⟨_,(iR R),.d R⟩,Za⟩ (fun hg=>YIx (gdt er3 hg)) R) ?_
       refine sV R R R (ZK R (iR R)) (sQ R (Zq R iL (iR R)) (sA R R ?_))
       refine Zt ?_
       exact wK12 _ _ ((by exact Zc ⟨jL,jL,Za⟩ ⟨.inl R,Za⟩ nL)) (J2 _ (vec [(i1 0)]) (Zd h12).symm)
   refine aC R (fun hc8=>?_) (fun hc8=>?_)
   ·have h13:=Zn hc8 hp1
    refine Zk ?_
    exact wK7 _ _ ((by exact Zc ⟨jL,jL,Za⟩ ⟨.inl R,Za⟩ nL)) (J1 _ (vec [(n0+1)]) (Zd h13).symm)
   ·have h13:=Zo hc8 hp1
    refine Zi (s':=⟨[(1,.ptr 1 n0 0 0)],[(1,some (.box n0 176 (k7_ o1)))],(n0+1),116⟩) (by exact Zc ⟨jL,Za⟩ ⟨.inl R,Za⟩ nL) ?_
    refine aR (sQ R (fB R YDB iL fR R) (sQ R (Zb (a:=rI (o1.Kind)) R ts_3 iL R R) (sQ R (Zs R iL iL) (sM R R (sV R R R (fB R YG0 iL fR R) (sV R R R (Zb (a:=rI (o1.Parent)) R ts_3 (iR R) R R) (sV R R R (ZD R (iR R) iL) (sV R R R (Ze R (iR R)) ?_))))))))
    refine sW (.two R R R) R (fB R YIP iL fR R) ?_
    refine sW (.two R R R) R (Zb (a:=.r (.str o1.Place)) R ts_9 (iR R) R R) ?_
    refine sW (.two R R R) R (YDC R (iR R) iL) ?_
    refine sV R R R (Zy R (iR R) (iR R)) (sQ R (Zq R iL (iR R)) (sA R R ?_))
    refine Zt ?_
    exact wK7 _ _ ((by exact Zc ⟨jL,jL,Za⟩ ⟨.inl R,Za⟩ nL)) (J1 _ (vec [(n0+1)]) (Zd h13).symm)
theorem YH9 {a1:YAI} {b1:YAI} {r:Int} (h:YCl a1 b1=some r):ARO Tryz.prog 202 [.agg (k7_ a1),.agg (k7_ b1)] (rI (r)):=by
 unfold YCl at h
 refine Zu Tryz.func202 R R Tryz.ntmps202 R (Zf R) fun n0=>?_
 refine aS fun _ hK1 _=>(aR (Zh R R R (ZM (cs:=(k7_ a1)) 2 R iL R R) (Zh R R R (ZM (cs:=(k7_ b1)) 3 R iL R R) (sA R R (aZ (hK1 _ ?_))))))
 refine aS fun _ hK2 _=>(Zl h fun r1 er1 h1=>?_)
 refine AW.regionP 9 [⟨some 5,(fun _=>.ptr 2 n0 0 0),none,[]⟩,⟨some 6,(fun _=>rI (a1.Clock)),none,[]⟩,⟨some 7,(fun _=>.ptr 3 (n0+1) 0 0),none,[]⟩,⟨some 8,(fun _=>rI (b1.Clock)),none,[]⟩,⟨some 9,(fun _=>rI (r1)),none,[]⟩,⟨some 10,(fun _=>.ptr 2 n0 0 1),none,[]⟩,⟨some 11,(fun _=>rI (a1.Site)),none,[]⟩,⟨some 12,(fun _=>.ptr 3 (n0+1) 0 1),none,[]⟩,⟨some 13,(fun _=>rI (b1.Site)),none,[]⟩] hmix (by kernel_rfl) (by exact ⟨fun _ _ h=>⟨R,fun _ _ e=>by cases e⟩,fun _ _ h=>⟨R,fun _ _ e=>by cases e⟩,fun _ _ h=>⟨R,fun _ _ e=>by cases e⟩,fun _ _ h=>⟨R,fun _ _ e=>by cases e⟩,fun _ _ h=>⟨R,fun _ _ e=>by cases e⟩,fun _ _ h=>⟨R,fun _ _ e=>by cases e⟩,fun _ _ h=>⟨R,fun _ _ e=>by cases e⟩,fun _ _ h=>⟨R,fun _ _ e=>by cases e⟩,fun _ _ h=>⟨R,fun _ _ e=>by cases e⟩,Za⟩) R (by exact ⟨ZH (n1:=fun n=>n) R R (by intro d h; cases h; rfl) R (fun _=>[(2,.ptr 2 n0 0 0)]) (fun _=>[(2,some (.box n0 176 (k7_ a1)))]) (fun D G1 hr=>⟨YAq R R,Za⟩) (fun D G1 hr=>⟨YAj R R,Za⟩) (fun _ _=>R) (fun G1 e h' n=>ZB (v:=.ptr 2 n0 0 0) (fB R YD8 (.inl R) (fun _=>R) R) _),
   ZH (n1:=fun n=>n) R R (by intro d h; cases h; rfl) R (fun _=>[(5,.ptr 2 n0 0 0)]) (fun _=>[(2,some (.box n0 176 (k7_ a1)))]) (fun D G1 hr=>⟨ZE hr 0 R R (by kernel_rfl) R R,Za⟩) (fun D G1 hr=>⟨YAj R R,Za⟩) (fun _ _=>R) (fun G1 e h' n=>ZB (v:=rI (a1.Clock)) (Zb (a:=rI (a1.Clock)) R ts_3 (.inl R) R R) _),
   ZH (n1:=fun n=>n) R R (by intro d h; cases h; rfl) R (fun _=>[(3,.ptr 3 (n0+1) 0 0)]) (fun _=>[(3,some (.box (n0+1) 176 (k7_ b1)))]) (fun D G1 hr=>⟨YAq R R,Za⟩) (fun D G1 hr=>⟨YAj R R,Za⟩) (fun _ _=>R) (fun G1 e h' n=>ZB (v:=.ptr 3 (n0+1) 0 0) (fB R YD8 (.inl R) (fun _=>R) R) _),
   ZH (n1:=fun n=>n) R R (by intro d h; cases h; rfl) R (fun _=>[(7,.ptr 3 (n0+1) 0 0)]) (fun _=>[(3,some (.box (n0+1) 176 (k7_ b1)))]) (fun D G1 hr=>⟨ZE hr 2 R R (by kernel_rfl) R R,Za⟩) (fun D G1 hr=>⟨YAj R R,Za⟩) (fun _ _=>R) (fun G1 e h' n=>ZB (v:=rI (b1.Clock)) (Zb (a:=rI (b1.Clock)) R ts_3 (.inl R) R R) _),
   ZH (n1:=fun n=>n) R R (by intro d h; cases h; rfl) R (fun _=>[(6,rI (a1.Clock)),(8,rI (b1.Clock))]) (fun _=>[]) (fun D G1 hr=>⟨ZE hr 1 R R (by kernel_rfl) R R,ZE hr 3 R R (by kernel_rfl) R R,Za⟩) (fun D G1 hr=>Za) (fun _ _=>R) (fun G1 e h' n=>Zr (r:=rI (r1)) (caps:=[]) (bs:=[rI (a1.Clock),rI (b1.Clock)]) R (.inl R) R ⟨⟨_,(.inl R),.d R⟩,⟨_,(.inl R),.d R⟩,Za⟩ (fun _=>YCU (er1)) R),
   ZH (n1:=fun n=>n) R R (by intro d h; cases h; rfl) R (fun _=>[(2,.ptr 2 n0 0 0)]) (fun _=>[(2,some (.box n0 176 (k7_ a1)))]) (fun D G1 hr=>⟨YAq R R,Za⟩) (fun D G1 hr=>⟨YAj R R,Za⟩) (fun _ _=>R) (fun G1 e h' n=>ZB (v:=.ptr 2 n0 0 1) (fB R YFN (.inl R) (fun _=>R) R) _),
   ZH (n1:=fun n=>n) R R (by intro d h; cases h; rfl) R (fun _=>[(10,.ptr 2 n0 0 1)]) (fun _=>[(2,some (.box n0 176 (k7_ a1)))]) (fun D G1 hr=>⟨ZE hr 5 R R (by kernel_rfl) R R,Za⟩) (fun D G1 hr=>⟨YAj R R,Za⟩) (fun _ _=>R) (fun G1 e h' n=>ZB (v:=rI (a1.Site)) (Zb (a:=rI (a1.Site)) R ts_3 (.inl R) R R) _),
   ZH (n1:=fun n=>n) R R (by intro d h; cases h; rfl) R (fun _=>[(3,.ptr 3 (n0+1) 0 0)]) (fun _=>[(3,some (.box (n0+1) 176 (k7_ b1)))]) (fun D G1 hr=>⟨YAq R R,Za⟩) (fun D G1 hr=>⟨YAj R R,Za⟩) (fun _ _=>R) (fun G1 e h' n=>ZB (v:=.ptr 3 (n0+1) 0 1) (fB R YFN (.inl R) (fun _=>R) R) _),
   ZH (n1:=fun n=>n) R R (by intro d h; cases h; rfl) R (fun _=>[(12,.ptr 3 (n0+1) 0 1)]) (fun _=>[(3,some (.box (n0+1) 176 (k7_ b1)))]) (fun D G1 hr=>⟨ZE hr 7 R R (by kernel_rfl) R R,Za⟩) (fun D G1 hr=>⟨YAj R R,Za⟩) (fun _ _=>R) (fun G1 e h' n=>ZB (v:=rI (b1.Site)) (Zb (a:=rI (b1.Site)) R ts_3 (.inl R) R R) _),
   Za⟩) fun G1 n1=>?_
 refine AOps.weak (s':=⟨[(0,.agg (k7_ a1)),(1,.agg (k7_ b1)),(2,.ptr 2 n0 0 0),(3,.ptr 3 (n0+1) 0 0),(4,rI (0)),(5,.ptr 2 n0 0 0),(6,rI (a1.Clock)),(7,.ptr 3 (n0+1) 0 0),(8,rI (b1.Clock)),(9,rI (r1)),(10,.ptr 2 n0 0 1),(11,rI (a1.Site)),(12,.ptr 3 (n0+1) 0 1),(13,rI (b1.Site))],[(2,some (.box n0 176 (k7_ a1))),(3,some (.box (n0+1) 176 (k7_ b1)))],n1,17⟩) (by exact Zc ⟨jL,jL,jL,jL,jL,jL,jL,jL,jL,jL,jL,jL,jL,jL,Za⟩ ⟨.inl R,.inl R,Za⟩ nL) ?_
 refine Zl h1 fun r2 er2 h2=>(Zh R R R (Zr (r:=rI (r2)) (caps:=[]) (bs:=[rI (a1.Site),rI (b1.Site)]) R iL R ⟨⟨_,iL,.d R⟩,⟨_,iL,.d R⟩,Za⟩ (fun _=>YCU (er2)) R) (Zh R R R (YCn 15 R YDr (f:=(rInt .i64)) (l:=([r1,r2]:List Int)) ⟨R,⟨_,iL,R⟩,R,⟨_,iL,R⟩,Za⟩ R (fun _=>R) R) (Zl h2 fun r3 er3 h3=>(Zh R R R (Zr (r:=rI (r3)) (caps:=[]) (bs:=[.r (.sl ([r1,r2].map (rInt .i64)))]) R iL R ⟨⟨_,iL,.one (.own R)⟩,Za⟩ (fun _=>YHl (er3)) R) (sA R R (aZ (hK2 _ ?_)))))))
 refine Zj ?_
 exact Y1_ h3 iL (.t (.d R))
theorem YIc {l1:List YAI} {r:Int} (h:YDF l1=some r):ARO Tryz.prog 173 [qd l1] (rI (r)):=by
 unfold YDF at h
 refine Zu Tryz.func173 R R Tryz.ntmps173 R (Zf R) fun n0=>?_
 refine aS fun _ hK1 _=>(aR (sA R R (aZ (hK1 _ ?_))))
 refine aS fun K2 hK2 wK2=>(aS fun _ hK3 _=>(aR (sM R R (sQ R (Zz R YGi.slice iL) (sM R R (aZ (hK3 _ ?_)))))))
 refine Zp ?_
 refine jc1k h fun o1 hit1 hk1 he1=>?_
 have J1 : ∀ (u2:Unit) (i5:Nat→Nat),o1 = .nrm u2→K2 ⟨[],[],(i5 0),31⟩:=by
  intro u2 i5 e
  have h1:=hk1 _ e
  refine hK2 _ ?_
  refine aS fun _ hK4 _=>(aR (sA R R (aZ (hK4 _ ?_))))
  refine Zj ?_
  exact Y1_ h1 iL (.t (.d R))
 refine ZP (fun (x2:Int) i3=>⟨[(0,qd l1),(6,qd l1),(7,rI ((l1.length:Int))),(8,rI (x2))],[],(i3 0),31⟩) (vec [n0]) hit1 ((by exact Zc ⟨jL,jL,jL,jL,Za⟩ Za nL)) ?_
 intro x2 i3 v1 hv1 hx1
 have h2:YB3 l1 x2=some v1:=hv1; unfold YB3 at h2
 refine aS fun _ hK5 _=>(aR (sQ R (Zv R iL iL) (aZ (hK5 _ ?_))))
 refine aS fun _ hK6 _=>?_
 refine aC R (fun hc1=>?_) (fun hc1=>?_)
 ·have h3:=Zn hc1 h2
  refine Zk (hK6 _ ?_)
  refine aS fun _ hK7 _=>(Zp (aS fun _ hK8 _=>(aR (sM R R (Zl h3 fun x4 ex4 h4=>(sQ R (Zx R YGi.slice iL iL (fun _=>R) (fun _=>ex4)) (sQ R (ZG (cs:=(k7_ x4)) R YG3 iL R R) (Zh R R R (YAi (cs:=[rI (0),rI (0),rI (0),rI (0),rI (0),.r (.str []),.r (.str []),.r (.str [])]) 4 R YRr R R) (sA R R (ZN R R (ZF (ds:=(k7_ x4)) R YRl iL R iL R R R R) (aZ (hK8 _ ?_))))))))))))
  refine aS fun _ hK9 _=>(aS fun _ hK10 _=>(aR (sQ R (ZC R YG3 iL R R) (Zl h4 fun e1 ee1 h5=>(Zh R R R (Zr (r:=rI (e1)) (caps:=[]) (bs:=(k5_ x4)) R iL R ⟨⟨_,iL,.g (cs:=[.int .i64 x4.Clock,.int .i64 x4.Site,.int .i64 x4.Kind,.int .i64 x4.Item,.int .i64 x4.Parent,.str x4.Place,.str x4.Name,.str x4.Value]) R R⟩,Za⟩ (fun _=>YLR (ee1)) R) (sA R R (aZ (hK10 _ ?_))))))))
  refine aS fun _ hK11 _=>(aR (sM R R (sQ R (ZD R iL iL) (aZ (hK11 _ ?_)))))
  refine aC R (fun hc2=>?_) (fun hc2=>?_)
  ·have h6:=Zn hc2 h5
   refine aS fun _ hK12 _=>?_
   refine Zi (s':=⟨[(5,rI (e1))],[],((i3 0)+1),31⟩) (by exact Zc ⟨jL,Za⟩ Za nL) ?_
   refine aR (sM R R (sA R R (aZ (hK12 _ ?_))))
   refine Zj ?_
   exact Y1_ (he1 _ (hx1 _ (Zd h6).symm)) iL (.t (.d R))
  ·have h6:=Zo hc2 h5
   refine Zk (hK9 _ ?_)
   refine aS fun _ hK13 _=>?_
   refine Zi (s':=⟨[(0,qd l1),(3,rI (x2)),(4,.ptr 4 (i3 0) 0 0),(6,qd l1),(7,rI ((l1.length:Int))),(8,rI (x2))],[(4,some (.box (i3 0) 176 (k7_ x4)))],((i3 0)+1),31⟩) (by exact Zc ⟨jL,jL,jL,jL,jL,jL,Za⟩ ⟨.inl R,Za⟩ nL) ?_
   refine ZS hmix (by kernel_rfl) ?_
   refine Zm R R R (Ze R iL) (Zm R R R (ZR R iL iL) (Zm R R R (Ze R iL) ?_))
   refine Zg (.one R R R) R R (Ze R iL) ?_
   refine Zg (.one R R R) R R (Ze R iL) ?_
   refine Zl h6 fun x5 ex5 h7=>?_
   refine Zg (.one R R R) R R (YBA R (iR R) iL (gdt ex5)) ?_
   refine Zl h7 fun x6 ex6 h8=>?_
   refine Zg (.one R R R) R R (Zx R YGi.slice (iR R) (iR R) (fun _=>R) (gdt ex6)) ?_
   refine Zg (.one R R R) R R (ZG (cs:=(k7_ x6)) R YG3 (iR R) R R) ?_
   refine Zg (.one R R R) R R (ZC R YG3 iL R R) ?_
   refine Zl h8 fun r1 er1 h9=>?_
   refine AQ.stepWC (.one R R R) R R (r:=rI (r1)) (caps:=[]) (bs:=[.agg (k7_ x6),.agg (k7_ x4)]) R iL R ⟨⟨_,(iR R),.g (cs:=[.int .i64 x6.Clock,.int .i64 x6.Site,.int .i64 x6.Kind,.int .i64 x6.Item,.int .i64 x6.Parent,.str x6.Place,.str x6.Name,.str x6.Value]) R R⟩,⟨_,(iR R),.g (cs:=[.int .i64 x4.Clock,.int .i64 x4.Site,.int .i64 x4.Kind,.int .i64 x4.Item,.int .i64 x4.Parent,.str x4.Place,.str x4.Name,.str x4.Value]) R R⟩,Za⟩ (fun hg=>YH9 (gdt er1 hg)) R ?_
   refine Zg (.one R R R) R R (YCg R (iR R) iL) ?_
   refine Zm R R R (Zq R iL (iR R)) ?_
   refine AQ.nil ?_
   refine hK13 _ ?_
   refine aC R (fun hc3=>?_) (fun hc3=>?_)
   ·have h10:=Zn hc3 h9
    refine aS fun _ hK14 _=>?_
    refine Zi (s':=⟨[],[],((i3 0)+1),31⟩) (by exact Zc Za Za nL) ?_
    refine aR (sA R R (aZ (hK14 _ ?_)))
    refine Zj ?_
    exact Y1_ (he1 _ (hx1 _ (Zd h10).symm)) iL (.t (.d R))
   ·have h10:=Zo hc3 h9
    refine Zk (hK7 _ ?_)
    refine aR (Zl h10 fun x7 ex7 h11=>(sQ R (ZI R iL iL (fun _=>ex7)) (sM R R ?_)))
    refine Zt ?_
    exact ZJ h11 (vec [((i3 0)+1)]) ((by exact Zc ⟨jL,jL,jL,jL,Za⟩ Za nL))
 ·have h3:=Zo hc1 h2
  refine ZL ?_
  exact wK2 _ _ ((by exact Zc Za Za nL)) (J1 _ (vec [(i3 0)]) (hx1 _ (Zd h3).symm))
theorem YIv {n1:YAJ} {r:Int} (h:YAr n1=some r):ARO Tryz.prog 127 (k4_ n1) (rI (r)):=by
 unfold YAr at h
 refine Zu Tryz.func127 R R Tryz.ntmps127 R (Zf R) fun n0=>?_
 refine aS fun _ hK1 _=>(aR (Zh R R R (ZM (cs:=(k6_ n1)) 1 R iL R R) (sA R R (aZ (hK1 _ ?_)))))
 refine aS fun _ hK2 _=>(Zp (aS fun _ hK3 _=>(aR (sQ R (fB R YBn iL fR R) (sQ R (Zb (a:=rI (n1.ID)) R ts_3 iL R R) (sQ R (Zv R iL iL) (sM R R (sV R R R (fB R YBn iL fR R) (sV R R R (Zb (a:=rI (n1.ID)) R ts_3 (iR R) R R) (sV R R R (ZR R (iR R) iL) (sQ R (Zy R iL (iR R)) (sA R R (aZ (hK3 _ ?_))))))))))))))
 refine aC R (fun hc1=>?_) (fun hc1=>?_)
 ·have h1:=Zn hc1 h
  refine aS fun _ hK4 _=>?_
  refine Zi (s':=⟨[],[],(n0+1),107⟩) (by exact Zc Za Za nL) ?_
  refine aR (sA R R (aZ (hK4 _ ?_)))
  refine Zj ?_
  exact Y1_ h1 iL (.t (.d R))
 ·have h1:=Zo hc1 h
  refine aS fun _ hK5 _=>?_
  refine Zi (s':=⟨[(1,.ptr 1 n0 0 0)],[(1,some (.box n0 46 (k6_ n1)))],(n0+1),107⟩) (by exact Zc ⟨jL,Za⟩ ⟨.inl R,Za⟩ nL) ?_
  refine aR (sQ R (fB R YA0 iL fR R) (sQ R (Zb (a:=rI (n1.Kind)) R ts_3 iL R R) (sQ R (Zv R iL iL) (sM R R (sV R R R (fB R YA0 iL fR R) (sV R R R (Zb (a:=rI (n1.Kind)) R ts_3 (iR R) R R) (sV R R R (YCg R (iR R) iL) (sQ R (Zy R iL (iR R)) (sM R R (sV R R R (fB R YBn iL fR R) (sV R R R (Zb (a:=rI (n1.ID)) R ts_3 (iR R) R R) (sV R R R (Zs R (iR R) iL) (sV R R R (fB R YA0 iL fR R) (sV R R R (Zb (a:=rI (n1.Kind)) R ts_3 (iR R) R R) (sV R R R (Zs R (iR R) iL) (sV R R R (YPN R Tryz.underlying4 (iR R) (iR R)) (sQ R (Zy R iL (iR R)) (sA R R (aZ (hK5 _ ?_))))))))))))))))))))
  refine aC R (fun hc2=>?_) (fun hc2=>?_)
  ·have h2:=Zn hc2 h1
   refine aS fun _ hK6 _=>?_
   refine Zi (s':=⟨[],[],(n0+1),107⟩) (by exact Zc Za Za nL) ?_
   refine aR (sA R R (aZ (hK6 _ ?_)))
   refine Zj ?_
   exact Y1_ h2 iL (.t (.d R))
  ·have h2:=Zo hc2 h1
   refine Zk (hK2 _ ?_)
   refine aS fun _ hK7 _=>(aS fun _ hK8 _=>?_)
   refine Zi (s':=⟨[(1,.ptr 1 n0 0 0)],[(1,some (.box n0 46 (k6_ n1)))],(n0+1),107⟩) (by exact Zc ⟨jL,Za⟩ ⟨.inl R,Za⟩ nL) ?_
   refine aR (sQ R (fB R YKm iL fR R) (sQ R (Zb (a:=qa n1.Attrs) R YEm iL R R) (Zl h2 fun e1 ee1 h3=>(Zh R R R (Zr (r:=rI (e1)) (caps:=[]) (bs:=[qa n1.Attrs]) R iL R ⟨⟨_,iL,.d R⟩,Za⟩ (fun _=>YFt (ee1)) R) (sA R R (aZ (hK8 _ ?_)))))))
   refine aS fun _ hK9 _=>(aR (sM R R (sQ R (ZD R iL iL) (aZ (hK9 _ ?_)))))
   refine aC R (fun hc3=>?_) (fun hc3=>?_)
   ·have h4:=Zn hc3 h3
    refine aS fun _ hK10 _=>(aR (sM R R (sA R R (aZ (hK10 _ ?_)))))
    refine Zj ?_
    exact Y1_ h4 iL (.t (.d R))
   ·have h4:=Zo hc3 h3
    refine Zk (hK7 _ ?_)
    refine aS fun _ hK11 _=>?_
    refine ZS hmix (by kernel_rfl) ?_
    refine Zm R R R (fB R YA0 iL fR R) (Zm R R R (Zb (a:=rI (n1.Kind)) R ts_3 iL R R) (Zl h4 fun r1 er1 h5=>?_))
    refine AQ.stepC R R R (r:=rB (r1)) (caps:=[]) (bs:=[rI (n1.Kind)]) R iL R ⟨⟨_,iL,.d R⟩,Za⟩ (fun _=>YIr (er1)) R ?_
    refine Zm R R R (Ze R iL) ?_
    refine Zg (.one R R R) R R (fB R YA0 iL fR R) ?_
    refine Zg (.one R R R) R R (Zb (a:=rI (n1.Kind)) R ts_3 (iR R) R R) ?_
    refine Zl h5 fun r2 er2 h6=>?_
    refine AQ.stepWC (.one R R R) R R (r:=rB (r2)) (caps:=[]) (bs:=[rI (n1.Kind)]) R iL R ⟨⟨_,(iR R),.d R⟩,Za⟩ (fun hg=>YMm (gdt er2 hg)) R ?_
    refine Zm R R R (Zy R iL (iR R)) (Zm R R R (fB R YA0 iL fR R) (Zm R R R (Zb (a:=rI (n1.Kind)) R ts_3 iL R R) (Zl h6 fun grids1 egrids1 h7=>?_)))
    refine AQ.stepC R R R (r:=rB (grids1)) (caps:=[]) (bs:=[rI (n1.Kind)]) R iL R ⟨⟨_,iL,.d R⟩,Za⟩ (fun _=>YIt (egrids1)) R ?_
    refine Zm R R R (YA8 R iL) (Zm R R R (YA8 R iL) ?_)
    refine AQ.nil ?_
    refine hK11 _ ?_
    refine aS fun _ hK12 _=>(aS fun K13 hK13 wK13=>?_)
    refine Zi (s':=⟨[(1,.ptr 1 n0 0 0),(4,rB ((r1 || r2))),(5,rB (grids1))],[(1,some (.box n0 46 (k6_ n1)))],(n0+1),107⟩) (by exact Zc ⟨jL,jL,jL,Za⟩ ⟨.inl R,Za⟩ nL) ?_
    refine aR (sM R R (sQ R (ZK R iL) (sM R R (sV R R R (fB R YEu iL fR R) (sV R R R (Zb (a:=qe n1.Flow) R YID (iR R) R R) (sV R R R (Zz R YDf.slice (iR R)) (sV R R R (ZR R (iR R) iL) (sQ R (Zq R iL (iR R)) (sM R R (sV R R R (Ze R iL) (sV R R R (ZK R (iR R)) (sV R R R (Ze R (iR R)) ?_))))))))))))
    refine sW (.two R R R) R (fB R YBL iL fR R) ?_
    refine sW (.two R R R) R (YAx (ds:=(k14_ n1.Grid)) R YOO (iR R) R R R) ?_
    refine sW (.two R R R) R (YAn R tb_43 (q:=[]) (by exact Za) (cs:=z10_) (by rfl)) ?_
    refine jb1k h7 fun p1 hp1 hk1=>?_
    have J1 : ∀ (x1:Bool) (i1:Nat→Nat),p1=x1→K13 ⟨[(1,.ptr 1 n0 0 0),(4,rB ((r1 || r2))),(5,rB (grids1)),(81,rB (x1))],[(1,some (.box n0 46 (k6_ n1)))],(i1 0),107⟩:=by
     intro x1 i1 e
     have h8:=hk1 _ e
     refine hK13 _ ?_
     refine aC R (fun hc4=>?_) (fun hc4=>?_)
     ·have h9:=Zn hc4 h8
      refine aS fun _ hK14 _=>(aR (sA R R (aZ (hK14 _ ?_))))
      refine Zj ?_
      exact Y1_ h9 iL (.t (.d R))
     ·have h9:=Zo hc4 h8
      refine Zk (hK12 _ ?_)
      refine aS fun _ hK15 _=>(Zp (aS fun _ hK16 _=>(aR (sM R R (sA R R (aZ (hK16 _ ?_)))))))
      refine aC R (fun hc5=>?_) (fun hc5=>?_)
      ·have h10:=Zn hc5 h9
       refine aS fun _ hK17 _=>?_
       refine ZS hmix (by kernel_rfl) ?_
       refine Zm R R R (fB R YEu iL fR R) (Zm R R R (Zb (a:=qe n1.Flow) R YID iL R R) (Zm R R R (fB R YA0 iL fR R) (Zm R R R (Zb (a:=rI (n1.Kind)) R ts_3 iL R R) ?_)))
       refine AQ.stepC R R R (r:=rB (r1)) (caps:=[]) (bs:=[rI (n1.Kind)]) R iL R ⟨⟨_,iL,.d R⟩,Za⟩ (fun _=>YIr (er1)) R ?_
       refine Zl h10 fun r4 er4 h11=>?_
       refine AQ.stepC R R R (r:=rI (r4)) (caps:=[]) (bs:=[qe n1.Flow,rB (r1)]) R iL R ⟨⟨_,iL,.d R⟩,⟨_,iL,.d R⟩,Za⟩ (fun _=>YLZ (er4)) R ?_
       refine Zm R R R (YA8 R iL) ?_
       refine AQ.nil ?_
       refine hK17 _ ?_
       refine Zj ?_
       exact Y1_ h11 iL (.t (.d R))
      ·have h10:=Zo hc5 h9
       refine aS fun _ hK18 _=>(aR (sM R R (sA R R (aZ (hK18 _ ?_)))))
       refine aC R (fun hc6=>?_) (fun hc6=>?_)
       ·have h12:=Zn hc6 h10
        refine aS fun _ hK19 _=>(aS fun _ hK20 _=>(aR (sQ R (fB R YBL iL fR R) (sQ R (YAx (ds:=(k14_ n1.Grid)) R YOO iL R R R) (Zl h12 fun e2 ee2 h13=>(Zh R R R (Zr (r:=rI (e2)) (caps:=[]) (bs:=(k12_ n1.Grid)) R iL R ⟨⟨_,iL,.g (cs:=[.int .i64 n1.Grid.Rows,.int .i64 n1.Grid.Cols,.sl (n1.Grid.Cells.map YAL.row),.sl (n1.Grid.Merges.map YAQ.row)]) R R⟩,Za⟩ (fun _=>YLY (ee2)) R) (sA R R (aZ (hK20 _ ?_)))))))))
        refine aS fun _ hK21 _=>?_
        refine Zi (s':=⟨[(1,.ptr 1 n0 0 0),(6,rI (e2))],[(1,some (.box n0 46 (k6_ n1)))],(i1 0),107⟩) (by exact Zc ⟨jL,jL,Za⟩ ⟨.inl R,Za⟩ nL) ?_
        refine aR (sM R R (sQ R (ZD R iL iL) (aZ (hK21 _ ?_))))
        refine aC R (fun hc7=>?_) (fun hc7=>?_)
        ·have h14:=Zn hc7 h13
         refine aS fun _ hK22 _=>(aR (sM R R (sA R R (aZ (hK22 _ ?_)))))
         refine Zj ?_
         exact Y1_ h14 iL (.t (.d R))
        ·have h14:=Zo hc7 h13
         refine Zk (hK19 _ ?_)
         refine aS fun _ hK23 _=>(aR (sQ R (fB R YA0 iL fR R) (sQ R (Zb (a:=rI (n1.Kind)) R ts_3 iL R R) (sQ R (fB R YBL iL fR R) (sQ R (fB R YCJ iL fR R) (sQ R (Zb (a:=qc n1.Grid.Cells) R YE1 iL R R) (Zl h14 fun r5 er5 h15=>(Zh R R R (Zr (r:=rI (r5)) (caps:=[]) (bs:=[rI (n1.Kind),qc n1.Grid.Cells]) R iL R ⟨⟨_,iL,.d R⟩,⟨_,iL,.d R⟩,Za⟩ (fun _=>YIB (er5)) R) (sA R R (aZ (hK23 _ ?_)))))))))))
         refine Zj ?_
         exact Y1_ h15 iL (.t (.d R))
       ·have h12:=Zo hc6 h10
        refine Zk (hK15 _ ?_)
        refine aS fun _ hK24 _=>(aR (sQ R (fB R YFu iL fR R) (sQ R (Zb (a:=qd n1.Draw) R YJs iL R R) (Zl h12 fun r6 er6 h16=>(Zh R R R (Zr (r:=rI (r6)) (caps:=[]) (bs:=[qd n1.Draw]) R iL R ⟨⟨_,iL,.d R⟩,Za⟩ (fun _=>YIc (er6)) R) (sA R R (aZ (hK24 _ ?_))))))))
        refine Zj ?_
        exact Y1_ h16 iL (.t (.d R))
    refine AOps.split (((!(r1 || r2)) && (decide (0<(n1.Flow.length:Int)))) == false) (fun hg1=>?_) (fun hg1=>?_)
    ·have h17:=Zn hg1 hp1
     refine AOps.weak (by exact Weak.unw2 (e':=[(1,.ptr 1 n0 0 0),(4,rB ((r1 || r2))),(5,rB (grids1)),(51,rB ((r1 || r2))),(52,rB ((!(r1 || r2)))),(53,rB ((!(r1 || r2)))),(58,rB (((!(r1 || r2)) && (decide (0<(n1.Flow.length:Int)))))),(59,rB (((!(r1 || r2)) && (decide (0<(n1.Flow.length:Int)))))),(60,rB (grids1)),(61,rB ((!grids1))),(62,rB ((!grids1))),(63,.whn ((!grids1) == true) (.ptr 1 n0 0 4)),(64,.whn ((!grids1) == true) (.agg (k14_ n1.Grid))),(65,.whn ((!grids1) == true) (.agg z10_))]) hg1 ⟨.inl R,.inl R,.inl R,.inl R,.inl R,.inl R,.inl R,.inl R,.inr iL,.inr iL,.inr iL,.inr (.inr (.inl ⟨_,_,R,R⟩)),.inr (.inr (.inl ⟨_,_,R,R⟩)),.inr (.inr (.inl ⟨_,_,R,R⟩)),Za⟩) ?_
     refine AOps.split ((!grids1) == true) (fun hg2=>?_) (fun hg2=>?_)
     ·have h18:=Zn hg2 h17
      refine AOps.weak (by exact Weak.unw2 (e':=[(1,.ptr 1 n0 0 0),(4,rB ((r1 || r2))),(5,rB (grids1)),(51,rB ((r1 || r2))),(52,rB ((!(r1 || r2)))),(53,rB ((!(r1 || r2)))),(58,rB (((!(r1 || r2)) && (decide (0<(n1.Flow.length:Int)))))),(59,rB (((!(r1 || r2)) && (decide (0<(n1.Flow.length:Int)))))),(60,rB (grids1)),(61,rB ((!grids1))),(62,rB ((!grids1))),(63,.ptr 1 n0 0 4),(64,.agg (k14_ n1.Grid)),(65,.agg z10_)]) hg2 ⟨.inl R,.inl R,.inl R,.inl R,.inl R,.inl R,.inl R,.inl R,.inl R,.inl R,.inl R,.inr iL,.inr iL,.inr iL,Za⟩) ?_
      refine AOps.weak (by exact Zc (e':=[(1,.ptr 1 n0 0 0),(4,rB ((r1 || r2))),(5,rB (grids1)),(51,rB ((r1 || r2))),(52,rB ((!(r1 || r2)))),(53,rB ((!(r1 || r2)))),(58,rB (((!(r1 || r2)) && (decide (0<(n1.Flow.length:Int)))))),(59,rB (((!(r1 || r2)) && (decide (0<(n1.Flow.length:Int)))))),(60,rB (grids1)),(61,rB ((!grids1))),(62,rB ((!grids1))),(63,.ptr 1 n0 0 4),(64,.agg (k14_ n1.Grid)),(65,.agg [rI (0),rI (0),.r (.sl []),.r (.sl [])])]) (h':=[(1,some (.box n0 46 (k6_ n1)))]) ⟨jL,jL,jL,jL,jL,jL,jL,jL,jL,jL,jL,jL,jL,.inr ⟨_,_,R,R,⟨.inl R,.inl R,.inr (.inr ⟨R,R⟩),.inr (.inr ⟨R,R⟩),Za⟩⟩,Za⟩ ⟨.inl R,Za⟩ nL) ?_
      refine Zl h18 fun r7 er7 h19=>?_
      refine AOps.stepGT (.one R R R) hg2 R R (Zr (r:=rB (r7)) (caps:=[]) (bs:=[.agg (k14_ n1.Grid),.agg [rI (0),rI (0),.r (.sl []),.r (.sl [])]]) R (.inl R) R ⟨⟨_,(.inl R),.g (cs:=[.int .i64 n1.Grid.Rows,.int .i64 n1.Grid.Cols,.sl (n1.Grid.Cells.map YAL.row),.sl (n1.Grid.Merges.map YAQ.row)]) R R⟩,⟨_,(.inl R),.g (cs:=[.int .i64 0,.int .i64 0,.sl ([].map YAL.row),.sl ([].map YAQ.row)]) R R⟩,Za⟩ (fun _=>YMk (er7)) R) ?_
      refine AOps.stepGT (.one R R R) hg2 R R (ZB (ZK R (.inl R)) _) ?_
      refine AOps.stepGT (.one R R R) hg1 R R (ZB (Zq R (.inl R) (.inl R)) _) ?_
      refine sQ R (Zy R iL iL) (sM R R (sV R R R (fB R YA0 iL fR R) (sV R R R (Zb (a:=rI (n1.Kind)) R ts_3 (iR R) R R) (Zl h19 fun r8 er8 h20=>?_))))
      refine ZA (.one R R R) R R (Zr (r:=rB (r8)) (caps:=[]) (bs:=[rI (n1.Kind)]) R iL R ⟨⟨_,(iR R),.d R⟩,Za⟩ (fun hg=>YGh (gdt er8 hg)) R) ?_
      refine sV R R R (ZK R (iR R)) (sV R R R (Ze R (iR R)) ?_)
      refine sW (.two R R R) R (fB R YFu iL fR R) ?_
      refine sW (.two R R R) R (Zb (a:=qd n1.Draw) R YJs (iR R) R R) ?_
      refine sW (.two R R R) R (Zz R YGi.slice (iR R)) ?_
      refine sW (.two R R R) R (ZR R (iR R) iL) ?_
      refine sV R R R (Zq R (iR R) (iR R)) (sQ R (Zy R iL (iR R)) ?_)
      refine Zt ?_
      exact wK13 _ _ ((by exact Zc ⟨jL,jL,jL,jL,Za⟩ ⟨.inl R,Za⟩ nL)) (J1 _ (vec [(n0+1)]) (Zd h20).symm)
     ·have h18:=Zo hg2 h17
      refine AOps.stepGF2 (.one R R R) hg2 R R ?_
      refine AOps.stepGF2 (.one R R R) hg2 R R ?_
      refine AOps.stepGT (.one R R R) hg1 R R (ZB (Zq R (.inl R) (iR R)) _) ?_
      refine sQ R (Zy R iL iL) (sM R R (sV R R R (fB R YA0 iL fR R) (sV R R R (Zb (a:=rI (n1.Kind)) R ts_3 (iR R) R R) (Zl h18 fun r9 er9 h21=>?_))))
      refine ZA (.one R R R) R R (Zr (r:=rB (r9)) (caps:=[]) (bs:=[rI (n1.Kind)]) R iL R ⟨⟨_,(iR R),.d R⟩,Za⟩ (fun hg=>YGh (gdt er9 hg)) R) ?_
      refine sV R R R (ZK R (iR R)) (sV R R R (Ze R (iR R)) ?_)
      refine sW (.two R R R) R (fB R YFu iL fR R) ?_
      refine sW (.two R R R) R (Zb (a:=qd n1.Draw) R YJs (iR R) R R) ?_
      refine sW (.two R R R) R (Zz R YGi.slice (iR R)) ?_
      refine sW (.two R R R) R (ZR R (iR R) iL) ?_
      refine sV R R R (Zq R (iR R) (iR R)) (sQ R (Zy R iL (iR R)) ?_)
      refine Zt ?_
      exact wK13 _ _ ((by exact Zc ⟨jL,jL,jL,jL,Za⟩ ⟨.inl R,Za⟩ nL)) (J1 _ (vec [(n0+1)]) (Zd h21).symm)
    ·have h17:=Zo hg1 hp1
     refine AOps.stepGF2 (.two R R R) (andF hg1) R R ?_
     refine AOps.stepGF2 (.two R R R) (andF hg1) R R ?_
     refine AOps.stepGF2 (.one R R R) hg1 R R ?_
     refine sQ R (Zy R iL (iR R)) (sM R R (sV R R R (fB R YA0 iL fR R) (sV R R R (Zb (a:=rI (n1.Kind)) R ts_3 (iR R) R R) (Zl h17 fun r10 er10 h22=>?_))))
     refine ZA (.one R R R) R R (Zr (r:=rB (r10)) (caps:=[]) (bs:=[rI (n1.Kind)]) R iL R ⟨⟨_,(iR R),.d R⟩,Za⟩ (fun hg=>YGh (gdt er10 hg)) R) ?_
     refine sV R R R (ZK R (iR R)) (sV R R R (Ze R (iR R)) ?_)
     refine sW (.two R R R) R (fB R YFu iL fR R) ?_
     refine sW (.two R R R) R (Zb (a:=qd n1.Draw) R YJs (iR R) R R) ?_
     refine sW (.two R R R) R (Zz R YGi.slice (iR R)) ?_
     refine sW (.two R R R) R (ZR R (iR R) iL) ?_
     refine sV R R R (Zq R (iR R) (iR R)) (sQ R (Zy R iL (iR R)) ?_)
     refine Zt ?_
     exact wK13 _ _ ((by exact Zc ⟨jL,jL,jL,jL,Za⟩ ⟨.inl R,Za⟩ nL)) (J1 _ (vec [(n0+1)]) (Zd h22).symm)
theorem YSF {f1:List YAN} {r:(List Int)} (h:YME f1=some r):ARO Tryz.prog 174 [qe f1] (.r (.sl (r.map (rInt .i64)))):=by
 unfold YME at h
 refine Zu Tryz.func174 R R Tryz.ntmps174 R (Zf R) fun n0=>?_
 refine aS fun _ hK1 _=>(aR (sA R R (aZ (hK1 _ ?_))))
 refine aS fun _ hK2 _=>(aR (sA R R (aZ (hK2 _ ?_))))
 refine aS fun K3 hK3 wK3=>(aS fun _ hK4 _=>(aR (sM R R (sQ R (Zz R YDf.slice iL) (sM R R (aZ (hK4 _ ?_)))))))
 refine Zp ?_
 refine jb1k h fun o1 hit1 hk1=>?_
 have J1 : ∀ (out4:List Int) (i5:Nat→Nat),o1=out4→K3 ⟨[(3,.own 5003 (i5 0))],[(5003,some (.arr (i5 0) 3 1 (out4.map (rInt .i64))))],(i5 1),22⟩:=by
  intro out4 i5 e
  have h1:=hk1 _ e
  refine hK3 _ ?_
  refine aS fun _ hK5 _=>(aR (sM R R (sA R R (aZ (hK5 _ ?_)))))
  refine Zj ?_
  exact YOY (P:=Tryz.prog) (fun (r:(List Int))=>.r (.sl (r.map (rInt .i64)))) h1 iL (.t (.one (.own R)))
 refine AW.iter2 (fun (x2:Int) (out2:List Int) i3=>⟨[(3,.own 5003 (i3 0)),(6,qe f1),(7,rI ((f1.length:Int))),(8,rI (x2))],[(5003,some (.arr (i3 0) 3 1 (out2.map (rInt .i64))))],(i3 1),22⟩) (vec [n0,(n0+1)]) hit1 (Weak.trans (Weak.trans (Weak.adopt 3 5003 3 1 (by decide) R) (by exact Zc (e':=[(0,qe f1),(2,.cst (.slice none 0 0)),(3,.own 5003 n0),(6,qe f1),(7,rI ((f1.length:Int))),(8,rI (0))]) (h':=[(5003,some (.arr n0 3 1 (([]:List Int).map (rInt .i64))))]) ⟨jL,jL,jL,jL,jL,jL,Za⟩ ⟨.inl R,Za⟩ nL)) (by exact Zc ⟨jL,jL,jL,jL,Za⟩ ⟨.inl R,Za⟩ nL)) ?_
 intro x2 out2 i3 v1 hv1 hx1
 have h2:YBw f1 x2 out2=some v1:=hv1; unfold YBw at h2
 refine aS fun _ hK6 _=>(aR (sQ R (Zv R iL iL) (aZ (hK6 _ ?_))))
 refine aS fun _ hK7 _=>?_
 refine aC R (fun hc1=>?_) (fun hc1=>?_)
 ·have h3:=Zn hc1 h2
  refine Zk (hK7 _ ?_)
  refine aS fun K8 hK8 wK8=>(Zp ?_)
  refine jb1k h3 fun p1 hp1 hk2=>?_
  have J2 : ∀ (out5:List Int) (i6:Nat→Nat),p1=out5→K8 ⟨[(3,.own 5003 (i6 0)),(6,qe f1),(7,rI ((f1.length:Int))),(8,rI (x2))],[(5003,some (.arr (i6 0) 3 1 (out5.map (rInt .i64))))],(i6 1),22⟩:=by
   intro out5 i6 e
   have h4:=hk2 _ e
   refine hK8 _ ?_
   refine aR (Zl h4 fun x4 ex4 h5=>(sQ R (ZI R iL iL (fun _=>ex4)) (sM R R ?_)))
   refine Zt ?_
   exact YFi.mk h5 (vec [(i6 0),(i6 1)]) ((by exact Zc ⟨jL,jL,jL,jL,Za⟩ ⟨.inl R,Za⟩ nL))
  refine aS fun _ hK9 _=>(aR (Zl hp1 fun x5 ex5 h6=>(sQ R (Zx R YDf.slice iL iL (fun _=>R) (fun _=>ex5)) (sQ R (ZG (cs:=(k20_ x5)) R YLe iL R R) (Zh R R R (YAi (cs:=z18_) 5 R YQm R R) (ZN R R (ZF (ds:=(k20_ x5)) R YQi iL R iL R R R R) (aZ (hK9 _ ?_))))))))
  refine aS fun _ hK10 _=>(aR (sQ R (fB R YCI iL fR R) (sQ R (Zb (a:=rI (x5.Ref)) R ts_3 iL R R) (sQ R (ZD R iL iL) (aZ (hK10 _ ?_))))))
  refine aC R (fun hc2=>?_) (fun hc2=>?_)
  ·have h7:=Zn hc2 h6
   refine aR (sM R R (sQ R (fB R YCI iL fR R) (sQ R (Zb (a:=rI (x5.Ref)) R ts_3 iL R R) (Zh R R R (YCn 18 R YDr (f:=(rInt .i64)) (l:=([x5.Ref]:List Int)) ⟨R,⟨_,iL,R⟩,Za⟩ R (fun _=>R) R) (Zl h7 fun out6 eout6 h8=>(Zh R R R (YJQ R YDr iL R (.inr (.inl ⟨_,_,iL,R⟩)) eout6) (sA R R ?_)))))))
   refine Zt ?_
   exact wK8 _ _ ((by exact Zc ⟨jL,jL,jL,jL,Za⟩ ⟨.inl R,Za⟩ nL)) (J2 _ (vec [((i3 1)+2),((i3 1)+3)]) (Zd h8).symm)
  ·have h7:=Zo hc2 h6
   refine Zk ?_
   exact wK8 _ _ ((by exact Zc ⟨jL,jL,jL,jL,Za⟩ ⟨.inl R,Za⟩ nL)) (J2 _ (vec [(i3 0),((i3 1)+1)]) (Zd h7).symm)
 ·have h3:=Zo hc1 h2
  refine ZL ?_
  exact wK3 _ _ ((by exact Zc ⟨jL,Za⟩ ⟨.inl R,Za⟩ nL)) (J1 _ (vec [(i3 0),(i3 1)]) (hx1 _ (Zd h3).symm))
theorem YKh {f1:List YAN} {r:(List Int)} (h:YEb f1=some r):AHC Tryz.prog 174 1 [qe f1] [] (fun rr h'=>∃ (i:Nat→Nat),rr = .own 1000 (i 0)∧h'=[(1000,some (.arr (i 0) 3 1 (r.map (rInt .i64))))]):=by
 unfold YEb at h
 refine AHC.mkw Tryz.func174 R R Tryz.ntmps174 (Zf R) fun n0=>?_
 refine aS fun _ hK1 _=>(aR (sA R R (aZ (hK1 _ ?_))))
 refine aS fun _ hK2 _=>(aR (sA R R (aZ (hK2 _ ?_))))
 refine aS fun K3 hK3 wK3=>(aS fun _ hK4 _=>(aR (sM R R (sQ R (Zz R YDf.slice iL) (sM R R (aZ (hK4 _ ?_)))))))
 refine Zp ?_
 refine jb1k h fun o1 hit1 hk1=>?_
 have J1 : ∀ (out4:List Int) (i5:Nat→Nat),o1=out4→K3 ⟨[(3,.own 5003 (i5 0))],[(5003,some (.arr (i5 0) 3 1 (out4.map (rInt .i64))))],(i5 1),22⟩:=by
  intro out4 i5 e
  have h1:=hk1 _ e
  refine hK3 _ ?_
  refine aS fun _ hK5 _=>(aR (sM R R (sA R R (aZ (hK5 _ ?_)))))
  refine Zj ?_
  exact RetW.mk (s':=⟨[(2,.own 1000 (i5 1))],[(1000,some (.arr (i5 1) 3 1 (out4.map (rInt .i64))))],((i5 1)+1),22⟩) (Weak.trans (Weak.trans (Weak.ren 2 5003 1000 R R R) (by exact Zc (e':=[(2,.own 1000 (i5 1))]) (h':=[(1000,some (.arr (i5 1) 3 1 (out4.map (rInt .i64))))]) ⟨jL,Za⟩ ⟨.inl R,Za⟩ nL)) (by exact Zc ⟨jL,Za⟩ ⟨.inl R,Za⟩ nL)) (YEW (fun (r:(List Int)) rr h'=>∃ (i:Nat→Nat),rr = .own 1000 (i 0)∧h'=[(1000,some (.arr (i 0) 3 1 (r.map (rInt .i64))))]) h1 (by exact ⟨.own 1000 (i5 1),[(1000,some (.arr (i5 1) 3 1 (out4.map (rInt .i64))))],R,⟨.inr R,Za⟩,R,R,vec [(i5 1)],R,R⟩))
 refine AW.iter2 (fun (x2:Int) (out2:List Int) i3=>⟨[(3,.own 5003 (i3 0)),(6,qe f1),(7,rI ((f1.length:Int))),(8,rI (x2))],[(5003,some (.arr (i3 0) 3 1 (out2.map (rInt .i64))))],(i3 1),22⟩) (vec [n0,(n0+1)]) hit1 (Weak.trans (Weak.trans (Weak.adopt 3 5003 3 1 (by decide) R) (by exact Zc (e':=[(0,qe f1),(2,.cst (.slice none 0 0)),(3,.own 5003 n0),(6,qe f1),(7,rI ((f1.length:Int))),(8,rI (0))]) (h':=[(5003,some (.arr n0 3 1 (([]:List Int).map (rInt .i64))))]) ⟨jL,jL,jL,jL,jL,jL,Za⟩ ⟨.inl R,Za⟩ nL)) (by exact Zc ⟨jL,jL,jL,jL,Za⟩ ⟨.inl R,Za⟩ nL)) ?_
 intro x2 out2 i3 v1 hv1 hx1
 have h2:YA4 f1 x2 out2=some v1:=hv1; unfold YA4 at h2
 refine aS fun _ hK6 _=>(aR (sQ R (Zv R iL iL) (aZ (hK6 _ ?_))))
 refine aS fun _ hK7 _=>?_
 refine aC R (fun hc1=>?_) (fun hc1=>?_)
 ·have h3:=Zn hc1 h2
  refine Zk (hK7 _ ?_)
  refine aS fun K8 hK8 wK8=>(Zp ?_)
  refine jb1k h3 fun p1 hp1 hk2=>?_
  have J2 : ∀ (out5:List Int) (i6:Nat→Nat),p1=out5→K8 ⟨[(3,.own 5003 (i6 0)),(6,qe f1),(7,rI ((f1.length:Int))),(8,rI (x2))],[(5003,some (.arr (i6 0) 3 1 (out5.map (rInt .i64))))],(i6 1),22⟩:=by
   intro out5 i6 e
   have h4:=hk2 _ e
   refine hK8 _ ?_
   refine aR (Zl h4 fun x4 ex4 h5=>(sQ R (ZI R iL iL (fun _=>ex4)) (sM R R ?_)))
   refine Zt ?_
   exact YFi.mk h5 (vec [(i6 0),(i6 1)]) ((by exact Zc ⟨jL,jL,jL,jL,Za⟩ ⟨.inl R,Za⟩ nL))
  refine aS fun _ hK9 _=>(aR (Zl hp1 fun x5 ex5 h6=>(sQ R (Zx R YDf.slice iL iL (fun _=>R) (fun _=>ex5)) (sQ R (ZG (cs:=(k20_ x5)) R YLe iL R R) (Zh R R R (YAi (cs:=z18_) 5 R YQm R R) (ZN R R (ZF (ds:=(k20_ x5)) R YQi iL R iL R R R R) (aZ (hK9 _ ?_))))))))
  refine aS fun _ hK10 _=>(aR (sQ R (fB R YCI iL fR R) (sQ R (Zb (a:=rI (x5.Ref)) R ts_3 iL R R) (sQ R (ZD R iL iL) (aZ (hK10 _ ?_))))))
  refine aC R (fun hc2=>?_) (fun hc2=>?_)
  ·have h7:=Zn hc2 h6
   refine aR (sM R R (sQ R (fB R YCI iL fR R) (sQ R (Zb (a:=rI (x5.Ref)) R ts_3 iL R R) (Zh R R R (YCn 18 R YDr (f:=(rInt .i64)) (l:=([x5.Ref]:List Int)) ⟨R,⟨_,iL,R⟩,Za⟩ R (fun _=>R) R) (Zl h7 fun out6 eout6 h8=>(Zh R R R (YJQ R YDr iL R (.inr (.inl ⟨_,_,iL,R⟩)) eout6) (sA R R ?_)))))))
   refine Zt ?_
   exact wK8 _ _ ((by exact Zc ⟨jL,jL,jL,jL,Za⟩ ⟨.inl R,Za⟩ nL)) (J2 _ (vec [((i3 1)+2),((i3 1)+3)]) (Zd h8).symm)
  ·have h7:=Zo hc2 h6
   refine Zk ?_
   exact wK8 _ _ ((by exact Zc ⟨jL,jL,jL,jL,Za⟩ ⟨.inl R,Za⟩ nL)) (J2 _ (vec [(i3 0),((i3 1)+1)]) (Zd h7).symm)
 ·have h3:=Zo hc1 h2
  refine ZL ?_
  exact wK3 _ _ ((by exact Zc ⟨jL,Za⟩ ⟨.inl R,Za⟩ nL)) (J1 _ (vec [(i3 0),(i3 1)]) (hx1 _ (Zd h3).symm))
theorem YOK {n1:YAJ} {r:(List Int)} (h:YFX n1=some r):ARO Tryz.prog 129 (k4_ n1) (.r (.sl (r.map (rInt .i64)))):=by
 unfold YFX at h
 refine Zu Tryz.func129 R R Tryz.ntmps129 R (Zf R) fun n0=>?_
 refine aS fun _ hK1 _=>(aR (Zh R R R (ZM (cs:=(k6_ n1)) 1 R iL R R) (sA R R (aZ (hK1 _ ?_)))))
 refine aS fun _ hK2 _=>(aR (sQ R (fB R YEu iL fR R) (sQ R (Zb (a:=qe n1.Flow) R YID iL R R) (Zl h fun w1 ew1 h1=>?_))))
 refine AOps.stepHI [8] (hc:=[]) (bs:=[qe n1.Flow]) (caps:=[]) R R R R iL R ⟨.inl ⟨iL,R⟩,Za⟩ Za (by decide) (YKh ew1) ?_
 intro i1 n2
 refine AOps.weak (s':=⟨[(0,.agg (k6_ n1)),(1,.ptr 1 n0 0 0),(2,.cst (.slice none 0 0)),(6,.ptr 1 n0 0 3),(7,qe n1.Flow),(8,.own 8 (i1 0))],[(1,some (.box n0 46 (k6_ n1))),(8,some (.arr (i1 0) 3 1 (w1.map (rInt .i64))))],n2,27⟩) (by exact Zc ⟨jL,jL,jL,jL,jL,jL,Za⟩ ⟨.inl R,.inl R,Za⟩ nL) ?_
 refine sA R R (aZ (hK2 _ ?_))
 refine aS fun K3 hK3 wK3=>(aS fun _ hK4 _=>(aR (sQ R (fB R YBL iL fR R) (sQ R (fB R YCJ iL fR R) (sQ R (Zb (a:=qc n1.Grid.Cells) R YE1 iL R R) (sQ R (Zz R YB2.slice iL) (sM R R (aZ (hK4 _ ?_)))))))))
 refine Zp ?_
 refine jb1k h1 fun o1 hit1 hk1=>?_
 have J1 : ∀ (out4:List Int) (i6:Nat→Nat),o1=out4→K3 ⟨[(3,.own 8 (i6 0))],[(8,some (.arr (i6 0) 3 1 (out4.map (rInt .i64))))],(i6 1),27⟩:=by
  intro out4 i6 e
  have h2:=hk1 _ e
  refine hK3 _ ?_
  refine aS fun _ hK5 _=>(aR (sM R R (sA R R (aZ (hK5 _ ?_)))))
  refine Zj ?_
  exact YOY (P:=Tryz.prog) (fun (r:(List Int))=>.r (.sl (r.map (rInt .i64)))) h2 iL (.t (.one (.own R)))
 refine AW.iter2 (fun (x2:Int) (out2:List Int) i4=>⟨[(3,.own 8 (i4 0)),(11,qc n1.Grid.Cells),(12,rI ((n1.Grid.Cells.length:Int))),(13,rI (x2))],[(8,some (.arr (i4 0) 3 1 (out2.map (rInt .i64))))],(i4 1),27⟩) (vec [(i1 0),n2]) hit1 ((by exact Zc ⟨jL,jL,jL,jL,Za⟩ ⟨.inl R,Za⟩ nL)) ?_
 intro x2 out2 i4 v1 hv1 hx1
 have h3:YBi n1 x2 out2=some v1:=hv1; unfold YBi at h3
 refine aS fun _ hK6 _=>(aR (sQ R (Zv R iL iL) (aZ (hK6 _ ?_))))
 refine aS fun _ hK7 _=>?_
 refine aC R (fun hc1=>?_) (fun hc1=>?_)
 ·have h4:=Zn hc1 h3
  refine Zk (hK7 _ ?_)
  refine aS fun K8 hK8 wK8=>(Zp ?_)
  refine jb1k h4 fun p1 hp1 hk2=>?_
  have J2 : ∀ (out5:List Int) (i7:Nat→Nat),p1=out5→K8 ⟨[(3,.own 8 (i7 0)),(11,qc n1.Grid.Cells),(12,rI ((n1.Grid.Cells.length:Int))),(13,rI (x2))],[(8,some (.arr (i7 0) 3 1 (out5.map (rInt .i64))))],(i7 1),27⟩:=by
   intro out5 i7 e
   have h5:=hk2 _ e
   refine hK8 _ ?_
   refine aR (Zl h5 fun x4 ex4 h6=>(sQ R (ZI R iL iL (fun _=>ex4)) (sM R R ?_)))
   refine Zt ?_
   exact YFi.mk h6 (vec [(i7 0),(i7 1)]) ((by exact Zc ⟨jL,jL,jL,jL,Za⟩ ⟨.inl R,Za⟩ nL))
  refine aS fun _ hK9 _=>(aR (Zl hp1 fun x5 ex5 h7=>(sQ R (Zx R YB2.slice iL iL (fun _=>R) (fun _=>ex5)) (sQ R (ZG (cs:=(k9_ x5)) R YES iL R R) (Zh R R R (YAi (cs:=z11_) 5 R YI2 R R) (ZN R R (ZF (ds:=(k9_ x5)) R YI0 iL R iL R R R R) (aZ (hK9 _ ?_))))))))
  refine aS fun _ hK10 _=>(aR (sQ R (fB R YBa iL fR R) (sQ R (Zb (a:=rI (x5.Ref)) R ts_3 iL R R) (sQ R (ZD R iL iL) (aZ (hK10 _ ?_))))))
  refine aC R (fun hc2=>?_) (fun hc2=>?_)
  ·have h8:=Zn hc2 h7
   refine aR (sM R R (sQ R (fB R YBa iL fR R) (sQ R (Zb (a:=rI (x5.Ref)) R ts_3 iL R R) (Zh R R R (YCn 23 R YDr (f:=(rInt .i64)) (l:=([x5.Ref]:List Int)) ⟨R,⟨_,iL,R⟩,Za⟩ R (fun _=>R) R) (Zl h8 fun out6 eout6 h9=>(Zh R R R (YJQ R YDr iL R (.inr (.inl ⟨_,_,iL,R⟩)) eout6) (sA R R ?_)))))))
   refine Zt ?_
   exact wK8 _ _ ((by exact Zc ⟨jL,jL,jL,jL,Za⟩ ⟨.inl R,Za⟩ nL)) (J2 _ (vec [((i4 1)+2),((i4 1)+3)]) (Zd h9).symm)
  ·have h8:=Zo hc2 h7
   refine Zk ?_
   exact wK8 _ _ ((by exact Zc ⟨jL,jL,jL,jL,Za⟩ ⟨.inl R,Za⟩ nL)) (J2 _ (vec [(i4 0),((i4 1)+1)]) (Zd h8).symm)
 ·have h4:=Zo hc1 h3
  refine ZL ?_
  exact wK3 _ _ ((by exact Zc ⟨jL,Za⟩ ⟨.inl R,Za⟩ nL)) (J1 _ (vec [(i4 0),(i4 1)]) (hx1 _ (Zd h4).symm))
theorem YGy {n1:YAJ} {id1:Int} {r:Int} (h:YDm n1 id1=some r):ARO Tryz.prog 184 [.agg (k6_ n1),rI (id1)] (rI (r)):=by
 unfold YDm at h
 refine Zu Tryz.func184 R R Tryz.ntmps184 R (Zf R) fun n0=>?_
 refine aS fun _ hK1 _=>(aR (Zh R R R (ZM (cs:=(k6_ n1)) 2 R iL R R) (sA R R (aZ (hK1 _ ?_)))))
 refine aS fun _ hK2 _=>(Zp (aS fun _ hK3 _=>(aR (sQ R (fB R YBn iL fR R) (sQ R (Zb (a:=rI (n1.ID)) R ts_3 iL R R) (sM R R (sQ R (Zv R iL iL) (sA R R (aZ (hK3 _ ?_))))))))))
 refine aC R (fun hc1=>?_) (fun hc1=>?_)
 ·have h1:=Zn hc1 h
  refine aS fun _ hK4 _=>?_
  refine Zi (s':=⟨[],[],(n0+1),15⟩) (by exact Zc Za Za nL) ?_
  refine aR (sA R R (aZ (hK4 _ ?_)))
  refine Zj ?_
  exact Y1_ h1 iL (.t (.d R))
 ·have h1:=Zo hc1 h
  refine aS fun _ hK5 _=>(aR (sQ R (fB R YBn iL fR R) (sQ R (Zb (a:=rI (n1.ID)) R ts_3 iL R R) (sM R R (sQ R (ZR R iL iL) (sA R R (aZ (hK5 _ ?_))))))))
  refine aC R (fun hc2=>?_) (fun hc2=>?_)
  ·have h2:=Zn hc2 h1
   refine aS fun _ hK6 _=>?_
   refine Zi (s':=⟨[],[],(n0+1),15⟩) (by exact Zc Za Za nL) ?_
   refine aR (sA R R (aZ (hK6 _ ?_)))
   refine Zj ?_
   exact Y1_ h2 iL (.t (.d R))
  ·have h2:=Zo hc2 h1
   refine Zk (hK2 _ ?_)
   refine aS fun _ hK7 _=>?_
   refine Zi (s':=⟨[],[],(n0+1),15⟩) (by exact Zc Za Za nL) ?_
   refine aR (sA R R (aZ (hK7 _ ?_)))
   refine Zj ?_
   exact Y1_ h2 iL (.t (.d R))
theorem YBG {x1:List YAJ} {target1:Int} {r:Int × Bool} (h:YAP x1 target1=some r):ARO Tryz.prog 183 [qf x1,rI (target1),.fn 184 []] (.tup [rI (r.1),rB (r.2)]):=by
 unfold YAP at h
 refine Zu Tryz.func183 R R Tryz.ntmps183 R (Zf R) fun n0=>?_
 refine aS fun _ hK1 _=>(aR (sA R R (sA R R (aZ (hK1 _ ?_)))))
 refine aS fun _ hK2 _=>(aR (sM R R (sQ R (Zz R YDc.slice iL) (sA R R (aZ (hK2 _ ?_))))))
 refine aS fun _ hK3 _=>(aR (sM R R (sA R R (sA R R (aZ (hK3 _ ?_))))))
 refine aS fun K4 hK4 wK4=>(Zp ?_)
 refine jb1k h fun o1 hit1 hk1=>?_
 have J1 : ∀ (i8:Int) (i9:Nat→Nat),o1=i8→K4 ⟨[(0,qf x1),(1,rI (target1)),(2,.fn 184 []),(8,rI ((x1.length:Int))),(9,rI (i8))],[],(i9 0),49⟩:=by
  intro i8 i9 e
  have h1:=hk1 _ e
  refine hK4 _ ?_
  refine aS fun _ hK5 _=>(aR (sM R R (sM R R (sM R R (sQ R (Zv R iL iL) (sM R R (sV R R R (Ze R iL) (sV R R R (Ze R iL) (sV R R R (Ze R iL) (Zl h1 fun x2 ex2 h2=>(sV R R R (Zx R YDc.slice (iR R) (iR R) (fun _=>R) (gdt ex2)) (sV R R R (ZG (cs:=(k6_ x2)) R YFl (iR R) R R) (sV R R R (Ze R iL) (Zl h2 fun r1 er1 h3=>?_))))))))))))))
  refine ZA (.one R R R) R R (Zr (r:=rI (r1)) (caps:=[]) (bs:=[.agg (k6_ x2),rI (target1)]) R (iR R) R ⟨⟨_,(iR R),.g (cs:=[.int .i64 x2.ID,.int .i64 x2.Kind,.sl (x2.Attrs.map YAT.row),.sl (x2.Flow.map YAN.row),.int .i64 x2.Grid.Rows,.int .i64 x2.Grid.Cols,.sl (x2.Grid.Cells.map YAL.row),.sl (x2.Grid.Merges.map YAQ.row),.sl (x2.Draw.map YAI.row)]) R R⟩,⟨_,(iR R),.d R⟩,Za⟩ (fun hg=>YGy (gdt er1 hg)) R) ?_
  refine sV R R R (Zs R (iR R) iL) (sQ R (Zq R iL (iR R)) (sA R R (sA R R (aZ (hK5 _ ?_)))))
  refine Zj ?_
  exact YC7 (P:=Tryz.prog) (fun (r:Int × Bool)=>rI (r.1)) (fun (r:Int × Bool)=>rB (r.2)) h3 iL (.t (.d R)) (.t (.d R))
 refine AW.iter2 (fun (i4:Int) (j2:Int) i5=>⟨[(0,qf x1),(1,rI (target1)),(2,.fn 184 []),(8,rI ((x1.length:Int))),(9,rI (i4)),(10,rI (j2))],[],(i5 0),49⟩) (vec [n0]) hit1 ((by exact Zc ⟨jL,jL,jL,jL,jL,jL,Za⟩ Za nL)) ?_
 intro i4 j2 i5 v1 hv1 hx1
 have h4:YAD x1 target1 i4 j2=some v1:=hv1; unfold YAD at h4
 refine aS fun _ hK6 _=>(aS fun _ hK7 _=>(aR (sM R R (sM R R (sQ R (Zv R iL iL) (aZ (hK7 _ ?_)))))))
 refine aC R (fun hc1=>?_) (fun hc1=>?_)
 ·have h5:=Zn hc1 h4
  refine Zk (hK6 _ ?_)
  refine Zp (aS fun _ hK8 _=>(aR (sM R R (sM R R (Zl h5 fun x3 ex3 h6=>(sQ R (ZI R iL iL (fun _=>ex3)) (sQ R (ZU R Tryz.underlying3 Tryz.underlying128 iL) (sQ R (YLh (b:=1) R iL iL) (sQ R (ZU R Tryz.underlying128 Tryz.underlying3 iL) (sA R R (aZ (hK8 _ ?_))))))))))))
  refine aS fun _ hK9 _=>?_
  refine Zi (s':=⟨[(0,qf x1),(1,rI (target1)),(2,.fn 184 []),(8,rI ((x1.length:Int))),(9,rI (i4)),(10,rI (j2)),(11,rI ((IntKind.i64.wrap (shrC .u64 (IntKind.u64.wrap x3) 1))))],[],(i5 0),49⟩) (by exact Zc ⟨jL,jL,jL,jL,jL,jL,jL,Za⟩ Za nL) ?_
  refine aR (sM R R (sM R R (sM R R (Zl h6 fun x4 ex4 h7=>(sQ R (Zx R YDc.slice iL iL (fun _=>R) (fun _=>ex4)) (sQ R (ZG (cs:=(k6_ x4)) R YFl iL R R) (sM R R (Zl h7 fun r2 er2 h8=>(Zh R R R (Zr (r:=rI (r2)) (caps:=[]) (bs:=[.agg (k6_ x4),rI (target1)]) R iL R ⟨⟨_,iL,.g (cs:=[.int .i64 x4.ID,.int .i64 x4.Kind,.sl (x4.Attrs.map YAT.row),.sl (x4.Flow.map YAN.row),.int .i64 x4.Grid.Rows,.int .i64 x4.Grid.Cols,.sl (x4.Grid.Cells.map YAL.row),.sl (x4.Grid.Merges.map YAQ.row),.sl (x4.Draw.map YAI.row)]) R R⟩,⟨_,iL,.d R⟩,Za⟩ (fun _=>YGy (er2)) R) (sQ R (Zv R iL iL) (aZ (hK9 _ ?_))))))))))))
  refine aC R (fun hc2=>?_) (fun hc2=>?_)
  ·have h9:=Zn hc2 h8
   refine Zi (s':=⟨[(0,qf x1),(1,rI (target1)),(2,.fn 184 []),(8,rI ((x1.length:Int))),(10,rI (j2)),(11,rI ((IntKind.i64.wrap (shrC .u64 (IntKind.u64.wrap x3) 1))))],[],(i5 0),49⟩) (by exact Zc ⟨jL,jL,jL,jL,jL,jL,Za⟩ Za nL) ?_
   refine aR (sM R R (Zl h9 fun i10 ei10 h10=>(sQ R (ZI R iL iL (fun _=>ei10)) (sA R R ?_))))
   refine Zt ?_
   exact YFi.mk h10 (vec [(i5 0)]) ((by exact Zc ⟨jL,jL,jL,jL,jL,jL,Za⟩ Za nL))
  ·have h9:=Zo hc2 h8
   refine Zi (s':=⟨[(0,qf x1),(1,rI (target1)),(2,.fn 184 []),(8,rI ((x1.length:Int))),(9,rI (i4)),(11,rI ((IntKind.i64.wrap (shrC .u64 (IntKind.u64.wrap x3) 1))))],[],(i5 0),49⟩) (by exact Zc ⟨jL,jL,jL,jL,jL,jL,Za⟩ Za nL) ?_
   refine aR (sM R R (sA R R ?_))
   refine Zt ?_
   exact YFi.mk h9 (vec [(i5 0)]) ((by exact Zc ⟨jL,jL,jL,jL,jL,jL,Za⟩ Za nL))
 ·have h5:=Zo hc1 h4
  refine ZL ?_
  exact wK4 _ _ ((by exact Zc ⟨jL,jL,jL,jL,jL,Za⟩ Za nL)) (J1 _ (vec [(i5 0)]) (hx1 _ (Zd h5).symm))
theorem YKA {d1:GDoc} {id1:Int} {r:Int × Bool} (h:YGQ d1 id1=some r):ARO Tryz.prog 142 [.agg [qf d1.Nodes],rI (id1)] (.tup [rI (r.1),rB (r.2)]):=by
 unfold YGQ at h
 refine Zu Tryz.func142 R R Tryz.ntmps142 R (Zf R) fun n0=>?_
 refine aS fun _ hK1 _=>(aR (Zh R R R (ZM (cs:=[qf d1.Nodes]) 2 R iL R R) (sA R R (sA R R (aZ (hK1 _ ?_))))))
 refine aS fun _ hK2 _=>(aR (sQ R (fB R YBQ iL fR R) (sQ R (Zb (a:=qf d1.Nodes) R YEN iL R R) (sM R R (ob2k h fun r1 r2 er1 h1=>(Zh R R R (Zr (r:=.tup [rI (r1),rB (r2)]) (caps:=[]) (bs:=[qf d1.Nodes,rI (id1),.fn 184 []]) R iL R ⟨⟨_,iL,.d R⟩,⟨_,iL,.d R⟩,⟨_,iL,.one (.closed (.fn 184 []) R)⟩,Za⟩ (fun _=>YBG (er1)) R) (sQ R (ZQ (a:=rI (r1)) R iL R) (sQ R (ZQ (a:=rB (r2)) R iL R) (sA R R (sA R R (aZ (hK2 _ ?_))))))))))))
 refine Zj ?_
 exact YC7 (P:=Tryz.prog) (fun (r:Int × Bool)=>rI (r.1)) (fun (r:Int × Bool)=>rB (r.2)) h1 iL (.t (.d R)) (.t (.d R))
theorem YFj {s1:List Int} {v1:Int} {r:Int} (h:YBm s1 v1=some r):ARO Tryz.prog 203 [.r (.sl (s1.map (rInt .i64))),rI (v1)] (rI (r)):=by
 unfold YBm at h
 refine Zu Tryz.func203 R R Tryz.ntmps203 R (Zf R) fun n0=>?_
 refine aS fun _ hK1 _=>(aR (sA R R (aZ (hK1 _ ?_))))
 refine aS fun K2 hK2 wK2=>(aS fun _ hK3 _=>(aR (sM R R (sQ R (Zz R YDr.slice iL) (sM R R (aZ (hK3 _ ?_)))))))
 refine Zp ?_
 refine jc1k h fun o1 hit1 hk1 he1=>?_
 have J1 : ∀ (u2:Unit) (i5:Nat→Nat),o1 = .nrm u2→K2 ⟨[],[],(i5 0),19⟩:=by
  intro u2 i5 e
  have h1:=hk1 _ e
  refine hK2 _ ?_
  refine aS fun _ hK4 _=>(aR (sA R R (aZ (hK4 _ ?_))))
  refine Zj ?_
  exact Y1_ h1 iL (.t (.d R))
 refine ZP (fun (x2:Int) i3=>⟨[(0,.r (.sl (s1.map (rInt .i64)))),(1,rI (v1)),(7,rI ((s1.length:Int))),(8,rI (x2))],[],(i3 0),19⟩) (vec [n0]) hit1 ((by exact Zc ⟨jL,jL,jL,jL,Za⟩ Za nL)) ?_
 intro x2 i3 v2 hv1 hx1
 have h2:YA5 s1 v1 x2=some v2:=hv1; unfold YA5 at h2
 refine aS fun _ hK5 _=>(aR (sQ R (Zv R iL iL) (aZ (hK5 _ ?_))))
 refine aS fun _ hK6 _=>?_
 refine aC R (fun hc1=>?_) (fun hc1=>?_)
 ·have h3:=Zn hc1 h2
  refine Zk (hK6 _ ?_)
  refine aS fun _ hK7 _=>(Zp (aS fun _ hK8 _=>(aR (sM R R (sA R R (aZ (hK8 _ ?_)))))))
  refine aS fun _ hK9 _=>(aR (sM R R (sM R R (sM R R (Zl h3 fun x4 ex4 h4=>(sQ R (Zx R YDr.slice iL iL (fun _=>R) (fun _=>ex4)) (sQ R (ZO (d:=.int .i64 x4) R ts_3 iL R) (sQ R (Zs R iL iL) (aZ (hK9 _ ?_))))))))))
  refine aC R (fun hc2=>?_) (fun hc2=>?_)
  ·have h5:=Zn hc2 h4
   refine aS fun _ hK10 _=>?_
   refine Zi (s':=⟨[(5,rI (x2))],[],(i3 0),19⟩) (by exact Zc ⟨jL,Za⟩ Za nL) ?_
   refine aR (sM R R (sA R R (aZ (hK10 _ ?_))))
   refine Zj ?_
   exact Y1_ (he1 _ (hx1 _ (Zd h5).symm)) iL (.t (.d R))
  ·have h5:=Zo hc2 h4
   refine Zk (hK7 _ ?_)
   refine Zi (s':=⟨[(0,.r (.sl (s1.map (rInt .i64)))),(1,rI (v1)),(7,rI ((s1.length:Int))),(8,rI (x2))],[],(i3 0),19⟩) (by exact Zc ⟨jL,jL,jL,jL,Za⟩ Za nL) ?_
   refine aR (Zl h5 fun x5 ex5 h6=>(sQ R (ZI R iL iL (fun _=>ex5)) (sM R R ?_)))
   refine Zt ?_
   exact ZJ h6 (vec [(i3 0)]) ((by exact Zc ⟨jL,jL,jL,jL,Za⟩ Za nL))
 ·have h3:=Zo hc1 h2
  refine ZL ?_
  exact wK2 _ _ ((by exact Zc Za Za nL)) (J1 _ (vec [(i3 0)]) (hx1 _ (Zd h3).symm))
theorem YEs {s1:List Int} {v1:Int} {r:Bool} (h:YAo s1 v1=some r):ARO Tryz.prog 175 [.r (.sl (s1.map (rInt .i64))),rI (v1)] (rB (r)):=by
 unfold YAo at h
 refine Zu Tryz.func175 R R Tryz.ntmps175 R (Zf R) fun n0=>?_
 refine aS fun _ hK1 _=>(aR (sA R R (aZ (hK1 _ ?_))))
 refine aS fun _ hK2 _=>(aR (sM R R (sM R R (Zl h fun r1 er1 h1=>(Zh R R R (Zr (r:=rI (r1)) (caps:=[]) (bs:=[.r (.sl (s1.map (rInt .i64))),rI (v1)]) R iL R ⟨⟨_,iL,.d R⟩,⟨_,iL,.d R⟩,Za⟩ (fun _=>YFj (er1)) R) (sQ R (YCg R iL iL) (sA R R (aZ (hK2 _ ?_)))))))))
 refine Zj ?_
 exact Y2_ h1 iL (.t (.d R))
theorem YIs {parent1:Int} {kid1:Int} {r:Bool} (h:YDW parent1 kid1=some r):ARO Tryz.prog 130 [rI (parent1),rI (kid1)] (rB (r)):=by
 unfold YDW at h
 refine Zu Tryz.func130 R R Tryz.ntmps130 R (Zf R) fun n0=>?_
 refine aS fun _ hK1 _=>(aR (sA R R (aZ (hK1 _ ?_))))
 refine aS fun _ hK2 _=>(aR (sA R R (aZ (hK2 _ ?_))))
 refine aS fun K3 hK3 wK3=>(aS fun _ hK4 _=>(aR (sM R R (aZ (hK4 _ ?_)))))
 refine Zp ?_
 refine jb1k h fun p1 hp1 hk1=>?_
 have J1 : ∀ (l1:List Int) (i1:Nat→Nat),p1=l1→K3 ⟨[(1,rI (kid1)),(5,.r (.sl (l1.map (rInt .i64))))],[],(i1 0),29⟩:=by
  intro l1 i1 e
  have h1:=hk1 _ e
  refine hK3 _ ?_
  refine aS fun _ hK5 _=>(aR (sM R R (sM R R (Zl h1 fun r1 er1 h2=>(Zh R R R (Zr (r:=rB (r1)) (caps:=[]) (bs:=[.r (.sl (l1.map (rInt .i64))),rI (kid1)]) R iL R ⟨⟨_,iL,.d R⟩,⟨_,iL,.d R⟩,Za⟩ (fun _=>YEs (er1)) R) (sA R R (aZ (hK5 _ ?_))))))))
  refine Zj ?_
  exact Y2_ h2 iL (.t (.d R))
 refine aS fun _ hK6 _=>(aR (sQ R (Zs R iL iL) (sA R R (aZ (hK6 _ ?_)))))
 refine aC R (fun hc1=>?_) (fun hc1=>?_)
 ·have h3:=Zn hc1 hp1
  refine aR (Zh R R R (YCn 9 R YDr (f:=(rInt .i64)) (l:=([1,6,7,10,11,12]:List Int)) ⟨R,⟨_,iL,R⟩,R,⟨_,iL,R⟩,R,⟨_,iL,R⟩,R,⟨_,iL,R⟩,R,⟨_,iL,R⟩,R,⟨_,iL,R⟩,Za⟩ R (fun _=>R) R) (sA R R ?_))
  refine Zt ?_
  exact wK3 _ _ (Weak.trans (by exact Weak.frz (e':=[(0,rI (parent1)),(1,rI (kid1)),(4,rB (false)),(5,.r (.sl ([1,6,7,10,11,12].map (rInt .i64)))),(6,rI (parent1)),(7,rB ((decide (parent1=0)))),(8,rB ((decide (parent1=0)))),(9,.r (.sl ([1,6,7,10,11,12].map (rInt .i64))))]) (h':=[]) 9 R ⟨jL,jL,jL,.inl (.inr (.inr ⟨R,R⟩)),jL,jL,jL,.inl (.inr (.inr ⟨R,R⟩)),Za⟩ Za) (by exact Zc ⟨jL,jL,Za⟩ Za nL)) (J1 _ (vec [(n0+1)]) (Zd h3).symm)
 ·have h3:=Zo hc1 hp1
  refine aS fun _ hK7 _=>(aR (sQ R (Zs R iL iL) (sA R R (aZ (hK7 _ ?_)))))
  refine aC R (fun hc2=>?_) (fun hc2=>?_)
  ·have h4:=Zn hc2 h3
   refine aR (Zh R R R (YCn 12 R YDr (f:=(rInt .i64)) (l:=([2,4,5,10]:List Int)) ⟨R,⟨_,iL,R⟩,R,⟨_,iL,R⟩,R,⟨_,iL,R⟩,R,⟨_,iL,R⟩,Za⟩ R (fun _=>R) R) (sA R R ?_))
   refine Zt ?_
   exact wK3 _ _ (Weak.trans (by exact Weak.frz (e':=[(0,rI (parent1)),(1,rI (kid1)),(4,rB (false)),(5,.r (.sl ([2,4,5,10].map (rInt .i64)))),(6,rI (parent1)),(7,rB ((decide (parent1=0)))),(8,rB ((decide (parent1=0)))),(10,rB ((decide (parent1=1)))),(11,rB ((decide (parent1=1)))),(12,.r (.sl ([2,4,5,10].map (rInt .i64))))]) (h':=[]) 12 R ⟨jL,jL,jL,.inl (.inr (.inr ⟨R,R⟩)),jL,jL,jL,jL,jL,.inl (.inr (.inr ⟨R,R⟩)),Za⟩ Za) (by exact Zc ⟨jL,jL,Za⟩ Za nL)) (J1 _ (vec [(n0+1)]) (Zd h4).symm)
  ·have h4:=Zo hc2 h3
   refine aS fun _ hK8 _=>(aR (sQ R (Zs R iL iL) (sA R R (aZ (hK8 _ ?_)))))
   refine aC R (fun hc3=>?_) (fun hc3=>?_)
   ·have h5:=Zn hc3 h4
    refine Zi (s':=⟨[(1,rI (kid1))],[],n0,29⟩) (by exact Zc ⟨jL,Za⟩ Za nL) ?_
    refine aR (Zh R R R (YCn 15 R YDr (f:=(rInt .i64)) (l:=([4,5,10]:List Int)) ⟨R,⟨_,iL,R⟩,R,⟨_,iL,R⟩,R,⟨_,iL,R⟩,Za⟩ R (fun _=>R) R) (sA R R ?_))
    refine Zt ?_
    exact wK3 _ _ (Weak.trans (by exact Weak.frz (e':=[(1,rI (kid1)),(5,.r (.sl ([4,5,10].map (rInt .i64)))),(15,.r (.sl ([4,5,10].map (rInt .i64))))]) (h':=[]) 15 R ⟨jL,.inl (.inr (.inr ⟨R,R⟩)),.inl (.inr (.inr ⟨R,R⟩)),Za⟩ Za) (by exact Zc ⟨jL,jL,Za⟩ Za nL)) (J1 _ (vec [(n0+1)]) (Zd h5).symm)
   ·have h5:=Zo hc3 h4
    refine aS fun K9 hK9 wK9=>(aS fun _ hK10 _=>(aR (sQ R (Zs R iL iL) (sA R R (aZ (hK10 _ ?_))))))
    refine jb1k h5 fun p2 hp2 hk2=>?_
    have J2 : ∀ (x1:Bool) (i2:Nat→Nat),p2=x1→K9 ⟨[(1,rI (kid1)),(5,.cst (.slice none 0 0)),(6,rI (parent1)),(16,rB (x1))],[],(i2 0),29⟩:=by
     intro x1 i2 e
     have h6:=hk2 _ e
     refine hK9 _ ?_
     refine aC R (fun hc4=>?_) (fun hc4=>?_)
     ·have h7:=Zn hc4 h6
      refine aR (Zh R R R (YCn 19 R YDr (f:=(rInt .i64)) (l:=([5]:List Int)) ⟨R,⟨_,iL,R⟩,Za⟩ R (fun _=>R) R) (sA R R ?_))
      refine Zt ?_
      exact wK3 _ _ (Weak.trans (by exact Weak.frz (e':=[(1,rI (kid1)),(5,.r (.sl ([5].map (rInt .i64)))),(6,rI (parent1)),(16,rB (x1)),(19,.r (.sl ([5].map (rInt .i64))))]) (h':=[]) 19 R ⟨jL,.inl (.inr (.inr ⟨R,R⟩)),jL,jL,.inl (.inr (.inr ⟨R,R⟩)),Za⟩ Za) (by exact Zc ⟨jL,jL,Za⟩ Za nL)) (J1 _ (vec [((i2 0)+1)]) (Zd h7).symm)
     ·have h7:=Zo hc4 h6
      refine aS fun _ hK11 _=>(aR (sQ R (Zs R iL iL) (sA R R (aZ (hK11 _ ?_)))))
      refine aC R (fun hc5=>?_) (fun hc5=>?_)
      ·have h8:=Zn hc5 h7
       refine aR (Zh R R R (YCn 22 R YDr (f:=(rInt .i64)) (l:=([3]:List Int)) ⟨R,⟨_,iL,R⟩,Za⟩ R (fun _=>R) R) (sA R R ?_))
       refine Zt ?_
       exact wK3 _ _ (Weak.trans (by exact Weak.frz (e':=[(1,rI (kid1)),(5,.r (.sl ([3].map (rInt .i64)))),(6,rI (parent1)),(16,rB (x1)),(20,rB ((decide (parent1=2)))),(21,rB ((decide (parent1=2)))),(22,.r (.sl ([3].map (rInt .i64))))]) (h':=[]) 22 R ⟨jL,.inl (.inr (.inr ⟨R,R⟩)),jL,jL,jL,jL,.inl (.inr (.inr ⟨R,R⟩)),Za⟩ Za) (by exact Zc ⟨jL,jL,Za⟩ Za nL)) (J1 _ (vec [((i2 0)+1)]) (Zd h8).symm)
      ·have h8:=Zo hc5 h7
       refine aS fun _ hK12 _=>(aR (sQ R (Zs R iL iL) (sA R R (aZ (hK12 _ ?_)))))
       refine aC R (fun hc6=>?_) (fun hc6=>?_)
       ·have h9:=Zn hc6 h8
        refine aR (Zh R R R (YCn 25 R YDr (f:=(rInt .i64)) (l:=([8,9]:List Int)) ⟨R,⟨_,iL,R⟩,R,⟨_,iL,R⟩,Za⟩ R (fun _=>R) R) (sA R R ?_))
        refine Zt ?_
        exact wK3 _ _ (Weak.trans (by exact Weak.frz (e':=[(1,rI (kid1)),(5,.r (.sl ([8,9].map (rInt .i64)))),(6,rI (parent1)),(16,rB (x1)),(20,rB ((decide (parent1=2)))),(21,rB ((decide (parent1=2)))),(23,rB ((decide (parent1=7)))),(24,rB ((decide (parent1=7)))),(25,.r (.sl ([8,9].map (rInt .i64))))]) (h':=[]) 25 R ⟨jL,.inl (.inr (.inr ⟨R,R⟩)),jL,jL,jL,jL,jL,jL,.inl (.inr (.inr ⟨R,R⟩)),Za⟩ Za) (by exact Zc ⟨jL,jL,Za⟩ Za nL)) (J1 _ (vec [((i2 0)+1)]) (Zd h9).symm)
       ·have h9:=Zo hc6 h8
        refine Zk ?_
        exact wK3 _ _ ((by exact Zc ⟨jL,.inl (.inr (.inr ⟨R,R⟩)),Za⟩ Za nL)) (J1 _ (vec [(i2 0)]) (Zd h9).symm)
    refine aC R (fun hc7=>?_) (fun hc7=>?_)
    ·have h10:=Zn hc7 hp2
     refine Zk ?_
     exact wK9 _ _ ((by exact Zc ⟨jL,jL,jL,jL,Za⟩ Za nL)) (J2 _ (vec [n0]) (Zd h10).symm)
    ·have h10:=Zo hc7 hp2
     refine Zi (s':=⟨[(1,rI (kid1)),(5,.cst (.slice none 0 0)),(6,rI (parent1))],[],n0,29⟩) (by exact Zc ⟨jL,jL,jL,Za⟩ Za nL) ?_
     refine aR (sQ R (Zs R iL iL) (sA R R ?_))
     refine Zt ?_
     exact wK9 _ _ ((by exact Zc ⟨jL,jL,jL,jL,Za⟩ Za nL)) (J2 _ (vec [n0]) (Zd h10).symm)
theorem YIu {d1:GDoc} {kind1:Int} {YC8:List Int} {r:Int} (h:YDX d1 kind1 YC8=some r):ARO Tryz.prog 128 [.agg [qf d1.Nodes],rI (kind1),.r (.sl (YC8.map (rInt .i64)))] (rI (r)):=by
 unfold YDX at h
 refine Zu Tryz.func128 R R Tryz.ntmps128 R (Zf R) fun n0=>?_
 refine aS fun _ hK1 _=>(aR (Zh R R R (ZM (cs:=[qf d1.Nodes]) 3 R iL R R) (sA R R (aZ (hK1 _ ?_)))))
 refine aS fun K2 hK2 wK2=>(aS fun _ hK3 _=>(aR (sM R R (sQ R (Zz R YDr.slice iL) (sM R R (aZ (hK3 _ ?_)))))))
 refine Zp ?_
 refine jc1k h fun o1 hit1 hk1 he1=>?_
 have J1 : ∀ (u2:Unit) (i5:Nat→Nat),o1 = .nrm u2→K2 ⟨[],[],(i5 0),35⟩:=by
  intro u2 i5 e
  have h1:=hk1 _ e
  refine hK2 _ ?_
  refine aS fun _ hK4 _=>(aR (sA R R (aZ (hK4 _ ?_))))
  refine Zj ?_
  exact Y1_ h1 iL (.t (.d R))
 refine ZP (fun (x2:Int) i3=>⟨[(1,rI (kind1)),(3,.ptr 3 n0 0 0),(11,.r (.sl (YC8.map (rInt .i64)))),(12,rI ((YC8.length:Int))),(13,rI (x2))],[(3,some (.box n0 24 [qf d1.Nodes]))],(i3 0),35⟩) (vec [(n0+1)]) hit1 ((by exact Zc ⟨jL,jL,jL,jL,jL,Za⟩ ⟨.inl R,Za⟩ nL)) ?_
 intro x2 i3 v1 hv1 hx1
 have h2:YBY d1 kind1 YC8 x2=some v1:=hv1; unfold YBY at h2
 refine aS fun _ hK5 _=>(aR (sQ R (Zv R iL iL) (aZ (hK5 _ ?_))))
 refine aS fun _ hK6 _=>?_
 refine aC R (fun hc1=>?_) (fun hc1=>?_)
 ·have h3:=Zn hc1 h2
  refine Zk (hK6 _ ?_)
  refine aS fun _ hK7 _=>(Zp (aS fun _ hK8 _=>(aR (Zl h3 fun x4 ex4 h4=>(sQ R (Zx R YDr.slice iL iL (fun _=>R) (fun _=>ex4)) (sQ R (ZO (d:=.int .i64 x4) R ts_3 iL R) (sA R R (aZ (hK8 _ ?_)))))))))
  refine aS fun _ hK9 _=>(aR (sQ R (ZC R YEv iL R R) (sM R R (ob2k h4 fun r1 r2 er1 h5=>(Zh R R R (Zr (r:=.tup [rI (r1),rB (r2)]) (caps:=[]) (bs:=[.agg [qf d1.Nodes],rI (x4)]) R iL R ⟨⟨_,iL,.g (cs:=[.sl (d1.Nodes.map YAJ.row)]) R R⟩,⟨_,iL,.d R⟩,Za⟩ (fun _=>YKA (er1)) R) (sM R R (sQ R (ZQ (a:=rI (r1)) R iL R) (sQ R (ZQ (a:=rB (r2)) R iL R) (sA R R (sA R R (aZ (hK9 _ ?_))))))))))))
  refine aS fun _ hK10 _=>(aS fun _ hK11 _=>?_)
  refine Zi (s':=⟨[(1,rI (kind1)),(3,.ptr 3 n0 0 0),(9,rI (r1)),(10,rB (r2)),(11,.r (.sl (YC8.map (rInt .i64)))),(12,rI ((YC8.length:Int))),(13,rI (x2))],[(3,some (.box n0 24 [qf d1.Nodes]))],(i3 0),35⟩) (by exact Zc ⟨jL,jL,jL,jL,jL,jL,jL,Za⟩ ⟨.inl R,Za⟩ nL) ?_
  refine aR (sM R R (sQ R (ZK R iL) (aZ (hK11 _ ?_))))
  refine aC R (fun hc2=>?_) (fun hc2=>?_)
  ·have h6:=Zn hc2 h5
   refine aS fun _ hK12 _=>?_
   refine Zi (s':=⟨[],[],(i3 0),35⟩) (by exact Zc Za Za nL) ?_
   refine aR (sA R R (aZ (hK12 _ ?_)))
   refine Zj ?_
   exact Y1_ (he1 _ (hx1 _ (Zd h6).symm)) iL (.t (.d R))
  ·have h6:=Zo hc2 h5
   refine Zk (hK10 _ ?_)
   refine aS fun _ hK13 _=>(aR (sM R R (sQ R (fB R YBQ iL fR R) (sQ R (Zb (a:=qf d1.Nodes) R YEN iL R R) (sM R R (Zl h6 fun x5 ex5 h7=>(sQ R (Zx R YDc.slice iL iL (fun _=>R) (fun _=>ex5)) (sQ R (Zw R YA0 iL) (sQ R (ZO (d:=.int .i64 x5.Kind) R ts_3 iL R) (Zl h7 fun r3 er3 h8=>(Zh R R R (Zr (r:=rB (r3)) (caps:=[]) (bs:=[rI (kind1),rI (x5.Kind)]) R iL R ⟨⟨_,iL,.d R⟩,⟨_,iL,.d R⟩,Za⟩ (fun _=>YIs (er3)) R) (sQ R (ZK R iL) (aZ (hK13 _ ?_))))))))))))))
   refine aC R (fun hc3=>?_) (fun hc3=>?_)
   ·have h9:=Zn hc3 h8
    refine aS fun _ hK14 _=>?_
    refine Zi (s':=⟨[],[],(i3 0),35⟩) (by exact Zc Za Za nL) ?_
    refine aR (sA R R (aZ (hK14 _ ?_)))
    refine Zj ?_
    exact Y1_ (he1 _ (hx1 _ (Zd h9).symm)) iL (.t (.d R))
   ·have h9:=Zo hc3 h8
    refine Zk (hK7 _ ?_)
    refine Zi (s':=⟨[(1,rI (kind1)),(3,.ptr 3 n0 0 0),(11,.r (.sl (YC8.map (rInt .i64)))),(12,rI ((YC8.length:Int))),(13,rI (x2))],[(3,some (.box n0 24 [qf d1.Nodes]))],(i3 0),35⟩) (by exact Zc ⟨jL,jL,jL,jL,jL,Za⟩ ⟨.inl R,Za⟩ nL) ?_
    refine aR (Zl h9 fun x6 ex6 h10=>(sQ R (ZI R iL iL (fun _=>ex6)) (sM R R ?_)))
    refine Zt ?_
    exact ZJ h10 (vec [(i3 0)]) ((by exact Zc ⟨jL,jL,jL,jL,jL,Za⟩ ⟨.inl R,Za⟩ nL))
 ·have h3:=Zo hc1 h2
  refine ZL ?_
  exact wK2 _ _ ((by exact Zc Za Za nL)) (J1 _ (vec [(i3 0)]) (hx1 _ (Zd h3).symm))
theorem YIw {d1:GDoc} {r:Int} (h:YCE d1=some r):ARO Tryz.prog 82 [.agg [qf d1.Nodes]] (rI (r)):=by
 unfold YCE at h
 refine Zu Tryz.func82 R R Tryz.ntmps82 R (Zf R) fun n0=>?_
 refine aS fun _ hK1 _=>(aR (Zh R R R (ZM (cs:=[qf d1.Nodes]) 1 R iL R R) (sA R R (aZ (hK1 _ ?_)))))
 refine aS fun _ hK2 _=>(aS fun _ hK3 _=>(aR (sQ R (fB R YBQ iL fR R) (sQ R (Zb (a:=qf d1.Nodes) R YEN iL R R) (sQ R (Zz R YDc.slice iL) (sQ R (Zs R iL iL) (aZ (hK3 _ ?_))))))))
 refine aC R (fun hc1=>?_) (fun hc1=>?_)
 ·have h1:=Zn hc1 h
  refine aS fun _ hK4 _=>(aR (sA R R (aZ (hK4 _ ?_))))
  refine Zj ?_
  exact Y1_ h1 iL (.t (.d R))
 ·have h1:=Zo hc1 h
  refine Zk (hK2 _ ?_)
  refine aS fun K5 hK5 wK5=>(aS fun _ hK6 _=>(aR (sQ R (fB R YBQ iL fR R) (sQ R (Zb (a:=qf d1.Nodes) R YEN iL R R) (sQ R (Zz R YDc.slice iL) (sM R R (aZ (hK6 _ ?_))))))))
  refine Zp ?_
  refine jc1k h1 fun o1 hit1 hk1 he1=>?_
  have J1 : ∀ (u2:Unit) (i5:Nat→Nat),o1 = .nrm u2→K5 ⟨[(1,.ptr 1 n0 0 0)],[(1,some (.box n0 24 [qf d1.Nodes]))],(i5 0),67⟩:=by
   intro u2 i5 e
   have h2:=hk1 _ e
   refine hK5 _ ?_
   refine aS fun K7 hK7 wK7=>(aS fun _ hK8 _=>(aR (sQ R (fB R YBQ iL fR R) (sQ R (Zb (a:=qf d1.Nodes) R YEN iL R R) (sQ R (Zz R YDc.slice iL) (sM R R (aZ (hK8 _ ?_))))))))
   refine Zp ?_
   refine jc1k h2 fun o2 hit2 hk2 he2=>?_
   have J2 : ∀ (u4:Unit) (i10:Nat→Nat),o2 = .nrm u4→K7 ⟨[],[],(i10 0),67⟩:=by
    intro u4 i10 e
    have h3:=hk2 _ e
    refine hK7 _ ?_
    refine aS fun _ hK9 _=>(aR (sA R R (aZ (hK9 _ ?_))))
    refine Zj ?_
    exact Y1_ h3 iL (.t (.d R))
   refine ZP (fun (x5:Int) i8=>⟨[(1,.ptr 1 n0 0 0),(51,qf d1.Nodes),(52,rI ((d1.Nodes.length:Int))),(53,rI (x5))],[(1,some (.box n0 24 [qf d1.Nodes]))],(i8 0),67⟩) (vec [(i5 0)]) hit2 ((by exact Zc ⟨jL,jL,jL,jL,Za⟩ ⟨.inl R,Za⟩ nL)) ?_
   intro x5 i8 v1 hv1 hx2
   have h4:YCR d1 x5=some v1:=hv1; unfold YCR at h4
   refine aS fun _ hK10 _=>(aR (sQ R (Zv R iL iL) (aZ (hK10 _ ?_))))
   refine aS fun _ hK11 _=>?_
   refine aC R (fun hc2=>?_) (fun hc2=>?_)
   ·have h5:=Zn hc2 h4
    refine Zk (hK11 _ ?_)
    refine aS fun _ hK12 _=>(Zp (aS fun _ hK13 _=>(aR (Zl h5 fun x7 ex7 h6=>(sQ R (Zx R YDc.slice iL iL (fun _=>R) (fun _=>ex7)) (sQ R (ZG (cs:=(k6_ x7)) R YFl iL R R) (Zh R R R (YAi (cs:=z3_) 7 R YLg R R) (ZN R R (ZF (ds:=(k6_ x7)) R YIz iL R iL R R R R) (aZ (hK13 _ ?_))))))))))
    refine aS fun _ hK14 _=>(Zl h6 fun r1 er1 h7=>?_)
    refine AW.regionP 5 [⟨some 57,(fun _=>.agg [qf d1.Nodes]),none,[]⟩,⟨some 58,(fun _=>.ptr 7 (i8 0) 0 1),none,[]⟩,⟨some 59,(fun _=>rI (x7.Kind)),none,[]⟩,⟨some 60,(fun _=>.agg (k6_ x7)),none,[]⟩,⟨some 61,(fun _=>.r (.sl (r1.map (rInt .i64)))),none,[]⟩] hmix (by kernel_rfl) (by exact ⟨fun _ _ h=>⟨R,fun _ _ e=>by cases e⟩,fun _ _ h=>⟨R,fun _ _ e=>by cases e⟩,fun _ _ h=>⟨R,fun _ _ e=>by cases e⟩,fun _ _ h=>⟨R,fun _ _ e=>by cases e⟩,fun _ _ h=>⟨R,fun _ _ e=>by cases e⟩,Za⟩) R (by exact ⟨ZH (n1:=fun n=>n) R R (by intro d h; cases h; rfl) R (fun _=>[(1,.ptr 1 n0 0 0)]) (fun _=>[(1,some (.box n0 24 [qf d1.Nodes]))]) (fun D G1 hr=>⟨YAq R R,Za⟩) (fun D G1 hr=>⟨YAj R R,Za⟩) (fun _ _=>R) (fun G1 e h' n=>ZB (v:=.agg [qf d1.Nodes]) (ZC R YEv (.inl R) R R) _),
      ZH (n1:=fun n=>n) R R (by intro d h; cases h; rfl) R (fun _=>[(7,.ptr 7 (i8 0) 0 0)]) (fun _=>[(7,some (.box (i8 0) 46 (k6_ x7)))]) (fun D G1 hr=>⟨YAq R R,Za⟩) (fun D G1 hr=>⟨YAj R R,Za⟩) (fun _ _=>R) (fun G1 e h' n=>ZB (v:=.ptr 7 (i8 0) 0 1) (fB R YA0 (.inl R) (fun _=>R) R) _),
      ZH (n1:=fun n=>n) R R (by intro d h; cases h; rfl) R (fun _=>[(58,.ptr 7 (i8 0) 0 1)]) (fun _=>[(7,some (.box (i8 0) 46 (k6_ x7)))]) (fun D G1 hr=>⟨ZE hr 1 R R (by kernel_rfl) R R,Za⟩) (fun D G1 hr=>⟨YAj R R,Za⟩) (fun _ _=>R) (fun G1 e h' n=>ZB (v:=rI (x7.Kind)) (Zb (a:=rI (x7.Kind)) R ts_3 (.inl R) R R) _),
      ZH (n1:=fun n=>n) R R (by intro d h; cases h; rfl) R (fun _=>[(7,.ptr 7 (i8 0) 0 0)]) (fun _=>[(7,some (.box (i8 0) 46 (k6_ x7)))]) (fun D G1 hr=>⟨YAq R R,Za⟩) (fun D G1 hr=>⟨YAj R R,Za⟩) (fun _ _=>R) (fun G1 e h' n=>ZB (v:=.agg (k6_ x7)) (ZC R YFl (.inl R) R R) _),
      ZH (n1:=fun n=>n) R R (by intro d h; cases h; rfl) R (fun _=>[(60,.agg (k6_ x7))]) (fun _=>[]) (fun D G1 hr=>⟨ZE hr 3 R R (by kernel_rfl) R R,Za⟩) (fun D G1 hr=>Za) (fun _ _=>R) (fun G1 e h' n=>YCs (r:=.r (.sl (r1.map (rInt .i64)))) (caps:=[]) (bs:=(k4_ x7)) R (.inl R) R ⟨.inl ⟨(.inl R),R⟩,Za⟩ (fun _=>YOK (er1))),
      Za⟩) fun G1 n1=>?_
    refine AOps.weak (s':=⟨[(1,.ptr 1 n0 0 0),(7,.ptr 7 (i8 0) 0 0),(51,qf d1.Nodes),(52,rI ((d1.Nodes.length:Int))),(53,rI (x5)),(54,rB ((decide (x5<(d1.Nodes.length:Int))))),(55,.rop (YAJ.row x7) 0),(56,.agg (k6_ x7)),(57,.agg [qf d1.Nodes]),(58,.ptr 7 (i8 0) 0 1),(59,rI (x7.Kind)),(60,.agg (k6_ x7)),(61,.r (.sl (r1.map (rInt .i64))))],[(1,some (.box n0 24 [qf d1.Nodes])),(7,some (.box (i8 0) 46 (k6_ x7)))],n1,67⟩) (by exact Zc ⟨jL,jL,jL,jL,jL,jL,jL,jL,jL,jL,jL,jL,jL,Za⟩ ⟨.inl R,.inl R,Za⟩ nL) ?_
    refine Zl h7 fun e1 ee1 h8=>(Zh R R R (Zr (r:=rI (e1)) (caps:=[]) (bs:=[.agg [qf d1.Nodes],rI (x7.Kind),.r (.sl (r1.map (rInt .i64)))]) R iL R ⟨⟨_,iL,.g (cs:=[.sl (d1.Nodes.map YAJ.row)]) R R⟩,⟨_,iL,.d R⟩,⟨_,iL,.d R⟩,Za⟩ (fun _=>YIu (ee1)) R) (sA R R (aZ (hK14 _ ?_))))
    refine aS fun _ hK15 _=>?_
    refine Zi (s':=⟨[(1,.ptr 1 n0 0 0),(8,rI (e1)),(51,qf d1.Nodes),(52,rI ((d1.Nodes.length:Int))),(53,rI (x5))],[(1,some (.box n0 24 [qf d1.Nodes]))],n1,67⟩) (by exact Zc ⟨jL,jL,jL,jL,jL,Za⟩ ⟨.inl R,Za⟩ nL) ?_
    refine aR (sM R R (sQ R (ZD R iL iL) (aZ (hK15 _ ?_))))
    refine aC R (fun hc3=>?_) (fun hc3=>?_)
    ·have h9:=Zn hc3 h8
     refine aS fun _ hK16 _=>(aR (sM R R (sA R R (aZ (hK16 _ ?_)))))
     refine Zj ?_
     exact Y1_ (he2 _ (hx2 _ (Zd h9).symm)) iL (.t (.d R))
    ·have h9:=Zo hc3 h8
     refine Zk (hK12 _ ?_)
     refine aR (Zl h9 fun x8 ex8 h10=>(sQ R (ZI R iL iL (fun _=>ex8)) (sM R R ?_)))
     refine Zt ?_
     exact ZJ h10 (vec [n1]) ((by exact Zc ⟨jL,jL,jL,jL,Za⟩ ⟨.inl R,Za⟩ nL))
   ·have h5:=Zo hc2 h4
    refine ZL ?_
    exact wK7 _ _ ((by exact Zc Za Za nL)) (J2 _ (vec [(i8 0)]) (hx2 _ (Zd h5).symm))
  refine ZP (fun (x2:Int) i3=>⟨[(1,.ptr 1 n0 0 0),(14,qf d1.Nodes),(15,rI ((d1.Nodes.length:Int))),(16,rI (x2))],[(1,some (.box n0 24 [qf d1.Nodes]))],(i3 0),67⟩) (vec [(n0+1)]) hit1 ((by exact Zc ⟨jL,jL,jL,jL,Za⟩ ⟨.inl R,Za⟩ nL)) ?_
  intro x2 i3 v2 hv2 hx1
  have h11:YBd d1 x2=some v2:=hv2; unfold YBd at h11
  refine aS fun _ hK17 _=>(aR (sQ R (Zv R iL iL) (aZ (hK17 _ ?_))))
  refine aS fun _ hK18 _=>?_
  refine aC R (fun hc4=>?_) (fun hc4=>?_)
  ·have h12:=Zn hc4 h11
   refine Zk (hK18 _ ?_)
   refine aS fun _ hK19 _=>(Zp (aS fun _ hK20 _=>(aR (sM R R (Zl h12 fun x9 ex9 h13=>(sQ R (Zx R YDc.slice iL iL (fun _=>R) (fun _=>ex9)) (sQ R (ZG (cs:=(k6_ x9)) R YFl iL R R) (Zh R R R (YAi (cs:=z3_) 4 R YLg R R) (sA R R (ZN R R (ZF (ds:=(k6_ x9)) R YIz iL R iL R R R R) (aZ (hK20 _ ?_))))))))))))
   refine aS fun _ hK21 _=>(aS fun _ hK22 _=>(aR (sQ R (ZC R YFl iL R R) (Zl h13 fun e2 ee2 h14=>(Zh R R R (Zr (r:=rI (e2)) (caps:=[]) (bs:=(k4_ x9)) R iL R ⟨⟨_,iL,.g (cs:=[.int .i64 x9.ID,.int .i64 x9.Kind,.sl (x9.Attrs.map YAT.row),.sl (x9.Flow.map YAN.row),.int .i64 x9.Grid.Rows,.int .i64 x9.Grid.Cols,.sl (x9.Grid.Cells.map YAL.row),.sl (x9.Grid.Merges.map YAQ.row),.sl (x9.Draw.map YAI.row)]) R R⟩,Za⟩ (fun _=>YIv (ee2)) R) (sA R R (aZ (hK22 _ ?_))))))))
   refine aS fun _ hK23 _=>(aR (sM R R (sQ R (ZD R iL iL) (aZ (hK23 _ ?_)))))
   refine aC R (fun hc5=>?_) (fun hc5=>?_)
   ·have h15:=Zn hc5 h14
    refine aS fun _ hK24 _=>?_
    refine Zi (s':=⟨[(5,rI (e2))],[],((i3 0)+1),67⟩) (by exact Zc ⟨jL,Za⟩ Za nL) ?_
    refine aR (sM R R (sA R R (aZ (hK24 _ ?_))))
    refine Zj ?_
    exact Y1_ (he1 _ (hx1 _ (Zd h15).symm)) iL (.t (.d R))
   ·have h15:=Zo hc5 h14
    refine Zk (hK21 _ ?_)
    refine aS fun _ hK25 _=>?_
    refine Zi (s':=⟨[(1,.ptr 1 n0 0 0),(3,rI (x2)),(4,.ptr 4 (i3 0) 0 0),(14,qf d1.Nodes),(15,rI ((d1.Nodes.length:Int))),(16,rI (x2))],[(1,some (.box n0 24 [qf d1.Nodes])),(4,some (.box (i3 0) 46 (k6_ x9)))],((i3 0)+1),67⟩) (by exact Zc ⟨jL,jL,jL,jL,jL,jL,Za⟩ ⟨.inl R,.inl R,Za⟩ nL) ?_
    refine ZS hmix (by kernel_rfl) ?_
    refine Zm R R R (Ze R iL) (Zm R R R (Zs R iL iL) (Zm R R R (Ze R iL) ?_))
    refine Zg (.one R R R) R R (fB R YBn iL fR R) ?_
    refine Zg (.one R R R) R R (Zb (a:=rI (x9.ID)) R ts_3 (iR R) R R) ?_
    refine Zg (.one R R R) R R (ZD R (iR R) iL) ?_
    refine Zm R R R (Zq R iL (iR R)) (Zm R R R (Ze R iL) ?_)
    refine Zg (.one R R R) R R (Ze R iL) ?_
    refine Zg (.one R R R) R R (ZR R (iR R) iL) ?_
    refine Zg (.one R R R) R R (Ze R (iR R)) ?_
    refine Zg (.two R R R) R R (fB R YBn iL fR R) ?_
    refine Zg (.two R R R) R R (Zb (a:=rI (x9.ID)) R ts_3 (iR R) R R) ?_
    refine Zg (.two R R R) R R (fB R YBQ iL fR R) ?_
    refine Zg (.two R R R) R R (Zb (a:=qf d1.Nodes) R YEN (iR R) R R) ?_
    refine Zg (.two R R R) R R (Ze R iL) ?_
    refine Zl h15 fun x10 ex10 h16=>?_
    refine Zg (.two R R R) R R (YBA R (iR R) iL (gdt ex10)) ?_
    refine Zl h16 fun x11 ex11 h17=>?_
    refine Zg (.two R R R) R R (Zx R YDc.slice (iR R) (iR R) (fun _=>R) (gdt ex11)) ?_
    refine Zg (.two R R R) R R (Zw R YBn (iR R)) ?_
    refine Zg (.two R R R) R R (ZO (d:=.int .i64 x11.ID) R ts_3 (iR R) R) ?_
    refine Zg (.two R R R) R R (YET R (iR R) (iR R)) ?_
    refine Zg (.one R R R) R R (Zq R (iR R) (iR R)) ?_
    refine Zm R R R (Zy R iL (iR R)) ?_
    refine AQ.nil ?_
    refine hK25 _ ?_
    refine aC R (fun hc6=>?_) (fun hc6=>?_)
    ·have h18:=Zn hc6 h17
     refine aS fun _ hK26 _=>?_
     refine Zi (s':=⟨[],[],((i3 0)+1),67⟩) (by exact Zc Za Za nL) ?_
     refine aR (sA R R (aZ (hK26 _ ?_)))
     refine Zj ?_
     exact Y1_ (he1 _ (hx1 _ (Zd h18).symm)) iL (.t (.d R))
    ·have h18:=Zo hc6 h17
     refine Zk (hK19 _ ?_)
     refine aR (Zl h18 fun x12 ex12 h19=>(sQ R (ZI R iL iL (fun _=>ex12)) (sM R R ?_)))
     refine Zt ?_
     exact ZJ h19 (vec [((i3 0)+1)]) ((by exact Zc ⟨jL,jL,jL,jL,Za⟩ ⟨.inl R,Za⟩ nL))
  ·have h12:=Zo hc4 h11
   refine ZL ?_
   exact wK5 _ _ ((by exact Zc ⟨jL,Za⟩ ⟨.inl R,Za⟩ nL)) (J1 _ (vec [(i3 0)]) (hx1 _ (Zd h12).symm))
theorem YMn {d1:GDoc} {id1:Int} {r:Int} (h:YGF d1 id1=some r):ARO Tryz.prog 95 [.agg [qf d1.Nodes],rI (id1)] (rI (r)):=by
 unfold YGF at h
 refine Zu Tryz.func95 R R Tryz.ntmps95 R (Zf R) fun n0=>?_
 refine aS fun _ hK1 _=>(aR (Zh R R R (ZM (cs:=[qf d1.Nodes]) 2 R iL R R) (sA R R (aZ (hK1 _ ?_)))))
 refine aS fun _ hK2 _=>(aS fun _ hK3 _=>(aR (sQ R (ZC R YEv iL R R) (sM R R (ob2k h fun r1 r2 er1 h1=>(Zh R R R (Zr (r:=.tup [rI (r1),rB (r2)]) (caps:=[]) (bs:=[.agg [qf d1.Nodes],rI (id1)]) R iL R ⟨⟨_,iL,.g (cs:=[.sl (d1.Nodes.map YAJ.row)]) R R⟩,⟨_,iL,.d R⟩,Za⟩ (fun _=>YKA (er1)) R) (sM R R (sQ R (ZQ (a:=rI (r1)) R iL R) (sQ R (ZQ (a:=rB (r2)) R iL R) (sA R R (sA R R (aZ (hK3 _ ?_)))))))))))))
 refine aS fun _ hK4 _=>?_
 refine Zi (s':=⟨[(5,rI (r1)),(6,rB (r2))],[],(n0+1),15⟩) (by exact Zc ⟨jL,jL,Za⟩ Za nL) ?_
 refine aR (sM R R (aZ (hK4 _ ?_)))
 refine aC R (fun hc1=>?_) (fun hc1=>?_)
 ·have h2:=Zn hc1 h1
  refine aS fun _ hK5 _=>(aR (sM R R (sA R R (aZ (hK5 _ ?_)))))
  refine Zj ?_
  exact Y1_ h2 iL (.t (.d R))
 ·have h2:=Zo hc1 h1
  refine Zk (hK2 _ ?_)
  refine aS fun _ hK6 _=>(aR (sA R R (aZ (hK6 _ ?_))))
  refine Zj ?_
  exact Y1_ h2 iL (.t (.d R))
theorem YDe {d1:GDoc} {id1:Int} {r:YAJ × Int} (h:YAa d1 id1=some r):ARO Tryz.prog 90 [.agg [qf d1.Nodes],rI (id1)] (.tup [.agg (k6_ r.1),rI (r.2)]):=by
 unfold YAa at h
 refine Zu Tryz.func90 R R Tryz.ntmps90 R (Zf R) fun n0=>?_
 refine aS fun _ hK1 _=>(aR (Zh R R R (ZM (cs:=[qf d1.Nodes]) 2 R iL R R) (Zh R R R (YAi (cs:=z3_) 4 R YLg R R) (sA R R (aZ (hK1 _ ?_))))))
 refine aS fun _ hK2 _=>(aS fun _ hK3 _=>(aR (sQ R (ZC R YEv iL R R) (Zl h fun e1 ee1 h1=>(Zh R R R (Zr (r:=rI (e1)) (caps:=[]) (bs:=[.agg [qf d1.Nodes]]) R iL R ⟨⟨_,iL,.g (cs:=[.sl (d1.Nodes.map YAJ.row)]) R R⟩,Za⟩ (fun _=>YIw (ee1)) R) (sA R R (aZ (hK3 _ ?_))))))))
 refine aS fun _ hK4 _=>(aR (sM R R (sQ R (ZD R iL iL) (aZ (hK4 _ ?_)))))
 refine aC R (fun hc1=>?_) (fun hc1=>?_)
 ·have h2:=Zn hc1 h1
  refine aS fun _ hK5 _=>(aR ?_)
  refine sQ R (YAn R YPD (q:=[]) (by exact Za) (cs:=z3_) (by rfl)) ?_
  refine sM R R (ZN R R (ZF (ds:=z3_) R YIz iL R iL R R R R) (sA R R (aZ (hK5 _ ?_))))
  refine Zj ?_
  exact YC7 (P:=Tryz.prog) (fun (r:YAJ × Int)=>.agg (k6_ r.1)) (fun (r:YAJ × Int)=>rI (r.2)) h2 iL (.a YFl R R R (.agg (by exact ⟨.closed _ R,.closed _ R,.nil,.nil,.closed _ R,.closed _ R,.nil,.nil,.nil,Za⟩))) (.t (.d R))
 ·have h2:=Zo hc1 h1
  refine Zk (hK2 _ ?_)
  refine aS fun _ hK6 _=>(aR (sQ R (ZC R YEv iL R R) (sM R R (Zl h2 fun i1 ei1 h3=>(Zh R R R (Zr (r:=rI (i1)) (caps:=[]) (bs:=[.agg [qf d1.Nodes],rI (id1)]) R iL R ⟨⟨_,iL,.g (cs:=[.sl (d1.Nodes.map YAJ.row)]) R R⟩,⟨_,iL,.d R⟩,Za⟩ (fun _=>YMn (ei1)) R) (sA R R (aZ (hK6 _ ?_))))))))
  refine aS fun _ hK7 _=>(aS fun _ hK8 _=>?_)
  refine Zi (s':=⟨[(2,.ptr 2 n0 0 0),(4,.ptr 4 (n0+1) 0 0),(7,rI (i1))],[(2,some (.box n0 24 [qf d1.Nodes])),(4,some (.box (n0+1) 46 z3_))],(n0+2),34⟩) (by exact Zc ⟨jL,jL,jL,Za⟩ ⟨.inl R,.inl R,Za⟩ nL) ?_
  refine aR (sM R R (sQ R (Zv R iL iL) (aZ (hK8 _ ?_))))
  refine aC R (fun hc2=>?_) (fun hc2=>?_)
  ·have h4:=Zn hc2 h3
   refine aS fun _ hK9 _=>(aR ?_)
   refine sQ R (YAn R YPD (q:=[]) (by exact Za) (cs:=z3_) (by rfl)) ?_
   refine ZN R R (ZF (ds:=z3_) R YIz iL R iL R R R R) (sA R R (aZ (hK9 _ ?_)))
   refine Zj ?_
   exact YC7 (P:=Tryz.prog) (fun (r:YAJ × Int)=>.agg (k6_ r.1)) (fun (r:YAJ × Int)=>rI (r.2)) h4 iL (.a YFl R R R (.agg (by exact ⟨.closed _ R,.closed _ R,.nil,.nil,.closed _ R,.closed _ R,.nil,.nil,.nil,Za⟩))) (.t (.d R))
  ·have h4:=Zo hc2 h3
   refine Zk (hK7 _ ?_)
   refine aS fun _ hK10 _=>(aS fun _ hK11 _=>(aR (sQ R (fB R YBQ iL fR R) (sQ R (Zb (a:=qf d1.Nodes) R YEN iL R R) (sM R R (Zl h4 fun x1 ex1 h5=>(sQ R (Zx R YDc.slice iL iL (fun _=>R) (fun _=>ex1)) (sQ R (Zw R YA0 iL) (sQ R (ZO (d:=.int .i64 x1.Kind) R ts_3 iL R) (Zl h5 fun r1 er1 h6=>(Zh R R R (Zr (r:=rB (r1)) (caps:=[]) (bs:=[rI (x1.Kind)]) R iL R ⟨⟨_,iL,.d R⟩,Za⟩ (fun _=>YIt (er1)) R) (sQ R (ZK R iL) (aZ (hK11 _ ?_))))))))))))))
   refine aC R (fun hc3=>?_) (fun hc3=>?_)
   ·have h7:=Zn hc3 h6
    refine aS fun _ hK12 _=>?_
    refine Zi (s':=⟨[(4,.ptr 4 (n0+1) 0 0)],[(4,some (.box (n0+1) 46 z3_))],(n0+2),34⟩) (by exact Zc ⟨jL,Za⟩ ⟨.inl R,Za⟩ nL) ?_
    refine aR ?_
    refine sQ R (YAn R YPD (q:=[]) (by exact Za) (cs:=z3_) (by rfl)) ?_
    refine ZN R R (ZF (ds:=z3_) R YIz iL R iL R R R R) (sA R R (aZ (hK12 _ ?_)))
    refine Zj ?_
    exact YC7 (P:=Tryz.prog) (fun (r:YAJ × Int)=>.agg (k6_ r.1)) (fun (r:YAJ × Int)=>rI (r.2)) h7 iL (.a YFl R R R (.agg (by exact ⟨.closed _ R,.closed _ R,.nil,.nil,.closed _ R,.closed _ R,.nil,.nil,.nil,Za⟩))) (.t (.d R))
   ·have h7:=Zo hc3 h6
    refine Zk (hK10 _ ?_)
    refine aS fun _ hK13 _=>?_
    refine Zi (s':=⟨[(2,.ptr 2 n0 0 0),(4,.ptr 4 (n0+1) 0 0),(7,rI (i1))],[(2,some (.box n0 24 [qf d1.Nodes])),(4,some (.box (n0+1) 46 z3_))],(n0+2),34⟩) (by exact Zc ⟨jL,jL,jL,Za⟩ ⟨.inl R,.inl R,Za⟩ nL) ?_
    refine aR (sQ R (fB R YBQ iL fR R) (sQ R (Zb (a:=qf d1.Nodes) R YEN iL R R) (sM R R (sQ R (Zx R YDc.slice iL iL (fun _=>R) (fun _=>ex1)) (sQ R (ZG (cs:=(k6_ x1)) R YFl iL R R) (ZN R R (ZF (ds:=(k6_ x1)) R YIz iL R iL R R R R) (sA R R (aZ (hK13 _ ?_)))))))))
    refine Zj ?_
    exact YC7 (P:=Tryz.prog) (fun (r:YAJ × Int)=>.agg (k6_ r.1)) (fun (r:YAJ × Int)=>rI (r.2)) h7 iL (.a YFl R R R (.g (cs:=[.int .i64 x1.ID,.int .i64 x1.Kind,.sl (x1.Attrs.map YAT.row),.sl (x1.Flow.map YAN.row),.int .i64 x1.Grid.Rows,.int .i64 x1.Grid.Cols,.sl (x1.Grid.Cells.map YAL.row),.sl (x1.Grid.Merges.map YAQ.row),.sl (x1.Draw.map YAI.row)]) R R)) (.t (.d R))
theorem YBl {c1:List YAB} {kind1:Int} {n1:Int} {r:(List YAB)} {gb1000:Nat} {ga1001:Nat} (h:YAU c1 kind1 n1=some r):AHC Tryz.prog 136 2 [rI (kind1),rI (n1),.ptr 1000 gb1000 0 0] [(1000,some (.box gb1000 72 [.own 1001 ga1001])),(1001,some (.arr ga1001 142 2 (c1.map YAB.row)))] (fun rr h'=>∃ (i:Nat→Nat),rr = .tup []∧h'=[(1000,some (.box gb1000 72 [.own 1001 (i 0)])),(1001,some (.arr (i 0) 142 2 (r.map YAB.row)))]):=by
 unfold YAU at h
 refine AHC.mkw Tryz.func136 R R Tryz.ntmps136 (Zf R) fun n0=>?_
 refine aS fun _ hK1 _=>(aR (sM R R (sQ R (ZR R iL iL) (aZ (hK1 _ ?_)))))
 refine aC R (fun hc1=>?_) (fun hc1=>?_)
 ·have h1:=Zn hc1 h
  refine aR (sQ R (Zb (a:=.own 1001 ga1001) R YMq iL R R) (sM R R (sM R R ?_)))
  refine sQ R (YAn R YLd (q:=[(0,_),(1,_)]) (by exact ⟨R,R,R,iL,R,R,R,iL,Za⟩) (cs:=[rI (kind1),rI (n1)]) (by rfl)) ?_
  refine Zh R R R (YCn 11 R YHW (f:=YAB.row) (l:=([(YAB.mk kind1 n1)]:List YAB)) ⟨R,⟨_,iL,R⟩,Za⟩ R (fun _=>R) R) (Zl h1 fun l1 el1 h2=>(Zh R R R (YJQ R YHW iL R (.inr (.inl ⟨_,_,iL,R⟩)) el1) (ZN R R (ZF (ds:=[.own 1001 (n0+1)]) R YSH iL R iL R R R R) ?_)))
  refine Zt ?_
  exact RetW.mk (s':=⟨[],[(1000,some (.box gb1000 72 [.own 1001 (n0+1)])),(1001,some (.arr (n0+1) 142 2 (l1.map YAB.row)))],(n0+2),13⟩) ((by exact Zc Za ⟨.inl R,.inl R,Za⟩ nL)) (YEW (fun (r:(List YAB)) rr h'=>∃ (i:Nat→Nat),rr = .tup []∧h'=[(1000,some (.box gb1000 72 [.own 1001 (i 0)])),(1001,some (.arr (i 0) 142 2 (r.map YAB.row)))]) h2 (by exact ⟨.tup [],[(1000,some (.box gb1000 72 [.own 1001 (n0+1)])),(1001,some (.arr (n0+1) 142 2 (l1.map YAB.row)))],⟨_,R,Za⟩,⟨.inr R,.inr R,Za⟩,R,R,vec [(n0+1)],R,R⟩))
 ·have h1:=Zo hc1 h
  refine Zk ?_
  exact RetW.mk (s':=⟨[],[(1000,some (.box gb1000 72 [.own 1001 ga1001])),(1001,some (.arr ga1001 142 2 (c1.map YAB.row)))],n0,13⟩) ((by exact Zc Za ⟨.inl R,.inl R,Za⟩ nL)) (YEW (fun (r:(List YAB)) rr h'=>∃ (i:Nat→Nat),rr = .tup []∧h'=[(1000,some (.box gb1000 72 [.own 1001 (i 0)])),(1001,some (.arr (i 0) 142 2 (r.map YAB.row)))]) h1 (by exact ⟨.tup [],[(1000,some (.box gb1000 72 [.own 1001 ga1001])),(1001,some (.arr ga1001 142 2 (c1.map YAB.row)))],⟨_,R,Za⟩,⟨.inr R,.inr R,Za⟩,R,R,vec [ga1001],R,R⟩))
theorem YLa {a1:List YAB} {r:Int} (h:YEJ a1=some r):ARO Tryz.prog 137 [qg a1] (rI (r)):=by
 unfold YEJ at h
 refine Zu Tryz.func137 R R Tryz.ntmps137 R (Zf R) fun n0=>?_
 refine aS fun _ hK1 _=>(aR (sA R R (aZ (hK1 _ ?_))))
 refine aS fun _ hK2 _=>(aR (sA R R (sA R R (aZ (hK2 _ ?_)))))
 refine aS fun K3 hK3 wK3=>(aS fun _ hK4 _=>(aR (sM R R (sQ R (Zz R YHW.slice iL) (sM R R (aZ (hK4 _ ?_)))))))
 refine Zp ?_
 refine jc2k h fun o1 hit1 hk1 he1=>?_
 have J1 : ∀ (before4:Int) (after4:Int) (i5:Nat→Nat),o1 = .nrm (before4,after4)→K3 ⟨[(3,rI (before4)),(4,rI (after4))],[],(i5 0),83⟩:=by
  intro before4 after4 i5 e
  have h1:=hk1 _ _ e
  refine hK3 _ ?_
  refine aS fun _ hK5 _=>(aS fun _ hK6 _=>(aR (sM R R (sQ R (ZR R iL iL) (sM R R (sV R R R (Ze R iL) (sV R R R (ZR R (iR R) iL) (sQ R (Zy R iL (iR R)) (aZ (hK6 _ ?_))))))))))
  refine aC R (fun hc1=>?_) (fun hc1=>?_)
  ·have h2:=Zn hc1 h1
   refine aS fun _ hK7 _=>(aR (sA R R (aZ (hK7 _ ?_))))
   refine Zj ?_
   exact Y1_ h2 iL (.t (.d R))
  ·have h2:=Zo hc1 h1
   refine Zk (hK5 _ ?_)
   refine aS fun _ hK8 _=>(aR (sA R R (aZ (hK8 _ ?_))))
   refine Zj ?_
   exact Y1_ h2 iL (.t (.d R))
 refine AW.iter3 (fun (before2:Int) (after2:Int) (x2:Int) i3=>⟨[(0,qg a1),(3,rI (before2)),(4,rI (after2)),(7,qg a1),(8,rI ((a1.length:Int))),(9,rI (x2))],[],(i3 0),83⟩) (vec [n0]) hit1 ((by exact Zc ⟨jL,jL,jL,jL,jL,jL,Za⟩ Za nL)) ?_
 intro before2 after2 x2 i3 v1 hv1 hx1
 have h3:YCe a1 before2 after2 x2=some v1:=hv1; unfold YCe at h3
 refine aS fun _ hK9 _=>(aR (sQ R (Zv R iL iL) (aZ (hK9 _ ?_))))
 refine aS fun _ hK10 _=>?_
 refine aC R (fun hc2=>?_) (fun hc2=>?_)
 ·have h4:=Zn hc2 h3
  refine Zk (hK10 _ ?_)
  refine aS fun K11 hK11 wK11=>(Zp ?_)
  refine jc2k h4 fun p1 hp1 hk2 he2=>?_
  have J2 : ∀ (before5:Int) (after5:Int) (i6:Nat→Nat),p1 = .nrm (before5,after5)→K11 ⟨[(0,qg a1),(3,rI (before5)),(4,rI (after5)),(7,qg a1),(8,rI ((a1.length:Int))),(9,rI (x2))],[],(i6 0),83⟩:=by
   intro before5 after5 i6 e
   have h5:=hk2 _ _ e
   refine hK11 _ ?_
   refine aR (Zl h5 fun x4 ex4 h6=>(sQ R (ZI R iL iL (fun _=>ex4)) (sM R R ?_)))
   refine Zt ?_
   exact YOG.mk h6 (vec [(i6 0)]) ((by exact Zc ⟨jL,jL,jL,jL,jL,jL,Za⟩ Za nL))
  refine aS fun _ hK12 _=>(aR (sM R R (Zl hp1 fun x5 ex5 h7=>(sQ R (Zx R YHW.slice iL iL (fun _=>R) (fun _=>ex5)) (sQ R (ZG (cs:=[rI (x5.Kind),rI (x5.N)]) R YLf iL R R) (Zh R R R (YAi (cs:=[rI (0),rI (0)]) 6 R YRs R R) (sA R R (ZN R R (ZF (ds:=[rI (x5.Kind),rI (x5.N)]) R YRm iL R iL R R R R) (aZ (hK12 _ ?_))))))))))
  refine aS fun _ hK13 _=>(Zp (aS fun _ hK14 _=>(aR (sQ R (fB R YEo iL fR R) (sQ R (Zb (a:=rI (x5.Kind)) R ts_3 iL R R) (sQ R (Zv R iL iL) (sM R R (sV R R R (fB R YEo iL fR R) (sV R R R (Zb (a:=rI (x5.Kind)) R ts_3 (iR R) R R) (sV R R R (ZR R (iR R) iL) (sQ R (Zy R iL (iR R)) (sA R R (aZ (hK14 _ ?_))))))))))))))
  refine aC R (fun hc3=>?_) (fun hc3=>?_)
  ·have h8:=Zn hc3 h7
   refine aS fun _ hK15 _=>?_
   refine Zi (s':=⟨[],[],((i3 0)+1),83⟩) (by exact Zc Za Za nL) ?_
   refine aR (sA R R (aZ (hK15 _ ?_)))
   refine Zj ?_
   exact Y1_ (he1 _ (hx1 _ (Zd (he2 _ (Zd h8).symm)).symm)) iL (.t (.d R))
  ·have h8:=Zo hc3 h7
   refine aS fun _ hK16 _=>?_
   refine Zi (s':=⟨[(0,qg a1),(3,rI (before2)),(4,rI (after2)),(5,rI (x2)),(6,.ptr 6 (i3 0) 0 0),(7,qg a1),(8,rI ((a1.length:Int))),(9,rI (x2))],[(6,some (.box (i3 0) 142 [rI (x5.Kind),rI (x5.N)]))],((i3 0)+1),83⟩) (by exact Zc ⟨jL,jL,jL,jL,jL,jL,jL,jL,Za⟩ ⟨.inl R,Za⟩ nL) ?_
   refine aR (sQ R (fB R YG1 iL fR R) (sQ R (Zb (a:=rI (x5.N)) R ts_3 iL R R) (sQ R (Zv R iL iL) (sM R R (sV R R R (fB R YG1 iL fR R) (sV R R R (Zb (a:=rI (x5.N)) R ts_3 (iR R) R R) (sV R R R (ZR R (iR R) iL) (sQ R (Zy R iL (iR R)) (sA R R (aZ (hK16 _ ?_)))))))))))
   refine aC R (fun hc4=>?_) (fun hc4=>?_)
   ·have h9:=Zn hc4 h8
    refine aS fun _ hK17 _=>?_
    refine Zi (s':=⟨[],[],((i3 0)+1),83⟩) (by exact Zc Za Za nL) ?_
    refine aR (sA R R (aZ (hK17 _ ?_)))
    refine Zj ?_
    exact Y1_ (he1 _ (hx1 _ (Zd (he2 _ (Zd h9).symm)).symm)) iL (.t (.d R))
   ·have h9:=Zo hc4 h8
    refine aS fun _ hK18 _=>?_
    refine ZS hmix (by kernel_rfl) ?_
    refine Zm R R R (Ze R iL) (Zm R R R (ZR R iL iL) (Zm R R R (Ze R iL) ?_))
    refine Zg (.one R R R) R R (Ze R iL) ?_
    refine Zg (.one R R R) R R (Ze R iL) ?_
    refine Zl h9 fun x6 ex6 h10=>?_
    refine Zg (.one R R R) R R (YBA R (iR R) iL (gdt ex6)) ?_
    refine Zl h10 fun x7 ex7 h11=>?_
    refine Zg (.one R R R) R R (Zx R YHW.slice (iR R) (iR R) (fun _=>R) (gdt ex7)) ?_
    refine Zg (.one R R R) R R (Zw R YEo (iR R)) ?_
    refine Zg (.one R R R) R R (ZO (d:=.int .i64 x7.Kind) R ts_3 (iR R) R) ?_
    refine Zg (.one R R R) R R (fB R YEo iL fR R) ?_
    refine Zg (.one R R R) R R (Zb (a:=rI (x5.Kind)) R ts_3 (iR R) R R) ?_
    refine Zg (.one R R R) R R (Zs R (iR R) (iR R)) ?_
    refine Zg (.one R R R) R R (Ze R (iR R)) ?_
    refine Zg (.two R R R) R R (Ze R iL) ?_
    refine Zg (.two R R R) R R (Ze R iL) ?_
    refine Zg (.two R R R) R R (YBA R (iR R) iL (fun h=>gdt ex6 (Bool.and_eq_true_iff.1 h).1)) ?_
    refine Zg (.two R R R) R R (Zx R YHW.slice (iR R) (iR R) (fun _=>R) (fun h=>gdt ex7 (Bool.and_eq_true_iff.1 h).1)) ?_
    refine Zg (.two R R R) R R (Zw R YEo (iR R)) ?_
    refine Zg (.two R R R) R R (ZO (d:=.int .i64 x7.Kind) R ts_3 (iR R) R) ?_
    refine Zg (.two R R R) R R (Zs R (iR R) iL) ?_
    refine Zg (.two R R R) R R (Ze R (iR R)) ?_
    refine Zg (.two R R R) R R (fB R YEo iL fR R) ?_
    refine Zg (.two R R R) R R (Zb (a:=rI (x5.Kind)) R ts_3 (iR R) R R) ?_
    refine Zg (.two R R R) R R (Zs R (iR R) iL) ?_
    refine Zg (.two R R R) R R (Zq R (iR R) (iR R)) ?_
    refine Zg (.one R R R) R R (Zy R (iR R) (iR R)) ?_
    refine Zm R R R (Zq R iL (iR R)) (Zm R R R (YA8 R iL) ?_)
    refine AQ.nil ?_
    refine hK18 _ ?_
    refine aC R (fun hc5=>?_) (fun hc5=>?_)
    ·have h12:=Zn hc5 h11
     refine aS fun _ hK19 _=>?_
     refine Zi (s':=⟨[],[],((i3 0)+1),83⟩) (by exact Zc Za Za nL) ?_
     refine aR (sA R R (aZ (hK19 _ ?_)))
     refine Zj ?_
     exact Y1_ (he1 _ (hx1 _ (Zd (he2 _ (Zd h12).symm)).symm)) iL (.t (.d R))
    ·have h12:=Zo hc5 h11
     refine Zk (hK13 _ ?_)
     refine aS fun K20 hK20 wK20=>(aS fun _ hK21 _=>?_)
     refine Zi (s':=⟨[(0,qg a1),(3,rI (before2)),(4,rI (after2)),(6,.ptr 6 (i3 0) 0 0),(7,qg a1),(8,rI ((a1.length:Int))),(9,rI (x2))],[(6,some (.box (i3 0) 142 [rI (x5.Kind),rI (x5.N)]))],((i3 0)+1),83⟩) (by exact Zc ⟨jL,jL,jL,jL,jL,jL,jL,Za⟩ ⟨.inl R,Za⟩ nL) ?_
     refine aR (sQ R (fB R YEo iL fR R) (sQ R (Zb (a:=rI (x5.Kind)) R ts_3 iL R R) (sQ R (ZD R iL iL) (aZ (hK21 _ ?_)))))
     refine jb1k h12 fun p2 hp2 hk3=>?_
     have J3 : ∀ (before6:Int) (i7:Nat→Nat),p2=before6→K20 ⟨[(0,qg a1),(3,rI (before6)),(4,rI (after2)),(6,.ptr 6 (i3 0) 0 0),(7,qg a1),(8,rI ((a1.length:Int))),(9,rI (x2))],[(6,some (.box (i3 0) 142 [rI (x5.Kind),rI (x5.N)]))],(i7 0),83⟩:=by
      intro before6 i7 e
      have h13:=hk3 _ e
      refine hK20 _ ?_
      refine aS fun _ hK22 _=>(aR (sQ R (fB R YEo iL fR R) (sQ R (Zb (a:=rI (x5.Kind)) R ts_3 iL R R) (sQ R (ZD R iL iL) (aZ (hK22 _ ?_))))))
      refine aC R (fun hc6=>?_) (fun hc6=>?_)
      ·have h14:=Zn hc6 h13
       refine aR (sM R R (sQ R (fB R YG1 iL fR R) (sQ R (Zb (a:=rI (x5.N)) R ts_3 iL R R) (Zl h14 fun x8 ex8 h15=>(sQ R (ZI R iL iL (fun _=>ex8)) (sQ R (YLi R iL iL) (sA R R ?_)))))))
       refine Zt ?_
       exact wK11 _ _ ((by exact Zc ⟨jL,jL,jL,jL,jL,jL,Za⟩ Za nL)) (J2 _ _ (vec [(i7 0)]) (Zd h15).symm)
      ·have h14:=Zo hc6 h13
       refine Zk ?_
       exact wK11 _ _ ((by exact Zc ⟨jL,jL,jL,jL,jL,jL,Za⟩ Za nL)) (J2 _ _ (vec [(i7 0)]) (Zd h14).symm)
     refine aC R (fun hc7=>?_) (fun hc7=>?_)
     ·have h16:=Zn hc7 hp2
      refine aR (sM R R (sQ R (fB R YG1 iL fR R) (sQ R (Zb (a:=rI (x5.N)) R ts_3 iL R R) (Zl h16 fun x9 ex9 h17=>(sQ R (ZI R iL iL (fun _=>ex9)) (sQ R (YLi R iL iL) (sA R R ?_)))))))
      refine Zt ?_
      exact wK20 _ _ ((by exact Zc ⟨jL,jL,jL,jL,jL,jL,jL,Za⟩ ⟨.inl R,Za⟩ nL)) (J3 _ (vec [((i3 0)+1)]) (Zd h17).symm)
     ·have h16:=Zo hc7 hp2
      refine Zk ?_
      exact wK20 _ _ ((by exact Zc ⟨jL,jL,jL,jL,jL,jL,jL,Za⟩ ⟨.inl R,Za⟩ nL)) (J3 _ (vec [((i3 0)+1)]) (Zd h16).symm)
 ·have h4:=Zo hc2 h3
  refine ZL ?_
  exact wK3 _ _ ((by exact Zc ⟨jL,jL,Za⟩ Za nL)) (J1 _ _ (vec [(i3 0)]) (hx1 _ (Zd h4).symm))
theorem YEz {size1:Int} {at1:Int} {n1:Int} {r:(List YAB) × Int} (h:YBo size1 at1 n1=some r):ARO Tryz.prog 91 [rI (size1),rI (at1),rI (n1)] (.tup [qg r.1,rI (r.2)]):=by
 unfold YBo at h
 refine Zu Tryz.func91 R R Tryz.ntmps91 R (Zf R) fun n0=>?_
 refine aS fun _ hK1 _=>(aR (sA R R (sA R R (aZ (hK1 _ ?_)))))
 refine aS fun _ hK2 _=>(aS fun _ hK3 _=>(aR (sM R R (sQ R (Zv R iL iL) (sM R R (sV R R R (Ze R iL) (sV R R R (Zs R (iR R) iL) (sQ R (Zy R iL (iR R)) (sM R R (sV R R R (Ze R iL) (sV R R R (Zv R (iR R) iL) (sQ R (Zy R iL (iR R)) (sM R R (sV R R R (Ze R iL) (sV R R R (Ze R iL) (sV R R R (ZR R (iR R) (iR R)) (sQ R (Zy R iL (iR R)) (sM R R (sV R R R (Ze R iL) (sV R R R (Zv R (iR R) iL) (sV R R R (Ze R (iR R)) ?_)))))))))))))))))))))
 refine sW (.two R R R) R (Ze R iL) ?_
 refine Zl h fun x1 ex1 h1=>?_
 refine sW (.two R R R) R (YKJ R (iR R) (gdt ex1)) ?_
 refine sW (.two R R R) R (Ze R iL) ?_
 refine sW (.two R R R) R (Ze R iL) ?_
 refine Zl h1 fun x2 ex2 h2=>?_
 refine sW (.two R R R) R (YBA R (iR R) (iR R) (gdt ex2)) ?_
 refine sW (.two R R R) R (ZR R (iR R) (iR R)) ?_
 refine sV R R R (Zq R (iR R) (iR R)) (sQ R (Zy R iL (iR R)) (aZ (hK3 _ ?_)))
 refine aC R (fun hc1=>?_) (fun hc1=>?_)
 ·have h3:=Zn hc1 h2
  refine aS fun _ hK4 _=>?_
  refine Zi (s':=⟨[],[],n0,62⟩) (by exact Zc Za Za nL) ?_
  refine aR (sA R R (sA R R (aZ (hK4 _ ?_))))
  refine Zj ?_
  exact YC7 (P:=Tryz.prog) (fun (r:(List YAB) × Int)=>qg r.1) (fun (r:(List YAB) × Int)=>rI (r.2)) h3 iL (.t (.one (.nil))) (.t (.d R))
 ·have h3:=Zo hc1 h2
  refine Zk (hK2 _ ?_)
  refine aS fun _ hK5 _=>(aS fun _ hK6 _=>?_)
  refine Zi (s':=⟨[(0,rI (size1)),(1,rI (at1)),(2,rI (n1))],[],n0,62⟩) (by exact Zc ⟨jL,jL,jL,Za⟩ Za nL) ?_
  refine aR (sM R R (sQ R (ZR R iL iL) (aZ (hK6 _ ?_))))
  refine aC R (fun hc2=>?_) (fun hc2=>?_)
  ·have h4:=Zn hc2 h3
   refine aS fun _ hK7 _=>(aR (sA R R (sA R R (aZ (hK7 _ ?_)))))
   refine Zj ?_
   exact YC7 (P:=Tryz.prog) (fun (r:(List YAB) × Int)=>qg r.1) (fun (r:(List YAB) × Int)=>rI (r.2)) h4 iL (.t (.one (.nil))) (.t (.d R))
  ·have h4:=Zo hc2 h3
   refine Zk (hK5 _ ?_)
   refine aS fun _ hK8 _=>(aR (Zh R R R (YAi (cs:=[.cst (.slice none 0 0)]) 8 R t0_72 R R) (aZ (hK8 _ ?_))))
   refine aS fun _ hK9 _=>(aR ?_)
   refine sQ R (YGk (bs:=[.ptr 8 n0 0 0]) R (by exact ⟨iL,Za⟩)) ?_
   refine sA R R (aZ (hK9 _ ?_))
   refine aS fun _ hK10 _=>(aR (sM R R (sM R R ?_)))
   refine AOps.weak (Weak.trans (Weak.adoptBox 8 0 3080 142 2 (by decide) R R (by decide)) (by exact Zc (e':=[(0,rI (size1)),(1,rI (at1)),(2,rI (n1)),(8,.ptr 8 n0 0 0),(9,.fn 136 [.ptr 8 n0 0 0]),(37,rI (n1)),(38,rB ((decide (1000<n1)))),(39,.fn 136 [.ptr 8 n0 0 0]),(40,.fn 136 [.ptr 8 n0 0 0]),(41,rI (at1))]) (h':=[(8,some (.box n0 72 [.own 3080 (n0+1)])),(3080,some (.arr (n0+1) 142 2 (([]:List YAB).map YAB.row)))]) ⟨jL,jL,jL,jL,jL,jL,jL,jL,jL,jL,Za⟩ ⟨.inl R,.inl R,Za⟩ nL)) ?_
   refine Zl h4 fun w1 ew1 h5=>?_
   refine AOps.stepHI [8,3080] (hc:=[(1000,some (.box n0 72 [.own 1001 (n0+1)])),(1001,some (.arr (n0+1) 142 2 (([]:List YAB).map YAB.row)))]) (bs:=[rI (0),rI (at1)]) (caps:=[.ptr 1000 n0 0 0]) R R R R iL R ⟨.inl ⟨iL,R⟩,.inl ⟨iL,R⟩,Za⟩ ⟨R,R,R,R,R,R,Za⟩ (by decide) (YBl ew1) ?_
   intro i1 n2
   refine AOps.weak (s':=⟨[(0,rI (size1)),(1,rI (at1)),(2,rI (n1)),(8,.ptr 8 n0 0 0),(9,.fn 136 [.ptr 8 n0 0 0]),(37,rI (n1)),(38,rB ((decide (1000<n1)))),(39,.fn 136 [.ptr 8 n0 0 0]),(40,.fn 136 [.ptr 8 n0 0 0]),(41,rI (at1)),(42,.tup [])],[(8,some (.box n0 72 [.own 3080 (i1 0)])),(3080,some (.arr (i1 0) 142 2 (w1.map YAB.row)))],n2,62⟩) (by exact Zc ⟨jL,jL,jL,jL,jL,jL,jL,jL,jL,jL,jL,Za⟩ ⟨.inl R,.inl R,Za⟩ nL) ?_
   refine aZ (hK10 _ ?_)
   refine aS fun _ hK11 _=>(aR (sM R R (sM R R (Zl h5 fun w2 ew2 h6=>?_))))
   refine AOps.stepHI [8,3080] (hc:=[(1000,some (.box n0 72 [.own 1001 (i1 0)])),(1001,some (.arr (i1 0) 142 2 (w1.map YAB.row)))]) (bs:=[rI (1),rI (n1)]) (caps:=[.ptr 1000 n0 0 0]) R R R R iL R ⟨.inl ⟨iL,R⟩,.inl ⟨iL,R⟩,Za⟩ ⟨R,R,R,R,R,R,Za⟩ (by decide) (YBl ew2) ?_
   intro i2 n3
   refine AOps.weak (s':=⟨[(0,rI (size1)),(1,rI (at1)),(2,rI (n1)),(8,.ptr 8 n0 0 0),(9,.fn 136 [.ptr 8 n0 0 0]),(37,rI (n1)),(38,rB ((decide (1000<n1)))),(39,.fn 136 [.ptr 8 n0 0 0]),(40,.fn 136 [.ptr 8 n0 0 0]),(41,rI (at1)),(42,.tup []),(43,.fn 136 [.ptr 8 n0 0 0]),(44,rI (n1)),(45,.tup [])],[(8,some (.box n0 72 [.own 3080 (i2 0)])),(3080,some (.arr (i2 0) 142 2 (w2.map YAB.row)))],n3,62⟩) (by exact Zc ⟨jL,jL,jL,jL,jL,jL,jL,jL,jL,jL,jL,jL,jL,jL,Za⟩ ⟨.inl R,.inl R,Za⟩ nL) ?_
   refine aZ (hK11 _ ?_)
   refine aS fun _ hK12 _=>?_
   refine Zi (s':=⟨[(0,rI (size1)),(1,rI (at1)),(2,rI (n1)),(8,.ptr 8 n0 0 0),(9,.fn 136 [.ptr 8 n0 0 0])],[(8,some (.box n0 72 [.own 3080 (i2 0)])),(3080,some (.arr (i2 0) 142 2 (w2.map YAB.row)))],n3,62⟩) (by exact Zc ⟨jL,jL,jL,jL,jL,Za⟩ ⟨.inl R,.inl R,Za⟩ nL) ?_
   refine aR (sM R R (sM R R (Zl h6 fun x3 ex3 h7=>(sQ R (YKJ R iL (fun _=>ex3)) (Zl h7 fun w3 ew3 h8=>?_)))))
   refine AOps.stepHI [8,3080] (hc:=[(1000,some (.box n0 72 [.own 1001 (i2 0)])),(1001,some (.arr (i2 0) 142 2 (w2.map YAB.row)))]) (bs:=[rI (2),rI (x3)]) (caps:=[.ptr 1000 n0 0 0]) R R R R iL R ⟨.inl ⟨iL,R⟩,.inl ⟨iL,R⟩,Za⟩ ⟨R,R,R,R,R,R,Za⟩ (by decide) (YBl ew3) ?_
   intro i3 n4
   refine AOps.weak (s':=⟨[(0,rI (size1)),(1,rI (at1)),(2,rI (n1)),(8,.ptr 8 n0 0 0),(9,.fn 136 [.ptr 8 n0 0 0]),(46,.fn 136 [.ptr 8 n0 0 0]),(47,rI (n1)),(48,rI (x3)),(49,.tup [])],[(8,some (.box n0 72 [.own 3080 (i3 0)])),(3080,some (.arr (i3 0) 142 2 (w3.map YAB.row)))],n4,62⟩) (by exact Zc ⟨jL,jL,jL,jL,jL,jL,jL,jL,jL,Za⟩ ⟨.inl R,.inl R,Za⟩ nL) ?_
   refine aZ (hK12 _ ?_)
   refine aS fun _ hK13 _=>(aR (sM R R (sM R R (sM R R (Zl h8 fun x4 ex4 h9=>(sQ R (YBA R iL iL (fun _=>ex4)) (sM R R (sQ R (YKJ R iL (fun _=>ex3)) (sQ R (YLj R iL iL) (Zl h9 fun x5 ex5 h10=>(sQ R (YBA R iL iL (fun _=>ex5)) (Zl h10 fun w4 ew4 h11=>?_))))))))))))
   refine AOps.stepHI [8,3080] (hc:=[(1000,some (.box n0 72 [.own 1001 (i3 0)])),(1001,some (.arr (i3 0) 142 2 (w3.map YAB.row)))]) (bs:=[rI (0),rI (x5)]) (caps:=[.ptr 1000 n0 0 0]) R R R R iL R ⟨.inl ⟨iL,R⟩,.inl ⟨iL,R⟩,Za⟩ ⟨R,R,R,R,R,R,Za⟩ (by decide) (YBl ew4) ?_
   intro i4 n5
   refine AOps.weak (s':=⟨[(0,rI (size1)),(1,rI (at1)),(2,rI (n1)),(8,.ptr 8 n0 0 0),(9,.fn 136 [.ptr 8 n0 0 0]),(46,.fn 136 [.ptr 8 n0 0 0]),(47,rI (n1)),(48,rI (x3)),(49,.tup []),(50,.fn 136 [.ptr 8 n0 0 0]),(51,rI (size1)),(52,rI (at1)),(53,rI (x4)),(54,rI (n1)),(55,rI (x3)),(56,rI ((max 0 x3))),(57,rI (x5)),(58,.tup [])],[(8,some (.box n0 72 [.own 3080 (i4 0)])),(3080,some (.arr (i4 0) 142 2 (w4.map YAB.row)))],n5,62⟩) (by exact Zc ⟨jL,jL,jL,jL,jL,jL,jL,jL,jL,jL,jL,jL,jL,jL,jL,jL,jL,jL,Za⟩ ⟨.inl R,.inl R,Za⟩ nL) ?_
   refine aZ (hK13 _ ?_)
   refine aS fun _ hK14 _=>?_
   refine Zi (s':=⟨[(8,.ptr 8 n0 0 0)],[(8,some (.box n0 72 [.own 3080 (i4 0)])),(3080,some (.arr (i4 0) 142 2 (w4.map YAB.row)))],n5,62⟩) (by exact Zc ⟨jL,Za⟩ ⟨.inl R,.inl R,Za⟩ nL) ?_
   refine ZS hmix (by kernel_rfl) ?_
   refine Zm R R R (Zb (a:=.own 3080 (i4 0)) R YMq iL R R) (Zm R R R (Zb (a:=.own 3080 (i4 0)) R YMq iL R R) (Zl h11 fun r1 er1 h12=>?_))
   refine AQ.stepC R R R (r:=rI (r1)) (caps:=[]) (bs:=[qg w4]) R iL R ⟨⟨_,iL,.one (.own R)⟩,Za⟩ (fun _=>YLa (er1)) R ?_
   refine Zm R R R (YA8 R iL) (Zm R R R (YA8 R iL) ?_)
   refine AQ.nil ?_
   refine hK14 _ ?_
   refine Zj ?_
   exact YC7 (P:=Tryz.prog) (fun (r:(List YAB) × Int)=>qg r.1) (fun (r:(List YAB) × Int)=>rI (r.2)) h12 iL (.t (.one (.own R))) (.t (.d R))
theorem YH7 {d1:GDoc} {id1:Int} {at1:Int} {n1:Int} {r:(List GOp) × Int} (h:YBe d1 id1 at1 n1=some r):ARO Tryz.prog 38 [.agg [qf d1.Nodes],rI (id1),rI (at1),rI (n1)] (.tup [qh r.1,rI (r.2)]):=by
 unfold YBe at h
 refine Zu Tryz.func38 R R Tryz.ntmps38 R (Zf R) fun n0=>?_
 refine aS fun _ hK1 _=>(aR (Zh R R R (ZM (cs:=[qf d1.Nodes]) 4 R iL R R) (sA R R (sA R R (aZ (hK1 _ ?_))))))
 refine aS fun _ hK2 _=>(aR (sQ R (ZC R YEv iL R R) (sM R R (ob2k h fun r1 r2 er1 h1=>(Zh R R R (YCs (r:=.tup [.agg (k6_ r1),rI (r2)]) (caps:=[]) (bs:=[.agg [qf d1.Nodes],rI (id1)]) R iL R ⟨.inl ⟨iL,R⟩,.inl ⟨iL,R⟩,Za⟩ (fun _=>YDe (er1))) (sM R R (sQ R (ZQ (a:=.agg (k6_ r1)) R iL R) (sQ R (ZQ (a:=rI (r2)) R iL R) (Zh R R R (YAi (cs:=z3_) 10 R YLg R R) (ZN R R (ZF (ds:=(k6_ r1)) R YIz iL R iL R R R R) (sA R R (aZ (hK2 _ ?_)))))))))))))
 refine aS fun _ hK3 _=>(aS fun _ hK4 _=>?_)
 refine Zi (s':=⟨[(1,rI (id1)),(2,rI (at1)),(3,rI (n1)),(10,.ptr 10 (n0+1) 0 0),(11,rI (r2))],[(10,some (.box (n0+1) 46 (k6_ r1)))],(n0+2),39⟩) (by exact Zc ⟨jL,jL,jL,jL,jL,Za⟩ ⟨.inl R,Za⟩ nL) ?_
 refine aR (sM R R (sQ R (ZD R iL iL) (aZ (hK4 _ ?_))))
 refine aC R (fun hc1=>?_) (fun hc1=>?_)
 ·have h2:=Zn hc1 h1
  refine aS fun _ hK5 _=>(aR (sM R R (sA R R (sA R R (aZ (hK5 _ ?_))))))
  refine Zj ?_
  exact YC7 (P:=Tryz.prog) (fun (r:(List GOp) × Int)=>qh r.1) (fun (r:(List GOp) × Int)=>rI (r.2)) h2 iL (.t (.one (.nil))) (.t (.d R))
 ·have h2:=Zo hc1 h1
  refine Zk (hK3 _ ?_)
  refine aS fun _ hK6 _=>(aR (sQ R (fB R YBL iL fR R) (sQ R (fB R YCj iL fR R) (sQ R (Zb (a:=rI (r1.Grid.Rows)) R ts_3 iL R R) (sM R R (sM R R (ob2k h2 fun r3 r4 er3 h3=>(Zh R R R (YCs (r:=.tup [qg r3,rI (r4)]) (caps:=[]) (bs:=[rI (r1.Grid.Rows),rI (at1),rI (n1)]) R iL R ⟨.inl ⟨iL,R⟩,.inl ⟨iL,R⟩,.inl ⟨iL,R⟩,Za⟩ (fun _=>YEz (er3))) (sM R R (sQ R (ZQ (a:=qg r3) R iL R) (sQ R (ZQ (a:=rI (r4)) R iL R) (sA R R (sA R R (aZ (hK6 _ ?_)))))))))))))))
  refine aS fun _ hK7 _=>(aS fun _ hK8 _=>?_)
  refine Zi (s':=⟨[(1,rI (id1)),(11,rI (r4)),(12,qg r3)],[],(n0+2),39⟩) (by exact Zc ⟨jL,jL,jL,Za⟩ Za nL) ?_
  refine aR (sM R R (sQ R (ZD R iL iL) (aZ (hK8 _ ?_))))
  refine aC R (fun hc2=>?_) (fun hc2=>?_)
  ·have h4:=Zn hc2 h3
   refine aS fun _ hK9 _=>(aR (sM R R (sA R R (sA R R (aZ (hK9 _ ?_))))))
   refine Zj ?_
   exact YC7 (P:=Tryz.prog) (fun (r:(List GOp) × Int)=>qh r.1) (fun (r:(List GOp) × Int)=>rI (r.2)) h4 iL (.t (.one (.nil))) (.t (.d R))
  ·have h4:=Zo hc2 h3
   refine Zk (hK7 _ ?_)
   refine aS fun _ hK10 _=>(aR (sM R R (sM R R ?_)))
   refine sQ R (YAn R YQl (q:=[(0,_)]) (by exact ⟨R,R,R,iL,Za⟩) (cs:=[qg r3,.cst (.slice none 0 0),.cst (.slice none 0 0),.cst (.slice none 0 0),.cst (.slice none 0 0)]) (by rfl)) ?_
   refine sQ R (YAn R YMu (q:=[(0,_),(1,_),(13,_)]) (by exact ⟨R,R,R,iL,R,R,R,iL,R,R,R,iL,Za⟩) (cs:=[rI (3),rI (id1),rI (0),rI (0),.cst (.slice none 0 0),.cst (.slice none 0 0),rI (0),rI (0),.cst (.slice none 0 0),.cst (.slice none 0 0),.cst (.slice none 0 0),.cst (.slice none 0 0),.cst (.slice none 0 0),qg r3,.cst (.slice none 0 0),.cst (.slice none 0 0),.cst (.slice none 0 0),.cst (.slice none 0 0),.cst (.slice none 0 0)]) (by rfl)) ?_
   refine Zh R R R (YCn 38 R YGj (f:=GOp.row) (l:=([(GOp.mk 3 id1 (YAJ.mk 0 0 [] [] (YAv.mk 0 0 [] []) []) [] [] (YAh.mk r3 [] [] [] []) [])]:List GOp)) ⟨R,⟨_,iL,R⟩,Za⟩ R (fun _=>R) R) (sA R R (sA R R (aZ (hK10 _ ?_))))
   refine Zj ?_
   exact YC7 (P:=Tryz.prog) (fun (r:(List GOp) × Int)=>qh r.1) (fun (r:(List GOp) × Int)=>rI (r.2)) h4 iL (.t (.one (.own R))) (.t (.d R))
theorem YGg {d1:GDoc} {id1:Int} {at1:Int} {n1:Int} {r:(List GOp) × Int} (h:YA9 d1 id1 at1 n1=some r):ARO Tryz.prog 39 [.agg [qf d1.Nodes],rI (id1),rI (at1),rI (n1)] (.tup [qh r.1,rI (r.2)]):=by
 unfold YA9 at h
 refine Zu Tryz.func39 R R Tryz.ntmps39 R (Zf R) fun n0=>?_
 refine aS fun _ hK1 _=>(aR (Zh R R R (ZM (cs:=[qf d1.Nodes]) 4 R iL R R) (sA R R (sA R R (aZ (hK1 _ ?_))))))
 refine aS fun _ hK2 _=>(aR (sQ R (ZC R YEv iL R R) (sM R R (ob2k h fun r1 r2 er1 h1=>(Zh R R R (YCs (r:=.tup [.agg (k6_ r1),rI (r2)]) (caps:=[]) (bs:=[.agg [qf d1.Nodes],rI (id1)]) R iL R ⟨.inl ⟨iL,R⟩,.inl ⟨iL,R⟩,Za⟩ (fun _=>YDe (er1))) (sM R R (sQ R (ZQ (a:=.agg (k6_ r1)) R iL R) (sQ R (ZQ (a:=rI (r2)) R iL R) (Zh R R R (YAi (cs:=z3_) 10 R YLg R R) (ZN R R (ZF (ds:=(k6_ r1)) R YIz iL R iL R R R R) (sA R R (aZ (hK2 _ ?_)))))))))))))
 refine aS fun _ hK3 _=>(aS fun _ hK4 _=>?_)
 refine Zi (s':=⟨[(1,rI (id1)),(2,rI (at1)),(3,rI (n1)),(10,.ptr 10 (n0+1) 0 0),(11,rI (r2))],[(10,some (.box (n0+1) 46 (k6_ r1)))],(n0+2),39⟩) (by exact Zc ⟨jL,jL,jL,jL,jL,Za⟩ ⟨.inl R,Za⟩ nL) ?_
 refine aR (sM R R (sQ R (ZD R iL iL) (aZ (hK4 _ ?_))))
 refine aC R (fun hc1=>?_) (fun hc1=>?_)
 ·have h2:=Zn hc1 h1
  refine aS fun _ hK5 _=>(aR (sM R R (sA R R (sA R R (aZ (hK5 _ ?_))))))
  refine Zj ?_
  exact YC7 (P:=Tryz.prog) (fun (r:(List GOp) × Int)=>qh r.1) (fun (r:(List GOp) × Int)=>rI (r.2)) h2 iL (.t (.one (.nil))) (.t (.d R))
 ·have h2:=Zo hc1 h1
  refine Zk (hK3 _ ?_)
  refine aS fun _ hK6 _=>(aR (sQ R (fB R YBL iL fR R) (sQ R (fB R YCi iL fR R) (sQ R (Zb (a:=rI (r1.Grid.Cols)) R ts_3 iL R R) (sM R R (sM R R (ob2k h2 fun r3 r4 er3 h3=>(Zh R R R (YCs (r:=.tup [qg r3,rI (r4)]) (caps:=[]) (bs:=[rI (r1.Grid.Cols),rI (at1),rI (n1)]) R iL R ⟨.inl ⟨iL,R⟩,.inl ⟨iL,R⟩,.inl ⟨iL,R⟩,Za⟩ (fun _=>YEz (er3))) (sM R R (sQ R (ZQ (a:=qg r3) R iL R) (sQ R (ZQ (a:=rI (r4)) R iL R) (sA R R (sA R R (aZ (hK6 _ ?_)))))))))))))))
  refine aS fun _ hK7 _=>(aS fun _ hK8 _=>?_)
  refine Zi (s':=⟨[(1,rI (id1)),(11,rI (r4)),(12,qg r3)],[],(n0+2),39⟩) (by exact Zc ⟨jL,jL,jL,Za⟩ Za nL) ?_
  refine aR (sM R R (sQ R (ZD R iL iL) (aZ (hK8 _ ?_))))
  refine aC R (fun hc2=>?_) (fun hc2=>?_)
  ·have h4:=Zn hc2 h3
   refine aS fun _ hK9 _=>(aR (sM R R (sA R R (sA R R (aZ (hK9 _ ?_))))))
   refine Zj ?_
   exact YC7 (P:=Tryz.prog) (fun (r:(List GOp) × Int)=>qh r.1) (fun (r:(List GOp) × Int)=>rI (r.2)) h4 iL (.t (.one (.nil))) (.t (.d R))
  ·have h4:=Zo hc2 h3
   refine Zk (hK7 _ ?_)
   refine aS fun _ hK10 _=>(aR (sM R R (sM R R ?_)))
   refine sQ R (YAn R YQl (q:=[(1,_)]) (by exact ⟨R,R,R,iL,Za⟩) (cs:=[.cst (.slice none 0 0),qg r3,.cst (.slice none 0 0),.cst (.slice none 0 0),.cst (.slice none 0 0)]) (by rfl)) ?_
   refine sQ R (YAn R YMu (q:=[(0,_),(1,_),(13,_)]) (by exact ⟨R,R,R,iL,R,R,R,iL,R,R,R,iL,Za⟩) (cs:=[rI (3),rI (id1),rI (0),rI (0),.cst (.slice none 0 0),.cst (.slice none 0 0),rI (0),rI (0),.cst (.slice none 0 0),.cst (.slice none 0 0),.cst (.slice none 0 0),.cst (.slice none 0 0),.cst (.slice none 0 0),.cst (.slice none 0 0),qg r3,.cst (.slice none 0 0),.cst (.slice none 0 0),.cst (.slice none 0 0),.cst (.slice none 0 0)]) (by rfl)) ?_
   refine Zh R R R (YCn 38 R YGj (f:=GOp.row) (l:=([(GOp.mk 3 id1 (YAJ.mk 0 0 [] [] (YAv.mk 0 0 [] []) []) [] [] (YAh.mk [] r3 [] [] []) [])]:List GOp)) ⟨R,⟨_,iL,R⟩,Za⟩ R (fun _=>R) R) (sA R R (sA R R (aZ (hK10 _ ?_))))
   refine Zj ?_
   exact YC7 (P:=Tryz.prog) (fun (r:(List GOp) × Int)=>qh r.1) (fun (r:(List GOp) × Int)=>rI (r.2)) h4 iL (.t (.one (.own R))) (.t (.d R))
theorem YOJ {id1:Int} {r:Int} (h:YIW id1=some r):ARO Tryz.prog 83 [rI (id1)] (rI (r)):=by
 unfold YIW at h
 refine Zu Tryz.func83 R R Tryz.ntmps83 R (Zf R) fun n0=>?_
 refine aS fun _ hK1 _=>(aR (sA R R (aZ (hK1 _ ?_))))
 refine aS fun _ hK2 _=>(aR (sM R R (sQ R (YLh (b:=16) R iL iL) (sA R R (aZ (hK2 _ ?_))))))
 refine Zj ?_
 exact Y1_ h iL (.t (.d R))
theorem YKB {d1:GDoc} {site1:Int} {r:Int × Int} (h:YFY d1 site1=some r):ARO Tryz.prog 30 [.agg [qf d1.Nodes],rI (site1)] (.tup [rI (r.1),rI (r.2)]):=by
 unfold YFY at h
 refine Zu Tryz.func30 R R Tryz.ntmps30 R (Zf R) fun n0=>?_
 refine aS fun _ hK1 _=>(aR (Zh R R R (ZM (cs:=[qf d1.Nodes]) 2 R iL R R) (sA R R (sA R R (aZ (hK1 _ ?_))))))
 refine aS fun _ hK2 _=>(aS fun _ hK3 _=>(aR (sQ R (ZC R YEv iL R R) (Zl h fun e1 ee1 h1=>(Zh R R R (Zr (r:=rI (e1)) (caps:=[]) (bs:=[.agg [qf d1.Nodes]]) R iL R ⟨⟨_,iL,.g (cs:=[.sl (d1.Nodes.map YAJ.row)]) R R⟩,Za⟩ (fun _=>YIw (ee1)) R) (sA R R (aZ (hK3 _ ?_))))))))
 refine aS fun _ hK4 _=>(aR (sM R R (sQ R (ZD R iL iL) (aZ (hK4 _ ?_)))))
 refine aC R (fun hc1=>?_) (fun hc1=>?_)
 ·have h2:=Zn hc1 h1
  refine aS fun _ hK5 _=>?_
  refine Zi (s':=⟨[(6,rI (e1))],[],(n0+1),43⟩) (by exact Zc ⟨jL,Za⟩ Za nL) ?_
  refine aR (sM R R (sA R R (sA R R (aZ (hK5 _ ?_)))))
  refine Zj ?_
  exact YC7 (P:=Tryz.prog) (fun (r:Int × Int)=>rI (r.1)) (fun (r:Int × Int)=>rI (r.2)) h2 iL (.t (.d R)) (.t (.d R))
 ·have h2:=Zo hc1 h1
  refine Zk (hK2 _ ?_)
  refine aS fun _ hK6 _=>(aS fun _ hK7 _=>(aR (sM R R (sQ R (Zv R iL iL) (sM R R (sV R R R (Ze R iL) (sV R R R (ZR R (iR R) iL) (sQ R (Zy R iL (iR R)) (aZ (hK7 _ ?_))))))))))
  refine aC R (fun hc2=>?_) (fun hc2=>?_)
  ·have h3:=Zn hc2 h2
   refine aS fun _ hK8 _=>?_
   refine Zi (s':=⟨[],[],(n0+1),43⟩) (by exact Zc Za Za nL) ?_
   refine aR (sA R R (sA R R (aZ (hK8 _ ?_))))
   refine Zj ?_
   exact YC7 (P:=Tryz.prog) (fun (r:Int × Int)=>rI (r.1)) (fun (r:Int × Int)=>rI (r.2)) h3 iL (.t (.d R)) (.t (.d R))
  ·have h3:=Zo hc2 h2
   refine Zk (hK6 _ ?_)
   refine aS fun _ hK9 _=>?_
   refine Zi (s':=⟨[(1,rI (site1)),(2,.ptr 2 n0 0 0)],[(2,some (.box n0 24 [qf d1.Nodes]))],(n0+1),43⟩) (by exact Zc ⟨jL,jL,Za⟩ ⟨.inl R,Za⟩ nL) ?_
   refine aR (sM R R (sQ R (YG4 (b:=16) R iL iL) (sA R R (aZ (hK9 _ ?_)))))
   refine aS fun K10 hK10 wK10=>(aS fun _ hK11 _=>(aR (sQ R (fB R YBQ iL fR R) (sQ R (Zb (a:=qf d1.Nodes) R YEN iL R R) (sQ R (Zz R YDc.slice iL) (sM R R (aZ (hK11 _ ?_))))))))
   refine Zp ?_
   refine jb1k h3 fun o1 hit1 hk1=>?_
   have J1 : ∀ (last4:Int) (i5:Nat→Nat),o1=last4→K10 ⟨[(7,rI (last4))],[],(i5 0),43⟩:=by
    intro last4 i5 e
    have h4:=hk1 _ e
    refine hK10 _ ?_
    refine aS fun _ hK12 _=>(aS fun _ hK13 _=>(aR (sM R R (sQ R (YDg R iL iL) (sQ R (Zs R iL iL) (aZ (hK13 _ ?_)))))))
    refine aC R (fun hc3=>?_) (fun hc3=>?_)
    ·have h5:=Zn hc3 h4
     refine aS fun _ hK14 _=>(aR (sA R R (sA R R (aZ (hK14 _ ?_)))))
     refine Zj ?_
     exact YC7 (P:=Tryz.prog) (fun (r:Int × Int)=>rI (r.1)) (fun (r:Int × Int)=>rI (r.2)) h5 iL (.t (.d R)) (.t (.d R))
    ·have h5:=Zo hc3 h4
     refine Zk (hK12 _ ?_)
     refine aS fun _ hK15 _=>(aR (sM R R (Zl h5 fun x4 ex4 h6=>(sQ R (ZI R iL iL (fun _=>ex4)) (sA R R (sA R R (aZ (hK15 _ ?_))))))))
     refine Zj ?_
     exact YC7 (P:=Tryz.prog) (fun (r:Int × Int)=>rI (r.1)) (fun (r:Int × Int)=>rI (r.2)) h6 iL (.t (.d R)) (.t (.d R))
   refine AW.iter2 (fun (last2:Int) (x2:Int) i3=>⟨[(1,rI (site1)),(7,rI (last2)),(24,qf d1.Nodes),(25,rI ((d1.Nodes.length:Int))),(26,rI (x2))],[],(i3 0),43⟩) (vec [(n0+1)]) hit1 ((by exact Zc ⟨jL,jL,jL,jL,jL,Za⟩ Za nL)) ?_
   intro last2 x2 i3 v1 hv1 hx1
   have h7:YDn d1 site1 last2 x2=some v1:=hv1; unfold YDn at h7
   refine aS fun _ hK16 _=>(aR (sQ R (Zv R iL iL) (aZ (hK16 _ ?_))))
   refine aS fun _ hK17 _=>?_
   refine aC R (fun hc4=>?_) (fun hc4=>?_)
   ·have h8:=Zn hc4 h7
    refine Zk (hK17 _ ?_)
    refine aS fun K18 hK18 wK18=>(Zp ?_)
    refine jb1k h8 fun p1 hp1 hk2=>?_
    have J2 : ∀ (last5:Int) (i6:Nat→Nat),p1=last5→K18 ⟨[(1,rI (site1)),(7,rI (last5)),(24,qf d1.Nodes),(25,rI ((d1.Nodes.length:Int))),(26,rI (x2))],[],(i6 0),43⟩:=by
     intro last5 i6 e
     have h9:=hk2 _ e
     refine hK18 _ ?_
     refine aR (Zl h9 fun x5 ex5 h10=>(sQ R (ZI R iL iL (fun _=>ex5)) (sM R R ?_)))
     refine Zt ?_
     exact YFi.mk h10 (vec [(i6 0)]) ((by exact Zc ⟨jL,jL,jL,jL,jL,Za⟩ Za nL))
    refine aS fun _ hK19 _=>(aR (Zl hp1 fun x6 ex6 h11=>(sQ R (Zx R YDc.slice iL iL (fun _=>R) (fun _=>ex6)) (sQ R (ZG (cs:=(k6_ x6)) R YFl iL R R) (Zh R R R (YAi (cs:=z3_) 9 R YLg R R) (ZN R R (ZF (ds:=(k6_ x6)) R YIz iL R iL R R R R) (aZ (hK19 _ ?_))))))))
    refine aS fun _ hK20 _=>(aR (sQ R (fB R YBn iL fR R) (sQ R (Zb (a:=rI (x6.ID)) R ts_3 iL R R) (Zl h11 fun r1 er1 h12=>(Zh R R R (Zr (r:=rI (r1)) (caps:=[]) (bs:=[rI (x6.ID)]) R iL R ⟨⟨_,iL,.d R⟩,Za⟩ (fun _=>YOJ (er1)) R) (sM R R (sQ R (Zs R iL iL) (aZ (hK20 _ ?_)))))))))
    refine aC R (fun hc5=>?_) (fun hc5=>?_)
    ·have h13:=Zn hc5 h12
     refine Zi (s':=⟨[(1,rI (site1)),(9,.ptr 9 (i3 0) 0 0),(24,qf d1.Nodes),(25,rI ((d1.Nodes.length:Int))),(26,rI (x2))],[(9,some (.box (i3 0) 46 (k6_ x6)))],((i3 0)+1),43⟩) (by exact Zc ⟨jL,jL,jL,jL,jL,Za⟩ ⟨.inl R,Za⟩ nL) ?_
     refine aR (sQ R (fB R YBn iL fR R) (sQ R (Zb (a:=rI (x6.ID)) R ts_3 iL R R) (sA R R ?_)))
     refine Zt ?_
     exact wK18 _ _ ((by exact Zc ⟨jL,jL,jL,jL,jL,Za⟩ Za nL)) (J2 _ (vec [((i3 0)+1)]) (Zd h13).symm)
    ·have h13:=Zo hc5 h12
     refine Zk ?_
     exact wK18 _ _ ((by exact Zc ⟨jL,jL,jL,jL,jL,Za⟩ Za nL)) (J2 _ (vec [((i3 0)+1)]) (Zd h13).symm)
   ·have h8:=Zo hc4 h7
    refine ZL ?_
    exact wK10 _ _ ((by exact Zc ⟨jL,Za⟩ Za nL)) (J1 _ (vec [(i3 0)]) (hx1 _ (Zd h8).symm))
theorem YH8 {d1:GDoc} {id1:Int} {row1:Int} {col1:Int} {site1:Int} {r:(List GOp) × Int × Int} (h:YBf d1 id1 row1 col1 site1=some r):ARO Tryz.prog 40 [.agg [qf d1.Nodes],rI (id1),rI (row1),rI (col1),rI (site1)] (.tup [qh r.1,rI (r.2.1),rI (r.2.2)]):=by
 unfold YBf at h
 refine Zu Tryz.func40 R R Tryz.ntmps40 R (Zf R) fun n0=>?_
 refine aS fun _ hK1 _=>(aR (Zh R R R (ZM (cs:=[qf d1.Nodes]) 5 R iL R R) (sA R R (sA R R (sA R R (aZ (hK1 _ ?_)))))))
 refine aS fun _ hK2 _=>(aR (sQ R (ZC R YEv iL R R) (sM R R (ob2k h fun r1 r2 er1 h1=>(Zh R R R (YCs (r:=.tup [.agg (k6_ r1),rI (r2)]) (caps:=[]) (bs:=[.agg [qf d1.Nodes],rI (id1)]) R iL R ⟨.inl ⟨iL,R⟩,.inl ⟨iL,R⟩,Za⟩ (fun _=>YDe (er1))) (sM R R (sQ R (ZQ (a:=.agg (k6_ r1)) R iL R) (sQ R (ZQ (a:=rI (r2)) R iL R) (Zh R R R (YAi (cs:=z3_) 13 R YLg R R) (ZN R R (ZF (ds:=(k6_ r1)) R YIz iL R iL R R R R) (sA R R (aZ (hK2 _ ?_)))))))))))))
 refine aS fun _ hK3 _=>(aS fun _ hK4 _=>?_)
 refine Zi (s':=⟨[(1,rI (id1)),(2,rI (row1)),(3,rI (col1)),(4,rI (site1)),(5,.ptr 5 n0 0 0),(13,.ptr 13 (n0+1) 0 0),(14,rI (r2))],[(5,some (.box n0 24 [qf d1.Nodes])),(13,some (.box (n0+1) 46 (k6_ r1)))],(n0+2),95⟩) (by exact Zc ⟨jL,jL,jL,jL,jL,jL,jL,Za⟩ ⟨.inl R,.inl R,Za⟩ nL) ?_
 refine aR (sM R R (sQ R (ZD R iL iL) (aZ (hK4 _ ?_))))
 refine aC R (fun hc1=>?_) (fun hc1=>?_)
 ·have h2:=Zn hc1 h1
  refine aS fun _ hK5 _=>(aR (sM R R (sA R R (sA R R (sA R R (aZ (hK5 _ ?_)))))))
  refine Zj ?_
  exact YOX (P:=Tryz.prog) (fun (r:(List GOp) × Int × Int)=>qh r.1) (fun (r:(List GOp) × Int × Int)=>rI (r.2.1)) (fun (r:(List GOp) × Int × Int)=>rI (r.2.2)) h2 iL (.t (.one (.nil))) (.t (.d R)) (.t (.d R))
 ·have h2:=Zo hc1 h1
  refine Zk (hK3 _ ?_)
  refine aS fun _ hK6 _=>(aS fun _ hK7 _=>(aR (sQ R (fB R YA0 iL fR R) (sQ R (Zb (a:=rI (r1.Kind)) R ts_3 iL R R) (sQ R (ZD R iL iL) (aZ (hK7 _ ?_)))))))
  refine aC R (fun hc2=>?_) (fun hc2=>?_)
  ·have h3:=Zn hc2 h2
   refine aS fun _ hK8 _=>?_
   refine Zi (s':=⟨[],[],(n0+2),95⟩) (by exact Zc Za Za nL) ?_
   refine aR (sA R R (sA R R (sA R R (aZ (hK8 _ ?_)))))
   refine Zj ?_
   exact YOX (P:=Tryz.prog) (fun (r:(List GOp) × Int × Int)=>qh r.1) (fun (r:(List GOp) × Int × Int)=>rI (r.2.1)) (fun (r:(List GOp) × Int × Int)=>rI (r.2.2)) h3 iL (.t (.one (.nil))) (.t (.d R)) (.t (.d R))
  ·have h3:=Zo hc2 h2
   refine Zk (hK6 _ ?_)
   refine aS fun _ hK9 _=>(aS fun _ hK10 _=>(aR (sM R R (sQ R (Zv R iL iL) (sM R R (sV R R R (Ze R iL) (sV R R R (fB R YBL iL fR R) (sV R R R (fB R YCj (iR R) fR R) (sV R R R (Zb (a:=rI (r1.Grid.Rows)) R ts_3 (iR R) R R) (sV R R R (YCg R (iR R) (iR R)) (sQ R (Zy R iL (iR R)) (sM R R (sV R R R (Ze R iL) (sV R R R (Zv R (iR R) iL) (sQ R (Zy R iL (iR R)) (sM R R (sV R R R (Ze R iL) (sV R R R (fB R YBL iL fR R) (sV R R R (fB R YCi (iR R) fR R) (sV R R R (Zb (a:=rI (r1.Grid.Cols)) R ts_3 (iR R) R R) (sV R R R (YCg R (iR R) (iR R)) (sQ R (Zy R iL (iR R)) (aZ (hK10 _ ?_))))))))))))))))))))))))
   refine aC R (fun hc3=>?_) (fun hc3=>?_)
   ·have h4:=Zn hc3 h3
    refine aS fun _ hK11 _=>?_
    refine Zi (s':=⟨[],[],(n0+2),95⟩) (by exact Zc Za Za nL) ?_
    refine aR (sA R R (sA R R (sA R R (aZ (hK11 _ ?_)))))
    refine Zj ?_
    exact YOX (P:=Tryz.prog) (fun (r:(List GOp) × Int × Int)=>qh r.1) (fun (r:(List GOp) × Int × Int)=>rI (r.2.1)) (fun (r:(List GOp) × Int × Int)=>rI (r.2.2)) h4 iL (.t (.one (.nil))) (.t (.d R)) (.t (.d R))
   ·have h4:=Zo hc3 h3
    refine Zk (hK9 _ ?_)
    refine aS fun K12 hK12 wK12=>(aS fun _ hK13 _=>?_)
    refine Zi (s':=⟨[(1,rI (id1)),(2,rI (row1)),(3,rI (col1)),(4,rI (site1)),(5,.ptr 5 n0 0 0),(13,.ptr 13 (n0+1) 0 0)],[(5,some (.box n0 24 [qf d1.Nodes])),(13,some (.box (n0+1) 46 (k6_ r1)))],(n0+2),95⟩) (by exact Zc ⟨jL,jL,jL,jL,jL,jL,Za⟩ ⟨.inl R,.inl R,Za⟩ nL) ?_
    refine aR (sQ R (fB R YBL iL fR R) (sQ R (fB R YCJ iL fR R) (sQ R (Zb (a:=qc r1.Grid.Cells) R YE1 iL R R) (sQ R (Zz R YB2.slice iL) (sM R R (aZ (hK13 _ ?_)))))))
    refine Zp ?_
    refine jc1k h4 fun o1 hit1 hk1 he1=>?_
    have J1 : ∀ (u2:Unit) (i5:Nat→Nat),o1 = .nrm u2→K12 ⟨[(1,rI (id1)),(2,rI (row1)),(3,rI (col1)),(4,rI (site1)),(5,.ptr 5 n0 0 0)],[(5,some (.box n0 24 [qf d1.Nodes]))],(i5 0),95⟩:=by
     intro u2 i5 e
     have h5:=hk1 _ e
     refine hK12 _ ?_
     refine aS fun _ hK14 _=>(aR (sQ R (ZC R YEv iL R R) (sM R R (ob2k h5 fun r3 r4 er3 h6=>(Zh R R R (Zr (r:=.tup [rI (r3),rI (r4)]) (caps:=[]) (bs:=[.agg [qf d1.Nodes],rI (site1)]) R iL R ⟨⟨_,iL,.g (cs:=[.sl (d1.Nodes.map YAJ.row)]) R R⟩,⟨_,iL,.d R⟩,Za⟩ (fun _=>YKB (er3)) R) (sM R R (sQ R (ZQ (a:=rI (r3)) R iL R) (sQ R (ZQ (a:=rI (r4)) R iL R) (sA R R (sA R R (aZ (hK14 _ ?_))))))))))))
     refine aS fun _ hK15 _=>(aS fun _ hK16 _=>(aR (sM R R (sQ R (ZD R iL iL) (aZ (hK16 _ ?_))))))
     refine aC R (fun hc4=>?_) (fun hc4=>?_)
     ·have h7:=Zn hc4 h6
      refine aS fun _ hK17 _=>?_
      refine Zi (s':=⟨[(14,rI (r4))],[],(i5 0),95⟩) (by exact Zc ⟨jL,Za⟩ Za nL) ?_
      refine aR (sM R R (sA R R (sA R R (sA R R (aZ (hK17 _ ?_))))))
      refine Zj ?_
      exact YOX (P:=Tryz.prog) (fun (r:(List GOp) × Int × Int)=>qh r.1) (fun (r:(List GOp) × Int × Int)=>rI (r.2.1)) (fun (r:(List GOp) × Int × Int)=>rI (r.2.2)) h7 iL (.t (.one (.nil))) (.t (.d R)) (.t (.d R))
     ·have h7:=Zo hc4 h6
      refine Zk (hK15 _ ?_)
      refine aS fun _ hK18 _=>?_
      refine Zi (s':=⟨[(1,rI (id1)),(2,rI (row1)),(3,rI (col1)),(17,rI (r3))],[],(i5 0),95⟩) (by exact Zc ⟨jL,jL,jL,jL,Za⟩ Za nL) ?_
      refine aR (sM R R ?_)
      refine sQ R (YAn R tb_51 (q:=[(0,_)]) (by exact ⟨R,R,R,iL,Za⟩) (cs:=z17_) (by rfl)) ?_
      refine Zh R R R (YCn 82 R YDf (f:=YAN.row) (l:=([(YAN.mk 10 0 [])]:List YAN)) ⟨R,⟨_,iL,R⟩,Za⟩ R (fun _=>R) R) ?_
      refine sQ R (YAn R YPD (q:=[(0,_),(1,_),(3,_)]) (by exact ⟨R,R,R,iL,R,R,R,iL,R,R,R,iL,Za⟩) (cs:=[rI (r3),rI (3),.cst (.slice none 0 0),.own 82 (i5 0),rI (0),rI (0),.cst (.slice none 0 0),.cst (.slice none 0 0),.cst (.slice none 0 0)]) (by rfl)) ?_
      refine sQ R (YAn R YMu (q:=[(0,_),(2,_)]) (by exact ⟨R,R,R,iL,R,R,R,iL,Za⟩) (cs:=[rI (0),rI (0),rI (r3),rI (3),.cst (.slice none 0 0),.own 82 (i5 0),rI (0),rI (0),.cst (.slice none 0 0),.cst (.slice none 0 0),.cst (.slice none 0 0),.cst (.slice none 0 0),.cst (.slice none 0 0),.cst (.slice none 0 0),.cst (.slice none 0 0),.cst (.slice none 0 0),.cst (.slice none 0 0),.cst (.slice none 0 0),.cst (.slice none 0 0)]) (by rfl)) ?_
      refine sM R R (sM R R (sM R R (sM R R ?_)))
      refine sQ R (YAn R YRo (q:=[(0,_),(1,_),(3,_)]) (by exact ⟨R,R,R,iL,R,R,R,iL,R,R,R,iL,Za⟩) (cs:=[rI (row1),rI (col1),.r (.str []),rI (r3),.cst (.slice none 0 0)]) (by rfl)) ?_
      refine Zh R R R (YCn 90 R YB2 (f:=YAL.row) (l:=([(YAL.mk row1 col1 [] r3 [])]:List YAL)) ⟨R,⟨_,iL,R⟩,Za⟩ R (fun _=>R) R) ?_
      refine sQ R (YAn R YQl (q:=[(2,_)]) (by exact ⟨R,R,R,iL,Za⟩) (cs:=[.cst (.slice none 0 0),.cst (.slice none 0 0),.own 90 ((i5 0)+1),.cst (.slice none 0 0),.cst (.slice none 0 0)]) (by rfl)) ?_
      refine sQ R (YAn R YMu (q:=[(0,_),(1,_),(13,_)]) (by exact ⟨R,R,R,iL,R,R,R,iL,R,R,R,iL,Za⟩) (cs:=[rI (3),rI (id1),rI (0),rI (0),.cst (.slice none 0 0),.cst (.slice none 0 0),rI (0),rI (0),.cst (.slice none 0 0),.cst (.slice none 0 0),.cst (.slice none 0 0),.cst (.slice none 0 0),.cst (.slice none 0 0),.cst (.slice none 0 0),.cst (.slice none 0 0),.own 90 ((i5 0)+1),.cst (.slice none 0 0),.cst (.slice none 0 0),.cst (.slice none 0 0)]) (by rfl)) ?_
      refine AOps.weak (by exact Weak.frz (e':=[(1,rI (id1)),(2,rI (row1)),(3,rI (col1)),(17,rI (r3)),(80,rI (r3)),(81,.agg z17_),(82,.r (.sl ([(YAN.mk 10 0 [])].map YAN.row))),(83,.agg [rI (r3),rI (3),.cst (.slice none 0 0),.r (.sl ([(YAN.mk 10 0 [])].map YAN.row)),rI (0),rI (0),.cst (.slice none 0 0),.cst (.slice none 0 0),.cst (.slice none 0 0)]),(84,.agg [rI (0),rI (0),rI (r3),rI (3),.cst (.slice none 0 0),.r (.sl ([(YAN.mk 10 0 [])].map YAN.row)),rI (0),rI (0),.cst (.slice none 0 0),.cst (.slice none 0 0),.cst (.slice none 0 0),.cst (.slice none 0 0),.cst (.slice none 0 0),.cst (.slice none 0 0),.cst (.slice none 0 0),.cst (.slice none 0 0),.cst (.slice none 0 0),.cst (.slice none 0 0),.cst (.slice none 0 0)]),(85,rI (id1)),(86,rI (row1)),(87,rI (col1)),(88,rI (r3)),(89,.agg [rI (row1),rI (col1),.r (.str []),rI (r3),.cst (.slice none 0 0)]),(90,.own 90 ((i5 0)+1)),(91,.agg [.cst (.slice none 0 0),.cst (.slice none 0 0),.own 90 ((i5 0)+1),.cst (.slice none 0 0),.cst (.slice none 0 0)]),(92,.agg [rI (3),rI (id1),rI (0),rI (0),.cst (.slice none 0 0),.cst (.slice none 0 0),rI (0),rI (0),.cst (.slice none 0 0),.cst (.slice none 0 0),.cst (.slice none 0 0),.cst (.slice none 0 0),.cst (.slice none 0 0),.cst (.slice none 0 0),.cst (.slice none 0 0),.own 90 ((i5 0)+1),.cst (.slice none 0 0),.cst (.slice none 0 0),.cst (.slice none 0 0)])]) (h':=[(90,some (.arr ((i5 0)+1) 140 5 ([(YAL.mk row1 col1 [] r3 [])].map YAL.row)))]) 82 R ⟨jL,jL,jL,jL,jL,jL,.inl (.inr (.inr ⟨R,R⟩)),.inr ⟨_,_,R,R,⟨.inl R,.inl R,.inl R,.inr (.inr ⟨R,R⟩),.inl R,.inl R,.inl R,.inl R,.inl R,Za⟩⟩,.inr ⟨_,_,R,R,⟨.inl R,.inl R,.inl R,.inl R,.inl R,.inr (.inr ⟨R,R⟩),.inl R,.inl R,.inl R,.inl R,.inl R,.inl R,.inl R,.inl R,.inl R,.inl R,.inl R,.inl R,.inl R,Za⟩⟩,jL,jL,jL,jL,jL,jL,jL,jL,Za⟩ ⟨R,.inl R,Za⟩) ?_
      refine AOps.weak (by exact Weak.frz (e':=[(1,rI (id1)),(2,rI (row1)),(3,rI (col1)),(17,rI (r3)),(80,rI (r3)),(81,.agg z17_),(82,.r (.sl ([(YAN.mk 10 0 [])].map YAN.row))),(83,.agg [rI (r3),rI (3),.cst (.slice none 0 0),.r (.sl ([(YAN.mk 10 0 [])].map YAN.row)),rI (0),rI (0),.cst (.slice none 0 0),.cst (.slice none 0 0),.cst (.slice none 0 0)]),(84,.agg [rI (0),rI (0),rI (r3),rI (3),.cst (.slice none 0 0),.r (.sl ([(YAN.mk 10 0 [])].map YAN.row)),rI (0),rI (0),.cst (.slice none 0 0),.cst (.slice none 0 0),.cst (.slice none 0 0),.cst (.slice none 0 0),.cst (.slice none 0 0),.cst (.slice none 0 0),.cst (.slice none 0 0),.cst (.slice none 0 0),.cst (.slice none 0 0),.cst (.slice none 0 0),.cst (.slice none 0 0)]),(85,rI (id1)),(86,rI (row1)),(87,rI (col1)),(88,rI (r3)),(89,.agg [rI (row1),rI (col1),.r (.str []),rI (r3),.cst (.slice none 0 0)]),(90,.r (.sl ([(YAL.mk row1 col1 [] r3 [])].map YAL.row))),(91,.agg [.cst (.slice none 0 0),.cst (.slice none 0 0),.r (.sl ([(YAL.mk row1 col1 [] r3 [])].map YAL.row)),.cst (.slice none 0 0),.cst (.slice none 0 0)]),(92,.agg [rI (3),rI (id1),rI (0),rI (0),.cst (.slice none 0 0),.cst (.slice none 0 0),rI (0),rI (0),.cst (.slice none 0 0),.cst (.slice none 0 0),.cst (.slice none 0 0),.cst (.slice none 0 0),.cst (.slice none 0 0),.cst (.slice none 0 0),.cst (.slice none 0 0),.r (.sl ([(YAL.mk row1 col1 [] r3 [])].map YAL.row)),.cst (.slice none 0 0),.cst (.slice none 0 0),.cst (.slice none 0 0)])]) (h':=[]) 90 R ⟨jL,jL,jL,jL,jL,jL,jL,jL,jL,jL,jL,jL,jL,jL,.inl (.inr (.inr ⟨R,R⟩)),.inr ⟨_,_,R,R,⟨.inl R,.inl R,.inr (.inr ⟨R,R⟩),.inl R,.inl R,Za⟩⟩,.inr ⟨_,_,R,R,⟨.inl R,.inl R,.inl R,.inl R,.inl R,.inl R,.inl R,.inl R,.inl R,.inl R,.inl R,.inl R,.inl R,.inl R,.inl R,.inr (.inr ⟨R,R⟩),.inl R,.inl R,.inl R,Za⟩⟩,Za⟩ Za) ?_
      refine Zh R R R (YCn 93 R YGj (f:=GOp.row) (l:=([(GOp.mk 0 0 (YAJ.mk r3 3 [] [(YAN.mk 10 0 [])] (YAv.mk 0 0 [] []) []) [] [] (YAh.mk [] [] [] [] []) []),(GOp.mk 3 id1 (YAJ.mk 0 0 [] [] (YAv.mk 0 0 [] []) []) [] [] (YAh.mk [] [] [(YAL.mk row1 col1 [] r3 [])] [] []) [])]:List GOp)) ⟨R,⟨_,iL,R⟩,R,⟨_,iL,R⟩,Za⟩ R (fun _=>R) R) (sM R R (sA R R (sA R R (sA R R (aZ (hK18 _ ?_))))))
      refine Zj ?_
      exact YOX (P:=Tryz.prog) (fun (r:(List GOp) × Int × Int)=>qh r.1) (fun (r:(List GOp) × Int × Int)=>rI (r.2.1)) (fun (r:(List GOp) × Int × Int)=>rI (r.2.2)) h7 iL (.t (.one (.own R))) (.t (.d R)) (.t (.d R))
    refine ZP (fun (x2:Int) i3=>⟨[(1,rI (id1)),(2,rI (row1)),(3,rI (col1)),(4,rI (site1)),(5,.ptr 5 n0 0 0),(52,qc r1.Grid.Cells),(53,rI ((r1.Grid.Cells.length:Int))),(54,rI (x2))],[(5,some (.box n0 24 [qf d1.Nodes]))],(i3 0),95⟩) (vec [(n0+2)]) hit1 ((by exact Zc ⟨jL,jL,jL,jL,jL,jL,jL,jL,Za⟩ ⟨.inl R,Za⟩ nL)) ?_
    intro x2 i3 v1 hv1 hx1
    have h8:YBO row1 col1 r1 x2=some v1:=hv1; unfold YBO at h8
    refine aS fun _ hK19 _=>(aR (sQ R (Zv R iL iL) (aZ (hK19 _ ?_))))
    refine aS fun _ hK20 _=>?_
    refine aC R (fun hc5=>?_) (fun hc5=>?_)
    ·have h9:=Zn hc5 h8
     refine Zk (hK20 _ ?_)
     refine aS fun _ hK21 _=>(Zp (aS fun _ hK22 _=>(aR (Zl h9 fun x4 ex4 h10=>(sQ R (Zx R YB2.slice iL iL (fun _=>R) (fun _=>ex4)) (sQ R (ZG (cs:=(k9_ x4)) R YES iL R R) (Zh R R R (YAi (cs:=z11_) 16 R YI2 R R) (ZN R R (ZF (ds:=(k9_ x4)) R YI0 iL R iL R R R R) (aZ (hK22 _ ?_))))))))))
     refine aS fun _ hK23 _=>(aR (sQ R (fB R YBy iL fR R) (sQ R (Zb (a:=rI (x4.Row)) R ts_3 iL R R) (sM R R (sQ R (Zs R iL iL) (sM R R (sV R R R (fB R YCV iL fR R) (sV R R R (Zb (a:=rI (x4.Col)) R ts_3 (iR R) R R) (sV R R R (Ze R iL) (sV R R R (Zs R (iR R) (iR R)) (sQ R (Zq R iL (iR R)) (aZ (hK23 _ ?_)))))))))))))
     refine aC R (fun hc6=>?_) (fun hc6=>?_)
     ·have h11:=Zn hc6 h10
      refine aS fun _ hK24 _=>?_
      refine Zi (s':=⟨[(16,.ptr 16 (i3 0) 0 0)],[(16,some (.box (i3 0) 140 (k9_ x4)))],((i3 0)+1),95⟩) (by exact Zc ⟨jL,Za⟩ ⟨.inl R,Za⟩ nL) ?_
      refine ZS hmix (by kernel_rfl) ?_
      refine Zm R R R (fB R YBa iL fR R) (Zm R R R (Zb (a:=rI (x4.Ref)) R ts_3 iL R R) (Zm R R R (YA8 R iL) (Zm R R R (YA8 R iL) (Zm R R R (YA8 R iL) ?_))))
      refine AQ.nil ?_
      refine hK24 _ ?_
      refine Zj ?_
      exact YOX (P:=Tryz.prog) (fun (r:(List GOp) × Int × Int)=>qh r.1) (fun (r:(List GOp) × Int × Int)=>rI (r.2.1)) (fun (r:(List GOp) × Int × Int)=>rI (r.2.2)) (he1 _ (hx1 _ (Zd h11).symm)) iL (.t (.one (.nil))) (.t (.d R)) (.t (.d R))
     ·have h11:=Zo hc6 h10
      refine Zk (hK21 _ ?_)
      refine Zi (s':=⟨[(1,rI (id1)),(2,rI (row1)),(3,rI (col1)),(4,rI (site1)),(5,.ptr 5 n0 0 0),(52,qc r1.Grid.Cells),(53,rI ((r1.Grid.Cells.length:Int))),(54,rI (x2))],[(5,some (.box n0 24 [qf d1.Nodes]))],((i3 0)+1),95⟩) (by exact Zc ⟨jL,jL,jL,jL,jL,jL,jL,jL,Za⟩ ⟨.inl R,Za⟩ nL) ?_
      refine aR (Zl h11 fun x5 ex5 h12=>(sQ R (ZI R iL iL (fun _=>ex5)) (sM R R ?_)))
      refine Zt ?_
      exact ZJ h12 (vec [((i3 0)+1)]) ((by exact Zc ⟨jL,jL,jL,jL,jL,jL,jL,jL,Za⟩ ⟨.inl R,Za⟩ nL))
    ·have h9:=Zo hc5 h8
     refine ZL ?_
     exact wK12 _ _ ((by exact Zc ⟨jL,jL,jL,jL,jL,Za⟩ ⟨.inl R,Za⟩ nL)) (J1 _ (vec [(i3 0)]) (hx1 _ (Zd h9).symm))
theorem YBB {x1:Int} {low1:Int} {high1:Int} {r:Bool} (h:YBj x1 low1 high1=some r):ARO Tryz.prog 32 [rI (x1),rI (low1),rI (high1)] (rB (r)):=by
 unfold YBj at h
 refine Zu Tryz.func32 R R Tryz.ntmps32 R (Zf R) fun n0=>?_
 refine aS fun _ hK1 _=>(aR (sA R R (aZ (hK1 _ ?_))))
 refine aS fun _ hK2 _=>(aR (sM R R (sM R R (sQ R (YCg R iL iL) (sM R R (sV R R R (Ze R iL) (sV R R R (Ze R iL) (sV R R R (YET R (iR R) (iR R)) (sQ R (Zq R iL (iR R)) (sA R R (aZ (hK2 _ ?_))))))))))))
 refine Zj ?_
 exact Y2_ h iL (.t (.d R))
theorem YJ8 {s1:List UInt8} {r:Bool} (h:YGL s1=some r):ARO Tryz.prog 76 [.r (.str s1)] (rB (r)):=by
 unfold YGL at h
 refine Zu Tryz.func76 R R Tryz.ntmps76 R (Zf R) fun n0=>?_
 refine aS fun _ hK1 _=>(aR (sA R R (aZ (hK1 _ ?_))))
 refine aS fun K2 hK2 wK2=>(aS fun _ hK3 _=>(aR (sM R R (sQ R (YAm R Tryz.underlying9 iL) (sM R R (aZ (hK3 _ ?_)))))))
 refine Zp ?_
 refine jc1k h fun o1 hit1 hk1 he1=>?_
 have J1 : ∀ (u2:Unit) (i5:Nat→Nat),o1 = .nrm u2→K2 ⟨[(0,.r (.str s1))],[],(i5 0),59⟩:=by
  intro u2 i5 e
  have h1:=hk1 _ e
  refine hK2 _ ?_
  refine aS fun _ hK4 _=>(aR (sM R R (sQ R (YAm R Tryz.underlying9 iL) (sQ R (YCg R iL iL) (sM R R (sV R R R (Ze R iL) (sV R R R (YAm R Tryz.underlying9 (iR R)) (sV R R R (YET R (iR R) iL) (sQ R (Zq R iL (iR R)) (sA R R (aZ (hK4 _ ?_))))))))))))
  refine Zj ?_
  exact Y2_ h1 iL (.t (.d R))
 refine ZP (fun (x2:Int) i3=>⟨[(0,.r (.str s1)),(6,rI ((s1.length:Int))),(7,rI (x2))],[],(i3 0),59⟩) (vec [n0]) hit1 ((by exact Zc ⟨jL,jL,jL,Za⟩ Za nL)) ?_
 intro x2 i3 v1 hv1 hx1
 have h2:YDh s1 x2=some v1:=hv1; unfold YDh at h2
 refine aS fun _ hK5 _=>(aR (sQ R (Zv R iL iL) (aZ (hK5 _ ?_))))
 refine aS fun _ hK6 _=>?_
 refine aC R (fun hc1=>?_) (fun hc1=>?_)
 ·have h3:=Zn hc1 h2
  refine Zk (hK6 _ ?_)
  refine aS fun _ hK7 _=>(Zp (aS fun _ hK8 _=>(aR (sM R R (sA R R (aZ (hK8 _ ?_)))))))
  refine aS fun _ hK9 _=>(aR (sM R R (sM R R (Zl h3 fun ch1 ech1 h4=>(sQ R (ZT R Tryz.underlying9 iL iL (fun _=>ech1)) (sQ R (YCg R iL iL) (sM R R (sV R R R (Ze R iL) (sV R R R (Ze R iL) (sV R R R (ZT R Tryz.underlying9 (iR R) (iR R) (fun _=>ech1)) (sV R R R (YET R (iR R) iL) (sQ R (Zq R iL (iR R)) (sA R R (aZ (hK9 _ ?_)))))))))))))))
  refine aS fun _ hK10 _=>(aR (sM R R (sQ R (ZK R iL) (sM R R (sV R R R (Ze R iL) (sV R R R (Zs R (iR R) iL) (sV R R R (Ze R (iR R)) ?_)))))))
  refine sW (.two R R R) R (Ze R iL) ?_
  refine sW (.two R R R) R (Ze R iL) ?_
  refine sW (.two R R R) R (ZT R Tryz.underlying9 (iR R) (iR R) (fun _=>ech1)) ?_
  refine sW (.two R R R) R (ZD R (iR R) iL) ?_
  refine sW (.two R R R) R (Ze R (iR R)) ?_
  refine sW (.two R R R) R (Ze R iL) ?_
  refine sW (.two R R R) R (Ze R iL) ?_
  refine sW (.two R R R) R (ZT R Tryz.underlying9 (iR R) (iR R) (fun _=>ech1)) ?_
  refine sW (.two R R R) R (ZD R (iR R) iL) ?_
  refine sW (.two R R R) R (Zq R (iR R) (iR R)) ?_
  refine sW (.two R R R) R (Ze R (iR R)) ?_
  refine sW (.two R R R) R (Ze R iL) ?_
  refine sW (.two R R R) R (Ze R iL) ?_
  refine sW (.two R R R) R (ZT R Tryz.underlying9 (iR R) (iR R) (fun _=>ech1)) ?_
  refine sW (.two R R R) R (Zv R (iR R) iL) ?_
  refine sW (.two R R R) R (Ze R (iR R)) ?_
  refine sW (.two R R R) R (Ze R iL) ?_
  refine sW (.two R R R) R (Ze R iL) ?_
  refine sW (.two R R R) R (ZT R Tryz.underlying9 (iR R) (iR R) (fun _=>ech1)) ?_
  refine sW (.two R R R) R (ZR R (iR R) iL) ?_
  refine sW (.two R R R) R (Zy R (iR R) (iR R)) ?_
  refine sW (.two R R R) R (Zq R (iR R) (iR R)) ?_
  refine sV R R R (Zy R (iR R) (iR R)) (sQ R (Zq R iL (iR R)) (aZ (hK10 _ ?_)))
  refine aC R (fun hc2=>?_) (fun hc2=>?_)
  ·have h5:=Zn hc2 h4
   refine aS fun _ hK11 _=>?_
   refine Zi (s':=⟨[],[],(i3 0),59⟩) (by exact Zc Za Za nL) ?_
   refine aR (sA R R (aZ (hK11 _ ?_)))
   refine Zj ?_
   exact Y2_ (he1 _ (hx1 _ (Zd h5).symm)) iL (.t (.d R))
  ·have h5:=Zo hc2 h4
   refine Zk (hK7 _ ?_)
   refine Zi (s':=⟨[(0,.r (.str s1)),(6,rI ((s1.length:Int))),(7,rI (x2))],[],(i3 0),59⟩) (by exact Zc ⟨jL,jL,jL,Za⟩ Za nL) ?_
   refine aR (Zl h5 fun x4 ex4 h6=>(sQ R (ZI R iL iL (fun _=>ex4)) (sM R R ?_)))
   refine Zt ?_
   exact ZJ h6 (vec [(i3 0)]) ((by exact Zc ⟨jL,jL,jL,Za⟩ Za nL))
 ·have h3:=Zo hc1 h2
  refine ZL ?_
  exact wK2 _ _ ((by exact Zc ⟨jL,Za⟩ Za nL)) (J1 _ (vec [(i3 0)]) (hx1 _ (Zd h3).symm))
theorem YId {s1:List UInt8} {r:Bool} (h:YE7 s1=some r):ARO Tryz.prog 53 [.r (.str s1)] (rB (r)):=by
 unfold YE7 at h
 refine Zu Tryz.func53 R R Tryz.ntmps53 R (Zf R) fun n0=>?_
 refine aS fun _ hK1 _=>(aR (sA R R (aZ (hK1 _ ?_))))
 refine aS fun K2 hK2 wK2=>(aS fun _ hK3 _=>(aR (sM R R (sQ R (YAm R Tryz.underlying9 iL) (sM R R (aZ (hK3 _ ?_)))))))
 refine Zp ?_
 refine jc1k h fun o1 hit1 hk1 he1=>?_
 have J1 : ∀ (u2:Unit) (i5:Nat→Nat),o1 = .nrm u2→K2 ⟨[(0,.r (.str s1))],[],(i5 0),28⟩:=by
  intro u2 i5 e
  have h1:=hk1 _ e
  refine hK2 _ ?_
  refine aS fun _ hK4 _=>(aR (sM R R (sQ R (YAm R Tryz.underlying9 iL) (sQ R (YCg R iL iL) (sM R R (sV R R R (Ze R iL) (sV R R R (YAm R Tryz.underlying9 (iR R)) (sV R R R (YET R (iR R) iL) (sQ R (Zq R iL (iR R)) (sA R R (aZ (hK4 _ ?_))))))))))))
  refine Zj ?_
  exact Y2_ h1 iL (.t (.d R))
 refine ZP (fun (x2:Int) i3=>⟨[(0,.r (.str s1)),(5,rI ((s1.length:Int))),(6,rI (x2))],[],(i3 0),28⟩) (vec [n0]) hit1 ((by exact Zc ⟨jL,jL,jL,Za⟩ Za nL)) ?_
 intro x2 i3 v1 hv1 hx1
 have h2:YDv s1 x2=some v1:=hv1; unfold YDv at h2
 refine aS fun _ hK5 _=>(aR (sQ R (Zv R iL iL) (aZ (hK5 _ ?_))))
 refine aS fun _ hK6 _=>?_
 refine aC R (fun hc1=>?_) (fun hc1=>?_)
 ·have h3:=Zn hc1 h2
  refine Zk (hK6 _ ?_)
  refine aS fun _ hK7 _=>(Zp (aS fun _ hK8 _=>(aR (sM R R (sA R R (aZ (hK8 _ ?_)))))))
  refine aS fun _ hK9 _=>(aR (sM R R (sM R R (Zl h3 fun ch1 ech1 h4=>(sQ R (ZT R Tryz.underlying9 iL iL (fun _=>ech1)) (sQ R (Zv R iL iL) (sM R R (sV R R R (Ze R iL) (sV R R R (Ze R iL) (sV R R R (ZT R Tryz.underlying9 (iR R) (iR R) (fun _=>ech1)) (sV R R R (ZR R (iR R) iL) (sQ R (Zy R iL (iR R)) (aZ (hK9 _ ?_))))))))))))))
  refine aC R (fun hc2=>?_) (fun hc2=>?_)
  ·have h5:=Zn hc2 h4
   refine aS fun _ hK10 _=>?_
   refine Zi (s':=⟨[],[],(i3 0),28⟩) (by exact Zc Za Za nL) ?_
   refine aR (sA R R (aZ (hK10 _ ?_)))
   refine Zj ?_
   exact Y2_ (he1 _ (hx1 _ (Zd h5).symm)) iL (.t (.d R))
  ·have h5:=Zo hc2 h4
   refine Zk (hK7 _ ?_)
   refine Zi (s':=⟨[(0,.r (.str s1)),(5,rI ((s1.length:Int))),(6,rI (x2))],[],(i3 0),28⟩) (by exact Zc ⟨jL,jL,jL,Za⟩ Za nL) ?_
   refine aR (Zl h5 fun x4 ex4 h6=>(sQ R (ZI R iL iL (fun _=>ex4)) (sM R R ?_)))
   refine Zt ?_
   exact ZJ h6 (vec [(i3 0)]) ((by exact Zc ⟨jL,jL,jL,Za⟩ Za nL))
 ·have h3:=Zo hc1 h2
  refine ZL ?_
  exact wK2 _ _ ((by exact Zc ⟨jL,Za⟩ Za nL)) (J1 _ (vec [(i3 0)]) (hx1 _ (Zd h3).symm))
theorem YD3 {l1:List YAT} {change1:Bool} {r:Int} (h:YBh l1 change1=some r):ARO Tryz.prog 26 [qa l1,rB (change1)] (rI (r)):=by
 unfold YBh at h
 refine Zu Tryz.func26 R R Tryz.ntmps26 R (Zf R) fun n0=>?_
 refine aS fun _ hK1 _=>(aR (sA R R (aZ (hK1 _ ?_))))
 refine aS fun K2 hK2 wK2=>(aS fun _ hK3 _=>(aR (sM R R (sQ R (Zz R YEP.slice iL) (sM R R (aZ (hK3 _ ?_)))))))
 refine Zp ?_
 refine jc1k h fun o1 hit1 hk1 he1=>?_
 have J1 : ∀ (u2:Unit) (i5:Nat→Nat),o1 = .nrm u2→K2 ⟨[],[],(i5 0),54⟩:=by
  intro u2 i5 e
  have h1:=hk1 _ e
  refine hK2 _ ?_
  refine aS fun _ hK4 _=>(aR (sA R R (aZ (hK4 _ ?_))))
  refine Zj ?_
  exact Y1_ h1 iL (.t (.d R))
 refine ZP (fun (x2:Int) i3=>⟨[(0,qa l1),(1,rB (change1)),(7,rI ((l1.length:Int))),(8,rI (x2))],[],(i3 0),54⟩) (vec [n0]) hit1 ((by exact Zc ⟨jL,jL,jL,jL,Za⟩ Za nL)) ?_
 intro x2 i3 v1 hv1 hx1
 have h2:YBP l1 change1 x2=some v1:=hv1; unfold YBP at h2
 refine aS fun _ hK5 _=>(aR (sQ R (Zv R iL iL) (aZ (hK5 _ ?_))))
 refine aS fun _ hK6 _=>?_
 refine aC R (fun hc1=>?_) (fun hc1=>?_)
 ·have h3:=Zn hc1 h2
  refine Zk (hK6 _ ?_)
  refine aS fun _ hK7 _=>(Zp (aS fun _ hK8 _=>(aR (sM R R (sA R R (aZ (hK8 _ ?_)))))))
  refine aS fun _ hK9 _=>(aS fun _ hK10 _=>(aR (sM R R (sM R R (Zl h3 fun x4 ex4 h4=>(sQ R (Zx R YEP.slice iL iL (fun _=>R) (fun _=>ex4)) (sQ R (Zw R YHX iL) (sQ R (ZO (d:=.str x4.Name) R ts_9 iL R) (Zl h4 fun r1 er1 h5=>(Zh R R R (Zr (r:=rB (r1)) (caps:=[]) (bs:=[.r (.str x4.Name)]) R iL R ⟨⟨_,iL,.d R⟩,Za⟩ (fun _=>YJ8 (er1)) R) (sQ R (ZK R iL) (aZ (hK10 _ ?_)))))))))))))
  refine aC R (fun hc2=>?_) (fun hc2=>?_)
  ·have h6:=Zn hc2 h5
   refine aS fun _ hK11 _=>?_
   refine Zi (s':=⟨[],[],(i3 0),54⟩) (by exact Zc Za Za nL) ?_
   refine aR (sA R R (aZ (hK11 _ ?_)))
   refine Zj ?_
   exact Y1_ (he1 _ (hx1 _ (Zd h6).symm)) iL (.t (.d R))
  ·have h6:=Zo hc2 h5
   refine Zk (hK9 _ ?_)
   refine aS fun _ hK12 _=>(aS fun _ hK13 _=>?_)
   refine Zi (s':=⟨[(0,qa l1),(1,rB (change1)),(5,rI (x2)),(7,rI ((l1.length:Int))),(8,rI (x2))],[],(i3 0),54⟩) (by exact Zc ⟨jL,jL,jL,jL,jL,Za⟩ Za nL) ?_
   refine aR (sM R R (sM R R (sQ R (Zx R YEP.slice iL iL (fun _=>R) (fun _=>ex4)) (sQ R (Zw R YKk iL) (sQ R (ZO (d:=.str x4.Value) R ts_9 iL R) (Zl h6 fun r2 er2 h7=>(Zh R R R (Zr (r:=rB (r2)) (caps:=[]) (bs:=[.r (.str x4.Value)]) R iL R ⟨⟨_,iL,.d R⟩,Za⟩ (fun _=>YId (er2)) R) (sQ R (ZK R iL) (sM R R (sV R R R (Ze R iL) (sV R R R (Ze R iL) (sV R R R (Zx R YEP.slice (iR R) (iR R) (fun _=>R) (fun _=>ex4)) (sV R R R (Zw R YKk (iR R)) (sV R R R (ZO (d:=.str x4.Value) R ts_9 (iR R) R) (sV R R R (YDC R (iR R) iL) (sV R R R (Ze R (iR R)) ?_))))))))))))))))
   refine sW (.two R R R) R (Ze R iL) ?_
   refine sW (.two R R R) R (ZK R (iR R)) ?_
   refine sV R R R (Zy R (iR R) (iR R)) (sQ R (Zq R iL (iR R)) (aZ (hK13 _ ?_)))
   refine aC R (fun hc3=>?_) (fun hc3=>?_)
   ·have h8:=Zn hc3 h7
    refine aS fun _ hK14 _=>?_
    refine Zi (s':=⟨[],[],(i3 0),54⟩) (by exact Zc Za Za nL) ?_
    refine aR (sA R R (aZ (hK14 _ ?_)))
    refine Zj ?_
    exact Y1_ (he1 _ (hx1 _ (Zd h8).symm)) iL (.t (.d R))
   ·have h8:=Zo hc3 h7
    refine Zk (hK12 _ ?_)
    refine aS fun _ hK15 _=>?_
    refine Zi (s':=⟨[(0,qa l1),(1,rB (change1)),(5,rI (x2)),(7,rI ((l1.length:Int))),(8,rI (x2))],[],(i3 0),54⟩) (by exact Zc ⟨jL,jL,jL,jL,jL,Za⟩ Za nL) ?_
    refine ZS hmix (by kernel_rfl) ?_
    refine Zm R R R (Ze R iL) (Zm R R R (ZR R iL iL) (Zm R R R (Ze R iL) ?_))
    refine Zg (.one R R R) R R (Ze R iL) ?_
    refine Zg (.one R R R) R R (Ze R iL) ?_
    refine Zl h8 fun x5 ex5 h9=>?_
    refine Zg (.one R R R) R R (YBA R (iR R) iL (gdt ex5)) ?_
    refine Zl h9 fun x6 ex6 h10=>?_
    refine Zg (.one R R R) R R (Zx R YEP.slice (iR R) (iR R) (fun _=>R) (gdt ex6)) ?_
    refine Zg (.one R R R) R R (Zw R YHX (iR R)) ?_
    refine Zg (.one R R R) R R (ZO (d:=.str x6.Name) R ts_9 (iR R) R) ?_
    refine Zg (.one R R R) R R (Ze R iL) ?_
    refine Zg (.one R R R) R R (Ze R iL) ?_
    refine Zg (.one R R R) R R (Zx R YEP.slice (iR R) (iR R) (fun _=>R) (fun _=>ex4)) ?_
    refine Zg (.one R R R) R R (Zw R YHX (iR R)) ?_
    refine Zg (.one R R R) R R (ZO (d:=.str x4.Name) R ts_9 (iR R) R) ?_
    refine Zg (.one R R R) R R (YPL R (iR R) (iR R)) ?_
    refine Zm R R R (Zq R iL (iR R)) ?_
    refine AQ.nil ?_
    refine hK15 _ ?_
    refine aC R (fun hc4=>?_) (fun hc4=>?_)
    ·have h11:=Zn hc4 h10
     refine aS fun _ hK16 _=>?_
     refine Zi (s':=⟨[],[],(i3 0),54⟩) (by exact Zc Za Za nL) ?_
     refine aR (sA R R (aZ (hK16 _ ?_)))
     refine Zj ?_
     exact Y1_ (he1 _ (hx1 _ (Zd h11).symm)) iL (.t (.d R))
    ·have h11:=Zo hc4 h10
     refine Zk (hK7 _ ?_)
     refine aR (Zl h11 fun x7 ex7 h12=>(sQ R (ZI R iL iL (fun _=>ex7)) (sM R R ?_)))
     refine Zt ?_
     exact ZJ h12 (vec [(i3 0)]) ((by exact Zc ⟨jL,jL,jL,jL,Za⟩ Za nL))
 ·have h3:=Zo hc1 h2
  refine ZL ?_
  exact wK2 _ _ ((by exact Zc Za Za nL)) (J1 _ (vec [(i3 0)]) (hx1 _ (Zd h3).symm))
theorem YFL {kind1:Int} {r:Bool} (h:YDi kind1=some r):ARO Tryz.prog 48 [rI (kind1)] (rB (r)):=by
 unfold YDi at h
 refine Zu Tryz.func48 R R Tryz.ntmps48 R (Zf R) fun n0=>?_
 refine aS fun _ hK1 _=>(aR (sA R R (aZ (hK1 _ ?_))))
 refine aS fun _ hK2 _=>(aR (sM R R (sQ R (Zs R iL iL) (sM R R (sV R R R (Ze R iL) (sV R R R (Zs R (iR R) iL) (sQ R (Zy R iL (iR R)) (sM R R (sV R R R (Ze R iL) (sV R R R (Zs R (iR R) iL) (sQ R (Zy R iL (iR R)) (sM R R (sV R R R (Ze R iL) (sV R R R (Zs R (iR R) iL) (sQ R (Zy R iL (iR R)) (sA R R (aZ (hK2 _ ?_))))))))))))))))))
 refine Zj ?_
 exact Y2_ h iL (.t (.d R))
theorem YKc {kind1:Int} {r:Bool} (h:YFR kind1=some r):ARO Tryz.prog 121 [rI (kind1)] (rB (r)):=by
 unfold YFR at h
 refine Zu Tryz.func121 R R Tryz.ntmps121 R (Zf R) fun n0=>?_
 refine aS fun _ hK1 _=>(aR (sA R R (aZ (hK1 _ ?_))))
 refine aS fun _ hK2 _=>(aR (sM R R (sQ R (Zs R iL iL) (sM R R (sV R R R (Ze R iL) (sV R R R (Zs R (iR R) iL) (sQ R (Zy R iL (iR R)) (sA R R (aZ (hK2 _ ?_))))))))))
 refine Zj ?_
 exact Y2_ h iL (.t (.d R))
theorem YJk {g1:YAv} {r:Bool} (h:YDu g1=some r):ARO Tryz.prog 122 (k12_ g1) (rB (r)):=by
 unfold YDu at h
 refine Zu Tryz.func122 R R Tryz.ntmps122 R (Zf R) fun n0=>?_
 refine aS fun _ hK1 _=>(aR (Zh R R R (ZM (cs:=(k14_ g1)) 1 R iL R R) (sA R R (aZ (hK1 _ ?_)))))
 refine aS fun _ hK2 _=>(aR (sQ R (fB R YCj iL fR R) (sQ R (Zb (a:=rI (g1.Rows)) R ts_3 iL R R) (sQ R (Zs R iL iL) (sM R R (sV R R R (fB R YCi iL fR R) (sV R R R (Zb (a:=rI (g1.Cols)) R ts_3 (iR R) R R) (sV R R R (Zs R (iR R) iL) (sQ R (Zq R iL (iR R)) (sM R R (sV R R R (fB R YCJ iL fR R) (sV R R R (Zb (a:=qc g1.Cells) R YE1 (iR R) R R) (sV R R R (Zz R YB2.slice (iR R)) (sV R R R (Zs R (iR R) iL) (sQ R (Zq R iL (iR R)) (sM R R (sV R R R (fB R YDA iL fR R) (sV R R R (Zb (a:=qb g1.Merges) R YFk (iR R) R R) (sV R R R (Zz R YEO.slice (iR R)) (sV R R R (Zs R (iR R) iL) (sQ R (Zq R iL (iR R)) (sA R R (aZ (hK2 _ ?_))))))))))))))))))))))))
 refine Zj ?_
 exact Y2_ h iL (.t (.d R))
theorem YFM {kind1:Int} {r:Bool} (h:YCw kind1=some r):ARO Tryz.prog 41 [rI (kind1)] (rB (r)):=by
 unfold YCw at h
 refine Zu Tryz.func41 R R Tryz.ntmps41 R (Zf R) fun n0=>?_
 refine aS fun _ hK1 _=>(aR (sA R R (aZ (hK1 _ ?_))))
 refine aS fun _ hK2 _=>(aR (sM R R (sQ R (Zs R iL iL) (sM R R (sV R R R (Ze R iL) (sV R R R (Zs R (iR R) iL) (sQ R (Zy R iL (iR R)) (sA R R (aZ (hK2 _ ?_))))))))))
 refine Zj ?_
 exact Y2_ h iL (.t (.d R))
theorem YKd {kind1:Int} {r:Bool} (h:YFS kind1=some r):ARO Tryz.prog 123 [rI (kind1)] (rB (r)):=by
 unfold YFS at h
 refine Zu Tryz.func123 R R Tryz.ntmps123 R (Zf R) fun n0=>?_
 refine aS fun _ hK1 _=>(aR (sA R R (aZ (hK1 _ ?_))))
 refine aS fun _ hK2 _=>(aR (sM R R (sQ R (Zs R iL iL) (sM R R (sV R R R (Ze R iL) (sV R R R (Zs R (iR R) iL) (sQ R (Zy R iL (iR R)) (sM R R (sV R R R (Ze R iL) (sV R R R (Zs R (iR R) iL) (sQ R (Zy R iL (iR R)) (sA R R (aZ (hK2 _ ?_))))))))))))))
 refine Zj ?_
 exact Y2_ h iL (.t (.d R))
theorem YJ9 {c1:Int} {r:Bool} (h:YGM c1=some r):ARO Tryz.prog 55 [rI (c1)] (rB (r)):=by
 unfold YGM at h
 refine Zu Tryz.func55 R R Tryz.ntmps55 R (Zf R) fun n0=>?_
 refine aS fun _ hK1 _=>(aR (sA R R (aZ (hK1 _ ?_))))
 refine aS fun _ hK2 _=>(aR (sM R R (sQ R (Zs R iL iL) (sM R R (sV R R R (Ze R iL) (sV R R R (Zs R (iR R) iL) (sQ R (Zy R iL (iR R)) (sM R R (sV R R R (Ze R iL) (Zl h fun r1 er1 h1=>?_))))))))))
 refine ZA (.one R R R) R R (Zr (r:=rB (r1)) (caps:=[]) (bs:=[rI (c1),rI (32),rI (126)]) R iL R ⟨⟨_,(iR R),.d R⟩,⟨_,iL,.d R⟩,⟨_,iL,.d R⟩,Za⟩ (fun hg=>YBB (gdt er1 hg)) R) ?_
 refine sQ R (Zy R iL (iR R)) (sM R R (sV R R R (Ze R iL) (Zl h1 fun r2 er2 h2=>?_)))
 refine ZA (.one R R R) R R (Zr (r:=rB (r2)) (caps:=[]) (bs:=[rI (c1),rI (160),rI (55295)]) R iL R ⟨⟨_,(iR R),.d R⟩,⟨_,iL,.d R⟩,⟨_,iL,.d R⟩,Za⟩ (fun hg=>YBB (gdt er2 hg)) R) ?_
 refine sQ R (Zy R iL (iR R)) (sM R R (sV R R R (Ze R iL) (Zl h2 fun r3 er3 h3=>?_)))
 refine ZA (.one R R R) R R (Zr (r:=rB (r3)) (caps:=[]) (bs:=[rI (c1),rI (57344),rI (1114111)]) R iL R ⟨⟨_,(iR R),.d R⟩,⟨_,iL,.d R⟩,⟨_,iL,.d R⟩,Za⟩ (fun hg=>YBB (gdt er3 hg)) R) ?_
 refine sQ R (Zy R iL (iR R)) (sA R R (aZ (hK2 _ ?_)))
 refine Zj ?_
 exact Y2_ h3 iL (.t (.d R))
theorem YIl {x1:YAN} {r:Int} (h:YDM x1=some r):ARO Tryz.prog 70 (k16_ x1) (rI (r)):=by
 unfold YDM at h
 refine Zu Tryz.func70 R R Tryz.ntmps70 R (Zf R) fun n0=>?_
 refine aS fun _ hK1 _=>(aR (Zh R R R (ZM (cs:=(k20_ x1)) 1 R iL R R) (sA R R (aZ (hK1 _ ?_)))))
 refine aS fun _ hK2 _=>(aS fun _ hK3 _=>(aR (sQ R (fB R YEQ iL fR R) (sQ R (Zb (a:=rI (x1.Char)) R ts_3 iL R R) (sQ R (Zs R iL iL) (sM R R (sV R R R (fB R YCI iL fR R) (sV R R R (Zb (a:=rI (x1.Ref)) R ts_3 (iR R) R R) (sV R R R (Zs R (iR R) iL) (sQ R (Zq R iL (iR R)) (sM R R (sV R R R (fB R YEQ iL fR R) (sV R R R (Zb (a:=rI (x1.Char)) R ts_3 (iR R) R R) (sV R R R (ZD R (iR R) iL) (sV R R R (Ze R (iR R)) ?_)))))))))))))))
 refine sW (.two R R R) R (fB R YCI iL fR R) ?_
 refine sW (.two R R R) R (Zb (a:=rI (x1.Ref)) R ts_3 (iR R) R R) ?_
 refine sW (.two R R R) R (ZD R (iR R) iL) ?_
 refine sV R R R (Zq R (iR R) (iR R)) (sQ R (Zy R iL (iR R)) (aZ (hK3 _ ?_)))
 refine aC R (fun hc1=>?_) (fun hc1=>?_)
 ·have h1:=Zn hc1 h
  refine aS fun _ hK4 _=>?_
  refine Zi (s':=⟨[],[],(n0+1),44⟩) (by exact Zc Za Za nL) ?_
  refine aR (sA R R (aZ (hK4 _ ?_)))
  refine Zj ?_
  exact Y1_ h1 iL (.t (.d R))
 ·have h1:=Zo hc1 h
  refine Zk (hK2 _ ?_)
  refine aS fun _ hK5 _=>(aS fun _ hK6 _=>?_)
  refine Zi (s':=⟨[(1,.ptr 1 n0 0 0)],[(1,some (.box n0 51 (k20_ x1)))],(n0+1),44⟩) (by exact Zc ⟨jL,Za⟩ ⟨.inl R,Za⟩ nL) ?_
  refine aR (sQ R (fB R YEQ iL fR R) (sQ R (Zb (a:=rI (x1.Char)) R ts_3 iL R R) (sQ R (ZD R iL iL) (sM R R (sV R R R (fB R YEQ iL fR R) (sV R R R (Zb (a:=rI (x1.Char)) R ts_3 (iR R) R R) (Zl h1 fun r1 er1 h2=>?_)))))))
  refine ZA (.one R R R) R R (Zr (r:=rB (r1)) (caps:=[]) (bs:=[rI (x1.Char)]) R iL R ⟨⟨_,(iR R),.d R⟩,Za⟩ (fun hg=>YJ9 (gdt er1 hg)) R) ?_
  refine sV R R R (ZK R (iR R)) (sQ R (Zq R iL (iR R)) (sM R R (sV R R R (fB R YCI iL fR R) (sV R R R (Zb (a:=rI (x1.Ref)) R ts_3 (iR R) R R) (sV R R R (ZD R (iR R) iL) (sV R R R (Ze R (iR R)) ?_))))))
  refine sW (.two R R R) R (fB R YCI iL fR R) ?_
  refine sW (.two R R R) R (Zb (a:=rI (x1.Ref)) R ts_3 (iR R) R R) ?_
  refine Zl h2 fun r2 er2 h3=>?_
  refine ZA (.two R R R) R R (Zr (r:=rB (r2)) (caps:=[]) (bs:=[rI (x1.Ref),rI (1),rI (1073741824)]) R iL R ⟨⟨_,(iR R),.d R⟩,⟨_,iL,.d R⟩,⟨_,iL,.d R⟩,Za⟩ (fun hg=>YBB (gdt er2 hg)) R) ?_
  refine sW (.two R R R) R (ZK R (iR R)) ?_
  refine sV R R R (Zq R (iR R) (iR R)) (sQ R (Zy R iL (iR R)) (aZ (hK6 _ ?_)))
  refine aC R (fun hc2=>?_) (fun hc2=>?_)
  ·have h4:=Zn hc2 h3
   refine aS fun _ hK7 _=>?_
   refine Zi (s':=⟨[],[],(n0+1),44⟩) (by exact Zc Za Za nL) ?_
   refine aR (sA R R (aZ (hK7 _ ?_)))
   refine Zj ?_
   exact Y1_ h4 iL (.t (.d R))
  ·have h4:=Zo hc2 h3
   refine Zk (hK5 _ ?_)
   refine aS fun _ hK8 _=>?_
   refine Zi (s':=⟨[(1,.ptr 1 n0 0 0)],[(1,some (.box n0 51 (k20_ x1)))],(n0+1),44⟩) (by exact Zc ⟨jL,Za⟩ ⟨.inl R,Za⟩ nL) ?_
   refine aR (sQ R (fB R YKl iL fR R) (sQ R (Zb (a:=qa x1.Attrs) R YEm iL R R) (Zl h4 fun r3 er3 h5=>(Zh R R R (Zr (r:=rI (r3)) (caps:=[]) (bs:=[qa x1.Attrs,rB (false)]) R iL R ⟨⟨_,iL,.d R⟩,⟨_,iL,.d R⟩,Za⟩ (fun _=>YD3 (er3)) R) (sA R R (aZ (hK8 _ ?_)))))))
   refine Zj ?_
   exact Y1_ h5 iL (.t (.d R))
theorem YIj {f1:List YAN} {text1:Bool} {r:Int} (h:YBc f1 text1=some r):ARO Tryz.prog 124 [qe f1,rB (text1)] (rI (r)):=by
 unfold YBc at h
 refine Zu Tryz.func124 R R Tryz.ntmps124 R (Zf R) fun n0=>?_
 refine aS fun _ hK1 _=>(aR (sA R R (aZ (hK1 _ ?_))))
 refine aS fun K2 hK2 wK2=>(aS fun _ hK3 _=>(aR (sM R R (sQ R (Zz R YDf.slice iL) (sM R R (aZ (hK3 _ ?_)))))))
 refine Zp ?_
 refine jc1k h fun o1 hit1 hk1 he1=>?_
 have J1 : ∀ (u2:Unit) (i5:Nat→Nat),o1 = .nrm u2→K2 ⟨[(0,qe f1),(1,rB (text1))],[],(i5 0),47⟩:=by
  intro u2 i5 e
  have h1:=hk1 _ e
  refine hK2 _ ?_
  refine aS fun _ hK4 _=>(aS fun _ hK5 _=>(aR (sM R R (sM R R (sV R R R (Ze R iL) (sV R R R (Zz R YDf.slice (iR R)) (sV R R R (Zs R (iR R) iL) (sV R R R (Ze R (iR R)) ?_))))))))
  refine sW (.two R R R) R (Ze R iL) ?_
  refine sW (.two R R R) R (Ze R iL) ?_
  refine sW (.two R R R) R (Zz R YDf.slice (iR R)) ?_
  refine Zl h1 fun x4 ex4 h2=>?_
  refine sW (.two R R R) R (YBA R (iR R) iL (gdt ex4)) ?_
  refine Zl h2 fun x5 ex5 h3=>?_
  refine sW (.two R R R) R (Zx R YDf.slice (iR R) (iR R) (fun _=>R) (gdt ex5)) ?_
  refine sW (.two R R R) R (Zw R YEQ (iR R)) ?_
  refine sW (.two R R R) R (ZO (d:=.int .i64 x5.Char) R ts_3 (iR R) R) ?_
  refine sW (.two R R R) R (ZD R (iR R) iL) ?_
  refine sV R R R (Zy R (iR R) (iR R)) (sQ R (Zq R iL (iR R)) (aZ (hK5 _ ?_)))
  refine aC R (fun hc1=>?_) (fun hc1=>?_)
  ·have h4:=Zn hc1 h3
   refine aS fun _ hK6 _=>?_
   refine Zi (s':=⟨[],[],(i5 0),47⟩) (by exact Zc Za Za nL) ?_
   refine aR (sA R R (aZ (hK6 _ ?_)))
   refine Zj ?_
   exact Y1_ h4 iL (.t (.d R))
  ·have h4:=Zo hc1 h3
   refine Zk (hK4 _ ?_)
   refine aS fun _ hK7 _=>?_
   refine Zi (s':=⟨[],[],(i5 0),47⟩) (by exact Zc Za Za nL) ?_
   refine aR (sA R R (aZ (hK7 _ ?_)))
   refine Zj ?_
   exact Y1_ h4 iL (.t (.d R))
 refine ZP (fun (x2:Int) i3=>⟨[(0,qe f1),(1,rB (text1)),(8,rI ((f1.length:Int))),(9,rI (x2))],[],(i3 0),47⟩) (vec [n0]) hit1 ((by exact Zc ⟨jL,jL,jL,jL,Za⟩ Za nL)) ?_
 intro x2 i3 v1 hv1 hx1
 have h5:YBM f1 text1 x2=some v1:=hv1; unfold YBM at h5
 refine aS fun _ hK8 _=>(aR (sQ R (Zv R iL iL) (aZ (hK8 _ ?_))))
 refine aS fun _ hK9 _=>?_
 refine aC R (fun hc2=>?_) (fun hc2=>?_)
 ·have h6:=Zn hc2 h5
  refine Zk (hK9 _ ?_)
  refine aS fun _ hK10 _=>(Zp (aS fun _ hK11 _=>(aR (sM R R (sA R R (aZ (hK11 _ ?_)))))))
  refine aS fun _ hK12 _=>(aS fun _ hK13 _=>(aR (sM R R (sM R R (Zl h6 fun x6 ex6 h7=>(sQ R (Zx R YDf.slice iL iL (fun _=>R) (fun _=>ex6)) (sQ R (ZG (cs:=(k20_ x6)) R YLe iL R R) (Zl h7 fun e1 ee1 h8=>(Zh R R R (Zr (r:=rI (e1)) (caps:=[]) (bs:=(k16_ x6)) R iL R ⟨⟨_,iL,.g (cs:=[.int .i64 x6.Char,.int .i64 x6.Ref,.sl (x6.Attrs.map YAT.row)]) R R⟩,Za⟩ (fun _=>YIl (ee1)) R) (sA R R (aZ (hK13 _ ?_))))))))))))
  refine aS fun _ hK14 _=>(aR (sM R R (sQ R (ZD R iL iL) (aZ (hK14 _ ?_)))))
  refine aC R (fun hc3=>?_) (fun hc3=>?_)
  ·have h9:=Zn hc3 h8
   refine aS fun _ hK15 _=>?_
   refine Zi (s':=⟨[(6,rI (e1))],[],(i3 0),47⟩) (by exact Zc ⟨jL,Za⟩ Za nL) ?_
   refine aR (sM R R (sA R R (aZ (hK15 _ ?_))))
   refine Zj ?_
   exact Y1_ (he1 _ (hx1 _ (Zd h9).symm)) iL (.t (.d R))
  ·have h9:=Zo hc3 h8
   refine Zk (hK12 _ ?_)
   refine aS fun _ hK16 _=>?_
   refine Zi (s':=⟨[(0,qe f1),(1,rB (text1)),(5,rI (x2)),(8,rI ((f1.length:Int))),(9,rI (x2))],[],(i3 0),47⟩) (by exact Zc ⟨jL,jL,jL,jL,jL,Za⟩ Za nL) ?_
   refine aR (sM R R (sQ R (ZK R iL) (sM R R (sV R R R (Ze R iL) (sV R R R (Ze R iL) (sV R R R (Zx R YDf.slice (iR R) (iR R) (fun _=>R) (fun _=>ex6)) (sV R R R (Zw R YEQ (iR R)) (sV R R R (ZO (d:=.int .i64 x6.Char) R ts_3 (iR R) R) (sV R R R (ZD R (iR R) iL) (sQ R (Zq R iL (iR R)) (aZ (hK16 _ ?_))))))))))))
   refine aC R (fun hc4=>?_) (fun hc4=>?_)
   ·have h10:=Zn hc4 h9
    refine aS fun _ hK17 _=>?_
    refine Zi (s':=⟨[],[],(i3 0),47⟩) (by exact Zc Za Za nL) ?_
    refine aR (sA R R (aZ (hK17 _ ?_)))
    refine Zj ?_
    exact Y1_ (he1 _ (hx1 _ (Zd h10).symm)) iL (.t (.d R))
   ·have h10:=Zo hc4 h9
    refine Zk (hK10 _ ?_)
    refine aR (Zl h10 fun x7 ex7 h11=>(sQ R (ZI R iL iL (fun _=>ex7)) (sM R R ?_)))
    refine Zt ?_
    exact ZJ h11 (vec [(i3 0)]) ((by exact Zc ⟨jL,jL,jL,jL,Za⟩ Za nL))
 ·have h6:=Zo hc2 h5
  refine ZL ?_
  exact wK2 _ _ ((by exact Zc ⟨jL,jL,Za⟩ Za nL)) (J1 _ (vec [(i3 0)]) (hx1 _ (Zd h6).symm))
theorem YEl {s1:List UInt8} {r:Bool} (h:YBH s1=some r):ARO Tryz.prog 215 [.r (.str s1)] (rB (r)):=by
 unfold YBH at h
 exact ARO.validString YP3 R R R ⟨_,Tryz.func215,R,R⟩ h
theorem YJr {s1:List UInt8} {r:Bool} (h:YD0 s1=some r):ARO Tryz.prog 190 [.r (.str s1)] (rB (r)):=by
 unfold YD0 at h
 refine Zu Tryz.func190 R R Tryz.ntmps190 R (Zf R) fun n0=>?_
 refine aS fun _ hK1 _=>(aR (sA R R (aZ (hK1 _ ?_))))
 refine aS fun _ hK2 _=>(aS fun _ hK3 _=>(aR (sM R R (Zl h fun r1 er1 h1=>(Zh R R R (Zr (r:=rB (r1)) (caps:=[]) (bs:=[.r (.str s1)]) R iL R ⟨⟨_,iL,.d R⟩,Za⟩ (fun _=>YEl (er1)) R) (sQ R (ZK R iL) (aZ (hK3 _ ?_))))))))
 refine aC R (fun hc1=>?_) (fun hc1=>?_)
 ·have h2:=Zn hc1 h1
  refine aS fun _ hK4 _=>(aR (sA R R (aZ (hK4 _ ?_))))
  refine Zj ?_
  exact Y2_ h2 iL (.t (.d R))
 ·have h2:=Zo hc1 h1
  refine Zk (hK2 _ ?_)
  refine aS fun K5 hK5 wK5=>(aS fun _ hK6 _=>(aR (sM R R (Zh R R R (YRD 9 R Tryz.underlying9 iL) (aZ (hK6 _ ?_))))))
  refine Zp ?_
  refine jc1k h2 fun o1 hit1 hk1 he1=>?_
  have J1 : ∀ (u2:Unit) (i5:Nat→Nat),o1 = .nrm u2→K5 ⟨[],[],(i5 0),21⟩:=by
   intro u2 i5 e
   have h3:=hk1 _ e
   refine hK5 _ ?_
   refine aS fun _ hK7 _=>(aR (sA R R (aZ (hK7 _ ?_))))
   refine Zj ?_
   exact Y2_ h3 iL (.t (.d R))
  refine ZP (fun (p2:(Nat)) i3=>⟨[(9,.ptr 9 n0 0 0)],[(9,some (.it n0 s1 p2))],(i3 0),21⟩) (vec [(n0+1)]) hit1 ((by exact Zc ⟨jL,Za⟩ ⟨.inl R,Za⟩ nL)) ?_
  intro p2 i3 v1 hv1 hx1
  have h4:YAb s1 p2=some v1:=hv1; unfold YAb at h4
  refine aS fun _ hK8 _=>?_
  refine AW.split (decide (p2<s1.length)) (fun hg1=>?_) (fun hg1=>?_)
  ·have h5:=Zn hg1 h4
   refine aR (Zh R R R (YP1 R iL R (fun _=>hg1)) (sQ R (ZQ (a:=rB (true)) R iL R) (aZ (hK8 _ ?_))))
   refine aS fun _ hK9 _=>?_
   refine aC R (fun hc2=>?_) (fun hc2=>by cases hc2)
   refine Zk (hK9 _ ?_)
   refine Zp (aS fun _ hK10 _=>(aR (sQ R (ZQ (a:=.r (.int .i32 ((YEp s1 p2).1:Int))) R iL R) (sA R R (aZ (hK10 _ ?_))))))
   refine aS fun _ hK11 _=>(aR (sM R R (sQ R (Zs R iL iL) (sM R R (sV R R R (Ze R iL) (sV R R R (ZU R Tryz.underlying21 Tryz.underlying3 (iR R)) (Zl h5 fun r2 er2 h6=>?_)))))))
   refine ZA (.one R R R) R R (Zr (r:=rB (r2)) (caps:=[]) (bs:=[rI ((IntKind.i64.wrap ((YEp s1 p2).1:Int)))]) R iL R ⟨⟨_,(iR R),.d R⟩,Za⟩ (fun hg=>YJ9 (gdt er2 hg)) R) ?_
   refine sV R R R (ZK R (iR R)) (sQ R (Zy R iL (iR R)) (aZ (hK11 _ ?_)))
   refine aC R (fun hc3=>?_) (fun hc3=>?_)
   ·have h7:=Zn hc3 h6
    refine aS fun _ hK12 _=>?_
    refine Zi (s':=⟨[],[],(i3 0),21⟩) (by exact Zc Za Za nL) ?_
    refine aR (sA R R (aZ (hK12 _ ?_)))
    refine Zj ?_
    exact Y2_ (he1 _ (hx1 _ (Zd h7).symm)) iL (.t (.d R))
   ·have h7:=Zo hc3 h6
    refine Zk ?_
    exact ZJ h7 (vec [(i3 0)]) ((by exact Zc ⟨jL,Za⟩ ⟨.inl R,Za⟩ nL))
  ·have h5:=Zo hg1 h4
   refine aR (Zh R R R (YP2 R iL R (fun _=>hg1)) (sQ R (ZQ (a:=rB (false)) R iL R) (aZ (hK8 _ ?_))))
   refine aS fun _ hK13 _=>?_
   refine aC R (fun hc4=>by cases hc4) (fun hc4=>?_)
   refine ZL ?_
   exact wK5 _ _ ((by exact Zc Za Za nL)) (J1 _ (vec [(i3 0)]) (hx1 _ (Zd h5).symm))
theorem YIk {c1:YAL} {r:Bool} (h:YDL c1=some r):ARO Tryz.prog 191 (k8_ c1) (rB (r)):=by
 unfold YDL at h
 refine Zu Tryz.func191 R R Tryz.ntmps191 R (Zf R) fun n0=>?_
 refine aS fun _ hK1 _=>(aR (Zh R R R (ZM (cs:=(k9_ c1)) 1 R iL R R) (sA R R (aZ (hK1 _ ?_)))))
 refine aS fun _ hK2 _=>(aR (sQ R (fB R YDq iL fR R) (sQ R (Zb (a:=.r (.str c1.Text)) R ts_9 iL R R) (sQ R (YFP R iL iL) (sM R R (sV R R R (fB R YBa iL fR R) (sV R R R (Zb (a:=rI (c1.Ref)) R ts_3 (iR R) R R) (sV R R R (Zs R (iR R) iL) (sQ R (Zq R iL (iR R)) (sM R R (sV R R R (fB R YDp iL fR R) (sV R R R (Zb (a:=qa c1.Attrs) R YEm (iR R) R R) (sV R R R (Zz R YEP.slice (iR R)) (sV R R R (Zs R (iR R) iL) (sQ R (Zq R iL (iR R)) (sA R R (aZ (hK2 _ ?_))))))))))))))))))
 refine Zj ?_
 exact Y2_ h iL (.t (.d R))
end Go.Proofs.YtdafahjmopdleaaGreatDoor.Al
