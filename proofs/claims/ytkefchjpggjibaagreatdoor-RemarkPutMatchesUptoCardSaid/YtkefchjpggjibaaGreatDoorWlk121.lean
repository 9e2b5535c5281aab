/- Walks, as printed. -/
import Derived.Test.YtkefchjpggjibaaGreatDoorPL1
import Derived.Test.YtkefchjpggjibaaGreatDoorProg
set_option maxHeartbeats 4000000
set_option maxRecDepth 20000
set_option linter.unusedVariables false
namespace Go.Proofs.YtkefchjpggjibaaGreatDoor.Al
open Go.Proofs
theorem hmix : Tryz.prog.follows .mixedOrders = true := by kernel_rfl
theorem i_112 : (Tryz.prog.info? 112).map (fun i => (i.zero, i.size, i.bytes)) = some (some (.agg #[.slice none 0 0, .slice none 0 0, .int .i64 0]), 3, 56) := by kernel_rfl
theorem YV6 : (Tryz.prog.info? 126).map (fun i => (i.zero, i.size, i.bytes)) = some (some (.agg #[.int .i64 0, .int .i64 0, .slice none 0 0, .slice none 0 0, .int .i64 0, .int .i64 0, .slice none 0 0, .slice none 0 0, .slice none 0 0, .slice none 0 0, .string ⟨#[]⟩]), 11, 192) := by kernel_rfl
theorem YV5 : (Tryz.prog.info? 144).map (fun i => (i.zero, i.size, i.bytes)) = some (some (.agg #[.int .i64 0, .int .i64 0, .string ⟨#[]⟩, .int .i64 0, .slice none 0 0]), 5, 64) := by kernel_rfl
theorem YV4 : (Tryz.prog.info? 154).map (fun i => (i.zero, i.size, i.bytes)) = some (some (.agg #[.int .i64 0, .int .i64 0, .int .i64 0, .int .i64 0, .int .i64 0, .string ⟨#[]⟩, .string ⟨#[]⟩, .string ⟨#[]⟩]), 8, 88) := by kernel_rfl
theorem YV3 : (Tryz.prog.info? 174).map (fun i => (i.zero, i.size, i.bytes)) = some (some (.agg #[.int .i64 0, .int .i64 0, .int .i64 0, .int .i64 0]), 4, 32) := by kernel_rfl
theorem i_179 : (Tryz.prog.info? 179).map (fun i => (i.zero, i.size, i.bytes)) = some (some (.agg #[.int .i64 0, .int .i64 0]), 2, 16) := by kernel_rfl
theorem YV2 : (Tryz.prog.info? 214).map (fun i => (i.zero, i.size, i.bytes)) = some (some (.agg #[.int .u8 0, .int .u8 0]), 2, 2) := by kernel_rfl
theorem i_24 : (Tryz.prog.info? 24).map (fun i => (i.zero, i.size, i.bytes)) = some (some (.slice none 0 0), 1, 24) := by kernel_rfl
theorem i_3 : (Tryz.prog.info? 3).map (fun i => (i.zero, i.size, i.bytes)) = some (some (.int .i64 0), 1, 8) := by kernel_rfl
theorem i_30 : (Tryz.prog.info? 30).map (fun i => (i.zero, i.size, i.bytes)) = some (some (.slice none 0 0), 1, 24) := by kernel_rfl
theorem i_31 : (Tryz.prog.info? 31).map (fun i => (i.zero, i.size, i.bytes)) = some (some (.slice none 0 0), 1, 24) := by kernel_rfl
theorem i_32 : (Tryz.prog.info? 32).map (fun i => (i.zero, i.size, i.bytes)) = some (some (.slice none 0 0), 1, 24) := by kernel_rfl
theorem i_34 : (Tryz.prog.info? 34).map (fun i => (i.zero, i.size, i.bytes)) = some (some (.agg #[.slice none 0 0, .slice none 0 0, .slice none 0 0]), 3, 72) := by kernel_rfl
theorem i_36 : (Tryz.prog.info? 36).map (fun i => (i.zero, i.size, i.bytes)) = some (some (.agg #[.string ⟨#[]⟩, .string ⟨#[]⟩]), 2, 32) := by kernel_rfl
theorem i_37 : (Tryz.prog.info? 37).map (fun i => (i.zero, i.size, i.bytes)) = some (some (.slice none 0 0), 1, 24) := by kernel_rfl
theorem i_4 : (Tryz.prog.info? 4).map (fun i => (i.zero, i.size, i.bytes)) = some (some (.bool false), 1, 1) := by kernel_rfl
theorem i_41 : (Tryz.prog.info? 41).map (fun i => (i.zero, i.size, i.bytes)) = some (some (.slice none 0 0), 1, 24) := by kernel_rfl
theorem i_43 : (Tryz.prog.info? 43).map (fun i => (i.zero, i.size, i.bytes)) = some (some (.agg #[.slice none 0 0]), 1, 24) := by kernel_rfl
theorem i_45 : (Tryz.prog.info? 45).map (fun i => (i.zero, i.size, i.bytes)) = some (some (.agg #[.int .i64 0, .int .i64 0, .int .i64 0]), 3, 24) := by kernel_rfl
theorem i_5 : (Tryz.prog.info? 5).map (fun i => (i.zero, i.size, i.bytes)) = some (some (.int .u8 0), 1, 1) := by kernel_rfl
theorem i_55 : (Tryz.prog.info? 55).map (fun i => (i.zero, i.size, i.bytes)) = some (some (.slice none 0 0), 1, 24) := by kernel_rfl
theorem i_56 : (Tryz.prog.info? 56).map (fun i => (i.zero, i.size, i.bytes)) = some (some (.slice none 0 0), 1, 24) := by kernel_rfl
theorem i_57 : (Tryz.prog.info? 57).map (fun i => (i.zero, i.size, i.bytes)) = some (some (.slice none 0 0), 1, 24) := by kernel_rfl
theorem i_59 : (Tryz.prog.info? 59).map (fun i => (i.zero, i.size, i.bytes)) = some (some (.agg #[.int .i64 0, .int .i64 0, .slice none 0 0, .slice none 0 0]), 4, 64) := by kernel_rfl
theorem i_60 : (Tryz.prog.info? 60).map (fun i => (i.zero, i.size, i.bytes)) = some (some (.slice none 0 0), 1, 24) := by kernel_rfl
theorem i_62 : (Tryz.prog.info? 62).map (fun i => (i.zero, i.size, i.bytes)) = some (some (.agg #[.int .i64 0, .int .i64 0, .slice none 0 0, .slice none 0 0, .int .i64 0, .int .i64 0, .slice none 0 0, .slice none 0 0, .slice none 0 0]), 9, 152) := by kernel_rfl
theorem i_65 : (Tryz.prog.info? 65).map (fun i => (i.zero, i.size, i.bytes)) = some (some (.slice none 0 0), 1, 24) := by kernel_rfl
theorem i_67 : (Tryz.prog.info? 67).map (fun i => (i.zero, i.size, i.bytes)) = some (some (.agg #[.slice none 0 0, .slice none 0 0, .slice none 0 0, .slice none 0 0, .slice none 0 0]), 5, 120) := by kernel_rfl
theorem i_69 : (Tryz.prog.info? 69).map (fun i => (i.zero, i.size, i.bytes)) = some (some (.agg #[.int .i64 0, .int .i64 0, .int .i64 0, .int .i64 0, .slice none 0 0, .slice none 0 0, .int .i64 0, .int .i64 0, .slice none 0 0, .slice none 0 0, .slice none 0 0, .slice none 0 0, .slice none 0 0, .slice none 0 0, .slice none 0 0, .slice none 0 0, .slice none 0 0, .slice none 0 0, .slice none 0 0]), 19, 360) := by kernel_rfl
theorem i_72 : (Tryz.prog.info? 72).map (fun i => (i.zero, i.size, i.bytes)) = some (some (.slice none 0 0), 1, 24) := by kernel_rfl
theorem i_78 : (Tryz.prog.info? 78).map (fun i => (i.zero, i.size, i.bytes)) = some (some (.agg #[.int .i64 0, .int .i64 0, .slice none 0 0]), 3, 40) := by kernel_rfl
theorem i_81 : (Tryz.prog.info? 81).map (fun i => (i.zero, i.size, i.bytes)) = some (some (.agg #[.int .i64 0, .int .i64 0, .slice none 0 0, .slice none 0 0]), 4, 64) := by kernel_rfl
theorem i_9 : (Tryz.prog.info? 9).map (fun i => (i.zero, i.size, i.bytes)) = some (some (.string ⟨#[]⟩), 1, 16) := by kernel_rfl
theorem YWj : YCB Tryz.prog 112 (.agg #[.slice none 0 0, .slice none 0 0, .int .i64 0]) := YCB.of i_112
theorem YTQ : YCB Tryz.prog 126 (.agg #[.int .i64 0, .int .i64 0, .slice none 0 0, .slice none 0 0, .int .i64 0, .int .i64 0, .slice none 0 0, .slice none 0 0, .slice none 0 0, .slice none 0 0, .string ⟨#[]⟩]) := YCB.of YV6
theorem YMx : YCB Tryz.prog 144 (.agg #[.int .i64 0, .int .i64 0, .string ⟨#[]⟩, .int .i64 0, .slice none 0 0]) := YCB.of YV5
theorem YWi : YCB Tryz.prog 154 (.agg #[.int .i64 0, .int .i64 0, .int .i64 0, .int .i64 0, .int .i64 0, .string ⟨#[]⟩, .string ⟨#[]⟩, .string ⟨#[]⟩]) := YCB.of YV4
theorem YWh : YCB Tryz.prog 174 (.agg #[.int .i64 0, .int .i64 0, .int .i64 0, .int .i64 0]) := YCB.of YV3
theorem t0_214 : YCB Tryz.prog 214 (.agg #[.int .u8 0, .int .u8 0]) := YCB.of YV2
theorem t0_34 : YCB Tryz.prog 34 (.agg #[.slice none 0 0, .slice none 0 0, .slice none 0 0]) := YCB.of i_34
theorem YXM : YCB Tryz.prog 36 (.agg #[.string ⟨#[]⟩, .string ⟨#[]⟩]) := YCB.of i_36
theorem YQH : YCB Tryz.prog 62 (.agg #[.int .i64 0, .int .i64 0, .slice none 0 0, .slice none 0 0, .int .i64 0, .int .i64 0, .slice none 0 0, .slice none 0 0, .slice none 0 0]) := YCB.of i_62
theorem YQG : YCB Tryz.prog 78 (.agg #[.int .i64 0, .int .i64 0, .slice none 0 0]) := YCB.of i_78
theorem YVK : YCB Tryz.prog 81 (.agg #[.int .i64 0, .int .i64 0, .slice none 0 0, .slice none 0 0]) := YCB.of i_81
theorem YLO : YBq Tryz.prog 126 11 := YBq.of Tryz.underlying126 rfl YV6
theorem YF2 : YBq Tryz.prog 144 5 := YBq.of Tryz.underlying144 rfl YV5
theorem YI0 : YBq Tryz.prog 154 8 := YBq.of Tryz.underlying154 rfl YV4
theorem YFb : YBq Tryz.prog 174 4 := YBq.of Tryz.underlying174 rfl YV3
theorem YWg : YBq Tryz.prog 179 2 := YBq.of Tryz.underlying179 rfl i_179
theorem ta_214 : YBq Tryz.prog 214 2 := YBq.of Tryz.underlying214 rfl YV2
theorem ta_34 : YBq Tryz.prog 34 3 := YBq.of Tryz.underlying34 rfl i_34
theorem YQF : YBq Tryz.prog 36 2 := YBq.of Tryz.underlying36 rfl i_36
theorem YDZ : YBq Tryz.prog 43 1 := YBq.of Tryz.underlying43 rfl i_43
theorem YVJ : YBq Tryz.prog 45 3 := YBq.of Tryz.underlying45 rfl i_45
theorem YSH : YBq Tryz.prog 59 4 := YBq.of Tryz.underlying59 rfl i_59
theorem YIE : YBq Tryz.prog 62 9 := YBq.of Tryz.underlying62 rfl i_62
theorem ta_67 : YBq Tryz.prog 67 5 := YBq.of Tryz.underlying67 rfl i_67
theorem YTP : YBq Tryz.prog 69 19 := YBq.of Tryz.underlying69 rfl i_69
theorem YJh : YBq Tryz.prog 78 3 := YBq.of Tryz.underlying78 rfl i_78
theorem YQE : YBq Tryz.prog 81 4 := YBq.of Tryz.underlying81 rfl i_81
theorem tab_g0 : YGA 0 = some (YCV.flatMap (rInt .u8)) := by kernel_rfl
theorem tab_g1 : YGA 1 = some (YHV.flatMap YA8.row) := by kernel_rfl
theorem YMw : YCA Tryz.prog 126 [(0, 9), (9, 1), (10, 1)] [.int .i64 0, .int .i64 0, .slice none 0 0, .slice none 0 0, .int .i64 0, .int .i64 0, .slice none 0 0, .slice none 0 0, .slice none 0 0, .slice none 0 0, .string ⟨#[]⟩] := YCA.of Tryz.underlying126 (fun w => by kernel_rfl) YV6
theorem tb_34 : YCA Tryz.prog 34 [(0, 1), (1, 1), (2, 1)] [.slice none 0 0, .slice none 0 0, .slice none 0 0] := YCA.of Tryz.underlying34 (fun w => by kernel_rfl) i_34
theorem YOs : YCA Tryz.prog 36 [(0, 1), (1, 1)] [.string ⟨#[]⟩, .string ⟨#[]⟩] := YCA.of Tryz.underlying36 (fun w => by kernel_rfl) i_36
theorem tb_59 : YCA Tryz.prog 59 [(0, 1), (1, 1), (2, 1), (3, 1)] [.int .i64 0, .int .i64 0, .slice none 0 0, .slice none 0 0] := YCA.of Tryz.underlying59 (fun w => by kernel_rfl) i_59
theorem YXL : YCA Tryz.prog 62 [(0, 1), (1, 1), (2, 1), (3, 1), (4, 4), (8, 1)] [.int .i64 0, .int .i64 0, .slice none 0 0, .slice none 0 0, .int .i64 0, .int .i64 0, .slice none 0 0, .slice none 0 0, .slice none 0 0] := YCA.of Tryz.underlying62 (fun w => by kernel_rfl) i_62
theorem YMR : YCA Tryz.prog 69 [(0, 1), (1, 1), (2, 9), (11, 1), (12, 1), (13, 5), (18, 1)] [.int .i64 0, .int .i64 0, .int .i64 0, .int .i64 0, .slice none 0 0, .slice none 0 0, .int .i64 0, .int .i64 0, .slice none 0 0, .slice none 0 0, .slice none 0 0, .slice none 0 0, .slice none 0 0, .slice none 0 0, .slice none 0 0, .slice none 0 0, .slice none 0 0, .slice none 0 0, .slice none 0 0] := YCA.of Tryz.underlying69 (fun w => by kernel_rfl) i_69
theorem YLM : YCA Tryz.prog 78 [(0, 1), (1, 1), (2, 1)] [.int .i64 0, .int .i64 0, .slice none 0 0] := YCA.of Tryz.underlying78 (fun w => by kernel_rfl) i_78
theorem YNj : YCA Tryz.prog 81 [(0, 1), (1, 1), (2, 1), (3, 1)] [.int .i64 0, .int .i64 0, .slice none 0 0, .slice none 0 0] := YCA.of Tryz.underlying81 (fun w => by kernel_rfl) i_81
theorem te_154 : EqTy Tryz.prog 154 [some (.int .i64), some (.int .i64), some (.int .i64), some (.int .i64), some (.int .i64), some .string, some .string, some .string] := EqTy.of Tryz.underlying154 (by kernel_rfl) (by kernel_rfl) (by exact ⟨rfl, rfl, Tryz.underlying3, rfl, rfl, Tryz.underlying3, rfl, rfl, Tryz.underlying3, rfl, rfl, Tryz.underlying3, rfl, rfl, Tryz.underlying3, rfl, rfl, Tryz.underlying9, rfl, rfl, Tryz.underlying9, rfl, rfl, Tryz.underlying9, trivial⟩)
theorem YWf : EqTy Tryz.prog 174 [some (.int .i64), some (.int .i64), some (.int .i64), some (.int .i64)] := EqTy.of Tryz.underlying174 (by kernel_rfl) (by kernel_rfl) (by exact ⟨rfl, rfl, Tryz.underlying3, rfl, rfl, Tryz.underlying3, rfl, rfl, Tryz.underlying3, rfl, rfl, Tryz.underlying3, trivial⟩)
theorem te_179 : EqTy Tryz.prog 179 [some (.int .i64), some (.int .i64)] := EqTy.of Tryz.underlying179 (by kernel_rfl) (by kernel_rfl) (by exact ⟨rfl, rfl, Tryz.underlying3, rfl, rfl, Tryz.underlying3, trivial⟩)
theorem te_36 : EqTy Tryz.prog 36 [some .string, some .string] := EqTy.of Tryz.underlying36 (by kernel_rfl) (by kernel_rfl) (by exact ⟨rfl, rfl, Tryz.underlying9, rfl, rfl, Tryz.underlying9, trivial⟩)
theorem YDe : YAF Tryz.prog 112 0 0 := YAF.of Tryz.underlying112 rfl rfl i_24 (by decide)
theorem YIz : YAF Tryz.prog 112 1 1 := YAF.of Tryz.underlying112 rfl rfl i_55 (by decide)
theorem YGo : YAF Tryz.prog 112 2 2 := YAF.of Tryz.underlying112 rfl rfl i_3 (by decide)
theorem YRE : YAF Tryz.prog 126 0 0 := YAF.of Tryz.underlying126 rfl rfl i_62 (by decide)
theorem YRD : YAF Tryz.prog 126 1 9 := YAF.of Tryz.underlying126 rfl rfl i_72 (by decide)
theorem YDI : YAF Tryz.prog 144 0 0 := YAF.of Tryz.underlying144 rfl rfl i_3 (by decide)
theorem YD5 : YAF Tryz.prog 144 1 1 := YAF.of Tryz.underlying144 rfl rfl i_3 (by decide)
theorem YEi : YAF Tryz.prog 144 2 2 := YAF.of Tryz.underlying144 rfl rfl i_9 (by decide)
theorem YCU : YAF Tryz.prog 144 3 3 := YAF.of Tryz.underlying144 rfl rfl i_3 (by decide)
theorem YEh : YAF Tryz.prog 144 4 4 := YAF.of Tryz.underlying144 rfl rfl i_37 (by decide)
theorem YFG : YAF Tryz.prog 154 0 0 := YAF.of Tryz.underlying154 rfl rfl i_3 (by decide)
theorem YGn : YAF Tryz.prog 154 1 1 := YAF.of Tryz.underlying154 rfl rfl i_3 (by decide)
theorem YD4 : YAF Tryz.prog 154 2 2 := YAF.of Tryz.underlying154 rfl rfl i_3 (by decide)
theorem YNi : YAF Tryz.prog 154 3 3 := YAF.of Tryz.underlying154 rfl rfl i_3 (by decide)
theorem YIy : YAF Tryz.prog 154 4 4 := YAF.of Tryz.underlying154 rfl rfl i_3 (by decide)
theorem YKe : YAF Tryz.prog 154 5 5 := YAF.of Tryz.underlying154 rfl rfl i_9 (by decide)
theorem YKd : YAF Tryz.prog 154 6 6 := YAF.of Tryz.underlying154 rfl rfl i_9 (by decide)
theorem YH1 : YAF Tryz.prog 154 7 7 := YAF.of Tryz.underlying154 rfl rfl i_9 (by decide)
theorem YBQ : YAF Tryz.prog 174 0 0 := YAF.of Tryz.underlying174 rfl rfl i_3 (by decide)
theorem YBx : YAF Tryz.prog 174 1 1 := YAF.of Tryz.underlying174 rfl rfl i_3 (by decide)
theorem YFF : YAF Tryz.prog 174 2 2 := YAF.of Tryz.underlying174 rfl rfl i_3 (by decide)
theorem YFE : YAF Tryz.prog 174 3 3 := YAF.of Tryz.underlying174 rfl rfl i_3 (by decide)
theorem YVI : YAF Tryz.prog 214 0 0 := YAF.of Tryz.underlying214 rfl rfl i_5 (by decide)
theorem YVH : YAF Tryz.prog 214 1 1 := YAF.of Tryz.underlying214 rfl rfl i_5 (by decide)
theorem YXK : YAF Tryz.prog 34 0 0 := YAF.of Tryz.underlying34 rfl rfl i_30 (by decide)
theorem YNh : YAF Tryz.prog 34 1 1 := YAF.of Tryz.underlying34 rfl rfl i_31 (by decide)
theorem YQB : YAF Tryz.prog 34 2 2 := YAF.of Tryz.underlying34 rfl rfl i_32 (by decide)
theorem YGm : YAF Tryz.prog 36 0 0 := YAF.of Tryz.underlying36 rfl rfl i_9 (by decide)
theorem YHU : YAF Tryz.prog 36 1 1 := YAF.of Tryz.underlying36 rfl rfl i_9 (by decide)
theorem YBG : YAF Tryz.prog 43 0 0 := YAF.of Tryz.underlying43 rfl rfl i_41 (by decide)
theorem YJg : YAF Tryz.prog 45 0 0 := YAF.of Tryz.underlying45 rfl rfl i_3 (by decide)
theorem YHT : YAF Tryz.prog 45 1 1 := YAF.of Tryz.underlying45 rfl rfl i_3 (by decide)
theorem YHS : YAF Tryz.prog 45 2 2 := YAF.of Tryz.underlying45 rfl rfl i_3 (by decide)
theorem YE6 : YAF Tryz.prog 59 0 0 := YAF.of Tryz.underlying59 rfl rfl i_3 (by decide)
theorem YE5 : YAF Tryz.prog 59 1 1 := YAF.of Tryz.underlying59 rfl rfl i_3 (by decide)
theorem YEX : YAF Tryz.prog 59 2 2 := YAF.of Tryz.underlying59 rfl rfl i_56 (by decide)
theorem YD3 : YAF Tryz.prog 59 3 3 := YAF.of Tryz.underlying59 rfl rfl i_57 (by decide)
theorem YCT : YAF Tryz.prog 62 0 0 := YAF.of Tryz.underlying62 rfl rfl i_3 (by decide)
theorem YA9 : YAF Tryz.prog 62 1 1 := YAF.of Tryz.underlying62 rfl rfl i_3 (by decide)
theorem YNg : YAF Tryz.prog 62 2 2 := YAF.of Tryz.underlying62 rfl rfl i_37 (by decide)
theorem YC0 : YAF Tryz.prog 62 3 3 := YAF.of Tryz.underlying62 rfl rfl i_55 (by decide)
theorem YE4 : YAF Tryz.prog 62 4 4 := YAF.of Tryz.underlying62 rfl rfl i_59 (by decide)
theorem YHR : YAF Tryz.prog 62 5 8 := YAF.of Tryz.underlying62 rfl rfl i_60 (by decide)
theorem YTL : YAF Tryz.prog 67 0 0 := YAF.of Tryz.underlying67 rfl rfl i_65 (by decide)
theorem YTK : YAF Tryz.prog 67 1 1 := YAF.of Tryz.underlying67 rfl rfl i_65 (by decide)
theorem YTJ : YAF Tryz.prog 67 2 2 := YAF.of Tryz.underlying67 rfl rfl i_56 (by decide)
theorem YTI : YAF Tryz.prog 67 3 3 := YAF.of Tryz.underlying67 rfl rfl i_57 (by decide)
theorem YTH : YAF Tryz.prog 67 4 4 := YAF.of Tryz.underlying67 rfl rfl i_57 (by decide)
theorem YTG : YAF Tryz.prog 69 0 0 := YAF.of Tryz.underlying69 rfl rfl i_3 (by decide)
theorem YTF : YAF Tryz.prog 69 1 1 := YAF.of Tryz.underlying69 rfl rfl i_3 (by decide)
theorem YTE : YAF Tryz.prog 69 2 2 := YAF.of Tryz.underlying69 rfl rfl i_62 (by decide)
theorem YTD : YAF Tryz.prog 69 3 11 := YAF.of Tryz.underlying69 rfl rfl i_37 (by decide)
theorem YTC : YAF Tryz.prog 69 4 12 := YAF.of Tryz.underlying69 rfl rfl i_24 (by decide)
theorem YTB : YAF Tryz.prog 69 5 13 := YAF.of Tryz.underlying69 rfl rfl i_67 (by decide)
theorem YTA : YAF Tryz.prog 69 6 18 := YAF.of Tryz.underlying69 rfl rfl i_60 (by decide)
theorem YD2 : YAF Tryz.prog 78 0 0 := YAF.of Tryz.underlying78 rfl rfl i_3 (by decide)
theorem YCS : YAF Tryz.prog 78 1 1 := YAF.of Tryz.underlying78 rfl rfl i_3 (by decide)
theorem YGl : YAF Tryz.prog 78 2 2 := YAF.of Tryz.underlying78 rfl rfl i_37 (by decide)
theorem YC4 : YAF Tryz.prog 81 0 0 := YAF.of Tryz.underlying81 rfl rfl i_3 (by decide)
theorem YD1 : YAF Tryz.prog 81 1 1 := YAF.of Tryz.underlying81 rfl rfl i_3 (by decide)
theorem YE3 : YAF Tryz.prog 81 2 2 := YAF.of Tryz.underlying81 rfl rfl i_37 (by decide)
theorem YHQ : YAF Tryz.prog 81 3 3 := YAF.of Tryz.underlying81 rfl rfl i_55 (by decide)
theorem YBw : YAr Tryz.prog 24 81 4 64 := YAr.of Tryz.underlying24 i_81 rfl rfl (by decide)
theorem tg_30 : YAr Tryz.prog 30 55 1 24 := YAr.of Tryz.underlying30 i_55 rfl rfl (by decide)
theorem YS9 : YAr Tryz.prog 31 4 1 1 := YAr.of Tryz.underlying31 i_4 rfl rfl (by decide)
theorem YVG : YAr Tryz.prog 32 37 1 24 := YAr.of Tryz.underlying32 i_37 rfl rfl (by decide)
theorem YBs : YAr Tryz.prog 37 36 2 32 := YAr.of Tryz.underlying37 i_36 rfl rfl (by decide)
theorem YDH : YAr Tryz.prog 41 62 9 152 := YAr.of Tryz.underlying41 i_62 rfl rfl (by decide)
theorem YHH : YAr Tryz.prog 46 69 19 360 := YAr.of Tryz.underlying46 i_69 rfl rfl (by decide)
theorem YAw : YAr Tryz.prog 55 78 3 40 := YAr.of Tryz.underlying55 i_78 rfl rfl (by decide)
theorem YDz : YAr Tryz.prog 56 144 5 64 := YAr.of Tryz.underlying56 YV5 rfl rfl (by decide)
theorem YFa : YAr Tryz.prog 57 174 4 32 := YAr.of Tryz.underlying57 YV3 rfl rfl (by decide)
theorem YIb : YAr Tryz.prog 60 154 8 88 := YAr.of Tryz.underlying60 YV4 rfl rfl (by decide)
theorem YS8 : YAr Tryz.prog 65 179 2 16 := YAr.of Tryz.underlying65 i_179 rfl rfl (by decide)
theorem YC3 : YAr Tryz.prog 72 3 1 8 := YAr.of Tryz.underlying72 i_3 rfl rfl (by decide)
theorem tg_99 : YAr Tryz.prog 99 5 1 1 := YAr.of Tryz.underlying99 i_5 rfl rfl (by decide)
theorem tr_37 : ZRow Tryz.prog 37 [.sl []] := ZRow.of i_37 rfl
theorem tr_4 : ZRow Tryz.prog 4 [.bool false] := ZRow.of i_4 rfl
theorem tr_55 : ZRow Tryz.prog 55 [.sl []] := ZRow.of i_55 rfl
theorem tr_78 : ZRow Tryz.prog 78 [.int .i64 0, .int .i64 0, .sl []] := ZRow.of i_78 rfl
theorem YLI : YAx Tryz.prog 24 := YAx.of Tryz.underlying24 rfl i_24
theorem ts_3 : YAx Tryz.prog 3 := YAx.of Tryz.underlying3 rfl i_3
theorem ts_30 : YAx Tryz.prog 30 := YAx.of Tryz.underlying30 rfl i_30
theorem YVF : YAx Tryz.prog 31 := YAx.of Tryz.underlying31 rfl i_31
theorem YXI : YAx Tryz.prog 32 := YAx.of Tryz.underlying32 rfl i_32
theorem YCf : YAx Tryz.prog 37 := YAx.of Tryz.underlying37 rfl i_37
theorem ts_4 : YAx Tryz.prog 4 := YAx.of Tryz.underlying4 rfl i_4
theorem YD0 : YAx Tryz.prog 41 := YAx.of Tryz.underlying41 rfl i_41
theorem ts_5 : YAx Tryz.prog 5 := YAx.of Tryz.underlying5 rfl i_5
theorem YDy : YAx Tryz.prog 55 := YAx.of Tryz.underlying55 rfl i_55
theorem YIa : YAx Tryz.prog 56 := YAx.of Tryz.underlying56 rfl i_56
theorem YHG : YAx Tryz.prog 57 := YAx.of Tryz.underlying57 rfl i_57
theorem YMN : YAx Tryz.prog 60 := YAx.of Tryz.underlying60 rfl i_60
theorem YVE : YAx Tryz.prog 65 := YAx.of Tryz.underlying65 rfl i_65
theorem ts_72 : YAx Tryz.prog 72 := YAx.of Tryz.underlying72 rfl i_72
theorem ts_9 : YAx Tryz.prog 9 := YAx.of Tryz.underlying9 rfl i_9
theorem tt_212 : YYH Tryz.prog 212 256 5 1 := ⟨Tryz.underlying212, YCW i_5⟩
theorem tt_215 : YYH Tryz.prog 215 16 214 2 := ⟨Tryz.underlying215, YCW YV2⟩
theorem YJ7 : ∃ i, Tryz.prog.info? 126 = some i ∧ i.size = 11 := YCW YV6
theorem YMs : ∃ i, Tryz.prog.info? 144 = some i ∧ i.size = 5 := YCW YV5
theorem YWe : ∃ i, Tryz.prog.info? 154 = some i ∧ i.size = 8 := YCW YV4
theorem YWd : ∃ i, Tryz.prog.info? 174 = some i ∧ i.size = 4 := YCW YV3
theorem tz_214 : ∃ i, Tryz.prog.info? 214 = some i ∧ i.size = 2 := YCW YV2
theorem YXH : ∃ i, Tryz.prog.info? 24 = some i ∧ i.size = 1 := YCW i_24
theorem tz_3 : ∃ i, Tryz.prog.info? 3 = some i ∧ i.size = 1 := YCW i_3
theorem tz_34 : ∃ i, Tryz.prog.info? 34 = some i ∧ i.size = 3 := YCW i_34
theorem YXG : ∃ i, Tryz.prog.info? 36 = some i ∧ i.size = 2 := YCW i_36
theorem tz_37 : ∃ i, Tryz.prog.info? 37 = some i ∧ i.size = 1 := YCW i_37
theorem tz_55 : ∃ i, Tryz.prog.info? 55 = some i ∧ i.size = 1 := YCW i_55
theorem YP9 : ∃ i, Tryz.prog.info? 62 = some i ∧ i.size = 9 := YCW i_62
theorem tz_72 : ∃ i, Tryz.prog.info? 72 = some i ∧ i.size = 1 := YCW i_72
theorem YOr : ∃ i, Tryz.prog.info? 78 = some i ∧ i.size = 3 := YCW i_78
theorem YVD : ∃ i, Tryz.prog.info? 81 = some i ∧ i.size = 4 := YCW i_81
theorem tz_9 : ∃ i, Tryz.prog.info? 9 = some i ∧ i.size = 1 := YCW i_9
@[reducible] def qa (l : List YAD) : AV := .r (.sl (l.map YAD.row))
@[reducible] def qb (l : List YAB) : AV := .r (.sl (l.map YAB.row))
@[reducible] def qc (l : List YAW) : AV := .r (.sl (l.map YAW.row))
@[reducible] def qd (l : List YAd) : AV := .r (.sl (l.map YAd.row))
@[reducible] def qe (l : List YAR) : AV := .r (.sl (l.map YAR.row))
@[reducible] def qf (l : List YAP) : AV := .r (.sl (l.map YAP.row))
@[reducible] def qg (l : List GOp) : AV := .r (.sl (l.map GOp.row))
@[reducible] def qh (l : List YAC) : AV := .r (.sl (l.map YAC.row))
@[reducible] def qi (l : List YAf) : AV := .r (.sl (l.map YAf.row))
set_option linter.defProp false
@[reducible] def k1_ (x : GOp) : List AV := [rI (x.Kind), rI (x.Node), rI (x.New.ID), rI (x.New.Kind), qa x.New.Attrs, qb x.New.Flow, rI (x.New.Grid.Rows), rI (x.New.Grid.Cols), qd x.New.Grid.Cells, qc x.New.Grid.Merges, qf x.New.Draw, qa x.Attrs, qh x.Steps, qi x.Grid.Rows, qi x.Grid.Cols, qd x.Grid.Cells, qc x.Grid.Split, qc x.Grid.Merge, qf x.Draw]
@[reducible] def k2_ (x : YAM) : List AV := [rI (x.node.ID), rI (x.node.Kind), qa x.node.Attrs, qb x.node.Flow, rI (x.node.Grid.Rows), rI (x.node.Grid.Cols), qd x.node.Grid.Cells, qc x.node.Grid.Merges, qf x.node.Draw, .r (.sl (x.shown.map (rInt .i64))), .r (.str x.author)]
@[reducible] def z3_ : List AV := [rI (0), rI (0), .cst (.slice none 0 0), .cst (.slice none 0 0), rI (0), rI (0), .cst (.slice none 0 0), .cst (.slice none 0 0), .cst (.slice none 0 0), .cst (.slice none 0 0), .r (.str [])]
@[reducible] def z4_ : List AV := [rI (0), rI (0), .cst (.slice none 0 0), .cst (.slice none 0 0), rI (0), rI (0), .cst (.slice none 0 0), .cst (.slice none 0 0), .cst (.slice none 0 0)]
@[reducible] def k5_ (x : YAR) : List AV := [.agg [rI (x.ID), rI (x.Kind), qa x.Attrs, qb x.Flow, rI (x.Grid.Rows), rI (x.Grid.Cols), qd x.Grid.Cells, qc x.Grid.Merges, qf x.Draw]]
@[reducible] def k6_ (x : YAP) : List AV := [.agg [rI (x.Clock), rI (x.Site), rI (x.Kind), rI (x.Item), rI (x.Parent), .r (.str x.Place), .r (.str x.Name), .r (.str x.Value)]]
@[reducible] def k7_ (x : YAR) : List AV := [rI (x.ID), rI (x.Kind), qa x.Attrs, qb x.Flow, rI (x.Grid.Rows), rI (x.Grid.Cols), qd x.Grid.Cells, qc x.Grid.Merges, qf x.Draw]
@[reducible] def k8_ (x : YAP) : List AV := [rI (x.Clock), rI (x.Site), rI (x.Kind), rI (x.Item), rI (x.Parent), .r (.str x.Place), .r (.str x.Name), .r (.str x.Value)]
@[reducible] def k9_ (x : YAq) : List AV := [.agg [.r (.sl (x.Adds.map (rSl YAB.row))), .r (.sl (x.Cuts.map YNv)), .r (.sl (x.Attrs.map (rSl YAD.row)))]]
@[reducible] def k10_ (x : YAq) : List AV := [.r (.sl (x.Adds.map (rSl YAB.row))), .r (.sl (x.Cuts.map YNv)), .r (.sl (x.Attrs.map (rSl YAD.row)))]
@[reducible] def k11_ (x : YAd) : List AV := [.agg [rI (x.Row), rI (x.Col), .r (.str x.Text), rI (x.Ref), qa x.Attrs]]
@[reducible] def z12_ : List AV := [.cst (.slice none 0 0), .cst (.slice none 0 0), .cst (.slice none 0 0)]
@[reducible] def k13_ (x : YAd) : List AV := [rI (x.Row), rI (x.Col), .r (.str x.Text), rI (x.Ref), qa x.Attrs]
@[reducible] def z14_ : List AV := [rI (0), rI (0), .cst (.slice none 0 0), .cst (.slice none 0 0)]
@[reducible] def z15_ : List AV := [rI (0), rI (1), .cst (.slice none 0 0), .cst (.slice none 0 0)]
@[reducible] def z16_ : List AV := [rI (0), rI (0), .r (.str []), rI (0), .cst (.slice none 0 0)]
@[reducible] def k17_ (x : YAy) : List AV := [.agg [rI (x.Rows), rI (x.Cols), qd x.Cells, qc x.Merges]]
@[reducible] def k18_ (x : YAY) : List AV := [qi x.Rows, qi x.Cols, qd x.Cells, qc x.Split, qc x.Merge]
@[reducible] def k19_ (x : YAC) : List AV := [.agg [rI (x.Kind), rI (x.N), qa x.Attrs, qb x.Elems]]
@[reducible] def k20_ (x : YAy) : List AV := [rI (x.Rows), rI (x.Cols), qd x.Cells, qc x.Merges]
@[reducible] def k21_ (x : YAC) : List AV := [rI (x.Kind), rI (x.N), qa x.Attrs, qb x.Elems]
@[reducible] def k22_ (x : YAW) : List AV := [rI (x.Row), rI (x.Col), rI (x.H), rI (x.W)]
@[reducible] def k23_ (x : YAB) : List AV := [.agg [rI (x.Char), rI (x.Ref), qa x.Attrs]]
@[reducible] def z24_ : List AV := [rI (10), rI (0), .cst (.slice none 0 0)]
@[reducible] def z25_ : List AV := [rI (0), rI (0), .cst (.slice none 0 0)]
@[reducible] def k26_ (x : YAD) : List AV := [.r (.str x.Name), .r (.str x.Value)]
@[reducible] def k27_ (x : YAB) : List AV := [rI (x.Char), rI (x.Ref), qa x.Attrs]
@[reducible] def k28_ (x : GSel) : List AV := [rI (x.Node), rI (x.From), rI (x.To)]
@[reducible] def Y1_ {T r : Int} {x : Exit} {s : St} {x0 : ResultVar} := @YHd Int Tryz.prog T r x s x0 fun r => rI r
@[reducible] def Y2_ {T r : Bool} {x : Exit} {s : St} {x0 : ResultVar} := @YHd Bool Tryz.prog T r x s x0 fun r => rB r
@[reducible] def Za := @Option.some.inj
@[reducible] def Zb := @trivial
@[reducible] def Zc := @AW.skip
@[reducible] def Zd := @AW.ret
@[reducible] def Ze := @ob1k
@[reducible] def Zf := @YNl
@[reducible] def Zg := @AW.block
@[reducible] def Zh := @YWs
@[reducible] def Zi := @YIj
@[reducible] def Zj := @YO2
@[reducible] def Zk := @AOps.nil
@[reducible] def Zl := @Weak.trans
@[reducible] def Zm := @YHZ
@[reducible] def Zn := @YPM
@[reducible] def Zo := @YWq
@[reducible] def Zp := @ms_idx
@[reducible] def Zq := @ms_len
@[reducible] def Zr := @YTW
@[reducible] def Zs := @YPL
@[reducible] def Zt := @YM0
@[reducible] def Zu := @YWo
@[reducible] def Zv := @AOps.step0
@[reducible] def Zw := @AW.exit
@[reducible] def Zx := @ms_add
@[reducible] def Zy := @YVr
@[reducible] def Zz := @YWn
@[reducible] def ZA := @YXn
@[reducible] def ZB := @ms_box
@[reducible] def ZC := @YR8.mk
@[reducible] def ZD := @YRI
@[reducible] def ZE := @AW.iter1
@[reducible] def ZF := @YWr
@[reducible] def ZG := @YIN
@[reducible] def ZH := @YVs
@[reducible] def ZI := @AW.regionQ
@[reducible] def ZJ := @YHW
@[reducible] def ZK := @Weak.cv
@[reducible] def ZL := @YSa
@[reducible] def ZM := @Weak.adopt
@[reducible] def ZN := @Nat.le_of_ble_eq_true
@[reducible] def R := @rfl
set_option maxHeartbeats 4000000 in
set_option maxRecDepth 100000 in
theorem YIK {r} (h:YKE=some r):ARO Tryz.prog 57 [] (rB (r)):=by
 unfold YKE at h
 cases h
 exact ARO.runX [] (fun p hp=>by cases hp) [] [] 40 1000000 hmix Tryz.func57 R R R (by kernel_rfl)
set_option maxHeartbeats 4000000 in
set_option maxRecDepth 100000 in
theorem YKs {r} (h:YI5=some r):ARO Tryz.prog 26 [] (rB (r)):=by
 unfold YI5 at h
 cases h
 exact ARO.runX [(57,true)] (fun p hp=>by simp only [List.mem_cons,List.not_mem_nil,or_false] at hp; subst hp; exact YIK rfl) [] [95,69] 40 1000000 hmix Tryz.func26 rfl rfl rfl (by kernel_rfl)
set_option maxHeartbeats 4000000 in
set_option maxRecDepth 100000 in
theorem YJd {r} (h:YD8=some r):ARO Tryz.prog 11 [] (rB (r)):=by
 unfold YD8 at h
 cases h
 exact ARO.runXE (YVx (fid:=42) fun n r h=>ARO.itoaS (g:=gPow) YRc rfl (by kernel_rfl) rfl ⟨_,Tryz.func42,rfl,rfl⟩ h) [(57,true),(26,true)] (fun p hp=>by simp only [List.mem_cons,List.not_mem_nil,or_false] at hp; rcases hp with rfl | rfl <;> first | exact YIK rfl | exact YKs rfl) [] [95,69] 40 1000000 hmix Tryz.func11 rfl rfl rfl (by kernel_rfl)
theorem YLF {s1 r} (h:YGh s1=some r):ARO Tryz.prog 28 [.r (.str s1)] (rB (r)):=by
 unfold YGh at h
 refine mF Tryz.func28 Tryz.ntmps28 R fun n0=>aU (mA R (aZ (aT fun C2=>(aU (mM R (sQ R (YD6 R iL iL) (mM R (vM R (vQ R (YAj R Tryz.underlying9 (iR R)) (vQ R (ZF R (iR R) iL) (sQ R (Zr R iL (iR R)) (mM R (vM R (Ze h fun ch1 ech1 h1=>(vQ R (ZL R Tryz.underlying9 (iR R) iL (gdt ech1)) (vQ R (Zo R (iR R) iL) (sQ R (Zr R iL (iR R)) (mM R (vM R (Ze h1 fun ch2 ech2 h2=>(vQ R (ZL R Tryz.underlying9 (iR R) iL (gdt ech2)) (vQ R (ZF R (iR R) iL) (sQ R (Zr R iL (iR R)) (aZ (cI R h2 (fun h3=>?_) fun h3=>?_)))))))))))))))))))))))))
 ·refine aT fun C4=>(aF [] ?_)
  exact aR (mA R (aZ (C4 _ (Zd (Y2_ h3 iL (.t (.d R)))))))
 refine Zc (C2 _ (aS fun K5 C5 wK5=>(aT fun C6=>(aF [0] ?_))))
 refine aR (mM R (sQ R (YAj R Tryz.underlying9 iL) (mM R (aZ (C6 _ (Zg (jc1k h3 fun o1 hit1 hk1 he1=>?_)))))))
 have J1 : ∀ (u2:Unit) (i5:Nat→Nat),o1 = .nrm u2→K5 ⟨[],[],(i5 0),53⟩:=by
  intro u2 i5 e
  have h4:=hk1 _ e
  exact C5 _ (aU (mA R (aZ (Zd (Y2_ h4 iL (.t (.d R)))))))
 refine ZE (fun (x2:Int) i3=>⟨[(0,.r (.str s1)),(23,rI ((s1.length:Int))),(24,rI (x2))],[],(i3 0),53⟩) (vec [n0]) hit1 wk ?_
 intro x2 i3 v1 hv1 hx1
 have h5:YDx s1 x2=some v1:=hv1; unfold YDx at h5
 refine aU (sQ R (Zo R iL iL) (aZ (aT fun C9=>(cI R h5 (fun h6=>?_) fun h6=>?_))))
 ·refine Zc (C9 _ (aT fun C10=>(Zg (aU (mM R (mA R (aZ (aU (mM R (mM R (Ze h6 fun c1 ec1 h7=>(sQ R (ZL R Tryz.underlying9 iL iL (fun _=>ec1)) (mA R (aZ (aU (mM R (sQ R (Zo R iL iL) (mM R (vM R (vQ R (ZF R (iR R) iL) (sQ R (Zr R iL (iR R)) (mM R (vM R (vQ R (Zo R (iR R) iL) (vQ R (Zf R (iR R)) (wQ R (Zf R iL) (wQ R (ZF R (iR R) iL) (vQ R (Zr R (iR R) (iR R)) (sQ R (Zj R iL (iR R)) (mM R (vM R (vQ R (Zu R (iR R) iL) (sQ R (Zj R iL (iR R)) (mM R (vM R (vQ R (Zu R (iR R) iL) (sQ R (Zj R iL (iR R)) (aZ (cI R h7 (fun h8=>?_) fun h8=>?_)))))))))))))))))))))))))))))))))))))))
  ·refine aT fun C14=>(aF [] ?_)
   exact aR (mA R (aZ (C14 _ (Zd (Y2_ (he1 _ (hx1 _ (Za h8).symm)) iL (.t (.d R)))))))
  refine Zc (C10 _ (aF [0,23,24] ?_))
  exact aR (Ze h8 fun x4 ex4 h9=>(sQ R (Zx R iL iL (fun _=>ex4)) (mM R (Zk (ZC h9 (vec [(i3 0)]) wk)))))
 exact Zw (wK5 _ _ wk (J1 _ (vec [(i3 0)]) (hx1 _ (Za h6).symm)))
theorem YEk {s1 r} (h:YCz s1=some r):ARO Tryz.prog 34 [.r (.str s1)] (rB (r)):=by
 unfold YCz at h
 refine mF Tryz.func34 Tryz.ntmps34 R fun n0=>aU (mA R (aZ (aT fun c2=>(aU (mM R (sQ R (YD6 R iL iL) (mM R (vM R (vQ R (YAj R Tryz.underlying9 (iR R)) (vQ R (ZF R (iR R) iL) (sQ R (Zr R iL (iR R)) (aZ (cI R h (fun h1=>?_) fun h1=>?_)))))))))))))
 ·refine aT fun c4=>(aF [] ?_)
  exact aR (mA R (aZ (c4 _ (Zd (Y2_ h1 iL (.t (.d R)))))))
 refine Zc (c2 _ (aS fun K5 c5 wK5=>(aU (mM R (sQ R (YAj R Tryz.underlying9 iL) (mM R (aZ (Zg (jc1k h1 fun o1 hit1 hk1 he1=>?_)))))))))
 have J1 : ∀ (u2:Unit) (i5:Nat→Nat),o1 = .nrm u2→K5 ⟨[],[],(i5 0),27⟩:=by
  intro u2 i5 e
  have h2:=hk1 _ e
  exact c5 _ (aU (mA R (aZ (Zd (Y2_ h2 iL (.t (.d R)))))))
 refine ZE (fun (x2:Int) i3=>⟨[(0,.r (.str s1)),(12,rI ((s1.length:Int))),(13,rI (x2))],[],(i3 0),27⟩) (vec [n0]) hit1 wk ?_
 intro x2 i3 v1 hv1 hx1
 have h3:YET s1 x2=some v1:=hv1; unfold YET at h3
 refine aU (sQ R (Zo R iL iL) (aZ (aT fun c9=>(cI R h3 (fun h4=>?_) fun h4=>?_))))
 ·refine Zc (c9 _ (aT fun c10=>(Zg (aU (mM R (mA R (aZ (aU (mM R (mM R (Ze h4 fun ch1 ech1 h5=>(sQ R (ZL R Tryz.underlying9 iL iL (fun _=>ech1)) (sQ R (Zo R iL iL) (mM R (vM R (vM R (vQ R (ZL R Tryz.underlying9 (iR R) (iR R) (fun _=>ech1)) (vQ R (ZF R (iR R) iL) (sQ R (Zr R iL (iR R)) (aZ (cI R h5 (fun h6=>?_) fun h6=>?_)))))))))))))))))))))
  ·refine aT fun c13=>(aF [] ?_)
   exact aR (mA R (aZ (c13 _ (Zd (Y2_ (he1 _ (hx1 _ (Za h6).symm)) iL (.t (.d R)))))))
  refine Zc (c10 _ (aF [0,12,13] ?_))
  exact aR (Ze h6 fun x4 ex4 h7=>(sQ R (Zx R iL iL (fun _=>ex4)) (mM R (Zk (ZC h7 (vec [(i3 0)]) wk)))))
 exact Zw (wK5 _ _ wk (J1 _ (vec [(i3 0)]) (hx1 _ (Za h4).symm)))
theorem YJ6 {l1 b r} (h:YFW l1 b=some r):ARO Tryz.prog 105 [qa l1,rB (b)] (rI (r)):=by
 unfold YFW at h
 refine mF Tryz.func105 Tryz.ntmps105 R fun n0=>aU (mA R (aZ (aS fun K2 c2 wK2=>(aU (mM R (sQ R (Zq R YBs.slice iL) (mM R (aZ (Zg (jc1k h fun o1 hit1 hk1 he1=>?_))))))))))
 have J1 : ∀ (u2:Unit) (i5:Nat→Nat),o1 = .nrm u2→K2 ⟨[],[],(i5 0),48⟩:=by
  intro u2 i5 e
  have h1:=hk1 _ e
  exact c2 _ (aU (mA R (aZ (Zd (Y1_ h1 iL (.t (.d R)))))))
 refine ZE (fun (x2:Int) i3=>⟨[(0,qa l1),(1,rB (b)),(7,qa l1),(8,rI ((l1.length:Int))),(9,rI (x2))],[],(i3 0),48⟩) (vec [n0]) hit1 wk ?_
 intro x2 i3 v1 hv1 hx1
 have h2:YDT l1 b x2=some v1:=hv1; unfold YDT at h2
 refine aU (sQ R (Zo R iL iL) (aZ (aT fun c6=>(cI R h2 (fun h3=>?_) fun h3=>?_))))
 ·refine Zc (c6 _ (aT fun c7=>(Zg (aU (mM R (Ze h3 fun x4 ex4 h4=>(sQ R (Zp R YBs.slice iL iL (fun _=>R) (fun _=>ex4)) (sQ R (Zy (cs:=(k26_ x4)) R YQF iL R R) (sS R (ZH (cs:=[.r (.str []),.r (.str [])]) 6 R YXM R R) (mA R (Zv R R (Zs (ds:=(k26_ x4)) R YXG iL R iL R R R R) (aZ (Zg (aU (lF YGm ts_9 R R (Ze h4 fun r1 er1 h5=>(cL (YLF (er1)) R (sQ R (Zz R iL) (mA R (aZ (cI R h5 (fun h6=>?_) fun h6=>?_)))))))))))))))))))))
  ·refine aT fun c10=>(aF [] ?_)
   exact aR (mA R (aZ (c10 _ (Zd (Y1_ (he1 _ (hx1 _ (Za h6).symm)) iL (.t (.d R)))))))
  refine aT fun c11=>(aG [0,1,5,6,7,8,9] [6] ?_)
  refine aR (lF YHU ts_9 R R (Ze h6 fun r2 er2 h7=>(cL (YEk (er2)) R (sQ R (Zz R iL) (mM R (vM R (vQ R (Zf R (iR R)) (wQ R (fB R YHU iL fR R) (wQ R (Zi (a:=.r (.str x4.Value)) R ts_9 (iR R) R R) (wQ R (YD6 R (iR R) iL) (vQ R (Zj R (iR R) (iR R)) (vQ R (Zz R (iR R)) (sQ R (Zj R iL (iR R)) (mA R (aZ (c11 _ (cI R h7 (fun h8=>?_) fun h8=>?_)))))))))))))))))
  ·refine aT fun c12=>(aF [] ?_)
   exact aR (mA R (aZ (c12 _ (Zd (Y1_ (he1 _ (hx1 _ (Za h8).symm)) iL (.t (.d R)))))))
  refine aT fun c13=>?_
  refine ZI hmix (by kernel_rfl) ?_
  refine qP R (Zf R iL) (qP R (ZF R iL iL) (qP R (Zf R iL) (qO R (fB R YGm iL fR R) (qO R (Zi (a:=.r (.str x4.Name)) R ts_9 (iR R) R R) (qO R (Zf R iL) (qO R (Zf R iL) (Ze h8 fun x5 ex5 h9=>qO R (YBg R (iR R) iL (gdt ex5)) (Ze h9 fun x6 ex6 h10=>qO R (Zp R YBs.slice (iR R) (iR R) (fun _=>R) (gdt ex6)) (qO R (Zm R YGm (iR R)) (qO R (ZA (d:=.str x6.Name) R ts_9 (iR R) R) (qO R (YTT R (iR R) (iR R)) (qP R (Zj R iL (iR R)) (qP R (YCI R iL) (AQ.nil (c13 _ (cI R h10 (fun h11=>?_) fun h11=>?_))))))))))))))))
  ·refine aT fun c14=>(aF [] ?_)
   exact aR (mA R (aZ (c14 _ (Zd (Y1_ (he1 _ (hx1 _ (Za h11).symm)) iL (.t (.d R)))))))
  refine Zc (c7 _ (aF [0,1,7,8,9] ?_))
  exact aR (Ze h11 fun x7 ex7 h12=>(sQ R (Zx R iL iL (fun _=>ex7)) (mM R (Zk (ZC h12 (vec [((i3 0)+1)]) wk)))))
 exact Zw (wK2 _ _ wk (J1 _ (vec [(i3 0)]) (hx1 _ (Za h3).symm)))
theorem YEl {l1 r} (h:YDU l1=some r):ARO Tryz.prog 112 [qa l1] (rI (r)):=by
 unfold YDU at h
 exact mF Tryz.func112 Tryz.ntmps112 R fun n0=>aU (mA R (aZ (aU (mM R (Ze h fun r1 er1 h1=>(cL (YJ6 (er1)) R (mA R (aZ (Zd (Y1_ h1 iL (.t (.d R))))))))))))
theorem YIV {k r} (h:YEO k=some r):ARO Tryz.prog 111 [rI (k)] (rB (r)):=by
 unfold YEO at h
 exact mF Tryz.func111 Tryz.ntmps111 R fun n0=>aU (mA R (aZ (aU (mM R (sQ R (Zh R iL iL) (mM R (vM R (vQ R (Zh R (iR R) iL) (sQ R (Zr R iL (iR R)) (mM R (vM R (vQ R (Zh R (iR R) iL) (sQ R (Zr R iL (iR R)) (mM R (vM R (vQ R (Zh R (iR R) iL) (sQ R (Zr R iL (iR R)) (mA R (aZ (Zd (Y2_ h iL (.t (.d R)))))))))))))))))))))))
theorem YP6 {k r} (h:YHu k=some r):ARO Tryz.prog 136 [rI (k)] (rB (r)):=by
 unfold YHu at h
 exact mF Tryz.func136 Tryz.ntmps136 R fun n0=>aU (mA R (aZ (aU (mM R (sQ R (Zh R iL iL) (mM R (vM R (vQ R (Zh R (iR R) iL) (sQ R (Zr R iL (iR R)) (mA R (aZ (Zd (Y2_ h iL (.t (.d R)))))))))))))))
theorem YP7 {k r} (h:YHw k=some r):ARO Tryz.prog 137 [rI (k)] (rB (r)):=by
 unfold YHw at h
 exact mF Tryz.func137 Tryz.ntmps137 R fun n0=>aU (mA R (aZ (aU (mM R (sQ R (Zh R iL iL) (mM R (vM R (vQ R (Zh R (iR R) iL) (sQ R (Zr R iL (iR R)) (mA R (aZ (Zd (Y2_ h iL (.t (.d R)))))))))))))))
theorem YEV {s a r} (h:YAn s a=some r):ARO Tryz.prog 175 [qc s,qc a] (rB (r)):=by
 unfold YAn at h
 refine mF Tryz.func175 Tryz.ntmps175 R fun n0=>aU (mA R (aZ (aT fun c2=>(aU (mM R (sQ R (Zq R YFa.slice iL) (mM R (sQ R (Zq R YFa.slice iL) (sQ R (Zu R iL iL) (aZ (cI R h (fun h1=>?_) fun h1=>?_)))))))))))
 ·exact aU (mA R (aZ (Zd (Y2_ h1 iL (.t (.d R))))))
 refine Zc (c2 _ (aS fun K5 c5 wK5=>(aU (mM R (sQ R (Zq R YFa.slice iL) (mM R (aZ (Zg (jc1k h1 fun o1 hit1 hk1 he1=>?_)))))))))
 have J1 : ∀ (u2:Unit) (i5:Nat→Nat),o1 = .nrm u2→K5 ⟨[],[],(i5 0),26⟩:=by
  intro u2 i5 e
  have h2:=hk1 _ e
  exact c5 _ (aU (mA R (aZ (Zd (Y2_ h2 iL (.t (.d R)))))))
 refine ZE (fun (x2:Int) i3=>⟨[(0,qc s),(1,qc a),(12,rI ((s.length:Int))),(13,rI (x2))],[],(i3 0),26⟩) (vec [n0]) hit1 wk ?_
 intro x2 i3 v1 hv1 hx1
 have h3:YAh s a x2=some v1:=hv1; unfold YAh at h3
 refine aU (sQ R (Zo R iL iL) (aZ (aT fun c9=>(cI R h3 (fun h4=>?_) fun h4=>?_))))
 ·refine Zc (c9 _ (aT fun c10=>(Zg (aU (mM R (mA R (aZ (aT fun c12=>?_))))))))
  refine ZI hmix (by kernel_rfl) ?_
  refine qP R (Zf R iL) (qP R (Zf R iL) (Ze h4 fun x4 ex4 h5=>(qP R (Zp R YFa.slice iL iL (fun _=>R) (fun _=>ex4)) (qP R (Zy (cs:=(k22_ x4)) R YFb iL R R) (qP R (Zf R iL) (qP R (Zf R iL) (Ze h5 fun x5 ex5 h6=>(qP R (Zp R YFa.slice iL iL (fun _=>R) (fun _=>ex5)) (qP R (Zy (cs:=(k22_ x5)) R YFb iL R R) (qP R (YFc R YWf iL iL R) (AQ.nil (c12 _ (cI R h6 (fun h7=>?_) fun h7=>?_)))))))))))))
  ·refine aT fun c13=>(aF [] ?_)
   exact aR (mA R (aZ (c13 _ (Zd (Y2_ (he1 _ (hx1 _ (Za h7).symm)) iL (.t (.d R)))))))
  refine Zc (c10 _ (aF [0,1,12,13] ?_))
  exact aR (Ze h7 fun x6 ex6 h8=>(sQ R (Zx R iL iL (fun _=>ex6)) (mM R (Zk (ZC h8 (vec [(i3 0)]) wk)))))
 exact Zw (wK5 _ _ wk (J1 _ (vec [(i3 0)]) (hx1 _ (Za h4).symm)))
theorem YIZ {a1 b1 r} (h:YDD a1 b1=some r):ARO Tryz.prog 107 [qa a1,qa b1] (rB (r)):=by
 unfold YDD at h
 refine mF Tryz.func107 Tryz.ntmps107 R fun n0=>aU (mA R (aZ (aT fun c2=>(aU (mM R (sQ R (Zq R YBs.slice iL) (mM R (sQ R (Zq R YBs.slice iL) (sQ R (Zu R iL iL) (aZ (cI R h (fun h1=>?_) fun h1=>?_)))))))))))
 ·exact aU (mA R (aZ (Zd (Y2_ h1 iL (.t (.d R))))))
 refine Zc (c2 _ (aS fun K5 c5 wK5=>(aU (mM R (sQ R (Zq R YBs.slice iL) (mM R (aZ (Zg (jc1k h1 fun o1 hit1 hk1 he1=>?_)))))))))
 have J1 : ∀ (u2:Unit) (i5:Nat→Nat),o1 = .nrm u2→K5 ⟨[],[],(i5 0),26⟩:=by
  intro u2 i5 e
  have h2:=hk1 _ e
  exact c5 _ (aU (mA R (aZ (Zd (Y2_ h2 iL (.t (.d R)))))))
 refine ZE (fun (x2:Int) i3=>⟨[(0,qa a1),(1,qa b1),(12,rI ((a1.length:Int))),(13,rI (x2))],[],(i3 0),26⟩) (vec [n0]) hit1 wk ?_
 intro x2 i3 v1 hv1 hx1
 have h3:YE1 a1 b1 x2=some v1:=hv1; unfold YE1 at h3
 refine aU (sQ R (Zo R iL iL) (aZ (aT fun c9=>(cI R h3 (fun h4=>?_) fun h4=>?_))))
 ·refine Zc (c9 _ (aT fun c10=>(Zg (aU (mM R (mA R (aZ (aT fun c12=>?_))))))))
  refine ZI hmix (by kernel_rfl) ?_
  refine qP R (Zf R iL) (qP R (Zf R iL) (Ze h4 fun x4 ex4 h5=>(qP R (Zp R YBs.slice iL iL (fun _=>R) (fun _=>ex4)) (qP R (Zy (cs:=(k26_ x4)) R YQF iL R R) (qP R (Zf R iL) (qP R (Zf R iL) (Ze h5 fun x5 ex5 h6=>(qP R (Zp R YBs.slice iL iL (fun _=>R) (fun _=>ex5)) (qP R (Zy (cs:=(k26_ x5)) R YQF iL R R) (qP R (YFc R te_36 iL iL R) (AQ.nil (c12 _ (cI R h6 (fun h7=>?_) fun h7=>?_)))))))))))))
  ·refine aT fun c13=>(aF [] ?_)
   exact aR (mA R (aZ (c13 _ (Zd (Y2_ (he1 _ (hx1 _ (Za h7).symm)) iL (.t (.d R)))))))
  refine Zc (c10 _ (aF [0,1,12,13] ?_))
  exact aR (Ze h7 fun x6 ex6 h8=>(sQ R (Zx R iL iL (fun _=>ex6)) (mM R (Zk (ZC h8 (vec [(i3 0)]) wk)))))
 exact Zw (wK5 _ _ wk (J1 _ (vec [(i3 0)]) (hx1 _ (Za h4).symm)))
theorem YK8 {a1 b1 r} (h:YEM a1 b1=some r):ARO Tryz.prog 177 [.agg (k13_ a1),.agg (k13_ b1)] (rB (r)):=by
 unfold YEM at h
 exact mF Tryz.func177 Tryz.ntmps177 R fun n0=>aU (sS R (ZB (cs:=(k13_ a1)) 2 R iL R R) (sS R (ZB (cs:=(k13_ b1)) 3 R iL R R) (mA R (aZ (aT fun c2=>(aR (lF YDI ts_3 R R (lF YDI ts_3 R R (sQ R (Zh R iL iL) (mM R (vF YD5 ts_3 R R (vF YD5 ts_3 R R (vQ R (Zh R (iR R) (iR R)) (sQ R (Zj R iL (iR R)) (mM R (vF YEi ts_9 R R (vF YEi ts_9 R R (vQ R (YD6 R (iR R) (iR R)) (sQ R (Zj R iL (iR R)) (mM R (vF YCU ts_3 R R (vF YCU ts_3 R R (vQ R (Zh R (iR R) (iR R)) (sQ R (Zj R iL (iR R)) (mM R (vF YEh YCf R R (vF YEh YCf R R (Ze h fun r1 er1 h1=>vL (fun hg=>YIZ (gdt er1 hg)) R (sQ R (Zj R iL (iR R)) (mA R (aZ (c2 _ (Zd (Y2_ h1 iL (.t (.d R))))))))))))))))))))))))))))))))))))
theorem YBE {s a r} (h:YAK s a=some r):ARO Tryz.prog 176 [qd s,qd a,.fn 177 []] (rB (r)):=by
 unfold YAK at h
 refine mF Tryz.func176 Tryz.ntmps176 R fun n0=>aU (mA R (aZ (aT fun c2=>(aU (mM R (sQ R (Zq R YDz.slice iL) (mM R (sQ R (Zq R YDz.slice iL) (sQ R (Zu R iL iL) (aZ (cI R h (fun h1=>?_) fun h1=>?_)))))))))))
 ·refine aT fun c4=>(aF [] ?_)
  exact aR (mA R (aZ (c4 _ (Zd (Y2_ h1 iL (.t (.d R)))))))
 refine Zc (c2 _ (aS fun K5 c5 wK5=>(aU (mM R (sQ R (Zq R YDz.slice iL) (mM R (aZ (Zg (jc1k h1 fun o1 hit1 hk1 he1=>?_)))))))))
 have J1 : ∀ (u2:Unit) (i5:Nat→Nat),o1 = .nrm u2→K5 ⟨[],[],(i5 0),32⟩:=by
  intro u2 i5 e
  have h2:=hk1 _ e
  exact c5 _ (aU (mA R (aZ (Zd (Y2_ h2 iL (.t (.d R)))))))
 refine ZE (fun (x2:Int) i3=>⟨[(1,qd a),(2,.fn 177 []),(15,qd s),(16,rI ((s.length:Int))),(17,rI (x2))],[],(i3 0),32⟩) (vec [n0]) hit1 wk ?_
 intro x2 i3 v1 hv1 hx1
 have h3:YAJ s a x2=some v1:=hv1; unfold YAJ at h3
 refine aU (sQ R (Zo R iL iL) (aZ (aT fun c9=>(cI R h3 (fun h4=>?_) fun h4=>?_))))
 ·refine Zc (c9 _ (aT fun c10=>(Zg (aU (mM R (Ze h4 fun x4 ex4 h5=>(sQ R (Zp R YDz.slice iL iL (fun _=>R) (fun _=>ex4)) (sQ R (Zy (cs:=(k13_ x4)) R YF2 iL R R) (sS R (ZH (cs:=z16_) 8 R YMx R R) (mA R (Zv R R (Zs (ds:=(k13_ x4)) R YMs iL R iL R R R R) (aZ (aU (mM R (mM R (Ze h5 fun x5 ex5 h6=>(sQ R (Zp R YDz.slice iL iL (fun _=>R) (fun _=>ex5)) (sQ R (Zy (cs:=(k13_ x5)) R YF2 iL R R) (sS R (ZH (cs:=z16_) 9 R YMx R R) (Zv R R (Zs (ds:=(k13_ x5)) R YMs iL R iL R R R R) (aZ (aT fun c13=>(aG [1,2,8,9,15,16,17] [8,9] ?_)))))))))))))))))))))))
  refine aR (mM R (sQ R (Zn R YF2 iL R R) (sQ R (Zn R YF2 iL R R) (Ze h6 fun r1 er1 h7=>(cL (YK8 (er1)) R (sQ R (Zz R iL) (aZ (c13 _ (cI R h7 (fun h8=>?_) fun h8=>?_)))))))))
  ·refine aT fun c14=>(aF [] ?_)
   exact aR (mA R (aZ (c14 _ (Zd (Y2_ (he1 _ (hx1 _ (Za h8).symm)) iL (.t (.d R)))))))
  exact Zc (c10 _ (aR (Ze h8 fun x6 ex6 h9=>(sQ R (Zx R iL iL (fun _=>ex6)) (mM R (Zk (ZC h9 (vec [((i3 0)+2)]) wk)))))))
 exact Zw (wK5 _ _ wk (J1 _ (vec [(i3 0)]) (hx1 _ (Za h4).symm)))
theorem YP4 {a1 b1 r} (h:YGb a1 b1=some r):ARO Tryz.prog 138 [.agg (k20_ a1),.agg (k20_ b1)] (rB (r)):=by
 unfold YGb at h
 exact mF Tryz.func138 Tryz.ntmps138 R fun n0=>aU (sS R (ZB (cs:=(k20_ a1)) 2 R iL R R) (sS R (ZB (cs:=(k20_ b1)) 3 R iL R R) (mA R (aZ (aU (lF YE6 ts_3 R R (lF YE6 ts_3 R R (sQ R (Zh R iL iL) (mM R (vF YE5 ts_3 R R (vF YE5 ts_3 R R (vQ R (Zh R (iR R) (iR R)) (sQ R (Zj R iL (iR R)) (mM R (vF YD3 YHG R R (vF YD3 YHG R R (Ze h fun r1 er1 h1=>vL (fun hg=>YEV (gdt er1 hg)) R (sQ R (Zj R iL (iR R)) (mM R (vF YEX YIa R R (vF YEX YIa R R (Ze h1 fun r2 er2 h2=>AOps.stepW (.one R R R) R R (YBb (r:=rB (r2)) (caps:=[]) (bs:=[qd a1.Cells,qd b1.Cells,.fn 177 []]) R iL R ⟨⟨_,(iR R),.d R⟩,⟨_,(iR R),.d R⟩,⟨_,iL,.one (.closed (.fn 177 []) R)⟩,Zb⟩ (fun hg=>YBE (gdt er2 hg)) R) (sQ R (Zj R iL (iR R)) (mA R (aZ (Zd (Y2_ h2 iL (.t (.d R)))))))))))))))))))))))))))))
theorem YIX {k r} (h:YFr k=some r):ARO Tryz.prog 134 [rI (k)] (rB (r)):=by
 unfold YFr at h
 exact mF Tryz.func134 Tryz.ntmps134 R fun n0=>aU (mA R (aZ (aU (mM R (sQ R (Zh R iL iL) (mM R (vM R (vQ R (Zh R (iR R) iL) (sQ R (Zr R iL (iR R)) (mM R (vM R (vQ R (Zh R (iR R) iL) (sQ R (Zr R iL (iR R)) (mA R (aZ (Zd (Y2_ h iL (.t (.d R)))))))))))))))))))
theorem YGk {c1 r} (h:YEx c1=some r):ARO Tryz.prog 113 [rI (c1)] (rB (r)):=by
 unfold YEx at h
 exact mF Tryz.func113 Tryz.ntmps113 R fun n0=>aU (mA R (aZ (aU (mM R (sQ R (Zh R iL iL) (mM R (vM R (vQ R (Zh R (iR R) iL) (sQ R (Zr R iL (iR R)) (mM R (vM R (vQ R (YC1 R (iR R) iL) (vQ R (Zf R (iR R)) (wQ R (Zf R iL) (wQ R (Zo R (iR R) iL) (vQ R (Zj R (iR R) (iR R)) (sQ R (Zr R iL (iR R)) (mM R (vM R (vQ R (YC1 R (iR R) iL) (vQ R (Zf R (iR R)) (wQ R (Zf R iL) (wQ R (Zo R (iR R) iL) (vQ R (Zj R (iR R) (iR R)) (sQ R (Zr R iL (iR R)) (mM R (vM R (vQ R (ZF R (iR R) iL) (vQ R (Zf R (iR R)) (wQ R (Zf R iL) (wQ R (YFB R (iR R) iL) (vQ R (Zj R (iR R) (iR R)) (sQ R (Zr R iL (iR R)) (mA R (aZ (Zd (Y2_ h iL (.t (.d R)))))))))))))))))))))))))))))))))))))))
theorem YLA {x1 r} (h:YGd x1=some r):ARO Tryz.prog 154 (k23_ x1) (rI (r)):=by
 unfold YGd at h
 refine mF Tryz.func154 Tryz.ntmps154 R fun n0=>aU (sS R (ZB (cs:=(k27_ x1)) 1 R iL R R) (mA R (aZ (aT fun c2=>(Zg (aU (lF YD2 ts_3 R R (sQ R (Zu R iL iL) (lF YCS ts_3 R R (sQ R (Zu R iL iL) (sQ R (YTX R Tryz.underlying4 iL iL) (mA R (aZ (cI R h (fun h1=>?_) fun h1=>?_))))))))))))))
 ·refine aT fun c4=>(aF [] ?_)
  exact aR (mA R (aZ (c4 _ (Zd (Y1_ h1 iL (.t (.d R)))))))
 refine aS fun K5 c5 wK5=>(aT fun c6=>(aG [1] [1] ?_))
 refine aR (lF YCS ts_3 R R (sQ R (Zh R iL iL) (mM R (vF YD2 ts_3 R R (Ze h1 fun r1 er1 h2=>vL (fun hg=>YGk (gdt er1 hg)) R (vQ R (Zz R (iR R)) (sQ R (Zj R iL (iR R)) (mA R (aZ (c6 _ (jb1k h2 fun p1 hp1 hk1=>?_)))))))))))
 have J1 : ∀ (x2:Bool) (i1:Nat→Nat),p1=x2→K5 ⟨[(1,.ptr 1 n0 0 0),(11,rB (x2))],[(1,some (.box n0 78 (k27_ x1)))],(i1 0),37⟩:=by
  intro x2 i1 e
  have h3:=hk1 _ e
  refine c5 _ (cI R h3 (fun h4=>?_) fun h4=>?_)
  ·exact aU (mA R (aZ (Zd (Y1_ h4 iL (.t (.d R))))))
  exact Zc (c2 _ (aU (lF YGl YCf R R (Ze h4 fun r2 er2 h5=>(cL (YEl (er2)) R (mA R (aZ (Zd (Y1_ h5 iL (.t (.d R)))))))))))
 refine aC R (fun hc3=>?_) (fun hc3=>?_)
 ·have h6:=YDO hc3 hp1
  exact Zc (wK5 _ _ wk (J1 _ (vec [(n0+1)]) (Za h6).symm))
 ·have h6:=YDP hc3 hp1
  refine aG [1] [1] ?_
  exact aR (lF YCS ts_3 R R (sQ R (Zu R iL iL) (mM R (vF YCS ts_3 R R (vQ R (Zo R (iR R) iL) (vQ R (Zf R (iR R)) (wQ R (fB R YCS iL fR R) (wQ R (Zi (a:=rI (x1.Ref)) R ts_3 (iR R) R R) (wQ R (ZF R (iR R) iL) (vQ R (Zr R (iR R) (iR R)) (sQ R (Zj R iL (iR R)) (mA R (Zk (wK5 _ _ wk (J1 _ (vec [(n0+1)]) (Za h6).symm)))))))))))))))
theorem YOn {f1 a r} (h:YDu f1 a=some r):ARO Tryz.prog 139 [qb f1,rB (a)] (rI (r)):=by
 unfold YDu at h
 refine mF Tryz.func139 Tryz.ntmps139 R fun n0=>aU (mA R (aZ (aS fun K2 c2 wK2=>(aU (mM R (sQ R (Zq R YAw.slice iL) (mM R (aZ (Zg (jc1k h fun o1 hit1 hk1 he1=>?_))))))))))
 have J1 : ∀ (u2:Unit) (i5:Nat→Nat),o1 = .nrm u2→K2 ⟨[(0,qb f1),(1,rB (a))],[],(i5 0),43⟩:=by
  intro u2 i5 e
  have h1:=hk1 _ e
  refine c2 _ (aT fun c4=>(aU (mM R (mM R (vM R (vQ R (Zq R YAw.slice (iR R)) (vQ R (Zh R (iR R) iL) (vQ R (Zf R (iR R)) (wQ R (Zf R iL) (wQ R (Zf R iL) (wQ R (Zq R YAw.slice (iR R)) (Ze h1 fun x4 ex4 h2=>wQ R (YBg R (iR R) iL (gdt ex4)) (Ze h2 fun x5 ex5 h3=>wQ R (Zp R YAw.slice (iR R) (iR R) (fun _=>R) (gdt ex5)) (wQ R (Zm R YD2 (iR R)) (wQ R (ZA (d:=.int .i64 x5.Char) R ts_3 (iR R) R) (wQ R (Zu R (iR R) iL) (vQ R (Zr R (iR R) (iR R)) (sQ R (Zj R iL (iR R)) (aZ (cI R h3 (fun h4=>?_) fun h4=>?_))))))))))))))))))))
  ·refine aT fun c6=>(aF [] ?_)
   exact aR (mA R (aZ (c6 _ (Zd (Y1_ h4 iL (.t (.d R)))))))
  refine Zc (c4 _ (aT fun c7=>(aF [] ?_)))
  exact aR (mA R (aZ (c7 _ (Zd (Y1_ h4 iL (.t (.d R)))))))
 refine ZE (fun (x2:Int) i3=>⟨[(0,qb f1),(1,rB (a)),(8,qb f1),(9,rI ((f1.length:Int))),(10,rI (x2))],[],(i3 0),43⟩) (vec [n0]) hit1 wk ?_
 intro x2 i3 v1 hv1 hx1
 have h5:YCc f1 a x2=some v1:=hv1; unfold YCc at h5
 refine aU (sQ R (Zo R iL iL) (aZ (aT fun c9=>(cI R h5 (fun h6=>?_) fun h6=>?_))))
 ·refine Zc (c9 _ (aT fun c10=>(Zg (aU (Ze h6 fun x6 ex6 h7=>(sQ R (Zp R YAw.slice iL iL (fun _=>R) (fun _=>ex6)) (sQ R (Zy (cs:=(k27_ x6)) R YJh iL R R) (sS R (ZH (cs:=z25_) 6 R YQG R R) (Zv R R (Zs (ds:=(k27_ x6)) R YOr iL R iL R R R R) (aZ (aT fun c12=>(aU (sQ R (Zn R YJh iL R R) (Ze h7 fun e1 ee1 h8=>(cL (YLA (ee1)) R (mA R (aZ (aU (mM R (sQ R (Zu R iL iL) (aZ (cI R h8 (fun h9=>?_) fun h9=>?_))))))))))))))))))))))
  ·refine aT fun c15=>(aF [7] ?_)
   exact aR (mM R (mA R (aZ (c15 _ (Zd (Y1_ (he1 _ (hx1 _ (Za h9).symm)) iL (.t (.d R))))))))
  refine Zc (c12 _ (aU (mM R (sQ R (Zz R iL) (mM R (vF YCS ts_3 R R (vQ R (Zh R (iR R) iL) (sQ R (Zj R iL (iR R)) (aZ (cI R h9 (fun h10=>?_) fun h10=>?_))))))))))
  ·refine aT fun c17=>(aF [] ?_)
   exact aR (mA R (aZ (c17 _ (Zd (Y1_ (he1 _ (hx1 _ (Za h10).symm)) iL (.t (.d R)))))))
  refine Zc (c10 _ (aF [0,1,8,9,10] ?_))
  exact aR (Ze h10 fun x7 ex7 h11=>(sQ R (Zx R iL iL (fun _=>ex7)) (mM R (Zk (ZC h11 (vec [((i3 0)+1)]) wk)))))
 exact Zw (wK2 _ _ wk (J1 _ (vec [(i3 0)]) (hx1 _ (Za h6).symm)))
theorem YDW {s1 r} (h:YAT s1=some r):ARO Tryz.prog 126 [.r (.str s1)] (.tup [.r (.int .i32 r.1),rI (r.2)]):=by
 unfold YAT at h
 refine mF Tryz.func126 Tryz.ntmps126 R fun n0=>aU (mA R (mA R (aZ (aU (mM R (sQ R (YAj R Tryz.underlying9 iL) (mA R (aZ (aT fun c3=>(aU (mM R (sQ R (Zo R iL iL) (aZ (cI R h (fun h1=>?_) fun h1=>?_))))))))))))))
 ·exact aU (mA R (mA R (aZ (Zd (YCX (P:=Tryz.prog) (fun (r:Int × Int)=>.r (.int .i32 r.1)) (fun (r:Int × Int)=>rI (r.2)) h1 iL (.t (.d R)) (.t (.d R)))))))
 refine Zc (c3 _ (aU (mM R (Ze h1 fun s01 es01 h2=>(sQ R (ZL R Tryz.underlying9 iL iL (fun _=>es01)) (mA R (aZ (aT fun c7=>(aR (mM R (Ze h2 fun x1 ex1 h3=>?_)))))))))))
 refine sQ R (YNA (f:=(rInt .u8)) (l:=YCV) R tt_212 tab_g0 (by kernel_rfl) iL (fun _=>R) (by decide) (fun _=>ex1)) ?_
 refine sQ R (ZA (d:=.int .u8 x1) R ts_5 iL R) (mA R (aZ (c7 _ (aT fun c8=>(aT fun c9=>(aF [0,4,5,6] ?_))))))
 refine aR (mM R (sQ R (YC1 R iL iL) (aZ (c9 _ (cI R h3 (fun h4=>?_) fun h4=>?_)))))
 ·refine aU (mM R (sQ R (ZG R Tryz.underlying5 Tryz.underlying21 iL) (sQ R (YI3 (b:=31) R iL iL) (sQ R (YOv (b:=31) R iL iL) (mA R (aZ (aT fun c11=>(aF [0,7] ?_))))))))
  exact aR (mM R (sQ R (ZL R Tryz.underlying9 iL iL (fun _=>es01)) (sQ R (ZG R Tryz.underlying5 Tryz.underlying21 iL) (mM R (sQ R (YM1 R iL iL) (mM R (sQ R (YEY R iL iL) (sQ R (YKC R iL iL) (mA R (mA R (aZ (c11 _ (Zd (YCX (P:=Tryz.prog) (fun (r:Int × Int)=>.r (.int .i32 r.1)) (fun (r:Int × Int)=>rI (r.2)) h4 iL (.t (.d R)) (.t (.d R))))))))))))))))
 refine Zc (c8 _ (aU (mM R (sQ R (YEY R iL iL) (sQ R (ZG R Tryz.underlying5 Tryz.underlying3 iL) (mA R (aZ (aT fun c13=>(aR (mM R (sQ R (YOv (b:=4) R iL iL) (Ze h4 fun x2 ex2 h5=>?_))))))))))))
 refine sQ R (YNA (f:=YA8.row) (l:=YHV) R tt_215 tab_g1 (by kernel_rfl) iL (fun _=>R) (by decide) (fun _=>ex2)) ?_
 refine sQ R (Zy (cs:=[.r (.int .u8 x2.lo),.r (.int .u8 x2.hi)]) R ta_214 iL R R) (sS R (ZH (cs:=[.r (.int .u8 0),.r (.int .u8 0)]) 9 R t0_214 R R) (Zv R R (Zs (ds:=[.r (.int .u8 x2.lo),.r (.int .u8 x2.hi)]) R tz_214 iL R iL R R R R) (aZ (c13 _ (aT fun c14=>(aT fun c15=>(aG [0,4,5,8,9] [9] ?_)))))))
 refine aR (mM R (mM R (sQ R (Zo R iL iL) (aZ (c15 _ (cI R h5 (fun h6=>?_) fun h6=>?_))))))
 ·exact aU (mA R (mA R (aZ (Zd (YCX (P:=Tryz.prog) (fun (r:Int × Int)=>.r (.int .i32 r.1)) (fun (r:Int × Int)=>rI (r.2)) h6 iL (.t (.d R)) (.t (.d R)))))))
 refine Zc (c14 _ (aU (mM R (Ze h6 fun s11 es11 h7=>(sQ R (ZL R Tryz.underlying9 iL iL (fun _=>es11)) (mA R (aZ (aT fun c18=>(aU (mM R (lF YVI ts_5 R R (sQ R (Zo R iL iL) (mM R (vF YVH ts_5 R R (vM R (vQ R (Zo R (iR R) (iR R)) (sQ R (Zr R iL (iR R)) (aZ (cI R h7 (fun h8=>?_) fun h8=>?_)))))))))))))))))))
 ·refine aT fun c20=>(aF [] ?_)
  exact aR (mA R (mA R (aZ (c20 _ (Zd (YCX (P:=Tryz.prog) (fun (r:Int × Int)=>.r (.int .i32 r.1)) (fun (r:Int × Int)=>rI (r.2)) h8 iL (.t (.d R)) (.t (.d R))))))))
 refine Zc (c18 _ (aT fun c21=>(aT fun c22=>(aF [0,5,8,10] ?_))))
 refine aR (mM R (sQ R (YFB R iL iL) (aZ (c22 _ (cI R h8 (fun h9=>?_) fun h9=>?_)))))
 ·exact aU (mM R (sQ R (YEY R iL iL) (sQ R (ZG R Tryz.underlying5 Tryz.underlying21 iL) (sQ R (YI3 (b:=6) R iL iL) (mM R (sQ R (YEY R iL iL) (sQ R (ZG R Tryz.underlying5 Tryz.underlying21 iL) (sQ R (YKC R iL iL) (mA R (mA R (aZ (Zd (YCX (P:=Tryz.prog) (fun (r:Int × Int)=>.r (.int .i32 r.1)) (fun (r:Int × Int)=>rI (r.2)) h9 iL (.t (.d R)) (.t (.d R)))))))))))))))
 refine Zc (c21 _ (aU (mM R (Ze h9 fun s21 es21 h10=>(sQ R (ZL R Tryz.underlying9 iL iL (fun _=>es21)) (mA R (aZ (aT fun c25=>(aU (mM R (sQ R (Zo R iL iL) (mM R (vM R (vQ R (Zo R iL (iR R)) (sQ R (Zr R iL (iR R)) (aZ (cI R h10 (fun h11=>?_) fun h11=>?_)))))))))))))))))
 ·refine aT fun c27=>(aF [] ?_)
  exact aR (mA R (mA R (aZ (c27 _ (Zd (YCX (P:=Tryz.prog) (fun (r:Int × Int)=>.r (.int .i32 r.1)) (fun (r:Int × Int)=>rI (r.2)) h11 iL (.t (.d R)) (.t (.d R))))))))
 refine Zc (c25 _ (aT fun c28=>(aT fun c29=>(aF [0,5,8,10,11] ?_))))
 refine aR (mM R (sQ R (YFB R iL iL) (aZ (c29 _ (cI R h11 (fun h12=>?_) fun h12=>?_)))))
 ·exact aU (mM R (sQ R (YEY R iL iL) (sQ R (ZG R Tryz.underlying5 Tryz.underlying21 iL) (sQ R (YI3 (b:=12) R iL iL) (mM R (sQ R (YEY R iL iL) (sQ R (ZG R Tryz.underlying5 Tryz.underlying21 iL) (sQ R (YI3 (b:=6) R iL iL) (sQ R (YKC R iL iL) (mM R (sQ R (YEY R iL iL) (sQ R (ZG R Tryz.underlying5 Tryz.underlying21 iL) (sQ R (YKC R iL iL) (mA R (mA R (aZ (Zd (YCX (P:=Tryz.prog) (fun (r:Int × Int)=>.r (.int .i32 r.1)) (fun (r:Int × Int)=>rI (r.2)) h12 iL (.t (.d R)) (.t (.d R))))))))))))))))))))
 refine Zc (c28 _ (aU (mM R (Ze h12 fun s31 es31 h13=>(sQ R (ZL R Tryz.underlying9 iL iL (fun _=>es31)) (mA R (aZ (aT fun c32=>(aU (mM R (sQ R (Zo R iL iL) (mM R (vM R (vQ R (Zo R iL (iR R)) (sQ R (Zr R iL (iR R)) (aZ (cI R h13 (fun h14=>?_) fun h14=>?_)))))))))))))))))
 ·refine aT fun c34=>(aF [] ?_)
  exact aR (mA R (mA R (aZ (c34 _ (Zd (YCX (P:=Tryz.prog) (fun (r:Int × Int)=>.r (.int .i32 r.1)) (fun (r:Int × Int)=>rI (r.2)) h14 iL (.t (.d R)) (.t (.d R))))))))
 refine Zc (c32 _ (aT fun c35=>(aF [5,10,11,12] ?_)))
 exact aR (mM R (sQ R (YEY R iL iL) (sQ R (ZG R Tryz.underlying5 Tryz.underlying21 iL) (sQ R (YI3 (b:=18) R iL iL) (mM R (sQ R (YEY R iL iL) (sQ R (ZG R Tryz.underlying5 Tryz.underlying21 iL) (sQ R (YI3 (b:=12) R iL iL) (sQ R (YKC R iL iL) (mM R (sQ R (YEY R iL iL) (sQ R (ZG R Tryz.underlying5 Tryz.underlying21 iL) (sQ R (YI3 (b:=6) R iL iL) (sQ R (YKC R iL iL) (mM R (sQ R (YEY R iL iL) (sQ R (ZG R Tryz.underlying5 Tryz.underlying21 iL) (sQ R (YKC R iL iL) (mA R (mA R (aZ (c35 _ (Zd (YCX (P:=Tryz.prog) (fun (r:Int × Int)=>.r (.int .i32 r.1)) (fun (r:Int × Int)=>rI (r.2)) h14 iL (.t (.d R)) (.t (.d R))))))))))))))))))))))))))
theorem YAg {s1 r} (h:YAL s1=some r):ARO Tryz.prog 88 [.r (.str s1)] (.tup [.r (.int .i32 r.1),rI (r.2)]):=by
 unfold YAL at h
 refine mF Tryz.func88 Tryz.ntmps88 R fun n0=>aU (mA R (mA R (aZ (aT fun c2=>(aU (mM R (sQ R (YCH R iL iL) (mM R (vM R (Ze h fun ch1 ech1 h1=>(vQ R (ZL R Tryz.underlying9 (iR R) iL (gdt ech1)) (vQ R (Zo R (iR R) iL) (sQ R (Zj R iL (iR R)) (aZ (cI R h1 (fun h2=>?_) fun h2=>?_)))))))))))))))
 ·refine aT fun c4=>(aF [0] ?_)
  exact aR (mM R (Ze h2 fun ch2 ech2 h3=>(sQ R (ZL R Tryz.underlying9 iL iL (fun _=>ech2)) (sQ R (ZG R Tryz.underlying5 Tryz.underlying21 iL) (mA R (mA R (aZ (c4 _ (Zd (YCX (P:=Tryz.prog) (fun (r:Int × Int)=>.r (.int .i32 r.1)) (fun (r:Int × Int)=>rI (r.2)) h3 iL (.t (.d R)) (.t (.d R))))))))))))
 refine aF [0] ?_
 exact aR (mM R (ob2k h2 fun r1 r2 er1 h4=>(cL (YDW (er1)) R (mM R (sQ R (Zt (a:=.r (.int .i32 r1)) R iL R) (sQ R (Zt (a:=rI (r2)) R iL R) (mA R (mA R (aZ (c2 _ (Zd (YCX (P:=Tryz.prog) (fun (r:Int × Int)=>.r (.int .i32 r.1)) (fun (r:Int × Int)=>rI (r.2)) h4 iL (.t (.d R)) (.t (.d R))))))))))))))
theorem YP3 {s1 r} (h:YHp s1=some r):ARO Tryz.prog 224 [.r (.str s1)] (rB (r)):=by
 unfold YHp at h
 refine mF Tryz.func224 Tryz.ntmps224 R fun n0=>aU (mA R (aZ (aS fun K2 c2 wK2=>(Zg (jc1k h fun o1 hit1 hk1 he1=>?_)))))
 have J1 : ∀ (u2:Unit) (i5:Nat→Nat),o1 = .nrm u2→K2 ⟨[],[],(i5 0),31⟩:=by
  intro u2 i5 e
  have h1:=hk1 _ e
  exact c2 _ (aU (mA R (aZ (Zd (Y2_ h1 iL (.t (.d R)))))))
 refine ZE (fun (s3:List UInt8) i3=>⟨[(0,.r (.str s3))],[],(i3 0),31⟩) (vec [n0]) hit1 wk ?_
 intro s3 i3 v1 hv1 hx1
 have h2:YA1 s3=some v1:=hv1; unfold YA1 at h2
 refine aT fun c4=>(aU (mM R (sQ R (YCH R iL iL) (aZ (cI R h2 (fun h3=>?_) fun h3=>?_)))))
 ·refine Zc (c4 _ (Zg (aU (mM R (ob2k h3 fun r1 r2 er1 h4=>(cL (YAg (er1)) R (mM R (sQ R (Zt (a:=.r (.int .i32 r1)) R iL R) (sQ R (Zt (a:=rI (r2)) R iL R) (mA R (mA R (aZ (aT fun c7=>(aU (mM R (sQ R (Zh R iL iL) (mM R (vM R (vQ R (Zh R (iR R) iL) (sQ R (Zj R iL (iR R)) (mM R (vM R (vQ R (Zh R (iR R) iL) (sQ R (Zr R iL (iR R)) (mM R (vM R (vQ R (ZG R Tryz.underlying21 Tryz.underlying3 (iR R)) (Ze h4 fun r3 er3 h5=>vL (fun hg=>YGk (gdt er3 hg)) R (vQ R (Zz R (iR R)) (sQ R (Zr R iL (iR R)) (aZ (cI R h5 (fun h6=>?_) fun h6=>?_))))))))))))))))))))))))))))))))
  ·refine aT fun c9=>(aF [] ?_)
   exact aR (mA R (aZ (c9 _ (Zd (Y2_ (he1 _ (hx1 _ (Za h6).symm)) iL (.t (.d R)))))))
  refine Zc (c7 _ (aF [0,4] ?_))
  refine aR (mM R (mM R (Ze h6 fun s5 es5 h7=>?_)))
  refine sQ R (YDs R Tryz.underlying9 iL (by exact ⟨_,iL⟩) (by exact R) (fun _=>es5)) ?_
  exact mA R (Zk (ZC h7 (vec [(i3 0)]) wk))
 exact Zw (wK2 _ _ wk (J1 _ (vec [(i3 0)]) (hx1 _ (Za h3).symm)))
theorem YOk {c1 r} (h:YGZ c1=some r):ARO Tryz.prog 225 (k11_ c1) (rB (r)):=by
 unfold YGZ at h
 exact mF Tryz.func225 Tryz.ntmps225 R fun n0=>aU (sS R (ZB (cs:=(k13_ c1)) 1 R iL R R) (mA R (aZ (aU (lF YEi ts_9 R R (sQ R (YD6 R iL iL) (mM R (vF YCU ts_3 R R (vQ R (Zh R (iR R) iL) (sQ R (Zj R iL (iR R)) (mM R (vF YEh YCf R R (vQ R (Zq R YBs.slice (iR R)) (vQ R (Zh R (iR R) iL) (sQ R (Zj R iL (iR R)) (mA R (aZ (Zd (Y2_ h iL (.t (.d R)))))))))))))))))))))
theorem YHO {x1 r} (h:YER x1=some r):ARO Tryz.prog 238 [rI (x1)] (rB (r)):=by
 unfold YER at h
 exact mF Tryz.func238 Tryz.ntmps238 R fun n0=>aU (mA R (aZ (aU (mM R (mM R (sQ R (Zu R iL iL) (mA R (aZ (Zd (Y2_ h iL (.t (.d R))))))))))))
theorem YDG {x1 y1 r} (h:YBT x1 y1=some r):ARO Tryz.prog 195 [rI (x1),rI (y1)] (rI (r)):=by
 unfold YBT at h
 refine mF Tryz.func195 Tryz.ntmps195 R fun n0=>aU (mA R (aZ (aU (mM R (Ze h fun xNaN1 exNaN1 h1=>(cL (YHO (exNaN1)) R (mA R (aZ (aU (mM R (Ze h1 fun yNaN1 eyNaN1 h2=>(cL (YHO (eyNaN1)) R (mA R (aZ (aT fun c4=>(aU (mM R (aZ (cI R h2 (fun h3=>?_) fun h3=>?_)))))))))))))))))))
 ·refine aT fun c6=>(aT fun c7=>(aF [6] ?_))
  refine aR (mM R (aZ (c7 _ (cI R h3 (fun h4=>?_) fun h4=>?_))))
  ·exact aU (mA R (aZ (Zd (Y1_ h4 iL (.t (.d R))))))
  exact Zc (c6 _ (aU (mA R (aZ (Zd (Y1_ h4 iL (.t (.d R))))))))
 refine Zc (c4 _ (aT fun c10=>(aU (mM R (aZ (cI R h3 (fun h5=>?_) fun h5=>?_))))))
 ·refine aT fun c12=>(aF [] ?_)
  exact aR (mA R (aZ (c12 _ (Zd (Y1_ h5 iL (.t (.d R)))))))
 refine Zc (c10 _ (aT fun c13=>(aT fun c14=>(aF [0,1] ?_))))
 refine aR (mM R (mM R (sQ R (Zo R iL iL) (aZ (c14 _ (cI R h5 (fun h6=>?_) fun h6=>?_))))))
 ·exact aU (mA R (aZ (Zd (Y1_ h6 iL (.t (.d R))))))
 refine Zc (c13 _ (aT fun c16=>(aU (mM R (mM R (sQ R (ZF R iL iL) (aZ (cI R h6 (fun h7=>?_) fun h7=>?_))))))))
 ·exact aU (mA R (aZ (Zd (Y1_ h7 iL (.t (.d R))))))
 exact Zc (c16 _ (aU (mA R (aZ (Zd (Y1_ h7 iL (.t (.d R))))))))
theorem YJ5 {v r} (h:YFV v=some r):ARO Tryz.prog 193 [.r (.sl (v.map (rInt .i64)))] (rI (r)):=by
 unfold YFV at h
 refine mF Tryz.func193 Tryz.ntmps193 R fun n0=>aU (mA R (aZ (aU (mA R (aZ (aS fun K3 c3 wK3=>(aU (mM R (sQ R (Zq R YC3.slice iL) (mM R (aZ (Zg (jc1k h fun o1 hit1 hk1 he1=>?_)))))))))))))
 have J1 : ∀ (u2:Unit) (i5:Nat→Nat),o1 = .nrm u2→K3 ⟨[(3,rI (0))],[],(i5 0),18⟩:=by
  intro u2 i5 e
  have h1:=hk1 _ e
  exact c3 _ (aU (mM R (mA R (aZ (Zd (Y1_ h1 iL (.t (.d R))))))))
 refine ZE (fun (x2:Int) i3=>⟨[(3,rI (0)),(6,.r (.sl (v.map (rInt .i64)))),(7,rI ((v.length:Int))),(8,rI (x2))],[],(i3 0),18⟩) (vec [n0]) hit1 wk ?_
 intro x2 i3 v1 hv1 hx1
 have h2:YAe v x2=some v1:=hv1; unfold YAe at h2
 refine aU (sQ R (Zo R iL iL) (aZ (aT fun c7=>(cI R h2 (fun h3=>?_) fun h3=>?_))))
 ·refine Zc (c7 _ (aT fun c8=>(Zg (aU (Ze h3 fun x4 ex4 h4=>(sQ R (Zp R YC3.slice iL iL (fun _=>R) (fun _=>ex4)) (sQ R (ZA (d:=.int .i64 x4) R ts_3 iL R) (mA R (aZ (aU (mM R (mM R (sQ R (Zu R iL iL) (aZ (cI R h4 (fun h5=>?_) fun h5=>?_)))))))))))))))
  ·refine aT fun c11=>(aF [5] ?_)
   exact aR (mM R (mA R (aZ (c11 _ (Zd (Y1_ (he1 _ (hx1 _ (Za h5).symm)) iL (.t (.d R))))))))
  exact Zc (c8 _ (aR (Ze h5 fun x5 ex5 h6=>(sQ R (Zx R iL iL (fun _=>ex5)) (mM R (Zk (ZC h6 (vec [(i3 0)]) wk)))))))
 exact Zw (wK3 _ _ wk (J1 _ (vec [(i3 0)]) (hx1 _ (Za h3).symm)))
theorem YOi {a1 b1 r} (h:YFS a1 b1=some r):ARO Tryz.prog 226 [.agg (k13_ a1),.agg (k13_ b1)] (rI (r)):=by
 unfold YFS at h
 refine mF Tryz.func226 Tryz.ntmps226 R fun n0=>aU (sS R (ZB (cs:=(k13_ a1)) 2 R iL R R) (sS R (ZB (cs:=(k13_ b1)) 3 R iL R R) (mA R (aZ (aT fun c2=>(Ze h fun r1 er1 h1=>?_))))))
 refine rP 9 [pO 5 (.ptr 2 n0 0 0),pO 6 (rI (a1.Row)),pO 7 (.ptr 3 (n0+1) 0 0),pO 8 (rI (b1.Row)),pO 9 (rI (r1)),pO 10 (.ptr 2 n0 0 1),pO 11 (rI (a1.Col)),pO 12 (.ptr 3 (n0+1) 0 1),pO 13 (rI (b1.Col))] hmix R (by exact ⟨oB [(2,.ptr 2 n0 0 0)] [(2,some (.box n0 144 (k13_ a1)))] (fB R YDI (.inl R) (fun _=>R) R),oB [(5,.ptr 2 n0 0 0)] [(2,some (.box n0 144 (k13_ a1)))] (Zi (a:=rI (a1.Row)) R ts_3 (.inl R) R R),oB [(3,.ptr 3 (n0+1) 0 0)] [(3,some (.box (n0+1) 144 (k13_ b1)))] (fB R YDI (.inl R) (fun _=>R) R),oB [(7,.ptr 3 (n0+1) 0 0)] [(3,some (.box (n0+1) 144 (k13_ b1)))] (Zi (a:=rI (b1.Row)) R ts_3 (.inl R) R R),oD (fun _=>[(6,rI (a1.Row)),(8,rI (b1.Row))]) (fun _=>[]) (fun G1 e h' n=>YBb (r:=rI (r1)) (caps:=[]) (bs:=[rI (a1.Row),rI (b1.Row)]) R (.inl R) R ⟨⟨_,(.inl R),.d R⟩,⟨_,(.inl R),.d R⟩,Zb⟩ (fun _=>YDG (er1)) R),oB [(2,.ptr 2 n0 0 0)] [(2,some (.box n0 144 (k13_ a1)))] (fB R YD5 (.inl R) (fun _=>R) R),oB [(10,.ptr 2 n0 0 1)] [(2,some (.box n0 144 (k13_ a1)))] (Zi (a:=rI (a1.Col)) R ts_3 (.inl R) R R),oB [(3,.ptr 3 (n0+1) 0 0)] [(3,some (.box (n0+1) 144 (k13_ b1)))] (fB R YD5 (.inl R) (fun _=>R) R),oB [(12,.ptr 3 (n0+1) 0 1)] [(3,some (.box (n0+1) 144 (k13_ b1)))] (Zi (a:=rI (b1.Col)) R ts_3 (.inl R) R R),Zb⟩) fun G1 n1=>?_
 refine aGo [0,1,2,3,4,5,6,7,8,9,10,11,12,13] [2,3] ?_
 exact Ze h1 fun r2 er2 h2=>(cL (YDG (er2)) R (sS R (YA6 15 R YC3 (f:=(rInt .i64)) (l:=([r1,r2]:List Int)) ⟨R,⟨_,iL,R⟩,R,⟨_,iL,R⟩,Zb⟩ R (fun _=>R) R) (Ze h2 fun r3 er3 h3=>(cL (YJ5 (er3)) R (mA R (aZ (c2 _ (Zd (Y1_ h3 iL (.t (.d R)))))))))))
theorem YOl {l1 a c n r} (h:YGa l1 a c n=some r):ARO Tryz.prog 178 [qd l1,rI (a),rI (c),rB (n)] (rI (r)):=by
 unfold YGa at h
 refine mF Tryz.func178 Tryz.ntmps178 R fun n0=>aU (mA R (aZ (aS fun K2 c2 wK2=>(aU (mM R (sQ R (Zq R YDz.slice iL) (mM R (aZ (Zg (jc1k h fun o1 hit1 hk1 he1=>?_))))))))))
 have J1 : ∀ (u2:Unit) (i5:Nat→Nat),o1 = .nrm u2→K2 ⟨[],[],(i5 0),79⟩:=by
  intro u2 i5 e
  have h1:=hk1 _ e
  exact c2 _ (aU (mA R (aZ (Zd (Y1_ h1 iL (.t (.d R)))))))
 refine ZE (fun (x2:Int) i3=>⟨[(0,qd l1),(1,rI (a)),(2,rI (c)),(3,rB (n)),(12,qd l1),(13,rI ((l1.length:Int))),(14,rI (x2))],[],(i3 0),79⟩) (vec [n0]) hit1 wk ?_
 intro x2 i3 v1 hv1 hx1
 have h2:YEL l1 a c n x2=some v1:=hv1; unfold YEL at h2
 refine aU (sQ R (Zo R iL iL) (aZ (aT fun c6=>(cI R h2 (fun h3=>?_) fun h3=>?_))))
 ·refine Zc (c6 _ (aT fun c7=>(Zg (aU (mM R (Ze h3 fun x4 ex4 h4=>(sQ R (Zp R YDz.slice iL iL (fun _=>R) (fun _=>ex4)) (sQ R (Zy (cs:=(k13_ x4)) R YF2 iL R R) (sS R (ZH (cs:=z16_) 10 R YMx R R) (mA R (Zv R R (Zs (ds:=(k13_ x4)) R YMs iL R iL R R R R) (aZ (aT fun c9=>(Zg (aU (lF YDI ts_3 R R (sQ R (Zo R iL iL) (mM R (vF YDI ts_3 R R (vM R (vQ R (YC1 R (iR R) (iR R)) (sQ R (Zr R iL (iR R)) (mM R (vF YD5 ts_3 R R (vQ R (Zo R (iR R) iL) (sQ R (Zr R iL (iR R)) (mM R (vF YD5 ts_3 R R (vM R (vQ R (YC1 R (iR R) (iR R)) (sQ R (Zr R iL (iR R)) (mA R (aZ (cI R h4 (fun h5=>?_) fun h5=>?_))))))))))))))))))))))))))))))))))
  ·refine aT fun c11=>(aF [] ?_)
   exact aR (mA R (aZ (c11 _ (Zd (Y1_ (he1 _ (hx1 _ (Za h5).symm)) iL (.t (.d R)))))))
  refine aT fun c12=>(aG [0,1,2,3,9,10,12,13,14] [10] ?_)
  refine aR (lF YCU ts_3 R R (sQ R (Zo R iL iL) (mM R (vF YCU ts_3 R R (vQ R (ZF R (iR R) iL) (sQ R (Zr R iL (iR R)) (mA R (aZ (c12 _ (cI R h5 (fun h6=>?_) fun h6=>?_))))))))))
  ·refine aT fun c13=>(aF [] ?_)
   exact aR (mA R (aZ (c13 _ (Zd (Y1_ (he1 _ (hx1 _ (Za h6).symm)) iL (.t (.d R)))))))
  refine aU (lF YEi ts_9 R R (Ze h6 fun r1 er1 h7=>(cL (YP3 (er1)) R (sQ R (Zz R iL) (mA R (aZ (cI R h7 (fun h8=>?_) fun h8=>?_)))))))
  ·refine aT fun c15=>(aF [] ?_)
   exact aR (mA R (aZ (c15 _ (Zd (Y1_ (he1 _ (hx1 _ (Za h8).symm)) iL (.t (.d R)))))))
  refine Zc (c9 _ (aT fun c16=>(aT fun c17=>(aG [0,1,2,3,9,10,12,13,14] [10] ?_))))
  refine aR (lF YEh YCf R R (Ze h8 fun e1 ee1 h9=>(cL (YEl (ee1)) R (mA R (aZ (c17 _ (aU (mM R (sQ R (Zu R iL iL) (aZ (cI R h9 (fun h10=>?_) fun h10=>?_)))))))))))
  ·refine aT fun c19=>(aF [11] ?_)
   exact aR (mM R (mA R (aZ (c19 _ (Zd (Y1_ (he1 _ (hx1 _ (Za h10).symm)) iL (.t (.d R))))))))
  refine Zc (c16 _ (aT fun c20=>(aU (sQ R (Zn R YF2 iL R R) (Ze h10 fun r2 er2 h11=>(cL (YOk (er2)) R (mM R (vM R (vQ R (Zz R (iR R)) (sQ R (Zj R iL (iR R)) (aZ (cI R h11 (fun h12=>?_) fun h12=>?_))))))))))))
  ·refine aT fun c22=>(aF [] ?_)
   exact aR (mA R (aZ (c22 _ (Zd (Y1_ (he1 _ (hx1 _ (Za h12).symm)) iL (.t (.d R)))))))
  refine Zc (c20 _ (aT fun c23=>(aG [0,1,2,3,9,10,12,13,14] [10] ?_)))
  refine ZI hmix (by kernel_rfl) ?_
  refine qP R (Zf R iL) (qP R (ZF R iL iL) (qP R (Zf R iL) (qO R (Zf R iL) (qO R (Zf R iL) (Ze h12 fun x5 ex5 h13=>qO R (YBg R (iR R) iL (gdt ex5)) (Ze h13 fun x6 ex6 h14=>qO R (Zp R YDz.slice (iR R) (iR R) (fun _=>R) (gdt ex6)) (qO R (Zy (cs:=(k13_ x6)) R YF2 (iR R) R R) (qO R (Zn R YF2 iL R R) (Ze h14 fun r3 er3 h15=>AQ.stepWC (.one R R R) R R (r:=rI (r3)) (caps:=[]) (bs:=[.agg (k13_ x6),.agg (k13_ x4)]) R iL R ⟨⟨_,(iR R),.g (cs:=[.int .i64 x6.Row,.int .i64 x6.Col,.str x6.Text,.int .i64 x6.Ref,.sl (x6.Attrs.map YAD.row)]) R R⟩,⟨_,(iR R),.g (cs:=[.int .i64 x4.Row,.int .i64 x4.Col,.str x4.Text,.int .i64 x4.Ref,.sl (x4.Attrs.map YAD.row)]) R R⟩,Zb⟩ (fun hg=>YOi (gdt er3 hg)) R (qO R (YC1 R (iR R) iL) (qP R (Zj R iL (iR R)) (AQ.nil (c23 _ (cI R h15 (fun h16=>?_) fun h16=>?_))))))))))))))
  ·refine aT fun c24=>(aF [] ?_)
   exact aR (mA R (aZ (c24 _ (Zd (Y1_ (he1 _ (hx1 _ (Za h16).symm)) iL (.t (.d R)))))))
  exact Zc (c7 _ (aR (Ze h16 fun x7 ex7 h17=>(sQ R (Zx R iL iL (fun _=>ex7)) (mM R (Zk (ZC h17 (vec [((i3 0)+1)]) wk)))))))
 exact Zw (wK2 _ _ wk (J1 _ (vec [(i3 0)]) (hx1 _ (Za h3).symm)))
theorem YNb {r1 a c r} (h:YFl r1 a c=some r):ARO Tryz.prog 179 [.agg (k22_ r1),rI (a),rI (c)] (rB (r)):=by
 unfold YFl at h
 refine mF Tryz.func179 Tryz.ntmps179 R fun n0=>aU (sS R (ZB (cs:=(k22_ r1)) 3 R iL R R) (mA R (aZ (aU (lF YBQ ts_3 R R (sQ R (YC1 R iL iL) (mM R (vF YBx ts_3 R R (vQ R (YC1 R (iR R) iL) (sQ R (Zj R iL (iR R)) (mM R (vF YFF ts_3 R R (vQ R (YC1 R (iR R) iL) (sQ R (Zj R iL (iR R)) (mM R (vF YFE ts_3 R R (vQ R (YC1 R (iR R) iL) (sQ R (Zj R iL (iR R)) (mM R (vF YBQ ts_3 R R (vM R (vQ R (Zo R (iR R) (iR R)) (sQ R (Zj R iL (iR R)) (mM R (vF YBx ts_3 R R (vM R (vQ R (Zo R (iR R) (iR R)) (sQ R (Zj R iL (iR R)) (mM R (vF YFF ts_3 R R (vM R (vF YBQ ts_3 R R (Ze h fun x1 ex1 h1=>(vQ R (YBg R (iR R) (iR R) (gdt ex1)) (vQ R (YFB R (iR R) (iR R)) (sQ R (Zj R iL (iR R)) (mM R (vF YFE ts_3 R R (vM R (vF YBx ts_3 R R (Ze h1 fun x2 ex2 h2=>(vQ R (YBg R (iR R) (iR R) (gdt ex2)) (vQ R (YFB R (iR R) (iR R)) (sQ R (Zj R iL (iR R)) (mA R (aZ ?_))))))))))))))))))))))))))))))))))))))))))))))
 exact Zd (Y2_ h2 iL (.t (.d R)))
theorem YNc {a1 b1 r} (h:YFm a1 b1=some r):ARO Tryz.prog 180 [.agg (k22_ a1),.agg (k22_ b1)] (rB (r)):=by
 unfold YFm at h
 exact mF Tryz.func180 Tryz.ntmps180 R fun n0=>aU (sS R (ZB (cs:=(k22_ a1)) 2 R iL R R) (sS R (ZB (cs:=(k22_ b1)) 3 R iL R R) (mA R (aZ (aU (lF YBQ ts_3 R R (lF YBQ ts_3 R R (sQ R (Zo R iL iL) (mM R (vF YBQ ts_3 R R (vF YBQ ts_3 R R (vQ R (Zh R (iR R) (iR R)) (vQ R (Zf R (iR R)) (wQ R (fB R YBx iL fR R) (wQ R (Zi (a:=rI (a1.Col)) R ts_3 (iR R) R R) (wQ R (fB R YBx iL fR R) (wQ R (Zi (a:=rI (b1.Col)) R ts_3 (iR R) R R) (wQ R (Zo R (iR R) (iR R)) (vQ R (Zj R (iR R) (iR R)) (sQ R (Zr R iL (iR R)) (mA R (aZ (Zd (Y2_ h iL (.t (.d R))))))))))))))))))))))))))
theorem YOj {a1 b1 r} (h:YGY a1 b1=some r):ARO Tryz.prog 183 [.agg (k22_ a1),.agg (k22_ b1)] (rB (r)):=by
 unfold YGY at h
 exact mF Tryz.func183 Tryz.ntmps183 R fun n0=>aU (sS R (ZB (cs:=(k22_ a1)) 2 R iL R R) (sS R (ZB (cs:=(k22_ b1)) 3 R iL R R) (mA R (aZ (aU (lF YBQ ts_3 R R (lF YBQ ts_3 R R (lF YFF ts_3 R R (Ze h fun x1 ex1 h1=>(sQ R (Zx R iL iL (fun _=>ex1)) (sQ R (Zo R iL iL) (mM R (vF YBQ ts_3 R R (vF YBQ ts_3 R R (vF YFF ts_3 R R (Ze h1 fun x2 ex2 h2=>(vQ R (Zx R (iR R) (iR R) (gdt ex2)) (vQ R (Zo R (iR R) (iR R)) (sQ R (Zj R iL (iR R)) (mM R (vF YBx ts_3 R R (vF YBx ts_3 R R (vF YFE ts_3 R R (Ze h2 fun x3 ex3 h3=>vQ R (Zx R (iR R) (iR R) (gdt ex3)) (vQ R (Zo R (iR R) (iR R)) (sQ R (Zj R iL (iR R)) (mM R (vF YBx ts_3 R R (vF YBx ts_3 R R (vF YFE ts_3 R R (Ze h3 fun x4 ex4 h4=>(vQ R (Zx R (iR R) (iR R) (gdt ex4)) (vQ R (Zo R (iR R) (iR R)) (sQ R (Zj R iL (iR R)) (mA R (aZ (Zd (Y2_ h4 iL (.t (.d R))))))))))))))))))))))))))))))))))))))))
theorem YK9 {w1:YAW} {q1:YAW} {r:Bool} {gb1000:Nat} (h:YFL w1 q1=some r):AHC Tryz.prog 182 1 [.agg (k22_ q1),.ptr 1000 gb1000 0 0] [(1000,some (.box gb1000 174 (k22_ w1)))] (fun rr h'=>∃ (i:Nat→Nat),rr=rB (r)∧h'=[(1000,some (.box gb1000 174 (k22_ w1)))]):=by
 unfold YFL at h
 refine AHC.mkw Tryz.func182 R R Tryz.ntmps182 (ZN R) fun n0=>aU (sS R (ZB (cs:=(k22_ q1)) 2 R iL R R) (mA R (aZ (aU (sQ R (Zn R YFb iL R R) (sQ R (Zn R YFb iL R R) (Ze h fun r1 er1 h1=>(cL (YOj (er1)) R (mA R (aZ ?_))))))))))
 exact Zd (RetW.mk (s':=⟨[(3,rB (r1))],[(1000,some (.box gb1000 174 (k22_ w1)))],(n0+1),7⟩) wk (YAu (fun (r:Bool) rr h'=>∃ (i:Nat→Nat),rr=rB (r)∧h'=[(1000,some (.box gb1000 174 (k22_ w1)))]) h1 (by exact ⟨rB (r1),[(1000,some (.box gb1000 174 (k22_ w1)))],R,⟨.inr R,Zb⟩,R,R,vec [],R,R⟩)))
theorem YCC {w1:YAW} {s1:List YAW} {r:Int} {gb1000:Nat} (h:YAZ w1 s1=some r):AHC Tryz.prog 227 1 [qc s1,.fn 182 [.ptr 1000 gb1000 0 0]] [(1000,some (.box gb1000 174 (k22_ w1)))] (fun rr h'=>∃ (i:Nat→Nat),rr=rI (r)∧h'=[(1000,some (.box gb1000 174 (k22_ w1)))]):=by
 unfold YAZ at h
 refine AHC.mkw Tryz.func227 R R Tryz.ntmps227 (ZN R) fun n0=>aU (mA R (aZ (aS fun K2 c2 wK2=>(aU (mM R (sQ R (Zq R YFa.slice iL) (mM R (aZ (Zg (jc1k h fun o1 hit1 hk1 he1=>?_))))))))))
 have J1 : ∀ (u2:Unit) (i5:Nat→Nat),o1 = .nrm u2→K2 ⟨[],[(1000,some (.box gb1000 174 (k22_ w1)))],(i5 0),19⟩:=by
  intro u2 i5 e
  have h1:=hk1 _ e
  refine c2 _ (aU (mA R (aZ ?_)))
  exact Zd (RetW.mk (s':=⟨[(4,rI ((-1)))],[(1000,some (.box gb1000 174 (k22_ w1)))],(i5 0),19⟩) wk (YAu (fun (r:Int) rr h'=>∃ (i:Nat→Nat),rr=rI (r)∧h'=[(1000,some (.box gb1000 174 (k22_ w1)))]) h1 (by exact ⟨rI ((-1)),[(1000,some (.box gb1000 174 (k22_ w1)))],R,⟨.inr R,Zb⟩,R,R,vec [],R,R⟩)))
 refine ZE (fun (x2:Int) i3=>⟨[(0,qc s1),(1,.fn 182 [.ptr 1000 gb1000 0 0]),(7,rI ((s1.length:Int))),(8,rI (x2))],[(1000,some (.box gb1000 174 (k22_ w1)))],(i3 0),19⟩) (vec [n0]) hit1 wk ?_
 intro x2 i3 v1 hv1 hx1
 have h2:YAS w1 s1 x2=some v1:=hv1; unfold YAS at h2
 refine aU (sQ R (Zo R iL iL) (aZ (aT fun c6=>(cI R h2 (fun h3=>?_) fun h3=>?_))))
 ·refine Zc (c6 _ (aT fun c7=>(Zg (aU (mM R (mA R (aZ (aT fun c9=>(aR (mM R (mM R (mM R (Ze h3 fun x4 ex4 h4=>(sQ R (Zp R YFa.slice iL iL (fun _=>R) (fun _=>ex4)) (sQ R (Zy (cs:=(k22_ x4)) R YFb iL R R) (Ze h4 fun r1 er1 h5=>?_))))))))))))))))
  refine AOps.stepHI [1000] (hc:=[(1000,some (.box gb1000 174 (k22_ w1)))]) (bs:=[.agg (k22_ x4)]) (caps:=[.ptr 1000 gb1000 0 0]) R R R R iL R ⟨.inl ⟨iL,R⟩,Zb⟩ ⟨R,R,R,Zb⟩ (by decide) (YK9 er1) ?_
  intro i6 n1
  refine aGo [0,1,5,7,8,9,10,11,12,13,14,15,16] [1000] ?_
  refine aZ (c9 _ (cI R h5 (fun h6=>?_) fun h6=>?_))
  ·refine aT fun c10=>(aG [5] [1000] ?_)
   refine aR (mM R (mA R (oZ c10 ?_)))
   exact Zd (RetW.mk (s':=⟨[(4,rI (x2))],[(1000,some (.box gb1000 174 (k22_ w1)))],n1,19⟩) wk (YAu (fun (r:Int) rr h'=>∃ (i:Nat→Nat),rr=rI (r)∧h'=[(1000,some (.box gb1000 174 (k22_ w1)))]) (he1 _ (hx1 _ (Za h6).symm)) (by exact ⟨rI (x2),[(1000,some (.box gb1000 174 (k22_ w1)))],R,⟨.inr R,Zb⟩,R,R,vec [],R,R⟩)))
  refine Zc (c7 _ (aG [0,1,7,8] [1000] ?_))
  exact aR (Ze h6 fun x5 ex5 h7=>(sQ R (Zx R iL iL (fun _=>ex5)) (mM R (Zk (ZC h7 (vec [n1]) wk)))))
 exact Zw (wK2 _ _ wk (J1 _ (vec [(i3 0)]) (hx1 _ (Za h3).symm)))
theorem YBr {w1:YAW} {s1:List YAW} {r:Bool} {gb1000:Nat} (h:YAO w1 s1=some r):AHC Tryz.prog 181 1 [qc s1,.fn 182 [.ptr 1000 gb1000 0 0]] [(1000,some (.box gb1000 174 (k22_ w1)))] (fun rr h'=>∃ (i:Nat→Nat),rr=rB (r)∧h'=[(1000,some (.box gb1000 174 (k22_ w1)))]):=by
 unfold YAO at h
 refine AHC.mkw Tryz.func181 R R Tryz.ntmps181 (ZN R) fun n0=>aU (mA R (aZ (aT fun c2=>(aR (mM R (mM R (Ze h fun r1 er1 h1=>?_)))))))
 refine AOps.stepHI [1000] (hc:=[(1000,some (.box gb1000 174 (k22_ w1)))]) (bs:=[qc s1,.fn 182 [.ptr 1000 gb1000 0 0]]) (caps:=[]) R R R R iL R ⟨.inl ⟨iL,R⟩,.inl ⟨iL,R⟩,Zb⟩ ⟨R,R,R,Zb⟩ (by decide) (YCC er1) ?_
 intro i1 n1
 refine aGo [0,1,4,5,6,7] [1000] ?_
 refine sQ R (YC1 R iL iL) (mA R (oZ c2 ?_))
 exact Zd (RetW.mk (s':=⟨[(4,rB ((decide (0≤r1))))],[(1000,some (.box gb1000 174 (k22_ w1)))],n1,9⟩) wk (YAu (fun (r:Bool) rr h'=>∃ (i:Nat→Nat),rr=rB (r)∧h'=[(1000,some (.box gb1000 174 (k22_ w1)))]) h1 (by exact ⟨rB ((decide (0≤r1))),[(1000,some (.box gb1000 174 (k22_ w1)))],R,⟨.inr R,Zb⟩,R,R,vec [],R,R⟩)))
theorem YOm {g1 r} (h:YGc g1=some r):ARO Tryz.prog 140 (k17_ g1) (rI (r)):=by
 unfold YGc at h
 refine mF Tryz.func140 Tryz.ntmps140 R fun n0=>aU (sS R (ZB (cs:=(k20_ g1)) 1 R iL R R) (mA R (aZ (aT fun c2=>(aU (lF YE6 ts_3 R R (sQ R (Zo R iL iL) (mM R (vF YE6 ts_3 R R (vQ R (ZF R (iR R) iL) (sQ R (Zr R iL (iR R)) (mM R (vF YE5 ts_3 R R (vQ R (Zo R (iR R) iL) (sQ R (Zr R iL (iR R)) (mM R (vF YE5 ts_3 R R (vQ R (ZF R (iR R) iL) (sQ R (Zr R iL (iR R)) (aZ (cI R h (fun h1=>?_) fun h1=>?_)))))))))))))))))))))
 ·refine aT fun c4=>(aF [] ?_)
  exact aR (mA R (aZ (c4 _ (Zd (Y1_ h1 iL (.t (.d R)))))))
 refine Zc (c2 _ (aT fun c5=>(aT fun c6=>(aG [1] [1] ?_))))
 refine aR (lF YEX YIa R R (lF YE6 ts_3 R R (lF YE5 ts_3 R R (Ze h1 fun e1 ee1 h2=>(cL (YOl (ee1)) R (mA R (aZ (c6 _ (aU (mM R (sQ R (Zu R iL iL) (aZ (cI R h2 (fun h3=>?_) fun h3=>?_)))))))))))))
 ·refine aT fun c8=>(aF [3] ?_)
  exact aR (mM R (mA R (aZ (c8 _ (Zd (Y1_ h3 iL (.t (.d R))))))))
 refine Zc (c5 _ (aS fun K9 c9 wK9=>(aT fun c10=>(aG [1] [1] ?_))))
 refine aR (lF YD3 YHG R R (sQ R (Zq R YFa.slice iL) (mM R (aZ (c10 _ (Zg (jc1k h3 fun o1 hit1 hk1 he1=>?_)))))))
 have J1 : ∀ (u2:Unit) (i5:Nat→Nat),o1 = .nrm u2→K9 ⟨[],[],(i5 0),81⟩:=by
  intro u2 i5 e
  have h4:=hk1 _ e
  exact c9 _ (aU (mA R (aZ (Zd (Y1_ h4 iL (.t (.d R)))))))
 refine ZE (fun (x2:Int) i3=>⟨[(1,.ptr 1 n0 0 0),(35,qc g1.Merges),(36,rI ((g1.Merges.length:Int))),(37,rI (x2))],[(1,some (.box n0 59 (k20_ g1)))],(i3 0),81⟩) (vec [(n0+1)]) hit1 wk ?_
 intro x2 i3 v1 hv1 hx1
 have h5:YEN g1 x2=some v1:=hv1; unfold YEN at h5
 refine aU (sQ R (Zo R iL iL) (aZ (aT fun c13=>(cI R h5 (fun h6=>?_) fun h6=>?_))))
 ·refine Zc (c13 _ (aT fun c14=>(Zg (aU (mM R (Ze h6 fun x4 ex4 h7=>(sQ R (Zp R YFa.slice iL iL (fun _=>R) (fun _=>ex4)) (sQ R (Zy (cs:=(k22_ x4)) R YFb iL R R) (sS R (ZH (cs:=[rI (0),rI (0),rI (0),rI (0)]) 5 R YWh R R) (mA R (Zv R R (Zs (ds:=(k22_ x4)) R YWd iL R iL R R R R) (aZ (Zg (aU (sQ R (Zn R YFb iL R R) (lF YE6 ts_3 R R (lF YE5 ts_3 R R (Ze h7 fun r1 er1 h8=>(cL (YNb (er1)) R (sQ R (Zz R iL) (mA R (aZ (cI R h8 (fun h9=>?_) fun h9=>?_)))))))))))))))))))))))
  ·refine aT fun c17=>(aF [] ?_)
   exact aR (mA R (aZ (c17 _ (Zd (Y1_ (he1 _ (hx1 _ (Za h9).symm)) iL (.t (.d R)))))))
  refine aT fun c18=>(aG [1,4,5,35,36,37] [1,5] ?_)
  refine aR (lF YFF ts_3 R R (sQ R (Zh R iL iL) (mM R (vF YFE ts_3 R R (vQ R (Zh R (iR R) iL) (sQ R (Zj R iL (iR R)) (mA R (aZ (c18 _ (cI R h9 (fun h10=>?_) fun h10=>?_))))))))))
  ·refine aT fun c19=>(aF [] ?_)
   exact aR (mA R (aZ (c19 _ (Zd (Y1_ (he1 _ (hx1 _ (Za h10).symm)) iL (.t (.d R)))))))
  refine aT fun c20=>?_
  refine ZI hmix (by kernel_rfl) ?_
  refine qP R (Zf R iL) (qP R (ZF R iL iL) (qP R (Zf R iL) (qO R (fB R YD3 iL fR R) (qO R (Zi (a:=qc g1.Merges) R YHG (iR R) R R) (qO R (Zf R iL) (Ze h10 fun x5 ex5 h11=>qO R (YBg R (iR R) iL (gdt ex5)) (Ze h11 fun x6 ex6 h12=>qO R (Zp R YFa.slice (iR R) (iR R) (fun _=>R) (gdt ex6)) (qO R (Zy (cs:=(k22_ x6)) R YFb (iR R) R R) (qO R (Zn R YFb iL R R) (Ze h12 fun r2 er2 h13=>AQ.stepWC (.one R R R) R R (r:=rB (r2)) (caps:=[]) (bs:=[.agg (k22_ x6),.agg (k22_ x4)]) R iL R ⟨⟨_,(iR R),.g (cs:=[.int .i64 x6.Row,.int .i64 x6.Col,.int .i64 x6.H,.int .i64 x6.W]) R R⟩,⟨_,(iR R),.g (cs:=[.int .i64 x4.Row,.int .i64 x4.Col,.int .i64 x4.H,.int .i64 x4.W]) R R⟩,Zb⟩ (fun hg=>YNc (gdt er2 hg)) R (qO R (Zz R (iR R)) (qP R (Zj R iL (iR R)) (qP R (YCI R iL) (AQ.nil (c20 _ (cI R h13 (fun h14=>?_) fun h14=>?_))))))))))))))))
  ·refine aT fun c21=>(aF [] ?_)
   exact aR (mA R (aZ (c21 _ (Zd (Y1_ (he1 _ (hx1 _ (Za h14).symm)) iL (.t (.d R)))))))
  refine aT fun c22=>(aG [1,4,5,35,36,37] [1,5] ?_)
  refine aR (lF YD3 YHG R R (mM R (Ze h14 fun l1 el1 h15=>?_)))
  refine sQ R (YN6 R YFa.slice iL (by exact R) (by exact ⟨_,iL⟩) (fun _=>R) (fun _=>el1)) ?_
  refine sQ R (YLT (bs:=[.ptr 5 (i3 0) 0 0]) R (by exact ⟨iL,Zb⟩)) ?_
  refine Ze h15 fun r3 er3 h16=>?_
  refine AOps.stepHI [5] (hc:=[(1000,some (.box (i3 0) 174 (k22_ x4)))]) (bs:=[qc l1,.fn 182 [.ptr 1000 (i3 0) 0 0]]) (caps:=[]) R R R R iL R ⟨.inl ⟨iL,R⟩,.inl ⟨iL,R⟩,Zb⟩ ⟨R,R,R,Zb⟩ (by decide) (YBr er3) ?_
  intro i6 n1
  refine aGo [1,4,5,35,36,37,74,75,76,77,78,79] [1,5] ?_
  refine mA R (aZ (c22 _ (cI R h16 (fun h17=>?_) fun h17=>?_)))
  ·refine aT fun c23=>(aF [] ?_)
   exact aR (mA R (aZ (c23 _ (Zd (Y1_ (he1 _ (hx1 _ (Za h17).symm)) iL (.t (.d R)))))))
  refine Zc (c14 _ (aG [1,35,36,37] [1] ?_))
  exact aR (Ze h17 fun x7 ex7 h18=>(sQ R (Zx R iL iL (fun _=>ex7)) (mM R (Zk (ZC h18 (vec [n1]) wk)))))
 exact Zw (wK9 _ _ wk (J1 _ (vec [(i3 0)]) (hx1 _ (Za h6).symm)))
theorem YKU {k l1 r} (h:YDd k l1=some r):ARO Tryz.prog 141 [rI (k),qd l1] (rI (r)):=by
 unfold YDd at h
 refine mF Tryz.func141 Tryz.ntmps141 R fun n0=>aU (mA R (aZ (aS fun K2 c2 wK2=>(aU (mM R (sQ R (Zq R YDz.slice iL) (mM R (aZ (Zg (jc1k h fun o1 hit1 hk1 he1=>?_))))))))))
 have J1 : ∀ (u2:Unit) (i5:Nat→Nat),o1 = .nrm u2→K2 ⟨[],[],(i5 0),36⟩:=by
  intro u2 i5 e
  have h1:=hk1 _ e
  exact c2 _ (aU (mA R (aZ (Zd (Y1_ h1 iL (.t (.d R)))))))
 refine ZE (fun (x2:Int) i3=>⟨[(0,rI (k)),(7,qd l1),(8,rI ((l1.length:Int))),(9,rI (x2))],[],(i3 0),36⟩) (vec [n0]) hit1 wk ?_
 intro x2 i3 v1 hv1 hx1
 have h2:YCN k l1 x2=some v1:=hv1; unfold YCN at h2
 refine aU (sQ R (Zo R iL iL) (aZ (aT fun c6=>(cI R h2 (fun h3=>?_) fun h3=>?_))))
 ·refine Zc (c6 _ (aT fun c7=>(Zg (aU (Ze h3 fun x4 ex4 h4=>(sQ R (Zp R YDz.slice iL iL (fun _=>R) (fun _=>ex4)) (sQ R (Zy (cs:=(k13_ x4)) R YF2 iL R R) (sS R (ZH (cs:=z16_) 6 R YMx R R) (Zv R R (Zs (ds:=(k13_ x4)) R YMs iL R iL R R R R) (aZ (aU (mM R (sQ R (Zh R iL iL) (mM R (vF YEi ts_9 R R (vQ R (YCH R (iR R) iL) (vQ R (Zf R (iR R)) (wQ R (fB R YEh iL fR R) (wQ R (Zi (a:=qa x4.Attrs) R YCf (iR R) R R) (wQ R (Zq R YBs.slice (iR R)) (wQ R (ZF R (iR R) iL) (vQ R (Zr R (iR R) (iR R)) (sQ R (Zj R iL (iR R)) (mM R (vM R (vQ R (Zh R (iR R) iL) (vQ R (Zf R (iR R)) (wQ R (fB R YCU iL fR R) (wQ R (Zi (a:=rI (x4.Ref)) R ts_3 (iR R) R R) (wQ R (Zu R (iR R) iL) (vQ R (Zj R (iR R) (iR R)) (sQ R (Zr R iL (iR R)) (aZ (cI R h4 (fun h5=>?_) fun h5=>?_))))))))))))))))))))))))))))))))))
  ·refine aT fun c10=>(aF [] ?_)
   exact aR (mA R (aZ (c10 _ (Zd (Y1_ (he1 _ (hx1 _ (Za h5).symm)) iL (.t (.d R)))))))
  refine Zc (c7 _ (aF [0,7,8,9] ?_))
  exact aR (Ze h5 fun x5 ex5 h6=>(sQ R (Zx R iL iL (fun _=>ex5)) (mM R (Zk (ZC h6 (vec [((i3 0)+1)]) wk)))))
 exact Zw (wK2 _ _ wk (J1 _ (vec [(i3 0)]) (hx1 _ (Za h3).symm)))
theorem YKt {s1 r} (h:YEA s1=some r):ARO Tryz.prog 228 [.r (.str s1)] (rB (r)):=by
 unfold YEA at h
 refine mF Tryz.func228 Tryz.ntmps228 R fun n0=>aU (mA R (aZ (aT fun c2=>(aU (mM R (sQ R (YD6 R iL iL) (mM R (vM R (vQ R (YAj R Tryz.underlying9 (iR R)) (vQ R (ZF R (iR R) iL) (sQ R (Zr R iL (iR R)) (mM R (vM R (vM R (vQ R (YAj R Tryz.underlying9 (iR R)) (Ze h fun x1 ex1 h1=>(vQ R (YBg R (iR R) iL (gdt ex1)) (Ze h1 fun ch1 ech1 h2=>(vQ R (ZL R Tryz.underlying9 (iR R) (iR R) (gdt ech1)) (vQ R (Zh R (iR R) iL) (sQ R (Zr R iL (iR R)) (aZ (cI R h2 (fun h3=>?_) fun h3=>?_)))))))))))))))))))))))
 ·refine aT fun c4=>(aF [] ?_)
  exact aR (mA R (aZ (c4 _ (Zd (Y2_ h3 iL (.t (.d R)))))))
 refine Zc (c2 _ (aS fun K5 c5 wK5=>(aT fun c6=>(aF [0] ?_))))
 refine aR (mM R (sQ R (YAj R Tryz.underlying9 iL) (mM R (aZ (c6 _ (Zg (jc1k h3 fun o1 hit1 hk1 he1=>?_)))))))
 have J1 : ∀ (u2:Unit) (i5:Nat→Nat),o1 = .nrm u2→K5 ⟨[],[],(i5 0),35⟩:=by
  intro u2 i5 e
  have h4:=hk1 _ e
  exact c5 _ (aU (mA R (aZ (Zd (Y2_ h4 iL (.t (.d R)))))))
 refine ZE (fun (x3:Int) i3=>⟨[(0,.r (.str s1)),(20,rI ((s1.length:Int))),(21,rI (x3))],[],(i3 0),35⟩) (vec [n0]) hit1 wk ?_
 intro x3 i3 v1 hv1 hx1
 have h5:YDf s1 x3=some v1:=hv1; unfold YDf at h5
 refine aU (sQ R (Zo R iL iL) (aZ (aT fun c9=>(cI R h5 (fun h6=>?_) fun h6=>?_))))
 ·refine Zc (c9 _ (aT fun c10=>(Zg (aU (mM R (mA R (aZ (aU (mM R (mM R (Ze h6 fun ch2 ech2 h7=>(sQ R (ZL R Tryz.underlying9 iL iL (fun _=>ech2)) (sQ R (Zo R iL iL) (mM R (vM R (vM R (vQ R (ZL R Tryz.underlying9 (iR R) (iR R) (fun _=>ech2)) (vQ R (ZF R (iR R) iL) (sQ R (Zr R iL (iR R)) (aZ (cI R h7 (fun h8=>?_) fun h8=>?_)))))))))))))))))))))
  ·refine aT fun c13=>(aF [] ?_)
   exact aR (mA R (aZ (c13 _ (Zd (Y2_ (he1 _ (hx1 _ (Za h8).symm)) iL (.t (.d R)))))))
  refine Zc (c10 _ (aF [0,20,21] ?_))
  exact aR (Ze h8 fun x5 ex5 h9=>(sQ R (Zx R iL iL (fun _=>ex5)) (mM R (Zk (ZC h9 (vec [(i3 0)]) wk)))))
 exact Zw (wK5 _ _ wk (J1 _ (vec [(i3 0)]) (hx1 _ (Za h6).symm)))
theorem YOd {o1 r} (h:YGM o1=some r):ARO Tryz.prog 184 (k6_ o1) (rI (r)):=by
 unfold YGM at h
 refine mF Tryz.func184 Tryz.ntmps184 R fun n0=>aU (sS R (ZB (cs:=(k8_ o1)) 1 R iL R R) (mA R (aZ (aT fun c2=>(Zg (aU (lF YD4 ts_3 R R (sQ R (Zu R iL iL) (mM R (vF YD4 ts_3 R R (vQ R (Zu R (iR R) iL) (sQ R (Zj R iL (iR R)) (mA R (aZ (cI R h (fun h1=>?_) fun h1=>?_)))))))))))))))
 ·refine aT fun c4=>(aF [] ?_)
  exact aR (mA R (aZ (c4 _ (Zd (Y1_ h1 iL (.t (.d R)))))))
 refine aT fun c5=>(aG [1] [1] ?_)
 refine aR (lF YFG ts_3 R R (sQ R (Zo R iL iL) (mM R (vF YFG ts_3 R R (vQ R (ZF R (iR R) iL) (sQ R (Zr R iL (iR R)) (mM R (vF YGn ts_3 R R (vQ R (Zo R (iR R) iL) (sQ R (Zr R iL (iR R)) (mM R (vF YGn ts_3 R R (vQ R (ZF R (iR R) iL) (sQ R (Zr R iL (iR R)) (mM R (vF YNi ts_3 R R (vQ R (Zo R (iR R) iL) (sQ R (Zr R iL (iR R)) (mM R (vF YNi ts_3 R R (vQ R (ZF R (iR R) iL) (sQ R (Zr R iL (iR R)) (mA R (aZ (c5 _ (cI R h1 (fun h2=>?_) fun h2=>?_))))))))))))))))))))))))))
 ·refine aT fun c6=>(aF [] ?_)
  exact aR (mA R (aZ (c6 _ (Zd (Y1_ h2 iL (.t (.d R)))))))
 refine aS fun K7 c7 wK7=>(aT fun c8=>(aG [1] [1] ?_))
 refine aR (lF YD4 ts_3 R R (sQ R (Zh R iL iL) (mM R (vF YKd ts_9 R R (vQ R (YCH R (iR R) iL) (vQ R (Zf R (iR R)) (wQ R (fB R YH1 iL fR R) (wQ R (Zi (a:=.r (.str o1.Value)) R ts_9 (iR R) R R) (wQ R (YCH R (iR R) iL) (vQ R (Zr R (iR R) (iR R)) (sQ R (Zj R iL (iR R)) (mA R (aZ (c8 _ (jb1k h2 fun p1 hp1 hk1=>?_)))))))))))))))
 have J1 : ∀ (x1:Bool) (i1:Nat→Nat),p1=x1→K7 ⟨[(1,.ptr 1 n0 0 0),(41,rB (x1))],[(1,some (.box n0 154 (k8_ o1)))],(i1 0),116⟩:=by
  intro x1 i1 e
  have h3:=hk1 _ e
  refine c7 _ (cI R h3 (fun h4=>?_) fun h4=>?_)
  ·exact aU (mA R (aZ (Zd (Y1_ h4 iL (.t (.d R))))))
  refine aU (lF YD4 ts_3 R R (sQ R (Zh R iL iL) (mM R (vF YIy ts_3 R R (vQ R (Zo R (iR R) iL) (vQ R (Zf R (iR R)) (wQ R (fB R YIy iL fR R) (wQ R (Zi (a:=rI (o1.Parent)) R ts_3 (iR R) R R) (wQ R (ZF R (iR R) iL) (vQ R (Zr R (iR R) (iR R)) (sQ R (Zj R iL (iR R)) (mA R (aZ (cI R h4 (fun h5=>?_) fun h5=>?_))))))))))))))
  ·refine aT fun c11=>(aF [] ?_)
   exact aR (mA R (aZ (c11 _ (Zd (Y1_ h5 iL (.t (.d R)))))))
  refine aS fun K12 c12 wK12=>(aT fun c13=>(aG [1] [1] ?_))
  refine aR (lF YD4 ts_3 R R (sQ R (Zh R iL iL) (mM R (vF YKe ts_9 R R (Ze h5 fun r1 er1 h6=>vL (fun hg=>YKt (gdt er1 hg)) R (vQ R (Zz R (iR R)) (sQ R (Zj R iL (iR R)) (mA R (aZ (c13 _ (jb1k h6 fun p2 hp2 hk2=>?_)))))))))))
  have J2 : ∀ (x2:Bool) (i2:Nat→Nat),p2=x2→K12 ⟨[(1,.ptr 1 n0 0 0),(82,rB (x2))],[(1,some (.box n0 154 (k8_ o1)))],(i2 0),116⟩:=by
   intro x2 i2 e
   have h7:=hk2 _ e
   refine c12 _ (cI R h7 (fun h8=>?_) fun h8=>?_)
   ·exact aU (mA R (aZ (Zd (Y1_ h8 iL (.t (.d R))))))
   refine aU (lF YD4 ts_3 R R (sQ R (Zh R iL iL) (mM R (vF YH1 ts_9 R R (vQ R (YCH R (iR R) iL) (sQ R (Zj R iL (iR R)) (mM R (vF YH1 ts_9 R R (Ze h8 fun r2 er2 h9=>vL (fun hg=>YEk (gdt er2 hg)) R (vQ R (Zz R (iR R)) (sQ R (Zj R iL (iR R)) (mA R (aZ (cI R h9 (fun h10=>?_) fun h10=>?_))))))))))))))
   ·refine aT fun c16=>(aF [] ?_)
    exact aR (mA R (aZ (c16 _ (Zd (Y1_ h10 iL (.t (.d R)))))))
   refine Zc (c2 _ (aT fun c17=>(aF [] ?_)))
   exact aR (mA R (aZ (c17 _ (Zd (Y1_ h10 iL (.t (.d R)))))))
  refine aC R (fun hc7=>?_) (fun hc7=>?_)
  ·have h11:=YDO hc7 hp2
   exact Zc (wK12 _ _ wk (J2 _ (vec [(i1 0)]) (Za h11).symm))
  ·have h11:=YDP hc7 hp2
   refine aG [1] [1] ?_
   exact aR (lF YD4 ts_3 R R (sQ R (Zh R iL iL) (mM R (vF YKd ts_9 R R (Ze h11 fun r3 er3 h12=>vL (fun hg=>YLF (gdt er3 hg)) R (vQ R (Zz R (iR R)) (sQ R (Zj R iL (iR R)) (mA R (Zk (wK12 _ _ wk (J2 _ (vec [(i1 0)]) (Za h12).symm)))))))))))
 refine aC R (fun hc8=>?_) (fun hc8=>?_)
 ·have h13:=YDO hc8 hp1
  exact Zc (wK7 _ _ wk (J1 _ (vec [(n0+1)]) (Za h13).symm))
 ·have h13:=YDP hc8 hp1
  refine aG [1] [1] ?_
  exact aR (lF YD4 ts_3 R R (sQ R (Zh R iL iL) (mM R (vF YIy ts_3 R R (vQ R (Zu R (iR R) iL) (vQ R (Zf R (iR R)) (wQ R (fB R YKe iL fR R) (wQ R (Zi (a:=.r (.str o1.Place)) R ts_9 (iR R) R R) (wQ R (YCH R (iR R) iL) (vQ R (Zr R (iR R) (iR R)) (sQ R (Zj R iL (iR R)) (mA R (Zk (wK7 _ _ wk (J1 _ (vec [(n0+1)]) (Za h13).symm)))))))))))))))
theorem YKR {a1 b1 r} (h:YDb a1 b1=some r):ARO Tryz.prog 174 [.agg (k8_ a1),.agg (k8_ b1)] (rI (r)):=by
 unfold YDb at h
 refine mF Tryz.func174 Tryz.ntmps174 R fun n0=>aU (sS R (ZB (cs:=(k8_ a1)) 2 R iL R R) (sS R (ZB (cs:=(k8_ b1)) 3 R iL R R) (mA R (aZ (aT fun c2=>(Ze h fun r1 er1 h1=>?_))))))
 refine rP 9 [pO 5 (.ptr 2 n0 0 0),pO 6 (rI (a1.Clock)),pO 7 (.ptr 3 (n0+1) 0 0),pO 8 (rI (b1.Clock)),pO 9 (rI (r1)),pO 10 (.ptr 2 n0 0 1),pO 11 (rI (a1.Site)),pO 12 (.ptr 3 (n0+1) 0 1),pO 13 (rI (b1.Site))] hmix R (by exact ⟨oB [(2,.ptr 2 n0 0 0)] [(2,some (.box n0 154 (k8_ a1)))] (fB R YFG (.inl R) (fun _=>R) R),oB [(5,.ptr 2 n0 0 0)] [(2,some (.box n0 154 (k8_ a1)))] (Zi (a:=rI (a1.Clock)) R ts_3 (.inl R) R R),oB [(3,.ptr 3 (n0+1) 0 0)] [(3,some (.box (n0+1) 154 (k8_ b1)))] (fB R YFG (.inl R) (fun _=>R) R),oB [(7,.ptr 3 (n0+1) 0 0)] [(3,some (.box (n0+1) 154 (k8_ b1)))] (Zi (a:=rI (b1.Clock)) R ts_3 (.inl R) R R),oD (fun _=>[(6,rI (a1.Clock)),(8,rI (b1.Clock))]) (fun _=>[]) (fun G1 e h' n=>YBb (r:=rI (r1)) (caps:=[]) (bs:=[rI (a1.Clock),rI (b1.Clock)]) R (.inl R) R ⟨⟨_,(.inl R),.d R⟩,⟨_,(.inl R),.d R⟩,Zb⟩ (fun _=>YDG (er1)) R),oB [(2,.ptr 2 n0 0 0)] [(2,some (.box n0 154 (k8_ a1)))] (fB R YGn (.inl R) (fun _=>R) R),oB [(10,.ptr 2 n0 0 1)] [(2,some (.box n0 154 (k8_ a1)))] (Zi (a:=rI (a1.Site)) R ts_3 (.inl R) R R),oB [(3,.ptr 3 (n0+1) 0 0)] [(3,some (.box (n0+1) 154 (k8_ b1)))] (fB R YGn (.inl R) (fun _=>R) R),oB [(12,.ptr 3 (n0+1) 0 1)] [(3,some (.box (n0+1) 154 (k8_ b1)))] (Zi (a:=rI (b1.Site)) R ts_3 (.inl R) R R),Zb⟩) fun G1 n1=>?_
 refine aGo [0,1,2,3,4,5,6,7,8,9,10,11,12,13] [2,3] ?_
 exact Ze h1 fun r2 er2 h2=>(cL (YDG (er2)) R (sS R (YA6 15 R YC3 (f:=(rInt .i64)) (l:=([r1,r2]:List Int)) ⟨R,⟨_,iL,R⟩,R,⟨_,iL,R⟩,Zb⟩ R (fun _=>R) R) (Ze h2 fun r3 er3 h3=>(cL (YJ5 (er3)) R (mA R (aZ (c2 _ (Zd (Y1_ h3 iL (.t (.d R)))))))))))
theorem YKu {l1 r} (h:YEB l1=some r):ARO Tryz.prog 142 [qf l1] (rI (r)):=by
 unfold YEB at h
 refine mF Tryz.func142 Tryz.ntmps142 R fun n0=>aU (mA R (aZ (aS fun K2 c2 wK2=>(aU (mM R (sQ R (Zq R YIb.slice iL) (mM R (aZ (Zg (jc1k h fun o1 hit1 hk1 he1=>?_))))))))))
 have J1 : ∀ (u2:Unit) (i5:Nat→Nat),o1 = .nrm u2→K2 ⟨[],[],(i5 0),31⟩:=by
  intro u2 i5 e
  have h1:=hk1 _ e
  exact c2 _ (aU (mA R (aZ (Zd (Y1_ h1 iL (.t (.d R)))))))
 refine ZE (fun (x2:Int) i3=>⟨[(0,qf l1),(6,qf l1),(7,rI ((l1.length:Int))),(8,rI (x2))],[],(i3 0),31⟩) (vec [n0]) hit1 wk ?_
 intro x2 i3 v1 hv1 hx1
 have h2:YCh l1 x2=some v1:=hv1; unfold YCh at h2
 refine aU (sQ R (Zo R iL iL) (aZ (aT fun c6=>(cI R h2 (fun h3=>?_) fun h3=>?_))))
 ·refine Zc (c6 _ (aT fun c7=>(Zg (aU (mM R (Ze h3 fun x4 ex4 h4=>(sQ R (Zp R YIb.slice iL iL (fun _=>R) (fun _=>ex4)) (sQ R (Zy (cs:=(k8_ x4)) R YI0 iL R R) (sS R (ZH (cs:=[rI (0),rI (0),rI (0),rI (0),rI (0),.r (.str []),.r (.str []),.r (.str [])]) 4 R YWi R R) (mA R (Zv R R (Zs (ds:=(k8_ x4)) R YWe iL R iL R R R R) (aZ (aT fun c9=>(aU (sQ R (Zn R YI0 iL R R) (Ze h4 fun e1 ee1 h5=>(cL (YOd (ee1)) R (mA R (aZ (aU (mM R (sQ R (Zu R iL iL) (aZ (cI R h5 (fun h6=>?_) fun h6=>?_))))))))))))))))))))))))
  ·refine aT fun c12=>(aF [5] ?_)
   exact aR (mM R (mA R (aZ (c12 _ (Zd (Y1_ (he1 _ (hx1 _ (Za h6).symm)) iL (.t (.d R))))))))
  refine Zc (c9 _ (aT fun c13=>(aG [0,3,4,6,7,8] [4] ?_)))
  refine ZI hmix (by kernel_rfl) ?_
  refine qP R (Zf R iL) (qP R (ZF R iL iL) (qP R (Zf R iL) (qO R (Zf R iL) (qO R (Zf R iL) (Ze h6 fun x5 ex5 h7=>qO R (YBg R (iR R) iL (gdt ex5)) (Ze h7 fun x6 ex6 h8=>qO R (Zp R YIb.slice (iR R) (iR R) (fun _=>R) (gdt ex6)) (qO R (Zy (cs:=(k8_ x6)) R YI0 (iR R) R R) (qO R (Zn R YI0 iL R R) (Ze h8 fun r1 er1 h9=>AQ.stepWC (.one R R R) R R (r:=rI (r1)) (caps:=[]) (bs:=[.agg (k8_ x6),.agg (k8_ x4)]) R iL R ⟨⟨_,(iR R),.g (cs:=[.int .i64 x6.Clock,.int .i64 x6.Site,.int .i64 x6.Kind,.int .i64 x6.Item,.int .i64 x6.Parent,.str x6.Place,.str x6.Name,.str x6.Value]) R R⟩,⟨_,(iR R),.g (cs:=[.int .i64 x4.Clock,.int .i64 x4.Site,.int .i64 x4.Kind,.int .i64 x4.Item,.int .i64 x4.Parent,.str x4.Place,.str x4.Name,.str x4.Value]) R R⟩,Zb⟩ (fun hg=>YKR (gdt er1 hg)) R (qO R (YC1 R (iR R) iL) (qP R (Zj R iL (iR R)) (AQ.nil (c13 _ (cI R h9 (fun h10=>?_) fun h10=>?_))))))))))))))
  ·refine aT fun c14=>(aF [] ?_)
   exact aR (mA R (aZ (c14 _ (Zd (Y1_ (he1 _ (hx1 _ (Za h10).symm)) iL (.t (.d R)))))))
  exact Zc (c7 _ (aR (Ze h10 fun x7 ex7 h11=>(sQ R (Zx R iL iL (fun _=>ex7)) (mM R (Zk (ZC h11 (vec [((i3 0)+1)]) wk)))))))
 exact Zw (wK2 _ _ wk (J1 _ (vec [(i3 0)]) (hx1 _ (Za h3).symm)))
theorem YLE {n1 r} (h:YAz n1=some r):ARO Tryz.prog 98 (k5_ n1) (rI (r)):=by
 unfold YAz at h
 refine mF Tryz.func98 Tryz.ntmps98 R fun n0=>aU (sS R (ZB (cs:=(k7_ n1)) 1 R iL R R) (mA R (aZ (aT fun c2=>(Zg (aU (lF YCT ts_3 R R (sQ R (Zo R iL iL) (mM R (vF YCT ts_3 R R (vQ R (ZF R (iR R) iL) (sQ R (Zr R iL (iR R)) (mA R (aZ (cI R h (fun h1=>?_) fun h1=>?_)))))))))))))))
 ·refine aT fun c4=>(aF [] ?_)
  exact aR (mA R (aZ (c4 _ (Zd (Y1_ h1 iL (.t (.d R)))))))
 refine aT fun c5=>(aG [1] [1] ?_)
 refine aR (lF YA9 ts_3 R R (sQ R (Zo R iL iL) (mM R (vF YA9 ts_3 R R (vQ R (YC1 R (iR R) iL) (sQ R (Zr R iL (iR R)) (mM R (vF YCT ts_3 R R (vQ R (Zh R (iR R) iL) (vF YA9 ts_3 R R (vQ R (Zh R (iR R) iL) (vQ R (YQN R Tryz.underlying4 (iR R) (iR R)) (sQ R (Zr R iL (iR R)) (mA R (aZ (c5 _ (cI R h1 (fun h2=>?_) fun h2=>?_)))))))))))))))))
 ·refine aT fun c6=>(aF [] ?_)
  exact aR (mA R (aZ (c6 _ (Zd (Y1_ h2 iL (.t (.d R)))))))
 refine Zc (c2 _ (aT fun c7=>(aT fun c8=>(aG [1] [1] ?_))))
 refine aR (lF YNg YCf R R (Ze h2 fun e1 ee1 h3=>(cL (YEl (ee1)) R (mA R (aZ (c8 _ (aU (mM R (sQ R (Zu R iL iL) (aZ (cI R h3 (fun h4=>?_) fun h4=>?_)))))))))))
 ·exact aU (mM R (mA R (aZ (Zd (Y1_ h4 iL (.t (.d R)))))))
 refine Zc (c7 _ (aT fun c11=>?_))
 refine ZI hmix (by kernel_rfl) ?_
 refine qP R (fB R YA9 iL fR R) (qP R (Zi (a:=rI (n1.Kind)) R ts_3 iL R R) (Ze h4 fun r1 er1 h5=>AQ.stepC R R R (r:=rB (r1)) (caps:=[]) (bs:=[rI (n1.Kind)]) R iL R ⟨⟨_,iL,.d R⟩,Zb⟩ (fun _=>YIV (er1)) R (qP R (Zf R iL) (qO R (fB R YA9 iL fR R) (qO R (Zi (a:=rI (n1.Kind)) R ts_3 (iR R) R R) (Ze h5 fun r2 er2 h6=>AQ.stepWC (.one R R R) R R (r:=rB (r2)) (caps:=[]) (bs:=[rI (n1.Kind)]) R iL R ⟨⟨_,(iR R),.d R⟩,Zb⟩ (fun hg=>YP6 (gdt er2 hg)) R (qP R (Zr R iL (iR R)) (qP R (fB R YA9 iL fR R) (qP R (Zi (a:=rI (n1.Kind)) R ts_3 iL R R) (Ze h6 fun grids1 egrids1 h7=>AQ.stepC R R R (r:=rB (grids1)) (caps:=[]) (bs:=[rI (n1.Kind)]) R iL R ⟨⟨_,iL,.d R⟩,Zb⟩ (fun _=>YP7 (egrids1)) R (qP R (YCI R iL) (qP R (YCI R iL) (AQ.nil (c11 _ (aT fun c12=>(aS fun K13 c13 wK13=>aG [1,4,5] [1] ?_))))))))))))))))
 refine aR (mM R (sQ R (Zz R iL) (mM R (vF YC0 YDy R R (vQ R (Zq R YAw.slice (iR R)) (vQ R (ZF R (iR R) iL) (sQ R (Zj R iL (iR R)) (mM R (vM R (vQ R (Zz R (iR R)) (vQ R (Zf R (iR R)) (wQ R (fB R YE4 iL fR R) (wQ R (YA5 (ds:=(k20_ n1.Grid)) R YSH (iR R) R R R) ?_)))))))))))))
 refine wQ R (ZD R tb_59 (q:=[]) (by exact Zb) (cs:=z14_) (by rfl)) ?_
 refine jb1k h7 fun p1 hp1 hk1=>?_
 have J1 : ∀ (x1:Bool) (i1:Nat→Nat),p1=x1→K13 ⟨[(1,.ptr 1 n0 0 0),(4,rB ((r1 || r2))),(5,rB (grids1)),(81,rB (x1))],[(1,some (.box n0 62 (k7_ n1)))],(i1 0),107⟩:=by
  intro x1 i1 e
  have h8:=hk1 _ e
  refine c13 _ (cI R h8 (fun h9=>?_) fun h9=>?_)
  ·exact aU (mA R (aZ (Zd (Y1_ h9 iL (.t (.d R))))))
  refine Zc (c12 _ (aT fun c15=>(Zg (aU (mM R (mA R (aZ (cI R h9 (fun h10=>?_) fun h10=>?_))))))))
  ·refine aT fun c17=>?_
   refine ZI hmix (by kernel_rfl) ?_
   exact qP R (fB R YC0 iL fR R) (qP R (Zi (a:=qb n1.Flow) R YDy iL R R) (qP R (fB R YA9 iL fR R) (qP R (Zi (a:=rI (n1.Kind)) R ts_3 iL R R) (AQ.stepC R R R (r:=rB (r1)) (caps:=[]) (bs:=[rI (n1.Kind)]) R iL R ⟨⟨_,iL,.d R⟩,Zb⟩ (fun _=>YIV (er1)) R (Ze h10 fun r4 er4 h11=>AQ.stepC R R R (r:=rI (r4)) (caps:=[]) (bs:=[qb n1.Flow,rB (r1)]) R iL R ⟨⟨_,iL,.d R⟩,⟨_,iL,.d R⟩,Zb⟩ (fun _=>YOn (er4)) R (qP R (YCI R iL) (AQ.nil (c17 _ (Zd (Y1_ h11 iL (.t (.d R))))))))))))
  refine aU (mM R (mA R (aZ (cI R h10 (fun h12=>?_) fun h12=>?_))))
  ·refine aT fun c19=>(aU (sQ R (fB R YE4 iL fR R) (sQ R (YA5 (ds:=(k20_ n1.Grid)) R YSH iL R R R) (Ze h12 fun e2 ee2 h13=>(cL (YOm (ee2)) R (mA R (aZ (aT fun c21=>(aG [1,6] [1] ?_)))))))))
   refine aR (mM R (sQ R (Zu R iL iL) (aZ (c21 _ (cI R h13 (fun h14=>?_) fun h14=>?_)))))
   ·exact aU (mM R (mA R (aZ (Zd (Y1_ h14 iL (.t (.d R)))))))
   exact Zc (c19 _ (aU (lF YA9 ts_3 R R (sQ R (fB R YE4 iL fR R) (lF YEX YIa R R (Ze h14 fun r5 er5 h15=>(cL (YKU (er5)) R (mA R (aZ (Zd (Y1_ h15 iL (.t (.d R)))))))))))))
  exact Zc (c15 _ (aU (lF YHR YMN R R (Ze h12 fun r6 er6 h16=>(cL (YKu (er6)) R (mA R (aZ (Zd (Y1_ h16 iL (.t (.d R)))))))))))
 refine AOps.split (((!(r1 || r2)) && (decide (0<(n1.Flow.length:Int)))) == false) (fun hg1=>?_) (fun hg1=>?_)
 ·have h17:=YDO hg1 hp1
  refine AOps.weak (by exact Weak.unw2 (e':=[(1,.ptr 1 n0 0 0),(4,rB ((r1 || r2))),(5,rB (grids1)),(51,rB ((r1 || r2))),(52,rB ((!(r1 || r2)))),(53,rB ((!(r1 || r2)))),(58,rB (((!(r1 || r2)) && (decide (0<(n1.Flow.length:Int)))))),(59,rB (((!(r1 || r2)) && (decide (0<(n1.Flow.length:Int)))))),(60,rB (grids1)),(61,rB ((!grids1))),(62,rB ((!grids1))),(63,.whn ((!grids1) == true) (.ptr 1 n0 0 4)),(64,.whn ((!grids1) == true) (.agg (k20_ n1.Grid))),(65,.whn ((!grids1) == true) (.agg z14_))]) hg1 ⟨.inl R,.inl R,.inl R,.inl R,.inl R,.inl R,.inl R,.inl R,.inr iL,.inr iL,.inr iL,.inr (.inr (.inl ⟨_,_,R,R⟩)),.inr (.inr (.inl ⟨_,_,R,R⟩)),.inr (.inr (.inl ⟨_,_,R,R⟩)),Zb⟩) ?_
  refine AOps.split ((!grids1) == true) (fun hg2=>?_) (fun hg2=>?_)
  ·have h18:=YDO hg2 h17
   refine AOps.weak (by exact Weak.unw2 (e':=[(1,.ptr 1 n0 0 0),(4,rB ((r1 || r2))),(5,rB (grids1)),(51,rB ((r1 || r2))),(52,rB ((!(r1 || r2)))),(53,rB ((!(r1 || r2)))),(58,rB (((!(r1 || r2)) && (decide (0<(n1.Flow.length:Int)))))),(59,rB (((!(r1 || r2)) && (decide (0<(n1.Flow.length:Int)))))),(60,rB (grids1)),(61,rB ((!grids1))),(62,rB ((!grids1))),(63,.ptr 1 n0 0 4),(64,.agg (k20_ n1.Grid)),(65,.agg z14_)]) hg2 ⟨.inl R,.inl R,.inl R,.inl R,.inl R,.inl R,.inl R,.inl R,.inl R,.inl R,.inl R,.inr iL,.inr iL,.inr iL,Zb⟩) ?_
   refine AOps.weak (by exact ZK (e':=[(1,.ptr 1 n0 0 0),(4,rB ((r1 || r2))),(5,rB (grids1)),(51,rB ((r1 || r2))),(52,rB ((!(r1 || r2)))),(53,rB ((!(r1 || r2)))),(58,rB (((!(r1 || r2)) && (decide (0<(n1.Flow.length:Int)))))),(59,rB (((!(r1 || r2)) && (decide (0<(n1.Flow.length:Int)))))),(60,rB (grids1)),(61,rB ((!grids1))),(62,rB ((!grids1))),(63,.ptr 1 n0 0 4),(64,.agg (k20_ n1.Grid)),(65,.agg [rI (0),rI (0),.r (.sl []),.r (.sl [])])]) (h':=[(1,some (.box n0 62 (k7_ n1)))]) ⟨jL,jL,jL,jL,jL,jL,jL,jL,jL,jL,jL,jL,jL,.inr ⟨_,_,R,R,⟨.inl R,.inl R,.inr (.inr ⟨R,R⟩),.inr (.inr ⟨R,R⟩),Zb⟩⟩,Zb⟩ ⟨.inl R,Zb⟩ nL) ?_
   exact Ze h18 fun r7 er7 h19=>AOps.stepGT (.one R R R) hg2 R R (YBb (r:=rB (r7)) (caps:=[]) (bs:=[.agg (k20_ n1.Grid),.agg [rI (0),rI (0),.r (.sl []),.r (.sl [])]]) R (.inl R) R ⟨⟨_,(.inl R),.g (cs:=[.int .i64 n1.Grid.Rows,.int .i64 n1.Grid.Cols,.sl (n1.Grid.Cells.map YAd.row),.sl (n1.Grid.Merges.map YAW.row)]) R R⟩,⟨_,(.inl R),.g (cs:=[.int .i64 0,.int .i64 0,.sl ([].map YAd.row),.sl ([].map YAW.row)]) R R⟩,Zb⟩ (fun _=>YP4 (er7)) R) (AOps.stepGT (.one R R R) hg2 R R (OpQ.spec (Zz R (.inl R)) _) (AOps.stepGT (.one R R R) hg1 R R (OpQ.spec (Zj R (.inl R) (.inl R)) _) (sQ R (Zr R iL iL) (mM R (vF YA9 ts_3 R R (Ze h19 fun r8 er8 h20=>vL (fun hg=>YIX (gdt er8 hg)) R (vQ R (Zz R (iR R)) (vQ R (Zf R (iR R)) (wQ R (fB R YHR iL fR R) (wQ R (Zi (a:=qf n1.Draw) R YMN (iR R) R R) (wQ R (Zq R YIb.slice (iR R)) (wQ R (ZF R (iR R) iL) (vQ R (Zj R (iR R) (iR R)) (sQ R (Zr R iL (iR R)) (Zk (wK13 _ _ wk (J1 _ (vec [(n0+1)]) (Za h20).symm)))))))))))))))))
  ·have h18:=YDP hg2 h17
   exact AOps.stepGF2 (.one R R R) hg2 R R (AOps.stepGF2 (.one R R R) hg2 R R (AOps.stepGT (.one R R R) hg1 R R (OpQ.spec (Zj R (.inl R) (iR R)) _) (sQ R (Zr R iL iL) (mM R (vF YA9 ts_3 R R (Ze h18 fun r9 er9 h21=>vL (fun hg=>YIX (gdt er9 hg)) R (vQ R (Zz R (iR R)) (vQ R (Zf R (iR R)) (wQ R (fB R YHR iL fR R) (wQ R (Zi (a:=qf n1.Draw) R YMN (iR R) R R) (wQ R (Zq R YIb.slice (iR R)) (wQ R (ZF R (iR R) iL) (vQ R (Zj R (iR R) (iR R)) (sQ R (Zr R iL (iR R)) (Zk (wK13 _ _ wk (J1 _ (vec [(n0+1)]) (Za h21).symm)))))))))))))))))
 ·have h17:=YDP hg1 hp1
  exact AOps.stepGF2 (.two R R R) (andF hg1) R R (AOps.stepGF2 (.two R R R) (andF hg1) R R (AOps.stepGF2 (.one R R R) hg1 R R (sQ R (Zr R iL (iR R)) (mM R (vF YA9 ts_3 R R (Ze h17 fun r10 er10 h22=>vL (fun hg=>YIX (gdt er10 hg)) R (vQ R (Zz R (iR R)) (vQ R (Zf R (iR R)) (wQ R (fB R YHR iL fR R) (wQ R (Zi (a:=qf n1.Draw) R YMN (iR R) R R) (wQ R (Zq R YIb.slice (iR R)) (wQ R (ZF R (iR R) iL) (vQ R (Zj R (iR R) (iR R)) (sQ R (Zr R iL (iR R)) (Zk (wK13 _ _ wk (J1 _ (vec [(n0+1)]) (Za h22).symm)))))))))))))))))
theorem YXD {f1 r} (h:YPV f1=some r):ARO Tryz.prog 144 [qb f1] (.r (.sl (r.map (rInt .i64)))):=by
 unfold YPV at h
 refine mF Tryz.func144 Tryz.ntmps144 R fun n0=>aU (mA R (aZ (aU (mA R (aZ (aS fun K3 c3 wK3=>(aU (mM R (sQ R (Zq R YAw.slice iL) (mM R (aZ (Zg (jb1k h fun o1 hit1 hk1=>?_)))))))))))))
 have J1 : ∀ (out4:List Int) (i5:Nat→Nat),o1=out4→K3 ⟨[(3,.own 5003 (i5 0))],[(5003,some (.arr (i5 0) 3 1 (out4.map (rInt .i64))))],(i5 1),22⟩:=by
  intro out4 i5 e
  have h1:=hk1 _ e
  exact c3 _ (aU (mM R (mA R (aZ (Zd (YHd (P:=Tryz.prog) (fun (r:(List Int))=>.r (.sl (r.map (rInt .i64)))) h1 iL (.t (.one (.own R)))))))))
 refine AW.iter2 (fun (x2:Int) (out2:List Int) i3=>⟨[(3,.own 5003 (i3 0)),(6,qb f1),(7,rI ((f1.length:Int))),(8,rI (x2))],[(5003,some (.arr (i3 0) 3 1 (out2.map (rInt .i64))))],(i3 1),22⟩) (vec [n0,(n0+1)]) hit1 (Zl (Zl (ZM 3 5003 3 1 (by decide) R) (by exact ZK (e':=[(0,qb f1),(2,cZ),(3,.own 5003 n0),(6,qb f1),(7,rI ((f1.length:Int))),(8,rI (0))]) (h':=[(5003,some (.arr n0 3 1 (([]:List Int).map (rInt .i64))))]) ⟨jL,jL,jL,jL,jL,jL,Zb⟩ ⟨.inl R,Zb⟩ nL)) wk) ?_
 intro x2 out2 i3 v1 hv1 hx1
 have h2:YCP f1 x2 out2=some v1:=hv1; unfold YCP at h2
 refine aU (sQ R (Zo R iL iL) (aZ (aT fun c7=>(cI R h2 (fun h3=>?_) fun h3=>?_))))
 ·refine Zc (c7 _ (aS fun K8 c8 wK8=>(Zg (jb1k h3 fun p1 hp1 hk2=>?_))))
  have J2 : ∀ (out5:List Int) (i6:Nat→Nat),p1=out5→K8 ⟨[(3,.own 5003 (i6 0)),(6,qb f1),(7,rI ((f1.length:Int))),(8,rI (x2))],[(5003,some (.arr (i6 0) 3 1 (out5.map (rInt .i64))))],(i6 1),22⟩:=by
   intro out5 i6 e
   have h4:=hk2 _ e
   exact c8 _ (aR (Ze h4 fun x4 ex4 h5=>(sQ R (Zx R iL iL (fun _=>ex4)) (mM R (Zk (YDV.mk h5 (vec [(i6 0),(i6 1)]) wk))))))
  refine aU (Ze hp1 fun x5 ex5 h6=>(sQ R (Zp R YAw.slice iL iL (fun _=>R) (fun _=>ex5)) (sQ R (Zy (cs:=(k27_ x5)) R YJh iL R R) (sS R (ZH (cs:=z25_) 5 R YQG R R) (Zv R R (Zs (ds:=(k27_ x5)) R YOr iL R iL R R R R) (aZ (aU (lF YCS ts_3 R R (sQ R (Zu R iL iL) (aZ (cI R h6 (fun h7=>?_) fun h7=>?_)))))))))))
  ·exact aR (mM R (lF YCS ts_3 R R (sS R (YA6 18 R YC3 (f:=(rInt .i64)) (l:=([x5.Ref]:List Int)) ⟨R,⟨_,iL,R⟩,Zb⟩ R (fun _=>R) R) (Ze h7 fun out6 eout6 h8=>(sS R (YCr R YC3 iL R (.inr (.inl ⟨_,_,iL,R⟩)) eout6) (mA R (Zk (wK8 _ _ wk (J2 _ (vec [((i3 1)+2),((i3 1)+3)]) (Za h8).symm)))))))))
  exact Zc (wK8 _ _ wk (J2 _ (vec [(i3 0),((i3 1)+1)]) (Za h7).symm))
 exact Zw (wK3 _ _ wk (J1 _ (vec [(i3 0),(i3 1)]) (hx1 _ (Za h3).symm)))
theorem YNd {f1 r} (h:YFn f1=some r):AHC Tryz.prog 144 1 [qb f1] [] (fun rr h'=>∃ (i:Nat→Nat),rr = .own 1000 (i 0)∧h'=[(1000,some (.arr (i 0) 3 1 (r.map (rInt .i64))))]):=by
 unfold YFn at h
 refine AHC.mkw Tryz.func144 R R Tryz.ntmps144 (ZN R) fun n0=>aU (mA R (aZ (aU (mA R (aZ (aS fun K3 c3 wK3=>(aU (mM R (sQ R (Zq R YAw.slice iL) (mM R (aZ (Zg (jb1k h fun o1 hit1 hk1=>?_)))))))))))))
 have J1 : ∀ (out4:List Int) (i5:Nat→Nat),o1=out4→K3 ⟨[(3,.own 5003 (i5 0))],[(5003,some (.arr (i5 0) 3 1 (out4.map (rInt .i64))))],(i5 1),22⟩:=by
  intro out4 i5 e
  have h1:=hk1 _ e
  refine c3 _ (aU (mM R (mA R (aZ ?_))))
  exact Zd (RetW.mk (s':=⟨[(2,.own 1000 (i5 1))],[(1000,some (.arr (i5 1) 3 1 (out4.map (rInt .i64))))],((i5 1)+1),22⟩) (Zl (Zl (Weak.ren 2 5003 1000 R R R) (by exact ZK (e':=[(2,.own 1000 (i5 1))]) (h':=[(1000,some (.arr (i5 1) 3 1 (out4.map (rInt .i64))))]) ⟨jL,Zb⟩ ⟨.inl R,Zb⟩ nL)) wk) (YAu (fun (r:(List Int)) rr h'=>∃ (i:Nat→Nat),rr = .own 1000 (i 0)∧h'=[(1000,some (.arr (i 0) 3 1 (r.map (rInt .i64))))]) h1 (by exact ⟨.own 1000 (i5 1),[(1000,some (.arr (i5 1) 3 1 (out4.map (rInt .i64))))],R,⟨.inr R,Zb⟩,R,R,vec [(i5 1)],R,R⟩)))
 refine AW.iter2 (fun (x2:Int) (out2:List Int) i3=>⟨[(3,.own 5003 (i3 0)),(6,qb f1),(7,rI ((f1.length:Int))),(8,rI (x2))],[(5003,some (.arr (i3 0) 3 1 (out2.map (rInt .i64))))],(i3 1),22⟩) (vec [n0,(n0+1)]) hit1 (Zl (Zl (ZM 3 5003 3 1 (by decide) R) (by exact ZK (e':=[(0,qb f1),(2,cZ),(3,.own 5003 n0),(6,qb f1),(7,rI ((f1.length:Int))),(8,rI (0))]) (h':=[(5003,some (.arr n0 3 1 (([]:List Int).map (rInt .i64))))]) ⟨jL,jL,jL,jL,jL,jL,Zb⟩ ⟨.inl R,Zb⟩ nL)) wk) ?_
 intro x2 out2 i3 v1 hv1 hx1
 have h2:YBF f1 x2 out2=some v1:=hv1; unfold YBF at h2
 refine aU (sQ R (Zo R iL iL) (aZ (aT fun c7=>(cI R h2 (fun h3=>?_) fun h3=>?_))))
 ·refine Zc (c7 _ (aS fun K8 c8 wK8=>(Zg (jb1k h3 fun p1 hp1 hk2=>?_))))
  have J2 : ∀ (out5:List Int) (i6:Nat→Nat),p1=out5→K8 ⟨[(3,.own 5003 (i6 0)),(6,qb f1),(7,rI ((f1.length:Int))),(8,rI (x2))],[(5003,some (.arr (i6 0) 3 1 (out5.map (rInt .i64))))],(i6 1),22⟩:=by
   intro out5 i6 e
   have h4:=hk2 _ e
   exact c8 _ (aR (Ze h4 fun x4 ex4 h5=>(sQ R (Zx R iL iL (fun _=>ex4)) (mM R (Zk (YDV.mk h5 (vec [(i6 0),(i6 1)]) wk))))))
  refine aU (Ze hp1 fun x5 ex5 h6=>(sQ R (Zp R YAw.slice iL iL (fun _=>R) (fun _=>ex5)) (sQ R (Zy (cs:=(k27_ x5)) R YJh iL R R) (sS R (ZH (cs:=z25_) 5 R YQG R R) (Zv R R (Zs (ds:=(k27_ x5)) R YOr iL R iL R R R R) (aZ (aU (lF YCS ts_3 R R (sQ R (Zu R iL iL) (aZ (cI R h6 (fun h7=>?_) fun h7=>?_)))))))))))
  ·exact aR (mM R (lF YCS ts_3 R R (sS R (YA6 18 R YC3 (f:=(rInt .i64)) (l:=([x5.Ref]:List Int)) ⟨R,⟨_,iL,R⟩,Zb⟩ R (fun _=>R) R) (Ze h7 fun out6 eout6 h8=>(sS R (YCr R YC3 iL R (.inr (.inl ⟨_,_,iL,R⟩)) eout6) (mA R (Zk (wK8 _ _ wk (J2 _ (vec [((i3 1)+2),((i3 1)+3)]) (Za h8).symm)))))))))
  exact Zc (wK8 _ _ wk (J2 _ (vec [(i3 0),((i3 1)+1)]) (Za h7).symm))
 exact Zw (wK3 _ _ wk (J1 _ (vec [(i3 0),(i3 1)]) (hx1 _ (Za h3).symm)))
theorem YSB {n1 r} (h:YG2 n1=some r):ARO Tryz.prog 100 (k5_ n1) (.r (.sl (r.map (rInt .i64)))):=by
 unfold YG2 at h
 refine mF Tryz.func100 Tryz.ntmps100 R fun n0=>aU (sS R (ZB (cs:=(k7_ n1)) 1 R iL R R) (mA R (aZ (aT fun c2=>(aR (lF YC0 YDy R R (Ze h fun w1 ew1 h1=>?_)))))))
 refine AOps.stepHI [8] (hc:=[]) (bs:=[qb n1.Flow]) (caps:=[]) R R R R iL R ⟨.inl ⟨iL,R⟩,Zb⟩ Zb (by decide) (YNd ew1) ?_
 intro i1 n2
 refine aGo [0,1,2,6,7,8] [1,8] ?_
 refine mA R (aZ (c2 _ (aS fun K3 c3 wK3=>(aU (sQ R (fB R YE4 iL fR R) (lF YEX YIa R R (sQ R (Zq R YDz.slice iL) (mM R (aZ (Zg (jb1k h1 fun o1 hit1 hk1=>?_)))))))))))
 have J1 : ∀ (out4:List Int) (i6:Nat→Nat),o1=out4→K3 ⟨[(3,.own 8 (i6 0))],[(8,some (.arr (i6 0) 3 1 (out4.map (rInt .i64))))],(i6 1),27⟩:=by
  intro out4 i6 e
  have h2:=hk1 _ e
  exact c3 _ (aU (mM R (mA R (aZ (Zd (YHd (P:=Tryz.prog) (fun (r:(List Int))=>.r (.sl (r.map (rInt .i64)))) h2 iL (.t (.one (.own R)))))))))
 refine AW.iter2 (fun (x2:Int) (out2:List Int) i4=>⟨[(3,.own 8 (i4 0)),(11,qd n1.Grid.Cells),(12,rI ((n1.Grid.Cells.length:Int))),(13,rI (x2))],[(8,some (.arr (i4 0) 3 1 (out2.map (rInt .i64))))],(i4 1),27⟩) (vec [(i1 0),n2]) hit1 wk ?_
 intro x2 out2 i4 v1 hv1 hx1
 have h3:YB9 n1 x2 out2=some v1:=hv1; unfold YB9 at h3
 refine aU (sQ R (Zo R iL iL) (aZ (aT fun c7=>(cI R h3 (fun h4=>?_) fun h4=>?_))))
 ·refine Zc (c7 _ (aS fun K8 c8 wK8=>(Zg (jb1k h4 fun p1 hp1 hk2=>?_))))
  have J2 : ∀ (out5:List Int) (i7:Nat→Nat),p1=out5→K8 ⟨[(3,.own 8 (i7 0)),(11,qd n1.Grid.Cells),(12,rI ((n1.Grid.Cells.length:Int))),(13,rI (x2))],[(8,some (.arr (i7 0) 3 1 (out5.map (rInt .i64))))],(i7 1),27⟩:=by
   intro out5 i7 e
   have h5:=hk2 _ e
   exact c8 _ (aR (Ze h5 fun x4 ex4 h6=>(sQ R (Zx R iL iL (fun _=>ex4)) (mM R (Zk (YDV.mk h6 (vec [(i7 0),(i7 1)]) wk))))))
  refine aU (Ze hp1 fun x5 ex5 h7=>(sQ R (Zp R YDz.slice iL iL (fun _=>R) (fun _=>ex5)) (sQ R (Zy (cs:=(k13_ x5)) R YF2 iL R R) (sS R (ZH (cs:=z16_) 5 R YMx R R) (Zv R R (Zs (ds:=(k13_ x5)) R YMs iL R iL R R R R) (aZ (aU (lF YCU ts_3 R R (sQ R (Zu R iL iL) (aZ (cI R h7 (fun h8=>?_) fun h8=>?_)))))))))))
  ·exact aR (mM R (lF YCU ts_3 R R (sS R (YA6 23 R YC3 (f:=(rInt .i64)) (l:=([x5.Ref]:List Int)) ⟨R,⟨_,iL,R⟩,Zb⟩ R (fun _=>R) R) (Ze h8 fun out6 eout6 h9=>(sS R (YCr R YC3 iL R (.inr (.inl ⟨_,_,iL,R⟩)) eout6) (mA R (Zk (wK8 _ _ wk (J2 _ (vec [((i4 1)+2),((i4 1)+3)]) (Za h9).symm)))))))))
  exact Zc (wK8 _ _ wk (J2 _ (vec [(i4 0),((i4 1)+1)]) (Za h8).symm))
 exact Zw (wK3 _ _ wk (J1 _ (vec [(i4 0),(i4 1)]) (hx1 _ (Za h4).symm)))
theorem YIw {n1 i r} (h:YEf n1 i=some r):ARO Tryz.prog 116 [.agg (k7_ n1),rI (i)] (rI (r)):=by
 unfold YEf at h
 refine mF Tryz.func116 Tryz.ntmps116 R fun n0=>aU (sS R (ZB (cs:=(k7_ n1)) 2 R iL R R) (mA R (aZ (aT fun c2=>(Zg (aU (lF YCT ts_3 R R (mM R (sQ R (Zo R iL iL) (mA R (aZ (cI R h (fun h1=>?_) fun h1=>?_))))))))))))
 ·refine aT fun c4=>(aF [] ?_)
  exact aR (mA R (aZ (c4 _ (Zd (Y1_ h1 iL (.t (.d R)))))))
 refine aU (lF YCT ts_3 R R (mM R (sQ R (ZF R iL iL) (mA R (aZ (cI R h1 (fun h2=>?_) fun h2=>?_))))))
 ·refine aT fun c6=>(aF [] ?_)
  exact aR (mA R (aZ (c6 _ (Zd (Y1_ h2 iL (.t (.d R)))))))
 refine Zc (c2 _ (aT fun c7=>(aF [] ?_)))
 exact aR (mA R (aZ (c7 _ (Zd (Y1_ h2 iL (.t (.d R)))))))
theorem YBU {x1 a r} (h:YAU x1 a=some r):ARO Tryz.prog 115 [qe x1,rI (a),.fn 116 []] (.tup [rI (r.1),rB (r.2)]):=by
 unfold YAU at h
 refine mF Tryz.func115 Tryz.ntmps115 R fun n0=>aU (mA R (mA R (aZ (aU (mM R (sQ R (Zq R YDH.slice iL) (mA R (aZ (aU (mM R (mA R (mA R (aZ (aS fun K4 c4 wK4=>(Zg (jb1k h fun o1 hit1 hk1=>?_))))))))))))))))
 have J1 : ∀ (i8:Int) (i9:Nat→Nat),o1=i8→K4 ⟨[(0,qe x1),(1,rI (a)),(2,.fn 116 []),(8,rI ((x1.length:Int))),(9,rI (i8))],[],(i9 0),49⟩:=by
  intro i8 i9 e
  have h1:=hk1 _ e
  exact c4 _ (aU (mM R (mM R (mM R (sQ R (Zo R iL iL) (mM R (vM R (vM R (vM R (Ze h1 fun x2 ex2 h2=>(vQ R (Zp R YDH.slice (iR R) (iR R) (fun _=>R) (gdt ex2)) (vQ R (Zy (cs:=(k7_ x2)) R YIE (iR R) R R) (vM R (Ze h2 fun r1 er1 h3=>AOps.stepW (.one R R R) R R (YBb (r:=rI (r1)) (caps:=[]) (bs:=[.agg (k7_ x2),rI (a)]) R (iR R) R ⟨⟨_,(iR R),.g (cs:=[.int .i64 x2.ID,.int .i64 x2.Kind,.sl (x2.Attrs.map YAD.row),.sl (x2.Flow.map YAB.row),.int .i64 x2.Grid.Rows,.int .i64 x2.Grid.Cols,.sl (x2.Grid.Cells.map YAd.row),.sl (x2.Grid.Merges.map YAW.row),.sl (x2.Draw.map YAP.row)]) R R⟩,⟨_,(iR R),.d R⟩,Zb⟩ (fun hg=>YIw (gdt er1 hg)) R) (vQ R (Zh R (iR R) iL) (sQ R (Zj R iL (iR R)) (mA R (mA R (aZ (Zd (YCX (P:=Tryz.prog) (fun (r:Int × Bool)=>rI (r.1)) (fun (r:Int × Bool)=>rB (r.2)) h3 iL (.t (.d R)) (.t (.d R)))))))))))))))))))))))
 refine AW.iter2 (fun (i4:Int) (j2:Int) i5=>⟨[(0,qe x1),(1,rI (a)),(2,.fn 116 []),(8,rI ((x1.length:Int))),(9,rI (i4)),(10,rI (j2))],[],(i5 0),49⟩) (vec [n0]) hit1 wk ?_
 intro i4 j2 i5 v1 hv1 hx1
 have h4:YAH x1 a i4 j2=some v1:=hv1; unfold YAH at h4
 refine aT fun c6=>(aU (mM R (mM R (sQ R (Zo R iL iL) (aZ (cI R h4 (fun h5=>?_) fun h5=>?_))))))
 ·refine Zc (c6 _ (Zg (aU (mM R (mM R (Ze h5 fun x3 ex3 h6=>(sQ R (Zx R iL iL (fun _=>ex3)) (sQ R (ZG R Tryz.underlying3 Tryz.underlying145 iL) (sQ R (YOv (b:=1) R iL iL) (sQ R (ZG R Tryz.underlying145 Tryz.underlying3 iL) (mA R (aZ (aT fun c9=>(aF [0,1,2,8,9,10,11] ?_))))))))))))))
  refine aR (mM R (mM R (mM R (Ze h6 fun x4 ex4 h7=>(sQ R (Zp R YDH.slice iL iL (fun _=>R) (fun _=>ex4)) (sQ R (Zy (cs:=(k7_ x4)) R YIE iL R R) (mM R (Ze h7 fun r2 er2 h8=>(cL (YIw (er2)) R (sQ R (Zo R iL iL) (aZ (c9 _ (cI R h8 (fun h9=>?_) fun h9=>?_)))))))))))))
  ·refine aF [0,1,2,8,10,11] ?_
   exact aR (mM R (Ze h9 fun i10 ei10 h10=>(sQ R (Zx R iL iL (fun _=>ei10)) (mA R (Zk (YDV.mk h10 (vec [(i5 0)]) wk))))))
  refine aF [0,1,2,8,9,11] ?_
  exact aR (mM R (mA R (Zk (YDV.mk h9 (vec [(i5 0)]) wk))))
 exact Zw (wK4 _ _ wk (J1 _ (vec [(i5 0)]) (hx1 _ (Za h5).symm)))
theorem YMr {d1 i r} (h:YH8 d1 i=some r):ARO Tryz.prog 71 [.agg [qe d1.Nodes],rI (i)] (.tup [rI (r.1),rB (r.2)]):=by
 unfold YH8 at h
 exact mF Tryz.func71 Tryz.ntmps71 R fun n0=>aU (sS R (ZB (cs:=[qe d1.Nodes]) 2 R iL R R) (mA R (mA R (aZ (aU (lF YBG YD0 R R (mM R (ob2k h fun r1 r2 er1 h1=>(sS R (YBb (r:=.tup [rI (r1),rB (r2)]) (caps:=[]) (bs:=[qe d1.Nodes,rI (i),.fn 116 []]) R iL R ⟨⟨_,iL,.d R⟩,⟨_,iL,.d R⟩,⟨_,iL,.one (.closed (.fn 116 []) R)⟩,Zb⟩ (fun _=>YBU (er1)) R) (sQ R (Zt (a:=rI (r1)) R iL R) (sQ R (Zt (a:=rB (r2)) R iL R) (mA R (mA R (aZ (Zd (YCX (P:=Tryz.prog) (fun (r:Int × Bool)=>rI (r.1)) (fun (r:Int × Bool)=>rB (r.2)) h1 iL (.t (.d R)) (.t (.d R))))))))))))))))))
theorem YHE {s1 v1 r} (h:YCD s1 v1=some r):ARO Tryz.prog 73 [.r (.sl (s1.map (rInt .i64))),rI (v1)] (rI (r)):=by
 unfold YCD at h
 refine mF Tryz.func73 Tryz.ntmps73 R fun n0=>aU (mA R (aZ (aS fun K2 c2 wK2=>(aU (mM R (sQ R (Zq R YC3.slice iL) (mM R (aZ (Zg (jc1k h fun o1 hit1 hk1 he1=>?_))))))))))
 have J1 : ∀ (u2:Unit) (i5:Nat→Nat),o1 = .nrm u2→K2 ⟨[],[],(i5 0),19⟩:=by
  intro u2 i5 e
  have h1:=hk1 _ e
  exact c2 _ (aU (mA R (aZ (Zd (Y1_ h1 iL (.t (.d R)))))))
 refine ZE (fun (x2:Int) i3=>⟨[(0,.r (.sl (s1.map (rInt .i64)))),(1,rI (v1)),(7,rI ((s1.length:Int))),(8,rI (x2))],[],(i3 0),19⟩) (vec [n0]) hit1 wk ?_
 intro x2 i3 v2 hv1 hx1
 have h2:YBH s1 v1 x2=some v2:=hv1; unfold YBH at h2
 refine aU (sQ R (Zo R iL iL) (aZ (aT fun c6=>(cI R h2 (fun h3=>?_) fun h3=>?_))))
 ·refine Zc (c6 _ (aT fun c7=>(Zg (aU (mM R (mA R (aZ (aU (mM R (mM R (mM R (Ze h3 fun x4 ex4 h4=>(sQ R (Zp R YC3.slice iL iL (fun _=>R) (fun _=>ex4)) (sQ R (ZA (d:=.int .i64 x4) R ts_3 iL R) (sQ R (Zh R iL iL) (aZ (cI R h4 (fun h5=>?_) fun h5=>?_)))))))))))))))))
  ·refine aT fun c10=>(aF [5] ?_)
   exact aR (mM R (mA R (aZ (c10 _ (Zd (Y1_ (he1 _ (hx1 _ (Za h5).symm)) iL (.t (.d R))))))))
  refine Zc (c7 _ (aF [0,1,7,8] ?_))
  exact aR (Ze h5 fun x5 ex5 h6=>(sQ R (Zx R iL iL (fun _=>ex5)) (mM R (Zk (ZC h6 (vec [(i3 0)]) wk)))))
 exact Zw (wK2 _ _ wk (J1 _ (vec [(i3 0)]) (hx1 _ (Za h3).symm)))
theorem YDY {s1 v1 r} (h:YAo s1 v1=some r):ARO Tryz.prog 38 [.r (.sl (s1.map (rInt .i64))),rI (v1)] (rB (r)):=by
 unfold YAo at h
 exact mF Tryz.func38 Tryz.ntmps38 R fun n0=>aU (mA R (aZ (aU (mM R (mM R (Ze h fun r1 er1 h1=>(cL (YHE (er1)) R (sQ R (YC1 R iL iL) (mA R (aZ (Zd (Y2_ h1 iL (.t (.d R))))))))))))))
theorem YLC {p k r} (h:YEP p k=some r):ARO Tryz.prog 143 [rI (p),rI (k)] (rB (r)):=by
 unfold YEP at h
 refine mF Tryz.func143 Tryz.ntmps143 R fun n0=>aU (mA R (aZ (aU (mA R (aZ (aS fun K3 c3 wK3=>(aU (mM R (aZ (Zg (jb1k h fun p1 hp1 hk1=>?_)))))))))))
 have J1 : ∀ (l1:List Int) (i1:Nat→Nat),p1=l1→K3 ⟨[(1,rI (k)),(5,.r (.sl (l1.map (rInt .i64))))],[],(i1 0),29⟩:=by
  intro l1 i1 e
  have h1:=hk1 _ e
  exact c3 _ (aU (mM R (mM R (Ze h1 fun r1 er1 h2=>(cL (YDY (er1)) R (mA R (aZ (Zd (Y2_ h2 iL (.t (.d R)))))))))))
 refine aU (sQ R (Zh R iL iL) (mA R (aZ (aC R (fun hc1=>?_) (fun hc1=>?_)))))
 ·have h3:=YDO hc1 hp1
  refine aR (sS R (YA6 9 R YC3 (f:=(rInt .i64)) (l:=([1,6,7,10,11,12]:List Int)) ⟨R,⟨_,iL,R⟩,R,⟨_,iL,R⟩,R,⟨_,iL,R⟩,R,⟨_,iL,R⟩,R,⟨_,iL,R⟩,R,⟨_,iL,R⟩,Zb⟩ R (fun _=>R) R) (mA R (Zk ?_)))
  exact wK3 _ _ (Zl (by exact Weak.frz (e':=[(0,rI (p)),(1,rI (k)),(4,rB (false)),(5,.r (.sl ([1,6,7,10,11,12].map (rInt .i64)))),(6,rI (p)),(7,rB ((decide (p=0)))),(8,rB ((decide (p=0)))),(9,.r (.sl ([1,6,7,10,11,12].map (rInt .i64))))]) (h':=[]) 9 R ⟨jL,jL,jL,.inl (.inr (.inr ⟨R,R⟩)),jL,jL,jL,.inl (.inr (.inr ⟨R,R⟩)),Zb⟩ Zb) wk) (J1 _ (vec [(n0+1)]) (Za h3).symm)
 ·have h3:=YDP hc1 hp1
  refine aU (sQ R (Zh R iL iL) (mA R (aZ (cI R h3 (fun h4=>?_) fun h4=>?_))))
  ·refine aR (sS R (YA6 12 R YC3 (f:=(rInt .i64)) (l:=([2,4,5,10]:List Int)) ⟨R,⟨_,iL,R⟩,R,⟨_,iL,R⟩,R,⟨_,iL,R⟩,R,⟨_,iL,R⟩,Zb⟩ R (fun _=>R) R) (mA R (Zk ?_)))
   exact wK3 _ _ (Zl (by exact Weak.frz (e':=[(0,rI (p)),(1,rI (k)),(4,rB (false)),(5,.r (.sl ([2,4,5,10].map (rInt .i64)))),(6,rI (p)),(7,rB ((decide (p=0)))),(8,rB ((decide (p=0)))),(10,rB ((decide (p=1)))),(11,rB ((decide (p=1)))),(12,.r (.sl ([2,4,5,10].map (rInt .i64))))]) (h':=[]) 12 R ⟨jL,jL,jL,.inl (.inr (.inr ⟨R,R⟩)),jL,jL,jL,jL,jL,.inl (.inr (.inr ⟨R,R⟩)),Zb⟩ Zb) wk) (J1 _ (vec [(n0+1)]) (Za h4).symm)
  refine aU (sQ R (Zh R iL iL) (mA R (aZ (cI R h4 (fun h5=>?_) fun h5=>?_))))
  ·refine aF [1] ?_
   refine aR (sS R (YA6 15 R YC3 (f:=(rInt .i64)) (l:=([4,5,10]:List Int)) ⟨R,⟨_,iL,R⟩,R,⟨_,iL,R⟩,R,⟨_,iL,R⟩,Zb⟩ R (fun _=>R) R) (mA R (Zk ?_)))
   exact wK3 _ _ (Zl (by exact Weak.frz (e':=[(1,rI (k)),(5,.r (.sl ([4,5,10].map (rInt .i64)))),(15,.r (.sl ([4,5,10].map (rInt .i64))))]) (h':=[]) 15 R ⟨jL,.inl (.inr (.inr ⟨R,R⟩)),.inl (.inr (.inr ⟨R,R⟩)),Zb⟩ Zb) wk) (J1 _ (vec [(n0+1)]) (Za h5).symm)
  refine aS fun K9 c9 wK9=>(aU (sQ R (Zh R iL iL) (mA R (aZ (jb1k h5 fun p2 hp2 hk2=>?_)))))
  have J2 : ∀ (x1:Bool) (i2:Nat→Nat),p2=x1→K9 ⟨[(1,rI (k)),(5,cZ),(6,rI (p)),(16,rB (x1))],[],(i2 0),29⟩:=by
   intro x1 i2 e
   have h6:=hk2 _ e
   refine c9 _ (cI R h6 (fun h7=>?_) fun h7=>?_)
   ·refine aR (sS R (YA6 19 R YC3 (f:=(rInt .i64)) (l:=([5]:List Int)) ⟨R,⟨_,iL,R⟩,Zb⟩ R (fun _=>R) R) (mA R (Zk ?_)))
    exact wK3 _ _ (Zl (by exact Weak.frz (e':=[(1,rI (k)),(5,.r (.sl ([5].map (rInt .i64)))),(6,rI (p)),(16,rB (x1)),(19,.r (.sl ([5].map (rInt .i64))))]) (h':=[]) 19 R ⟨jL,.inl (.inr (.inr ⟨R,R⟩)),jL,jL,.inl (.inr (.inr ⟨R,R⟩)),Zb⟩ Zb) wk) (J1 _ (vec [((i2 0)+1)]) (Za h7).symm)
   refine aU (sQ R (Zh R iL iL) (mA R (aZ (cI R h7 (fun h8=>?_) fun h8=>?_))))
   ·refine aR (sS R (YA6 22 R YC3 (f:=(rInt .i64)) (l:=([3]:List Int)) ⟨R,⟨_,iL,R⟩,Zb⟩ R (fun _=>R) R) (mA R (Zk ?_)))
    exact wK3 _ _ (Zl (by exact Weak.frz (e':=[(1,rI (k)),(5,.r (.sl ([3].map (rInt .i64)))),(6,rI (p)),(16,rB (x1)),(20,rB ((decide (p=2)))),(21,rB ((decide (p=2)))),(22,.r (.sl ([3].map (rInt .i64))))]) (h':=[]) 22 R ⟨jL,.inl (.inr (.inr ⟨R,R⟩)),jL,jL,jL,jL,.inl (.inr (.inr ⟨R,R⟩)),Zb⟩ Zb) wk) (J1 _ (vec [((i2 0)+1)]) (Za h8).symm)
   refine aU (sQ R (Zh R iL iL) (mA R (aZ (cI R h8 (fun h9=>?_) fun h9=>?_))))
   ·refine aR (sS R (YA6 25 R YC3 (f:=(rInt .i64)) (l:=([8,9]:List Int)) ⟨R,⟨_,iL,R⟩,R,⟨_,iL,R⟩,Zb⟩ R (fun _=>R) R) (mA R (Zk ?_)))
    exact wK3 _ _ (Zl (by exact Weak.frz (e':=[(1,rI (k)),(5,.r (.sl ([8,9].map (rInt .i64)))),(6,rI (p)),(16,rB (x1)),(20,rB ((decide (p=2)))),(21,rB ((decide (p=2)))),(23,rB ((decide (p=7)))),(24,rB ((decide (p=7)))),(25,.r (.sl ([8,9].map (rInt .i64))))]) (h':=[]) 25 R ⟨jL,.inl (.inr (.inr ⟨R,R⟩)),jL,jL,jL,jL,jL,jL,.inl (.inr (.inr ⟨R,R⟩)),Zb⟩ Zb) wk) (J1 _ (vec [((i2 0)+1)]) (Za h9).symm)
   refine Zc ?_
   exact wK3 _ _ ((by exact ZK ⟨jL,.inl (.inr (.inr ⟨R,R⟩)),Zb⟩ Zb nL)) (J1 _ (vec [(i2 0)]) (Za h9).symm)
  refine aC R (fun hc7=>?_) (fun hc7=>?_)
  ·have h10:=YDO hc7 hp2
   exact Zc (wK9 _ _ wk (J2 _ (vec [n0]) (Za h10).symm))
  ·have h10:=YDP hc7 hp2
   refine aF [1,5,6] ?_
   exact aR (sQ R (Zh R iL iL) (mA R (Zk (wK9 _ _ wk (J2 _ (vec [n0]) (Za h10).symm)))))
theorem YLD {d1 k b r} (h:YEQ d1 k b=some r):ARO Tryz.prog 99 [.agg [qe d1.Nodes],rI (k),.r (.sl (b.map (rInt .i64)))] (rI (r)):=by
 unfold YEQ at h
 refine mF Tryz.func99 Tryz.ntmps99 R fun n0=>aU (sS R (ZB (cs:=[qe d1.Nodes]) 3 R iL R R) (mA R (aZ (aS fun K2 c2 wK2=>(aU (mM R (sQ R (Zq R YC3.slice iL) (mM R (aZ (Zg (jc1k h fun o1 hit1 hk1 he1=>?_)))))))))))
 have J1 : ∀ (u2:Unit) (i5:Nat→Nat),o1 = .nrm u2→K2 ⟨[],[],(i5 0),35⟩:=by
  intro u2 i5 e
  have h1:=hk1 _ e
  exact c2 _ (aU (mA R (aZ (Zd (Y1_ h1 iL (.t (.d R)))))))
 refine ZE (fun (x2:Int) i3=>⟨[(1,rI (k)),(3,.ptr 3 n0 0 0),(11,.r (.sl (b.map (rInt .i64)))),(12,rI ((b.length:Int))),(13,rI (x2))],[(3,some (.box n0 43 [qe d1.Nodes]))],(i3 0),35⟩) (vec [(n0+1)]) hit1 wk ?_
 intro x2 i3 v1 hv1 hx1
 have h2:YBv d1 k b x2=some v1:=hv1; unfold YBv at h2
 refine aU (sQ R (Zo R iL iL) (aZ (aT fun c6=>(cI R h2 (fun h3=>?_) fun h3=>?_))))
 ·refine Zc (c6 _ (aT fun c7=>(Zg (aU (Ze h3 fun x4 ex4 h4=>(sQ R (Zp R YC3.slice iL iL (fun _=>R) (fun _=>ex4)) (sQ R (ZA (d:=.int .i64 x4) R ts_3 iL R) (mA R (aZ (aU (sQ R (Zn R YDZ iL R R) (mM R (ob2k h4 fun r1 r2 er1 h5=>(cL (YMr (er1)) R (mM R (sQ R (Zt (a:=rI (r1)) R iL R) (sQ R (Zt (a:=rB (r2)) R iL R) (mA R (mA R (aZ (aT fun c10=>(aT fun c11=>(aG [1,3,9,10,11,12,13] [3] ?_)))))))))))))))))))))))
  refine aR (mM R (sQ R (Zz R iL) (aZ (c11 _ (cI R h5 (fun h6=>?_) fun h6=>?_)))))
  ·refine aT fun c12=>(aF [] ?_)
   exact aR (mA R (aZ (c12 _ (Zd (Y1_ (he1 _ (hx1 _ (Za h6).symm)) iL (.t (.d R)))))))
  refine Zc (c10 _ (aU (mM R (lF YBG YD0 R R (mM R (Ze h6 fun x5 ex5 h7=>(sQ R (Zp R YDH.slice iL iL (fun _=>R) (fun _=>ex5)) (sQ R (Zm R YA9 iL) (sQ R (ZA (d:=.int .i64 x5.Kind) R ts_3 iL R) (Ze h7 fun r3 er3 h8=>(cL (YLC (er3)) R (sQ R (Zz R iL) (aZ (cI R h8 (fun h9=>?_) fun h9=>?_))))))))))))))
  ·refine aT fun c14=>(aF [] ?_)
   exact aR (mA R (aZ (c14 _ (Zd (Y1_ (he1 _ (hx1 _ (Za h9).symm)) iL (.t (.d R)))))))
  refine Zc (c7 _ (aG [1,3,11,12,13] [3] ?_))
  exact aR (Ze h9 fun x6 ex6 h10=>(sQ R (Zx R iL iL (fun _=>ex6)) (mM R (Zk (ZC h10 (vec [(i3 0)]) wk)))))
 exact Zw (wK2 _ _ wk (J1 _ (vec [(i3 0)]) (hx1 _ (Za h3).symm)))
theorem YIY {d1 r} (h:YBh d1=some r):ARO Tryz.prog 58 [.agg [qe d1.Nodes]] (rI (r)):=by
 unfold YBh at h
 refine mF Tryz.func58 Tryz.ntmps58 R fun n0=>aU (sS R (ZB (cs:=[qe d1.Nodes]) 1 R iL R R) (mA R (aZ (aT fun c2=>(aU (lF YBG YD0 R R (sQ R (Zq R YDH.slice iL) (sQ R (Zh R iL iL) (aZ (cI R h (fun h1=>?_) fun h1=>?_))))))))))
 ·exact aU (mA R (aZ (Zd (Y1_ h1 iL (.t (.d R))))))
 refine Zc (c2 _ (aS fun K5 c5 wK5=>(aU (lF YBG YD0 R R (sQ R (Zq R YDH.slice iL) (mM R (aZ (Zg (jc1k h1 fun o1 hit1 hk1 he1=>?_)))))))))
 have J1 : ∀ (u2:Unit) (i5:Nat→Nat),o1 = .nrm u2→K5 ⟨[(1,.ptr 1 n0 0 0)],[(1,some (.box n0 43 [qe d1.Nodes]))],(i5 0),67⟩:=by
  intro u2 i5 e
  have h2:=hk1 _ e
  refine c5 _ (aS fun K7 c7 wK7=>(aU (lF YBG YD0 R R (sQ R (Zq R YDH.slice iL) (mM R (aZ (Zg (jc1k h2 fun o2 hit2 hk2 he2=>?_))))))))
  have J2 : ∀ (u4:Unit) (i10:Nat→Nat),o2 = .nrm u4→K7 ⟨[],[],(i10 0),67⟩:=by
   intro u4 i10 e
   have h3:=hk2 _ e
   exact c7 _ (aU (mA R (aZ (Zd (Y1_ h3 iL (.t (.d R)))))))
  refine ZE (fun (x5:Int) i8=>⟨[(1,.ptr 1 n0 0 0),(51,qe d1.Nodes),(52,rI ((d1.Nodes.length:Int))),(53,rI (x5))],[(1,some (.box n0 43 [qe d1.Nodes]))],(i8 0),67⟩) (vec [(i5 0)]) hit2 wk ?_
  intro x5 i8 v1 hv1 hx2
  have h4:YDB d1 x5=some v1:=hv1; unfold YDB at h4
  refine aU (sQ R (Zo R iL iL) (aZ (aT fun c11=>(cI R h4 (fun h5=>?_) fun h5=>?_))))
  ·refine Zc (c11 _ (aT fun c12=>(Zg (aU (Ze h5 fun x7 ex7 h6=>(sQ R (Zp R YDH.slice iL iL (fun _=>R) (fun _=>ex7)) (sQ R (Zy (cs:=(k7_ x7)) R YIE iL R R) (sS R (ZH (cs:=z4_) 7 R YQH R R) (Zv R R (Zs (ds:=(k7_ x7)) R YP9 iL R iL R R R R) (aZ (aT fun c14=>(Ze h6 fun r1 er1 h7=>?_))))))))))))
   refine rP 5 [pO 57 (.agg [qe d1.Nodes]),pO 58 (.ptr 7 (i8 0) 0 1),pO 59 (rI (x7.Kind)),pO 60 (.agg (k7_ x7)),pO 61 (.r (.sl (r1.map (rInt .i64))))] hmix R (by exact ⟨oB [(1,.ptr 1 n0 0 0)] [(1,some (.box n0 43 [qe d1.Nodes]))] (Zn R YDZ (.inl R) R R),oB [(7,.ptr 7 (i8 0) 0 0)] [(7,some (.box (i8 0) 62 (k7_ x7)))] (fB R YA9 (.inl R) (fun _=>R) R),oB [(58,.ptr 7 (i8 0) 0 1)] [(7,some (.box (i8 0) 62 (k7_ x7)))] (Zi (a:=rI (x7.Kind)) R ts_3 (.inl R) R R),oB [(7,.ptr 7 (i8 0) 0 0)] [(7,some (.box (i8 0) 62 (k7_ x7)))] (Zn R YIE (.inl R) R R),oD (fun _=>[(60,.agg (k7_ x7))]) (fun _=>[]) (fun G1 e h' n=>YBX (r:=.r (.sl (r1.map (rInt .i64)))) (caps:=[]) (bs:=(k5_ x7)) R (.inl R) R ⟨.inl ⟨(.inl R),R⟩,Zb⟩ (fun _=>YSB (er1))),Zb⟩) fun G1 n1=>?_
   refine aGo [1,7,51,52,53,54,55,56,57,58,59,60,61] [1,7] ?_
   refine Ze h7 fun e1 ee1 h8=>(cL (YLD (ee1)) R (mA R (aZ (c14 _ (aT fun c15=>(aG [1,8,51,52,53] [1] ?_))))))
   refine aR (mM R (sQ R (Zu R iL iL) (aZ (c15 _ (cI R h8 (fun h9=>?_) fun h9=>?_)))))
   ·exact aU (mM R (mA R (aZ (Zd (Y1_ (he2 _ (hx2 _ (Za h9).symm)) iL (.t (.d R)))))))
   exact Zc (c12 _ (aR (Ze h9 fun x8 ex8 h10=>(sQ R (Zx R iL iL (fun _=>ex8)) (mM R (Zk (ZC h10 (vec [n1]) wk)))))))
  exact Zw (wK7 _ _ wk (J2 _ (vec [(i8 0)]) (hx2 _ (Za h5).symm)))
 refine ZE (fun (x2:Int) i3=>⟨[(1,.ptr 1 n0 0 0),(14,qe d1.Nodes),(15,rI ((d1.Nodes.length:Int))),(16,rI (x2))],[(1,some (.box n0 43 [qe d1.Nodes]))],(i3 0),67⟩) (vec [(n0+1)]) hit1 wk ?_
 intro x2 i3 v2 hv2 hx1
 have h11:YB3 d1 x2=some v2:=hv2; unfold YB3 at h11
 refine aU (sQ R (Zo R iL iL) (aZ (aT fun c18=>(cI R h11 (fun h12=>?_) fun h12=>?_))))
 ·refine Zc (c18 _ (aT fun c19=>(Zg (aU (mM R (Ze h12 fun x9 ex9 h13=>(sQ R (Zp R YDH.slice iL iL (fun _=>R) (fun _=>ex9)) (sQ R (Zy (cs:=(k7_ x9)) R YIE iL R R) (sS R (ZH (cs:=z4_) 4 R YQH R R) (mA R (Zv R R (Zs (ds:=(k7_ x9)) R YP9 iL R iL R R R R) (aZ (aT fun c21=>(aU (sQ R (Zn R YIE iL R R) (Ze h13 fun e2 ee2 h14=>(cL (YLE (ee2)) R (mA R (aZ (aU (mM R (sQ R (Zu R iL iL) (aZ (cI R h14 (fun h15=>?_) fun h15=>?_))))))))))))))))))))))))
  ·refine aT fun c24=>(aF [5] ?_)
   exact aR (mM R (mA R (aZ (c24 _ (Zd (Y1_ (he1 _ (hx1 _ (Za h15).symm)) iL (.t (.d R))))))))
  refine Zc (c21 _ (aT fun c25=>(aG [1,3,4,14,15,16] [1,4] ?_)))
  refine ZI hmix (by kernel_rfl) ?_
  refine qP R (Zf R iL) (qP R (Zh R iL iL) (qP R (Zf R iL) (qO R (fB R YCT iL fR R) (qO R (Zi (a:=rI (x9.ID)) R ts_3 (iR R) R R) (qO R (Zu R (iR R) iL) (qP R (Zj R iL (iR R)) (qP R (Zf R iL) (qO R (Zf R iL) (qO R (ZF R (iR R) iL) (qO R (Zf R (iR R)) (qT R (fB R YCT iL fR R) (qT R (Zi (a:=rI (x9.ID)) R ts_3 (iR R) R R) (qT R (fB R YBG iL fR R) (qT R (Zi (a:=qe d1.Nodes) R YD0 (iR R) R R) (qT R (Zf R iL) (Ze h15 fun x10 ex10 h16=>qT R (YBg R (iR R) iL (gdt ex10)) (Ze h16 fun x11 ex11 h17=>qT R (Zp R YDH.slice (iR R) (iR R) (fun _=>R) (gdt ex11)) (qT R (Zm R YCT (iR R)) (qT R (ZA (d:=.int .i64 x11.ID) R ts_3 (iR R) R) (qT R (YFB R (iR R) (iR R)) (qO R (Zj R (iR R) (iR R)) (qP R (Zr R iL (iR R)) (AQ.nil (c25 _ (cI R h17 (fun h18=>?_) fun h18=>?_)))))))))))))))))))))))))
  ·refine aT fun c26=>(aF [] ?_)
   exact aR (mA R (aZ (c26 _ (Zd (Y1_ (he1 _ (hx1 _ (Za h18).symm)) iL (.t (.d R)))))))
  exact Zc (c19 _ (aR (Ze h18 fun x12 ex12 h19=>(sQ R (Zx R iL iL (fun _=>ex12)) (mM R (Zk (ZC h19 (vec [((i3 0)+1)]) wk)))))))
 exact Zw (wK5 _ _ wk (J1 _ (vec [(i3 0)]) (hx1 _ (Za h12).symm)))
theorem YIW {d1 i r} (h:YFq d1 i=some r):ARO Tryz.prog 36 [.agg [qe d1.Nodes],rI (i)] (rI (r)):=by
 unfold YFq at h
 refine mF Tryz.func36 Tryz.ntmps36 R fun n0=>aU (sS R (ZB (cs:=[qe d1.Nodes]) 2 R iL R R) (mA R (aZ (aT fun c2=>(aU (sQ R (Zn R YDZ iL R R) (mM R (ob2k h fun r1 r2 er1 h1=>(cL (YMr (er1)) R (mM R (sQ R (Zt (a:=rI (r1)) R iL R) (sQ R (Zt (a:=rB (r2)) R iL R) (mA R (mA R (aZ (aT fun c4=>(aF [5,6] ?_)))))))))))))))))
 refine aR (mM R (aZ (c4 _ (cI R h1 (fun h2=>?_) fun h2=>?_))))
 ·exact aU (mM R (mA R (aZ (Zd (Y1_ h2 iL (.t (.d R)))))))
 exact Zc (c2 _ (aU (mA R (aZ (Zd (Y1_ h2 iL (.t (.d R))))))))
theorem YJf {l1 n r} (h:YG4 l1 n=some r):ARO Tryz.prog 117 [qa l1,.r (.str n)] (.r (.str r)):=by
 unfold YG4 at h
 refine mF Tryz.func117 Tryz.ntmps117 R fun n0=>aU (mA R (aZ (aS fun K2 c2 wK2=>(aU (mM R (sQ R (Zq R YBs.slice iL) (mM R (aZ (Zg (jc1k h fun o1 hit1 hk1 he1=>?_))))))))))
 have J1 : ∀ (u2:Unit) (i5:Nat→Nat),o1 = .nrm u2→K2 ⟨[],[],(i5 0),20⟩:=by
  intro u2 i5 e
  have h1:=hk1 _ e
  exact c2 _ (aU (mA R (aZ (Zd (YHd (P:=Tryz.prog) (fun (r:(List UInt8))=>.r (.str r)) h1 iL (.t (.d R)))))))
 refine ZE (fun (x2:Int) i3=>⟨[(1,.r (.str n)),(7,qa l1),(8,rI ((l1.length:Int))),(9,rI (x2))],[],(i3 0),20⟩) (vec [n0]) hit1 wk ?_
 intro x2 i3 v1 hv1 hx1
 have h2:YFw l1 n x2=some v1:=hv1; unfold YFw at h2
 refine aU (sQ R (Zo R iL iL) (aZ (aT fun c6=>(cI R h2 (fun h3=>?_) fun h3=>?_))))
 ·refine Zc (c6 _ (aT fun c7=>(Zg (aU (Ze h3 fun x4 ex4 h4=>(sQ R (Zp R YBs.slice iL iL (fun _=>R) (fun _=>ex4)) (sQ R (Zy (cs:=(k26_ x4)) R YQF iL R R) (sS R (ZH (cs:=[.r (.str []),.r (.str [])]) 6 R YXM R R) (Zv R R (Zs (ds:=(k26_ x4)) R YXG iL R iL R R R R) (aZ (aU (lF YGm ts_9 R R (mM R (sQ R (YD6 R iL iL) (aZ (cI R h4 (fun h5=>?_) fun h5=>?_))))))))))))))))
  ·refine aT fun c10=>(aG [6] [6] ?_)
   exact aR (lF YHU ts_9 R R (mA R (aZ (c10 _ (Zd (YHd (P:=Tryz.prog) (fun (r:(List UInt8))=>.r (.str r)) (he1 _ (hx1 _ (Za h5).symm)) iL (.t (.d R))))))))
  exact Zc (c7 _ (aR (Ze h5 fun x5 ex5 h6=>(sQ R (Zx R iL iL (fun _=>ex5)) (mM R (Zk (ZC h6 (vec [((i3 0)+1)]) wk)))))))
 exact Zw (wK2 _ _ wk (J1 _ (vec [(i3 0)]) (hx1 _ (Za h3).symm)))
theorem YMA {x1 m r} (h:YEn x1 m=some r):ARO Tryz.prog 72 [.agg (k27_ x1),rI (m)] (rB (r)):=by
 unfold YEn at h
 exact mF Tryz.func72 Tryz.ntmps72 R fun n0=>aU (sS R (ZB (cs:=(k27_ x1)) 2 R iL R R) (mA R (aZ (aU (lF YGl YCf R R (Ze h fun r1 er1 h1=>(cL (YJf (er1)) R (sQ R (YD6 R iL iL) (mM R (vM R (vQ R (Zh R (iR R) iL) (vQ R (Zf R (iR R)) (wQ R (fB R YGl iL fR R) (wQ R (Zi (a:=qa x1.Attrs) R YCf (iR R) R R) (Ze h1 fun r2 er2 h2=>AOps.stepW (.two R R R) R R (YBb (r:=.r (.str r2)) (caps:=[]) (bs:=[qa x1.Attrs,.r (.str [99,117,116])]) R iL R ⟨⟨_,(iR R),.d R⟩,⟨_,iL,.d R⟩,Zb⟩ (fun hg=>YJf (gdt er2 hg)) R) (wQ R (YCH R (iR R) iL) (vQ R (Zj R (iR R) (iR R)) (sQ R (Zr R iL (iR R)) (mM R (vM R (vQ R (Zh R (iR R) iL) (vQ R (Zf R (iR R)) (wQ R (fB R YGl iL fR R) (wQ R (Zi (a:=qa x1.Attrs) R YCf (iR R) R R) (Ze h2 fun r3 er3 h3=>AOps.stepW (.two R R R) R R (YBb (r:=.r (.str r3)) (caps:=[]) (bs:=[qa x1.Attrs,.r (.str [97,100,100])]) R iL R ⟨⟨_,(iR R),.d R⟩,⟨_,iL,.d R⟩,Zb⟩ (fun hg=>YJf (gdt er3 hg)) R) (wQ R (YCH R (iR R) iL) (vQ R (Zj R (iR R) (iR R)) (sQ R (Zr R iL (iR R)) (mA R (aZ (Zd (Y2_ h3 iL (.t (.d R))))))))))))))))))))))))))))))))))
theorem YII {f1 m r} (h:YDm f1 m=some r):ARO Tryz.prog 37 [qb f1,rI (m)] (.r (.sl (r.map (rInt .i64)))):=by
 unfold YDm at h
 refine mF Tryz.func37 Tryz.ntmps37 R fun n0=>aU (mA R (aZ (aU (mA R (aZ (aS fun K3 c3 wK3=>(aU (mM R (sQ R (Zq R YAw.slice iL) (mM R (aZ (Zg (jb1k h fun o1 hit1 hk1=>?_)))))))))))))
 have J1 : ∀ (out4:List Int) (i5:Nat→Nat),o1=out4→K3 ⟨[(5,.own 5005 (i5 0))],[(5005,some (.arr (i5 0) 3 1 (out4.map (rInt .i64))))],(i5 1),37⟩:=by
  intro out4 i5 e
  have h1:=hk1 _ e
  exact c3 _ (aU (mM R (mA R (aZ (Zd (YHd (P:=Tryz.prog) (fun (r:(List Int))=>.r (.sl (r.map (rInt .i64)))) h1 iL (.t (.one (.own R)))))))))
 refine AW.iter2 (fun (x2:Int) (out2:List Int) i3=>⟨[(0,qb f1),(1,rI (m)),(5,.own 5005 (i3 0)),(8,qb f1),(9,rI ((f1.length:Int))),(10,rI (x2))],[(5005,some (.arr (i3 0) 3 1 (out2.map (rInt .i64))))],(i3 1),37⟩) (vec [n0,(n0+1)]) hit1 (Zl (Zl (ZM 5 5005 3 1 (by decide) R) (by exact ZK (e':=[(0,qb f1),(1,rI (m)),(4,cZ),(5,.own 5005 n0),(8,qb f1),(9,rI ((f1.length:Int))),(10,rI (0))]) (h':=[(5005,some (.arr n0 3 1 (([]:List Int).map (rInt .i64))))]) ⟨jL,jL,jL,jL,jL,jL,jL,Zb⟩ ⟨.inl R,Zb⟩ nL)) wk) ?_
 intro x2 out2 i3 v1 hv1 hx1
 have h2:YCG f1 m x2 out2=some v1:=hv1; unfold YCG at h2
 refine aU (sQ R (Zo R iL iL) (aZ (aT fun c7=>(cI R h2 (fun h3=>?_) fun h3=>?_))))
 ·refine Zc (c7 _ (aS fun K8 c8 wK8=>(Zg (jb1k h3 fun p1 hp1 hk2=>?_))))
  have J2 : ∀ (out5:List Int) (i6:Nat→Nat),p1=out5→K8 ⟨[(0,qb f1),(1,rI (m)),(5,.own 5005 (i6 0)),(8,qb f1),(9,rI ((f1.length:Int))),(10,rI (x2))],[(5005,some (.arr (i6 0) 3 1 (out5.map (rInt .i64))))],(i6 1),37⟩:=by
   intro out5 i6 e
   have h4:=hk2 _ e
   exact c8 _ (aR (Ze h4 fun x4 ex4 h5=>(sQ R (Zx R iL iL (fun _=>ex4)) (mM R (Zk (YDV.mk h5 (vec [(i6 0),(i6 1)]) wk))))))
  refine aU (mM R (Ze hp1 fun x5 ex5 h6=>(sQ R (Zp R YAw.slice iL iL (fun _=>R) (fun _=>ex5)) (sQ R (Zy (cs:=(k27_ x5)) R YJh iL R R) (sS R (ZH (cs:=z25_) 7 R YQG R R) (mA R (Zv R R (Zs (ds:=(k27_ x5)) R YOr iL R iL R R R R) (aZ (aU (sQ R (Zn R YJh iL R R) (mM R (Ze h6 fun r1 er1 h7=>(cL (YMA (er1)) R (sQ R (Zz R iL) (mM R (vM R (vM R (vQ R (Zq R YAw.slice (iR R)) (Ze h7 fun x6 ex6 h8=>(vQ R (YBg R (iR R) iL (gdt ex6)) (vQ R (Zh R (iR R) (iR R)) (vQ R (Zf R (iR R)) (wQ R (fB R YD2 iL fR R) (wQ R (Zi (a:=rI (x5.Char)) R ts_3 (iR R) R R) (wQ R (Zh R (iR R) iL) (vQ R (Zj R (iR R) (iR R)) (sQ R (Zr R iL (iR R)) (aZ (cI R h8 (fun h9=>?_) fun h9=>?_)))))))))))))))))))))))))))))
  ·refine aG [0,1,5,6,8,9,10] [5005] ?_
   exact aR (mM R (mM R (sS R (YA6 33 R YC3 (f:=(rInt .i64)) (l:=([x2]:List Int)) ⟨R,⟨_,iL,R⟩,Zb⟩ R (fun _=>R) R) (Ze h9 fun out6 eout6 h10=>(sS R (YCr R YC3 iL R (.inr (.inl ⟨_,_,iL,R⟩)) eout6) (mA R (Zk (wK8 _ _ wk (J2 _ (vec [((i3 1)+2),((i3 1)+3)]) (Za h10).symm)))))))))
  exact Zc (wK8 _ _ wk (J2 _ (vec [(i3 0),((i3 1)+1)]) (Za h9).symm))
 exact Zw (wK3 _ _ wk (J1 _ (vec [(i3 0),(i3 1)]) (hx1 _ (Za h3).symm)))
theorem YMB {d1 s1 b r} (h:YDo d1 s1 b=some r):ARO Tryz.prog 68 [.agg [qe d1.Nodes],.agg (k28_ s1),.r (.str b)] (.tup [.agg (k2_ r.1),rI (r.2)]):=by
 unfold YDo at h
 refine mF Tryz.func68 Tryz.ntmps68 R fun n0=>aU (sS R (ZB (cs:=[qe d1.Nodes]) 3 R iL R R) (sS R (ZB (cs:=(k28_ s1)) 4 R iL R R) (sS R (ZH (cs:=z3_) 6 R YTQ R R) (mA R (aZ (aT fun c2=>(aU (sQ R (Zn R YDZ iL R R) (Ze h fun e1 ee1 h1=>(cL (YIY (ee1)) R (mA R (aZ (aU (mM R (sQ R (Zu R iL iL) (aZ (cI R h1 (fun h2=>?_) fun h2=>?_)))))))))))))))))
 ·refine aT fun c5=>(aG [6,8] [6] ?_)
  refine aR ?_
  refine sQ R (ZD R YMw (q:=[]) (by exact Zb) (cs:=z3_) (by rfl)) ?_
  refine mM R (Zv R R (Zs (ds:=z3_) R YJ7 iL R iL R R R R) (mA R (oZ c5 ?_)))
  exact Zd (YCX (P:=Tryz.prog) (fun (r:YAM × Int)=>.agg (k2_ r.1)) (fun (r:YAM × Int)=>rI (r.2)) h2 iL (.a YLO R R R (.agg (by exact ⟨.closed _ R,.closed _ R,.nil,.nil,.closed _ R,.closed _ R,.nil,.nil,.nil,.nil,.closed _ R,Zb⟩))) (.t (.d R)))
 refine Zc (c2 _ (aU (sQ R (Zn R YDZ iL R R) (lF YJg ts_3 R R (Ze h2 fun i1 ei1 h3=>(cL (YIW (ei1)) R (mA R (aZ (aT fun c7=>(aT fun c8=>(aG [2,3,4,6,9] [3,4,6] ?_)))))))))))
 refine aR (mM R (sQ R (Zo R iL iL) (aZ (c8 _ (cI R h3 (fun h4=>?_) fun h4=>?_)))))
 ·refine aT fun c9=>(aR ?_)
  refine sQ R (ZD R YMw (q:=[]) (by exact Zb) (cs:=z3_) (by rfl)) ?_
  refine Zv R R (Zs (ds:=z3_) R YJ7 iL R iL R R R R) (mA R (oZ c9 ?_))
  exact Zd (YCX (P:=Tryz.prog) (fun (r:YAM × Int)=>.agg (k2_ r.1)) (fun (r:YAM × Int)=>rI (r.2)) h4 iL (.a YLO R R R (.agg (by exact ⟨.closed _ R,.closed _ R,.nil,.nil,.closed _ R,.closed _ R,.nil,.nil,.nil,.nil,.closed _ R,Zb⟩))) (.t (.d R)))
 refine Zc (c7 _ (aT fun c10=>(aR (lF YBG YD0 R R (mM R (Ze h4 fun x1 ex1 h5=>(sQ R (Zp R YDH.slice iL iL (fun _=>R) (fun _=>ex1)) (sQ R (Zy (cs:=(k7_ x1)) R YIE iL R R) (mM R ?_)))))))))
 refine sQ R (ZD R YMw (q:=[(0,_),(10,_)]) (by exact ⟨R,R,R,iL,R,R,R,iL,Zb⟩) (cs:=[rI (x1.ID),rI (x1.Kind),qa x1.Attrs,qb x1.Flow,rI (x1.Grid.Rows),rI (x1.Grid.Cols),qd x1.Grid.Cells,qc x1.Grid.Merges,qf x1.Draw,cZ,.r (.str b)]) (by rfl)) ?_
 refine sS R (ZH (cs:=z3_) 10 R YTQ R R) (Zv R R (Zs (ds:=[rI (x1.ID),rI (x1.Kind),qa x1.Attrs,qb x1.Flow,rI (x1.Grid.Rows),rI (x1.Grid.Cols),qd x1.Grid.Cells,qc x1.Grid.Merges,qf x1.Draw,cZ,.r (.str b)]) R YJ7 iL R iL R R R R) (aZ (c10 _ (aT fun c11=>(aT fun c12=>(aG [2,4,6,10] [4,6,10] ?_))))))
 refine aR (sQ R (fB R YRE iL fR R) (lF YA9 ts_3 R R (Ze h5 fun r1 er1 h6=>(cL (YIV (er1)) R (sQ R (Zz R iL) (aZ (c12 _ (cI R h6 (fun h7=>?_) fun h7=>?_))))))))
 ·refine aT fun c13=>(aR ?_)
  refine sQ R (ZD R YMw (q:=[]) (by exact Zb) (cs:=z3_) (by rfl)) ?_
  refine Zv R R (Zs (ds:=z3_) R YJ7 iL R iL R R R R) (mA R (oZ c13 ?_))
  exact Zd (YCX (P:=Tryz.prog) (fun (r:YAM × Int)=>.agg (k2_ r.1)) (fun (r:YAM × Int)=>rI (r.2)) h7 iL (.a YLO R R R (.agg (by exact ⟨.closed _ R,.closed _ R,.nil,.nil,.closed _ R,.closed _ R,.nil,.nil,.nil,.nil,.closed _ R,Zb⟩))) (.t (.d R)))
 refine Zc (c11 _ (aU (sQ R (fB R YRE iL fR R) (lF YC0 YDy R R (Ze h7 fun r2 er2 h8=>(sS R (YBX (r:=.r (.sl (r2.map (rInt .i64)))) (caps:=[]) (bs:=[qb x1.Flow,rI (0)]) R iL R ⟨.inl ⟨iL,R⟩,.inl ⟨iL,R⟩,Zb⟩ (fun _=>YII (er2))) (sQ R (fB R YRD iL fR R) (Zv R R (Zs (ds:=[rI (x1.ID),rI (x1.Kind),qa x1.Attrs,qb x1.Flow,rI (x1.Grid.Rows),rI (x1.Grid.Cols),qd x1.Grid.Cells,qc x1.Grid.Merges,qf x1.Draw,.r (.sl (r2.map (rInt .i64))),.r (.str b)]) R tz_72 iL R iL R R R R) (aZ (aT fun c15=>(aT fun c16=>(aG [2,4,6,10] [4,6,10] ?_))))))))))))
 refine aR (lF YHT ts_3 R R (sQ R (Zo R iL iL) (mM R (vF YHS ts_3 R R (vF YHT ts_3 R R (vQ R (Zo R (iR R) (iR R)) (sQ R (Zr R iL (iR R)) (mM R (vF YHS ts_3 R R (vF YRD ts_72 R R (vQ R (Zq R YC3.slice (iR R)) (vQ R (YC1 R (iR R) (iR R)) (sQ R (Zr R iL (iR R)) (aZ (c16 _ (cI R h8 (fun h9=>?_) fun h9=>?_))))))))))))))))
 ·refine aT fun c17=>(aG [6] [6] ?_)
  refine aR ?_
  refine sQ R (ZD R YMw (q:=[]) (by exact Zb) (cs:=z3_) (by rfl)) ?_
  refine Zv R R (Zs (ds:=z3_) R YJ7 iL R iL R R R R) (mA R (oZ c17 ?_))
  exact Zd (YCX (P:=Tryz.prog) (fun (r:YAM × Int)=>.agg (k2_ r.1)) (fun (r:YAM × Int)=>rI (r.2)) h9 iL (.a YLO R R R (.agg (by exact ⟨.closed _ R,.closed _ R,.nil,.nil,.closed _ R,.closed _ R,.nil,.nil,.nil,.nil,.closed _ R,Zb⟩))) (.t (.d R)))
 refine Zc (c15 _ (aT fun c18=>(aT fun c19=>(aG [2,6,10] [6,10] ?_))))
 refine aR (mM R (sQ R (YCH R iL iL) (mM R (vM R (Ze h9 fun r3 er3 h10=>vL (fun hg=>YEk (gdt er3 hg)) R (vQ R (Zz R (iR R)) (sQ R (Zj R iL (iR R)) (aZ (c19 _ (cI R h10 (fun h11=>?_) fun h11=>?_))))))))))
 ·refine aT fun c20=>(aG [6] [6] ?_)
  refine aR ?_
  refine sQ R (ZD R YMw (q:=[]) (by exact Zb) (cs:=z3_) (by rfl)) ?_
  refine Zv R R (Zs (ds:=z3_) R YJ7 iL R iL R R R R) (mA R (oZ c20 ?_))
  exact Zd (YCX (P:=Tryz.prog) (fun (r:YAM × Int)=>.agg (k2_ r.1)) (fun (r:YAM × Int)=>rI (r.2)) h11 iL (.a YLO R R R (.agg (by exact ⟨.closed _ R,.closed _ R,.nil,.nil,.closed _ R,.closed _ R,.nil,.nil,.nil,.nil,.closed _ R,Zb⟩))) (.t (.d R)))
 exact Zc (c18 _ (aU (sQ R (Zn R YLO iL R R) (Zv R R (Zs (ds:=[rI (x1.ID),rI (x1.Kind),qa x1.Attrs,qb x1.Flow,rI (x1.Grid.Rows),rI (x1.Grid.Cols),qd x1.Grid.Cells,qc x1.Grid.Merges,qf x1.Draw,.r (.sl (r2.map (rInt .i64))),.r (.str b)]) R YJ7 iL R iL R R R R) (mA R (aZ (Zd (YCX (P:=Tryz.prog) (fun (r:YAM × Int)=>.agg (k2_ r.1)) (fun (r:YAM × Int)=>rI (r.2)) h11 iL (.a YLO R R R (.g (cs:=[.int .i64 x1.ID,.int .i64 x1.Kind,.sl (x1.Attrs.map YAD.row),.sl (x1.Flow.map YAB.row),.int .i64 x1.Grid.Rows,.int .i64 x1.Grid.Cols,.sl (x1.Grid.Cells.map YAd.row),.sl (x1.Grid.Merges.map YAW.row),.sl (x1.Draw.map YAP.row),.sl (r2.map (rInt .i64)),.str b]) R R)) (.t (.d R))))))))))
theorem YJc {d1 s1 r} (h:YD7 d1 s1=some r):ARO Tryz.prog 33 [.agg [qe d1.Nodes],.agg (k28_ s1)] (rI (r)):=by
 unfold YD7 at h
 refine mF Tryz.func33 Tryz.ntmps33 R fun n0=>aU (sS R (ZB (cs:=[qe d1.Nodes]) 2 R iL R R) (sS R (ZB (cs:=(k28_ s1)) 3 R iL R R) (mA R (aZ (aU (sQ R (Zn R YDZ iL R R) (sQ R (Zn R YVJ iL R R) (ob2k h fun r1 r2 er1 h1=>(sS R (YBX (r:=.tup [.agg (k2_ r1),rI (r2)]) (caps:=[]) (bs:=[.agg [qe d1.Nodes],.agg (k28_ s1),.r (.str [])]) R iL R ⟨.inl ⟨iL,R⟩,.inl ⟨iL,R⟩,.inl ⟨iL,R⟩,Zb⟩ (fun _=>YMB (er1))) (mM R (sQ R (Zt (a:=.agg (k2_ r1)) R iL R) (sQ R (Zt (a:=rI (r2)) R iL R) (sS R (ZH (cs:=z3_) 5 R YTQ R R) (Zv R R (Zs (ds:=(k2_ r1)) R YJ7 iL R iL R R R R) (mA R (aZ (aT fun c3=>(aF [6] ?_))))))))))))))))))
 exact aR (mM R (mA R (aZ (c3 _ (Zd (Y1_ h1 iL (.t (.d R))))))))
theorem YSA {i r} (h:YKn i=some r):ARO Tryz.prog 87 [rI (i)] (rI (r)):=by
 unfold YKn at h
 exact mF Tryz.func87 Tryz.ntmps87 R fun n0=>aU (mA R (aZ (aU (mM R (sQ R (YOv (b:=16) R iL iL) (mA R (aZ (Zd (Y1_ h iL (.t (.d R)))))))))))
theorem YJe {d1 s r} (h:YF9 d1 s=some r):ARO Tryz.prog 48 [.agg [qe d1.Nodes],rI (s)] (.tup [rI (r.1),rI (r.2)]):=by
 unfold YF9 at h
 refine mF Tryz.func48 Tryz.ntmps48 R fun n0=>aU (sS R (ZB (cs:=[qe d1.Nodes]) 2 R iL R R) (mA R (mA R (aZ (aT fun c2=>(aU (sQ R (Zn R YDZ iL R R) (Ze h fun e1 ee1 h1=>(cL (YIY (ee1)) R (mA R (aZ (aU (mM R (sQ R (Zu R iL iL) (aZ (cI R h1 (fun h2=>?_) fun h2=>?_))))))))))))))))
 ·refine aT fun c5=>(aF [6] ?_)
  exact aR (mM R (mA R (mA R (aZ (c5 _ (Zd (YCX (P:=Tryz.prog) (fun (r:Int × Int)=>rI (r.1)) (fun (r:Int × Int)=>rI (r.2)) h2 iL (.t (.d R)) (.t (.d R)))))))))
 refine Zc (c2 _ (aT fun c6=>(aU (mM R (sQ R (Zo R iL iL) (mM R (vM R (vQ R (ZF R (iR R) iL) (sQ R (Zr R iL (iR R)) (aZ (cI R h2 (fun h3=>?_) fun h3=>?_)))))))))))
 ·refine aT fun c8=>(aF [] ?_)
  exact aR (mA R (mA R (aZ (c8 _ (Zd (YCX (P:=Tryz.prog) (fun (r:Int × Int)=>rI (r.1)) (fun (r:Int × Int)=>rI (r.2)) h3 iL (.t (.d R)) (.t (.d R))))))))
 refine Zc (c6 _ (aT fun c9=>(aG [1,2] [2] ?_)))
 refine aR (mM R (sQ R (YI3 (b:=16) R iL iL) (mA R (aZ (c9 _ (aS fun K10 c10 wK10=>(aU (lF YBG YD0 R R (sQ R (Zq R YDH.slice iL) (mM R (aZ (Zg (jb1k h3 fun o1 hit1 hk1=>?_)))))))))))))
 have J1 : ∀ (last4:Int) (i5:Nat→Nat),o1=last4→K10 ⟨[(7,rI (last4))],[],(i5 0),43⟩:=by
  intro last4 i5 e
  have h4:=hk1 _ e
  refine c10 _ (aT fun c12=>(aU (mM R (sQ R (YEY R iL iL) (sQ R (Zh R iL iL) (aZ (cI R h4 (fun h5=>?_) fun h5=>?_)))))))
  ·exact aU (mA R (mA R (aZ (Zd (YCX (P:=Tryz.prog) (fun (r:Int × Int)=>rI (r.1)) (fun (r:Int × Int)=>rI (r.2)) h5 iL (.t (.d R)) (.t (.d R)))))))
  exact Zc (c12 _ (aU (mM R (Ze h5 fun x4 ex4 h6=>(sQ R (Zx R iL iL (fun _=>ex4)) (mA R (mA R (aZ (Zd (YCX (P:=Tryz.prog) (fun (r:Int × Int)=>rI (r.1)) (fun (r:Int × Int)=>rI (r.2)) h6 iL (.t (.d R)) (.t (.d R))))))))))))
 refine AW.iter2 (fun (last2:Int) (x2:Int) i3=>⟨[(1,rI (s)),(7,rI (last2)),(24,qe d1.Nodes),(25,rI ((d1.Nodes.length:Int))),(26,rI (x2))],[],(i3 0),43⟩) (vec [(n0+1)]) hit1 wk ?_
 intro last2 x2 i3 v1 hv1 hx1
 have h7:YEg d1 s last2 x2=some v1:=hv1; unfold YEg at h7
 refine aU (sQ R (Zo R iL iL) (aZ (aT fun c17=>(cI R h7 (fun h8=>?_) fun h8=>?_))))
 ·refine Zc (c17 _ (aS fun K18 c18 wK18=>(Zg (jb1k h8 fun p1 hp1 hk2=>?_))))
  have J2 : ∀ (last5:Int) (i6:Nat→Nat),p1=last5→K18 ⟨[(1,rI (s)),(7,rI (last5)),(24,qe d1.Nodes),(25,rI ((d1.Nodes.length:Int))),(26,rI (x2))],[],(i6 0),43⟩:=by
   intro last5 i6 e
   have h9:=hk2 _ e
   exact c18 _ (aR (Ze h9 fun x5 ex5 h10=>(sQ R (Zx R iL iL (fun _=>ex5)) (mM R (Zk (YDV.mk h10 (vec [(i6 0)]) wk))))))
  refine aU (Ze hp1 fun x6 ex6 h11=>(sQ R (Zp R YDH.slice iL iL (fun _=>R) (fun _=>ex6)) (sQ R (Zy (cs:=(k7_ x6)) R YIE iL R R) (sS R (ZH (cs:=z4_) 9 R YQH R R) (Zv R R (Zs (ds:=(k7_ x6)) R YP9 iL R iL R R R R) (aZ (aU (lF YCT ts_3 R R (Ze h11 fun r1 er1 h12=>(cL (YSA (er1)) R (mM R (sQ R (Zh R iL iL) (aZ (cI R h12 (fun h13=>?_) fun h13=>?_))))))))))))))
  ·refine aG [1,9,24,25,26] [9] ?_
   exact aR (lF YCT ts_3 R R (mA R (Zk (wK18 _ _ wk (J2 _ (vec [((i3 0)+1)]) (Za h13).symm)))))
  exact Zc (wK18 _ _ wk (J2 _ (vec [((i3 0)+1)]) (Za h13).symm))
 exact Zw (wK10 _ _ wk (J1 _ (vec [(i3 0)]) (hx1 _ (Za h8).symm)))
theorem w_flow_Of {s1 b r} (h:YUW s1 b=some r):ARO Tryz.prog 69 [.r (.str s1),qa b] (.tup [qb r.1,rI (r.2)]):=by
 unfold YUW at h
 refine mF Tryz.func69 Tryz.ntmps69 R fun n0=>aU (mA R (mA R (aZ (aT fun c2=>(aU (mM R (Ze h fun e1 ee1 h1=>(cL (YEl (ee1)) R (mA R (aZ (aU (mM R (sQ R (Zu R iL iL) (aZ (cI R h1 (fun h2=>?_) fun h2=>?_)))))))))))))))
 ·exact aU (mM R (mA R (mA R (aZ (Zd (YCX (P:=Tryz.prog) (fun (r:(List YAB) × Int)=>qb r.1) (fun (r:(List YAB) × Int)=>rI (r.2)) h2 iL (.t (.one (.nil))) (.t (.d R))))))))
 refine Zc (c2 _ (aU (mA R (aZ (aS fun K7 c7 wK7=>(Zg (jc1k h2 fun o1 hit1 hk1 he1=>?_)))))))
 have J1 : ∀ (out4:List YAB) (i5:Nat→Nat),o1 = .nrm out4→K7 ⟨[(7,.own 5007 (i5 0))],[(5007,some (.arr (i5 0) 78 3 (out4.map YAB.row)))],(i5 1),44⟩:=by
  intro out4 i5 e
  have h3:=hk1 _ e
  exact c7 _ (aU (mM R (mA R (mA R (aZ (Zd (YCX (P:=Tryz.prog) (fun (r:(List YAB) × Int)=>qb r.1) (fun (r:(List YAB) × Int)=>rI (r.2)) h3 iL (.t (.one (.own R))) (.t (.d R)))))))))
 refine AW.iter2 (fun (s3:List UInt8) (out2:List YAB) i3=>⟨[(0,.r (.str s3)),(1,qa b),(7,.own 5007 (i3 0))],[(5007,some (.arr (i3 0) 78 3 (out2.map YAB.row)))],(i3 1),44⟩) (vec [n0,(n0+1)]) hit1 (Zl (Zl (ZM 7 5007 78 3 (by decide) R) (by exact ZK (e':=[(0,.r (.str s1)),(1,qa b),(4,cZ),(5,rI (0)),(6,rI (e1)),(7,.own 5007 n0),(10,qa b),(11,rI (e1)),(12,rI (e1)),(13,rB ((!decide (e1=0))))]) (h':=[(5007,some (.arr n0 78 3 (([]:List YAB).map YAB.row)))]) ⟨jL,jL,jL,jL,jL,jL,jL,jL,jL,jL,Zb⟩ ⟨.inl R,Zb⟩ nL)) wk) ?_
 intro s3 out2 i3 v1 hv1 hx1
 have h4:YJp b s3 out2=some v1:=hv1; unfold YJp at h4
 refine aT fun c9=>(aU (mM R (sQ R (YCH R iL iL) (aZ (cI R h4 (fun h5=>?_) fun h5=>?_)))))
 ·refine Zc (c9 _ (Zg (aU (mM R (ob2k h5 fun r1 r2 er1 h6=>(cL (YAg (er1)) R (mM R (sQ R (Zt (a:=.r (.int .i32 r1)) R iL R) (sQ R (Zt (a:=rI (r2)) R iL R) (mA R (mA R (aZ (aT fun c12=>(aU (mM R (sQ R (Zh R iL iL) (mM R (vM R (vQ R (Zh R (iR R) iL) (sQ R (Zj R iL (iR R)) (aZ (cI R h6 (fun h7=>?_) fun h7=>?_))))))))))))))))))))))
  ·refine aT fun c14=>(aF [] ?_)
   exact aR (mA R (mA R (aZ (c14 _ (Zd (YCX (P:=Tryz.prog) (fun (r:(List YAB) × Int)=>qb r.1) (fun (r:(List YAB) × Int)=>rI (r.2)) (he1 _ (hx1 _ (Za h7).symm)) iL (.t (.one (.nil))) (.t (.d R))))))))
  refine Zc (c12 _ (aT fun c15=>(aT fun c16=>(aG [0,1,7,8,9] [5007] ?_))))
  refine aR (mM R (sQ R (ZG R Tryz.underlying21 Tryz.underlying3 iL) (Ze h7 fun r3 er3 h8=>(cL (YGk (er3)) R (sQ R (Zz R iL) (aZ (c16 _ (cI R h8 (fun h9=>?_) fun h9=>?_))))))))
  ·refine aT fun c17=>(aF [] ?_)
   exact aR (mA R (mA R (aZ (c17 _ (Zd (YCX (P:=Tryz.prog) (fun (r:(List YAB) × Int)=>qb r.1) (fun (r:(List YAB) × Int)=>rI (r.2)) (he1 _ (hx1 _ (Za h9).symm)) iL (.t (.one (.nil))) (.t (.d R))))))))
  refine Zc (c15 _ (aT fun c18=>(aR (mM R (mM R (sQ R (ZG R Tryz.underlying21 Tryz.underlying3 iL) (mM R (Ze h9 fun l1 el1 h10=>(sS R (YGV 36 (f:=YAD.row) R YBs iL (.inl ⟨iL,fun _=>R⟩) el1) ?_)))))))))
  refine sQ R (ZD R YLM (q:=[(0,_),(2,_)]) (by exact ⟨R,R,R,iL,R,R,R,iL,Zb⟩) (cs:=[rI ((IntKind.i64.wrap r1)),rI (0),.own 36 (i3 1)]) (by rfl)) ?_
  refine AOps.weak (by exact Weak.frz (e':=[(0,.r (.str s3)),(1,qa b),(7,.own 5007 (i3 0)),(8,.r (.int .i32 r1)),(9,rI (r2)),(28,.r (.int .i32 r1)),(29,rI ((IntKind.i64.wrap r1))),(30,rB (r3)),(31,rB ((!r3))),(32,.own 5007 (i3 0)),(33,.r (.int .i32 r1)),(34,rI ((IntKind.i64.wrap r1))),(35,qa b),(36,qa l1),(37,.agg [rI ((IntKind.i64.wrap r1)),rI (0),qa l1])]) (h':=[(5007,some (.arr (i3 0) 78 3 (out2.map YAB.row)))]) 36 R ⟨jL,jL,jL,jL,jL,jL,jL,jL,jL,jL,jL,jL,jL,.inl (.inr (.inr ⟨R,R⟩)),.inr ⟨_,_,R,R,⟨.inl R,.inl R,.inr (.inr ⟨R,R⟩),Zb⟩⟩,Zb⟩ ⟨R,.inl R,Zb⟩) ?_
  refine sS R (YA6 38 R YAw (f:=YAB.row) (l:=([(YAB.mk (IntKind.i64.wrap r1) 0 l1)]:List YAB)) ⟨R,⟨_,iL,R⟩,Zb⟩ R (fun _=>R) R) (Ze h10 fun out5 eout5 h11=>(sS R (YCr R YAw iL R (.inr (.inl ⟨_,_,iL,R⟩)) eout5) (mA R (aZ (c18 _ (aG [0,1,7,9] [5007] ?_))))))
  refine aR (mM R (mM R (Ze h11 fun s5 es5 h12=>?_)))
  refine sQ R (YDs R Tryz.underlying9 iL (by exact ⟨_,iL⟩) (by exact R) (fun _=>es5)) ?_
  exact mA R (Zk (YDV.mk h12 (vec [((i3 1)+2),((i3 1)+3)]) wk))
 exact Zw (wK7 _ _ wk (J1 _ (vec [(i3 0),(i3 1)]) (hx1 _ (Za h5).symm)))
theorem YLB {s1 b r} (h:YFo s1 b=some r):AHC Tryz.prog 69 1 [.r (.str s1),qa b] [] (fun rr h'=>∃ (i:Nat→Nat),rr = .tup [.own 1000 (i 0),rI (r.1)]∧h'=[(1000,some (.arr (i 0) 78 3 (r.2.map YAB.row)))]):=by
 unfold YFo at h
 refine AHC.mkw Tryz.func69 R R Tryz.ntmps69 (ZN R) fun n0=>aU (mA R (mA R (aZ (aT fun c2=>(aU (mM R (Ze h fun e1 ee1 h1=>(cL (YEl (ee1)) R (mA R (aZ (aU (mM R (sQ R (Zu R iL iL) (aZ (cI R h1 (fun h2=>?_) fun h2=>?_)))))))))))))))
 ·refine aU (mM R (mA R (mA R (aZ ?_))))
  exact Zd (RetW.mk (s':=⟨[(4,.own 1000 n0),(5,rI (e1))],[(1000,some (.arr n0 78 3 (([]:List YAB).map YAB.row)))],(n0+1),44⟩) (Zl (Zl (ZM 4 1000 78 3 (by decide) R) (by exact ZK (e':=[(0,.r (.str s1)),(1,qa b),(4,.own 1000 n0),(5,rI (e1)),(6,rI (e1)),(10,qa b),(11,rI (e1)),(12,rI (e1)),(13,rB ((!decide (e1=0)))),(14,rI (e1))]) (h':=[(1000,some (.arr n0 78 3 (([]:List YAB).map YAB.row)))]) ⟨jL,jL,jL,jL,jL,jL,jL,jL,jL,jL,Zb⟩ ⟨.inl R,Zb⟩ nL)) wk) (YAu (fun (r:Int × (List YAB)) rr h'=>∃ (i:Nat→Nat),rr = .tup [.own 1000 (i 0),rI (r.1)]∧h'=[(1000,some (.arr (i 0) 78 3 (r.2.map YAB.row)))]) h2 (by exact ⟨.tup [.own 1000 n0,rI (e1)],[(1000,some (.arr n0 78 3 (([]:List YAB).map YAB.row)))],⟨_,R,⟨R,R,Zb⟩⟩,⟨.inr R,Zb⟩,R,R,vec [n0],R,R⟩)))
 refine Zc (c2 _ (aU (mA R (aZ (aS fun K7 c7 wK7=>(Zg (jc1k h2 fun o1 hit1 hk1 he1=>?_)))))))
 have J1 : ∀ (out4:List YAB) (i5:Nat→Nat),o1 = .nrm out4→K7 ⟨[(7,.own 5007 (i5 0))],[(5007,some (.arr (i5 0) 78 3 (out4.map YAB.row)))],(i5 1),44⟩:=by
  intro out4 i5 e
  have h3:=hk1 _ e
  refine c7 _ (aU (mM R (mA R (mA R (aZ ?_)))))
  exact Zd (RetW.mk (s':=⟨[(4,.own 1000 (i5 1)),(5,rI (0))],[(1000,some (.arr (i5 1) 78 3 (out4.map YAB.row)))],((i5 1)+1),44⟩) (Zl (Zl (Weak.ren 4 5007 1000 R R R) (by exact ZK (e':=[(4,.own 1000 (i5 1)),(5,rI (0))]) (h':=[(1000,some (.arr (i5 1) 78 3 (out4.map YAB.row)))]) ⟨jL,jL,Zb⟩ ⟨.inl R,Zb⟩ nL)) wk) (YAu (fun (r:Int × (List YAB)) rr h'=>∃ (i:Nat→Nat),rr = .tup [.own 1000 (i 0),rI (r.1)]∧h'=[(1000,some (.arr (i 0) 78 3 (r.2.map YAB.row)))]) h3 (by exact ⟨.tup [.own 1000 (i5 1),rI (0)],[(1000,some (.arr (i5 1) 78 3 (out4.map YAB.row)))],⟨_,R,⟨R,R,Zb⟩⟩,⟨.inr R,Zb⟩,R,R,vec [(i5 1)],R,R⟩)))
 refine AW.iter2 (fun (s3:List UInt8) (out2:List YAB) i3=>⟨[(0,.r (.str s3)),(1,qa b),(7,.own 5007 (i3 0))],[(5007,some (.arr (i3 0) 78 3 (out2.map YAB.row)))],(i3 1),44⟩) (vec [n0,(n0+1)]) hit1 (Zl (Zl (ZM 7 5007 78 3 (by decide) R) (by exact ZK (e':=[(0,.r (.str s1)),(1,qa b),(4,cZ),(5,rI (0)),(6,rI (e1)),(7,.own 5007 n0),(10,qa b),(11,rI (e1)),(12,rI (e1)),(13,rB ((!decide (e1=0))))]) (h':=[(5007,some (.arr n0 78 3 (([]:List YAB).map YAB.row)))]) ⟨jL,jL,jL,jL,jL,jL,jL,jL,jL,jL,Zb⟩ ⟨.inl R,Zb⟩ nL)) wk) ?_
 intro s3 out2 i3 v1 hv1 hx1
 have h4:YA2 b s3 out2=some v1:=hv1; unfold YA2 at h4
 refine aT fun c9=>(aU (mM R (sQ R (YCH R iL iL) (aZ (cI R h4 (fun h5=>?_) fun h5=>?_)))))
 ·refine Zc (c9 _ (Zg (aU (mM R (ob2k h5 fun r1 r2 er1 h6=>(cL (YAg (er1)) R (mM R (sQ R (Zt (a:=.r (.int .i32 r1)) R iL R) (sQ R (Zt (a:=rI (r2)) R iL R) (mA R (mA R (aZ (aT fun c12=>(aU (mM R (sQ R (Zh R iL iL) (mM R (vM R (vQ R (Zh R (iR R) iL) (sQ R (Zj R iL (iR R)) (aZ (cI R h6 (fun h7=>?_) fun h7=>?_))))))))))))))))))))))
  ·refine aT fun c14=>(aF [] ?_)
   refine aR (mA R (mA R (oZ c14 ?_)))
   exact Zd (RetW.mk (s':=⟨[(4,.own 1000 (i3 1)),(5,rI (10))],[(1000,some (.arr (i3 1) 78 3 (([]:List YAB).map YAB.row)))],((i3 1)+1),44⟩) (Zl (Zl (ZM 4 1000 78 3 (by decide) R) (by exact ZK (e':=[(4,.own 1000 (i3 1)),(5,rI (10))]) (h':=[(1000,some (.arr (i3 1) 78 3 (([]:List YAB).map YAB.row)))]) ⟨jL,jL,Zb⟩ ⟨.inl R,Zb⟩ nL)) wk) (YAu (fun (r:Int × (List YAB)) rr h'=>∃ (i:Nat→Nat),rr = .tup [.own 1000 (i 0),rI (r.1)]∧h'=[(1000,some (.arr (i 0) 78 3 (r.2.map YAB.row)))]) (he1 _ (hx1 _ (Za h7).symm)) (by exact ⟨.tup [.own 1000 (i3 1),rI (10)],[(1000,some (.arr (i3 1) 78 3 (([]:List YAB).map YAB.row)))],⟨_,R,⟨R,R,Zb⟩⟩,⟨.inr R,Zb⟩,R,R,vec [(i3 1)],R,R⟩)))
  refine Zc (c12 _ (aT fun c15=>(aT fun c16=>(aG [0,1,7,8,9] [5007] ?_))))
  refine aR (mM R (sQ R (ZG R Tryz.underlying21 Tryz.underlying3 iL) (Ze h7 fun r3 er3 h8=>(cL (YGk (er3)) R (sQ R (Zz R iL) (aZ (c16 _ (cI R h8 (fun h9=>?_) fun h9=>?_))))))))
  ·refine aT fun c17=>(aF [] ?_)
   refine aR (mA R (mA R (oZ c17 ?_)))
   exact Zd (RetW.mk (s':=⟨[(4,.own 1000 (i3 1)),(5,rI (2))],[(1000,some (.arr (i3 1) 78 3 (([]:List YAB).map YAB.row)))],((i3 1)+1),44⟩) (Zl (Zl (ZM 4 1000 78 3 (by decide) R) (by exact ZK (e':=[(4,.own 1000 (i3 1)),(5,rI (2))]) (h':=[(1000,some (.arr (i3 1) 78 3 (([]:List YAB).map YAB.row)))]) ⟨jL,jL,Zb⟩ ⟨.inl R,Zb⟩ nL)) wk) (YAu (fun (r:Int × (List YAB)) rr h'=>∃ (i:Nat→Nat),rr = .tup [.own 1000 (i 0),rI (r.1)]∧h'=[(1000,some (.arr (i 0) 78 3 (r.2.map YAB.row)))]) (he1 _ (hx1 _ (Za h9).symm)) (by exact ⟨.tup [.own 1000 (i3 1),rI (2)],[(1000,some (.arr (i3 1) 78 3 (([]:List YAB).map YAB.row)))],⟨_,R,⟨R,R,Zb⟩⟩,⟨.inr R,Zb⟩,R,R,vec [(i3 1)],R,R⟩)))
  refine Zc (c15 _ (aT fun c18=>(aR (mM R (mM R (sQ R (ZG R Tryz.underlying21 Tryz.underlying3 iL) (mM R (Ze h9 fun l1 el1 h10=>(sS R (YGV 36 (f:=YAD.row) R YBs iL (.inl ⟨iL,fun _=>R⟩) el1) ?_)))))))))
  refine sQ R (ZD R YLM (q:=[(0,_),(2,_)]) (by exact ⟨R,R,R,iL,R,R,R,iL,Zb⟩) (cs:=[rI ((IntKind.i64.wrap r1)),rI (0),.own 36 (i3 1)]) (by rfl)) ?_
  refine AOps.weak (by exact Weak.frz (e':=[(0,.r (.str s3)),(1,qa b),(7,.own 5007 (i3 0)),(8,.r (.int .i32 r1)),(9,rI (r2)),(28,.r (.int .i32 r1)),(29,rI ((IntKind.i64.wrap r1))),(30,rB (r3)),(31,rB ((!r3))),(32,.own 5007 (i3 0)),(33,.r (.int .i32 r1)),(34,rI ((IntKind.i64.wrap r1))),(35,qa b),(36,qa l1),(37,.agg [rI ((IntKind.i64.wrap r1)),rI (0),qa l1])]) (h':=[(5007,some (.arr (i3 0) 78 3 (out2.map YAB.row)))]) 36 R ⟨jL,jL,jL,jL,jL,jL,jL,jL,jL,jL,jL,jL,jL,.inl (.inr (.inr ⟨R,R⟩)),.inr ⟨_,_,R,R,⟨.inl R,.inl R,.inr (.inr ⟨R,R⟩),Zb⟩⟩,Zb⟩ ⟨R,.inl R,Zb⟩) ?_
  refine sS R (YA6 38 R YAw (f:=YAB.row) (l:=([(YAB.mk (IntKind.i64.wrap r1) 0 l1)]:List YAB)) ⟨R,⟨_,iL,R⟩,Zb⟩ R (fun _=>R) R) (Ze h10 fun out5 eout5 h11=>(sS R (YCr R YAw iL R (.inr (.inl ⟨_,_,iL,R⟩)) eout5) (mA R (aZ (c18 _ (aG [0,1,7,9] [5007] ?_))))))
  refine aR (mM R (mM R (Ze h11 fun s5 es5 h12=>?_)))
  refine sQ R (YDs R Tryz.underlying9 iL (by exact ⟨_,iL⟩) (by exact R) (fun _=>es5)) ?_
  exact mA R (Zk (YDV.mk h12 (vec [((i3 1)+2),((i3 1)+3)]) wk))
 exact Zw (wK7 _ _ wk (J1 _ (vec [(i3 0),(i3 1)]) (hx1 _ (Za h5).symm)))
theorem YMM {n1 f a r} (h:YEz n1 f a=some r):ARO Tryz.prog 60 [rI (n1),rI (f),rI (a)] (rI (r)):=by
 unfold YEz at h
 refine mF Tryz.func60 Tryz.ntmps60 R fun n0=>aU (mA R (aZ (aT fun c2=>(aU (mM R (sQ R (Zo R iL iL) (mM R (vM R (vQ R (ZF R (iR R) iL) (sQ R (Zr R iL (iR R)) (mM R (vM R (vQ R (Zo R (iR R) iL) (sQ R (Zr R iL (iR R)) (mM R (vM R (vM R (vQ R (Zo R (iR R) (iR R)) (sQ R (Zr R iL (iR R)) (mM R (vM R (vM R (vQ R (ZF R (iR R) (iR R)) (sQ R (Zr R iL (iR R)) (aZ (cI R h (fun h1=>?_) fun h1=>?_))))))))))))))))))))))))))
 ·refine aT fun c4=>(aF [] ?_)
  exact aR (mA R (aZ (c4 _ (Zd (Y1_ h1 iL (.t (.d R)))))))
 refine Zc (c2 _ (aT fun c5=>(aF [] ?_)))
 exact aR (mA R (aZ (c5 _ (Zd (Y1_ h1 iL (.t (.d R)))))))
theorem YG7 {f1 r} (h:YCy f1=some r):ARO Tryz.prog 114 [qb f1] (rI (r)):=by
 unfold YCy at h
 refine mF Tryz.func114 Tryz.ntmps114 R fun n0=>aU (mA R (aZ (aS fun K2 c2 wK2=>(aU (mM R (sQ R (Zq R YAw.slice iL) (mM R (aZ (Zg (jc1k h fun o1 hit1 hk1 he1=>?_))))))))))
 have J1 : ∀ (u2:Unit) (i5:Nat→Nat),o1 = .nrm u2→K2 ⟨[],[],(i5 0),18⟩:=by
  intro u2 i5 e
  have h1:=hk1 _ e
  exact c2 _ (aU (mA R (aZ (Zd (Y1_ h1 iL (.t (.d R)))))))
 refine ZE (fun (x2:Int) i3=>⟨[(6,qb f1),(7,rI ((f1.length:Int))),(8,rI (x2))],[],(i3 0),18⟩) (vec [n0]) hit1 wk ?_
 intro x2 i3 v1 hv1 hx1
 have h2:YCM f1 x2=some v1:=hv1; unfold YCM at h2
 refine aU (sQ R (Zo R iL iL) (aZ (aT fun c6=>(cI R h2 (fun h3=>?_) fun h3=>?_))))
 ·refine Zc (c6 _ (aT fun c7=>(Zg (aU (Ze h3 fun x4 ex4 h4=>(sQ R (Zp R YAw.slice iL iL (fun _=>R) (fun _=>ex4)) (sQ R (Zy (cs:=(k27_ x4)) R YJh iL R R) (sS R (ZH (cs:=z25_) 4 R YQG R R) (Zv R R (Zs (ds:=(k27_ x4)) R YOr iL R iL R R R R) (aZ (aU (sQ R (Zn R YJh iL R R) (Ze h4 fun e1 ee1 h5=>(cL (YLA (ee1)) R (mA R (aZ (aU (mM R (sQ R (Zu R iL iL) (aZ (cI R h5 (fun h6=>?_) fun h6=>?_)))))))))))))))))))))
  ·refine aT fun c11=>(aF [5] ?_)
   exact aR (mM R (mA R (aZ (c11 _ (Zd (Y1_ (he1 _ (hx1 _ (Za h6).symm)) iL (.t (.d R))))))))
  refine Zc (c7 _ (aF [6,7,8] ?_))
  exact aR (Ze h6 fun x5 ex5 h7=>(sQ R (Zx R iL iL (fun _=>ex5)) (mM R (Zk (ZC h7 (vec [((i3 0)+1)]) wk)))))
 exact Zw (wK2 _ _ wk (J1 _ (vec [(i3 0)]) (hx1 _ (Za h3).symm)))
theorem YE8 {w1:YAE} {r:YAE} {gb1000:Nat} {ga1001:Nat} {ga1002:Nat} (h:YBZ w1=some r):AHC Tryz.prog 106 3 [.ptr 1000 gb1000 0 0] [(1000,some (.box gb1000 112 [.own 1001 ga1001,.own 1002 ga1002,rI (w1.cut)])),(1001,some (.arr ga1001 81 4 (w1.out.map YAC.row))),(1002,some (.arr ga1002 78 3 (w1.add.map YAB.row)))] (fun rr h'=>∃ (i:Nat→Nat),rr = .tup []∧h'=[(1000,some (.box gb1000 112 [.own 1001 (i 0),cZ,rI (r.cut)])),(1001,some (.arr (i 0) 81 4 (r.out.map YAC.row)))]):=by
 unfold YBZ at h
 refine AHC.mkw Tryz.func106 R R Tryz.ntmps106 (ZN R) fun n0=>aS fun K1 c1 wK1=>(aU (mM R (sQ R (ZJ (ob:=.box _ _ _) R iL fR R) (lF YIz YDy R R (sQ R (YH4 R YAw.slice iL R) (sQ R (ZF R iL iL) (aZ (jb1k h fun p1 hp1 hk1=>?_))))))))
 have J1 : ∀ (w2:YAE) (i1:Nat→Nat),p1=w2→K1 ⟨[(0,.ptr 1000 gb1000 0 0)],[(1000,some (.box gb1000 112 [.own 1001 (i1 0),qb w2.add,rI (w2.cut)])),(1001,some (.arr (i1 0) 81 4 (w2.out.map YAC.row)))],(i1 1),47⟩:=by
  intro w2 i1 e
  have h1:=hk1 _ e
  refine c1 _ (aS fun K3 c3 wK3=>(aU (mM R (sQ R (ZJ (ob:=.box _ _ _) R iL fR R) (lF YGo ts_3 R R (sQ R (ZF R iL iL) (aZ (jb1k h1 fun p2 hp2 hk2=>?_))))))))
  have J2 : ∀ (w3:YAE) (i2:Nat→Nat),p2=w3→K3 ⟨[(0,.ptr 1000 gb1000 0 0)],[(1000,some (.box gb1000 112 [.own 1001 (i2 0),qb w3.add,rI (w3.cut)])),(1001,some (.arr (i2 0) 81 4 (w3.out.map YAC.row)))],(i2 1),47⟩:=by
   intro w3 i2 e
   have h2:=hk2 _ e
   refine c3 _ (aR (mM R (mM R (sQ R (ZJ (ob:=.box _ _ _) R iL fR R) (sQ R (fB R YIz iL fR R) (Zv R R (Zs (ds:=[.own 1001 (i2 0),cZ,rI (w3.cut)]) R tz_55 iL R iL R R R R) (sQ R (ZJ (ob:=.box _ _ _) R iL fR R) (sQ R (fB R YGo iL fR R) (Zv R R (Zs (ds:=[.own 1001 (i2 0),cZ,rI (0)]) R tz_3 iL R iL R R R R) (Zk ?_))))))))))
   exact RetW.mk (s':=⟨[],[(1000,some (.box gb1000 112 [.own 1001 (i2 0),cZ,rI (0)])),(1001,some (.arr (i2 0) 81 4 (w3.out.map YAC.row)))],(i2 1),47⟩) wk (YAu (fun (r:YAE) rr h'=>∃ (i:Nat→Nat),rr = .tup []∧h'=[(1000,some (.box gb1000 112 [.own 1001 (i 0),cZ,rI (r.cut)])),(1001,some (.arr (i 0) 81 4 (r.out.map YAC.row)))]) h2 (by exact ⟨.tup [],[(1000,some (.box gb1000 112 [.own 1001 (i2 0),cZ,rI (0)])),(1001,some (.arr (i2 0) 81 4 (w3.out.map YAC.row)))],⟨_,R,Zb⟩,⟨.inr R,.inr R,Zb⟩,R,R,vec [(i2 0)],R,R⟩))
  refine aC R (fun hc1=>?_) (fun hc1=>?_)
  ·have h3:=YDO hc1 hp2
   refine AW.regionF' [0] [1,2,3,4,5,6,7,8,9] [10] 11 hmix (by kernel_rfl) R R R R R ?_
   refine AFl.move R R R R (AFl.nil (AF.step R R R (Zf R iL) (AF.step R R R (ZJ (ob:=.box _ _ _) R iL fR R) (AF.step R R R (fB R YDe iL fR R) (AF.step R R R (Zi (a:=.own 1001 (i1 0)) R YLI iL R R) (AF.step R R R (Zf R iL) (AF.step R R R (ZJ (ob:=.box _ _ _) R iL fR R) (AF.step R R R (fB R YGo iL fR R) (AF.step R R R (Zi (a:=rI (w2.cut)) R ts_3 iL R R) ?_)))))))))
   refine AF.step R R R (ZD R YNj (q:=[(0,_),(1,_)]) (by exact ⟨R,R,R,iL,R,R,R,iL,Zb⟩) (cs:=[rI (2),rI (w2.cut),cZ,cZ]) (by rfl)) ?_
   exact AF.nil (AA.step R R R (YUF 37 R YBw (f:=YAC.row) (l:=([(YAC.mk 2 w2.cut [] [])]:List YAC)) ⟨R,⟨_,iL,R⟩,Zb⟩ R (fun _=>R) R) (AA.nil (Ze h3 fun l1 el1 h4=>(AOps.step R R R (YCr R YBw iL R (.inr (.inl ⟨_,_,iL,R⟩)) el1) (sQ R (ZJ (ob:=.box _ _ _) R iL fR R) (sQ R (fB R YDe iL fR R) (Zv R R (Zs (ds:=[.own 1001 ((i1 1)+1),qb w2.add,rI (w2.cut)]) R YXH iL R iL R R R R) (Zk (wK3 _ _ wk (J2 _ (vec [((i1 1)+1),((i1 1)+2)]) (Za h4).symm))))))))))
  ·have h3:=YDP hc1 hp2
   exact Zc (wK3 _ _ wk (J2 _ (vec [(i1 0),(i1 1)]) (Za h3).symm))
 refine aC R (fun hc2=>?_) (fun hc2=>?_)
 ·have h5:=YDO hc2 hp1
  refine AW.weak (by exact Weak.frz (e':=[(0,.ptr 1000 gb1000 0 0),(2,.ptr 1000 gb1000 0 0),(3,.ptr 1000 gb1000 0 0),(4,.ptr 1000 gb1000 0 1),(5,qb w1.add),(6,rI ((w1.add.length:Int))),(7,rB ((decide (0<(w1.add.length:Int)))))]) (h':=[(1000,some (.box gb1000 112 [.own 1001 ga1001,qb w1.add,rI (w1.cut)])),(1001,some (.arr ga1001 81 4 (w1.out.map YAC.row)))]) 1002 R ⟨jL,jL,jL,jL,.inl (.inr (.inr ⟨R,R⟩)),jL,jL,Zb⟩ ⟨R,.inr (.inr (.inl ⟨_,_,_,_,R,R,⟨.inl R,.inr (.inr ⟨R,R⟩),.inl R,Zb⟩⟩)),R,.inl R,Zb⟩) ?_
  refine AW.regionF' [0] [1,2,3,4,5,6,7,8,9] [10] 11 hmix (by kernel_rfl) R R R R R ?_
  refine AFl.move R R R R (AFl.nil (AF.step R R R (Zf R iL) (AF.step R R R (ZJ (ob:=.box _ _ _) R iL fR R) (AF.step R R R (fB R YDe iL fR R) (AF.step R R R (Zi (a:=.own 1001 ga1001) R YLI iL R R) (AF.step R R R (Zf R iL) (AF.step R R R (ZJ (ob:=.box _ _ _) R iL fR R) (AF.step R R R (fB R YIz iL fR R) (AF.step R R R (Zi (a:=qb w1.add) R YDy iL R R) ?_)))))))))
  refine AF.step R R R (ZD R YNj (q:=[(0,_),(3,_)]) (by exact ⟨R,R,R,iL,R,R,R,iL,Zb⟩) (cs:=[rI (1),rI (0),cZ,qb w1.add]) (by rfl)) ?_
  exact AF.nil (AA.step R R R (YUF 18 R YBw (f:=YAC.row) (l:=([(YAC.mk 1 0 [] w1.add)]:List YAC)) ⟨R,⟨_,iL,R⟩,Zb⟩ R (fun _=>R) R) (AA.nil (Ze h5 fun l2 el2 h6=>(AOps.step R R R (YCr R YBw iL R (.inr (.inl ⟨_,_,iL,R⟩)) el2) (sQ R (ZJ (ob:=.box _ _ _) R iL fR R) (sQ R (fB R YDe iL fR R) (Zv R R (Zs (ds:=[.own 1001 (n0+1),qb w1.add,rI (w1.cut)]) R YXH iL R iL R R R R) (Zk (wK1 _ _ wk (J1 _ (vec [(n0+1),(n0+2)]) (Za h6).symm))))))))))
 ·have h5:=YDP hc2 hp1
  refine Zc ?_
  exact wK1 _ _ (Zl (by exact Weak.frz (e':=[(0,.ptr 1000 gb1000 0 0),(2,.ptr 1000 gb1000 0 0),(3,.ptr 1000 gb1000 0 0),(4,.ptr 1000 gb1000 0 1),(5,qb w1.add),(6,rI ((w1.add.length:Int))),(7,rB ((decide (0<(w1.add.length:Int)))))]) (h':=[(1000,some (.box gb1000 112 [.own 1001 ga1001,qb w1.add,rI (w1.cut)])),(1001,some (.arr ga1001 81 4 (w1.out.map YAC.row)))]) 1002 R ⟨jL,jL,jL,jL,.inl (.inr (.inr ⟨R,R⟩)),jL,jL,Zb⟩ ⟨R,.inr (.inr (.inl ⟨_,_,_,_,R,R,⟨.inl R,.inr (.inr ⟨R,R⟩),.inl R,Zb⟩⟩)),R,.inl R,Zb⟩) wk) (J1 _ (vec [ga1001,n0]) (Za h5).symm)
theorem YDj {w1:YAE} {n1:Int} {attrs1:List YAD} {r:YAE} {gb1000:Nat} {ga1001:Nat} {ga1002:Nat} (h:YBB w1 n1 attrs1=some r):AHC Tryz.prog 62 3 [.ptr 1000 gb1000 0 0,rI (n1),qa attrs1] [(1000,some (.box gb1000 112 [.own 1001 ga1001,.own 1002 ga1002,rI (w1.cut)])),(1001,some (.arr ga1001 81 4 (w1.out.map YAC.row))),(1002,some (.arr ga1002 78 3 (w1.add.map YAB.row)))] (fun rr h'=>∃ (i:Nat→Nat),rr = .tup []∧h'=[(1000,some (.box gb1000 112 [.own 1001 (i 0),.own 1002 (i 1),rI (r.cut)])),(1001,some (.arr (i 0) 81 4 (r.out.map YAC.row))),(1002,some (.arr (i 1) 78 3 (r.add.map YAB.row)))]):=by
 unfold YBB at h
 refine AHC.mkw Tryz.func62 R R Tryz.ntmps62 (ZN R) fun n0=>aT fun c1=>(aU (mM R (sQ R (Zh R iL iL) (aZ (cI R h (fun h1=>?_) fun h1=>?_)))))
 ·exact Zd (RetW.mk (s':=⟨[],[(1000,some (.box gb1000 112 [.own 1001 ga1001,.own 1002 ga1002,rI (w1.cut)])),(1001,some (.arr ga1001 81 4 (w1.out.map YAC.row))),(1002,some (.arr ga1002 78 3 (w1.add.map YAB.row)))],n0,67⟩) wk (YAu (fun (r:YAE) rr h'=>∃ (i:Nat→Nat),rr = .tup []∧h'=[(1000,some (.box gb1000 112 [.own 1001 (i 0),.own 1002 (i 1),rI (r.cut)])),(1001,some (.arr (i 0) 81 4 (r.out.map YAC.row))),(1002,some (.arr (i 1) 78 3 (r.add.map YAB.row)))]) h1 (by exact ⟨.tup [],[(1000,some (.box gb1000 112 [.own 1001 ga1001,.own 1002 ga1002,rI (w1.cut)])),(1001,some (.arr ga1001 81 4 (w1.out.map YAC.row))),(1002,some (.arr ga1002 78 3 (w1.add.map YAB.row)))],⟨_,R,Zb⟩,⟨.inr R,.inr R,.inr R,Zb⟩,R,R,vec [ga1001,ga1002],R,R⟩)))
 refine Zc (c1 _ (aT fun c3=>(aR (mM R (Ze h1 fun w2 ew2 h2=>?_)))))
 refine AOps.stepHI [1000,1001,1002] (hc:=[(1000,some (.box gb1000 112 [.own 1001 ga1001,.own 1002 ga1002,rI (w1.cut)])),(1001,some (.arr ga1001 81 4 (w1.out.map YAC.row))),(1002,some (.arr ga1002 78 3 (w1.add.map YAB.row)))]) (bs:=[.ptr 1000 gb1000 0 0]) (caps:=[]) R R R R iL R ⟨.inl ⟨iL,R⟩,Zb⟩ ⟨R,R,R,R,R,R,R,R,R,Zb⟩ (by decide) (YE8 ew2) ?_
 intro i1 n2
 refine aGo [0,1,2,7,8,9,10] [1000,1001] ?_
 refine aZ (c3 _ (aT fun c4=>(aU (mM R (sQ R (ZJ (ob:=.box _ _ _) R iL fR R) (lF YDe YLI R R (sQ R (YH4 R YBw.slice iL R) (Ze h2 fun k1 ek1 h3=>(sQ R (YBg R iL iL (fun _=>ek1)) (mA R (aZ (aT fun c6=>(aG [0,1,2,6] [1000,1001] ?_)))))))))))))
 refine aR (mM R (sQ R (YC1 R iL iL) (mM R (vM R (vQ R (ZJ (ob:=.box _ _ _) R (iR R) fR R) (vQ R (fB R YDe (iR R) fR R) (vQ R (Zi (a:=.own 1001 (i1 0)) R YLI (iR R) R R) (vM R (Ze h3 fun x1 ex1 h4=>(vQ R (YCw R YBw.slice (iR R) R (iR R) (gdt ex1)) (vQ R (YAk (ob:=.arr _ _ _ _) R YC4 (iR R) fR R) (vQ R (YEd (d:=.int .i64 x1.Kind) R ts_3 (iR R) fR (gdt ex1) R) (vQ R (Zh R (iR R) iL) (sQ R (Zj R iL (iR R)) (mM R (vM R (vQ R (ZJ (ob:=.box _ _ _) R (iR R) fR R) (vQ R (fB R YDe (iR R) fR R) (vQ R (Zi (a:=.own 1001 (i1 0)) R YLI (iR R) R R) (vM R (Ze h4 fun x2 ex2 h5=>(vQ R (YCw R YBw.slice (iR R) R (iR R) (gdt ex2)) (vQ R (YAk (ob:=.arr _ _ _ _) R YE3 (iR R) fR R) (vQ R (YEd (d:=.sl (x2.Attrs.map YAD.row)) R YCf (iR R) fR (gdt ex2) R) (vM R (Ze h5 fun r1 er1 h6=>vL (fun hg=>YIZ (gdt er1 hg)) R (sQ R (Zj R iL (iR R)) (aZ (c6 _ (cI R h6 (fun h7=>?_) fun h7=>?_))))))))))))))))))))))))))))))
 ·refine aT fun c7=>(aG [0,1,6] [1000,1001] ?_)
  refine aR (mM R (sQ R (ZJ (ob:=.box _ _ _) R iL fR R) (lF YDe YLI R R (mM R (Ze h7 fun x3 ex3 h8=>(sQ R (YCw R YBw.slice iL R iL (fun _=>ex3)) (sQ R (YAk (ob:=.arr _ _ _ _) R YD1 iL fR R) (sQ R (YEd (d:=.int .i64 x3.N) R ts_3 iL fR (fun _=>ex3) R) (mM R (Ze h8 fun x4 ex4 h9=>(sQ R (Zx R iL iL (fun _=>ex4)) (sQ R (YCw R YBw.slice iL R iL (fun _=>ex3)) (sQ R (YAk (ob:=.arr _ _ _ _) R YD1 iL fR R) (Zv R R (YN5 (v:=(YAC.mk x3.Kind x4 x3.Attrs x3.Elems)) R tz_3 iL R ex3 iL R R R R) (oZ c7 ?_)))))))))))))))
  exact Zd (RetW.mk (s':=⟨[],[(1000,some (.box gb1000 112 [.own 1001 (i1 0),.own 1002 n2,rI (w2.cut)])),(1001,some (.arr (i1 0) 81 4 ((w2.out.set k1.toNat (YAC.mk x3.Kind x4 x3.Attrs x3.Elems)).map YAC.row))),(1002,some (.arr n2 78 3 (([]:List YAB).map YAB.row)))],(n2+1),67⟩) (Zl (Zl (Weak.adoptBox 1000 1 1002 78 3 (by decide) R R (by decide)) (by exact ZK (e':=[(0,.ptr 1000 gb1000 0 0),(1,rI (n1)),(6,rI (k1)),(42,.ptr 1000 gb1000 0 0),(43,.ptr 1000 gb1000 0 0),(44,.ptr 1000 gb1000 0 0),(45,.own 1001 (i1 0)),(46,rI (k1)),(47,.ptr 1001 (i1 0) k1.toNat 0),(48,.ptr 1001 (i1 0) k1.toNat 1),(49,rI (x3.N)),(50,rI (n1)),(51,rI (x4)),(52,.ptr 1001 (i1 0) k1.toNat 0),(53,.ptr 1001 (i1 0) k1.toNat 1)]) (h':=[(1000,some (.box gb1000 112 [.own 1001 (i1 0),.own 1002 n2,rI (w2.cut)])),(1001,some (.arr (i1 0) 81 4 ((w2.out.set k1.toNat (YAC.mk x3.Kind x4 x3.Attrs x3.Elems)).map YAC.row))),(1002,some (.arr n2 78 3 (([]:List YAB).map YAB.row)))]) ⟨jL,jL,jL,jL,jL,jL,jL,jL,jL,jL,jL,jL,jL,jL,jL,Zb⟩ ⟨.inl R,.inl R,.inl R,Zb⟩ nL)) wk) (YAu (fun (r:YAE) rr h'=>∃ (i:Nat→Nat),rr = .tup []∧h'=[(1000,some (.box gb1000 112 [.own 1001 (i 0),.own 1002 (i 1),rI (r.cut)])),(1001,some (.arr (i 0) 81 4 (r.out.map YAC.row))),(1002,some (.arr (i 1) 78 3 (r.add.map YAB.row)))]) h9 (by exact ⟨.tup [],[(1000,some (.box gb1000 112 [.own 1001 (i1 0),.own 1002 n2,rI (w2.cut)])),(1001,some (.arr (i1 0) 81 4 ((w2.out.set k1.toNat (YAC.mk x3.Kind x4 x3.Attrs x3.Elems)).map YAC.row))),(1002,some (.arr n2 78 3 (([]:List YAB).map YAB.row)))],⟨_,R,Zb⟩,⟨.inr R,.inr R,.inr R,Zb⟩,R,R,vec [(i1 0),n2],R,R⟩)))
 refine Zc (c4 _ (aG [0,1,2] [1000,1001] ?_))
 refine Ze h7 fun l1 el1 h10=>(Ze h10 fun l2 el2 h11=>?_)
 refine AW.regionP 11 [pO 54 (.ptr 1000 gb1000 0 0),pO 55 (.ptr 1000 gb1000 0 0),pO 56 (.ptr 1000 gb1000 0 0),pO 57 (.ptr 1000 gb1000 0 0),pO 58 (.own 1001 (i1 0)),pO 59 (rI (n1)),pO 60 (qa attrs1),⟨some 61,(fun _=>qa l1),some (61,(fun _=>none)),[]⟩,pO 62 (.agg [rI (0),rI (n1),qa l1,cZ]),⟨some 63,(fun G1=>.own 63 (G1 9)),some (63,(fun G1=>some (.arr (G1 9) 81 4 ([(YAC.mk 0 n1 l1 [])].map YAC.row)))),[9]⟩,⟨some 64,(fun G1=>.own 1001 (G1 10)),some (1001,(fun G1=>some (.arr (G1 10) 81 4 (l2.map YAC.row)))),[10]⟩] hmix (by kernel_rfl) (by exact ⟨fun _ _ h=>⟨R,fun _ _ e=>by cases e⟩,fun _ _ h=>⟨R,fun _ _ e=>by cases e⟩,fun _ _ h=>⟨R,fun _ _ e=>by cases e⟩,fun _ _ h=>⟨R,fun _ _ e=>by cases e⟩,fun _ _ h=>⟨R,fun _ _ e=>by cases e⟩,fun _ _ h=>⟨R,fun _ _ e=>by cases e⟩,fun _ _ h=>⟨R,fun _ _ e=>by cases e⟩,fun _ _ h=>⟨R,fun _ _ e=>by cases e; rfl⟩,fun _ _ h=>⟨R,fun _ _ e=>by cases e⟩,fun _ _ h=>⟨by simp only [h 9 R],fun _ _ e=>by cases e; simp only [h 9 R]⟩,fun _ _ h=>⟨by simp only [h 10 R],fun _ _ e=>by cases e; simp only [h 10 R]⟩,Zb⟩) R (by exact ⟨oB [(0,.ptr 1000 gb1000 0 0)] [(1000,some (.box gb1000 112 [.own 1001 (i1 0),cZ,rI (w2.cut)]))] (Zf R (.inl R)),oB [(0,.ptr 1000 gb1000 0 0)] [(1000,some (.box gb1000 112 [.own 1001 (i1 0),cZ,rI (w2.cut)]))] (Zf R (.inl R)),oB [(55,.ptr 1000 gb1000 0 0)] [(1000,some (.box gb1000 112 [.own 1001 (i1 0),cZ,rI (w2.cut)]))] (ZJ (ob:=.box _ _ _) R (.inl R) (fun _=>R) R),oB [(56,.ptr 1000 gb1000 0 0)] [(1000,some (.box gb1000 112 [.own 1001 (i1 0),cZ,rI (w2.cut)]))] (fB R YDe (.inl R) (fun _=>R) R),oB [(57,.ptr 1000 gb1000 0 0)] [(1000,some (.box gb1000 112 [.own 1001 (i1 0),cZ,rI (w2.cut)]))] (Zi (a:=.own 1001 (i1 0)) R YLI (.inl R) R R),oB [(1,rI (n1))] [] (Zf R (.inl R)),oB [(2,qa attrs1)] [] (Zf R (.inl R)),Ob.makeN R R (by intro d h; cases h; rfl) R (fun _=>[(60,qa attrs1)]) (fun _=>[]) (fun D G1 hr=>⟨YJD hr 6 R R (by kernel_rfl) R R,Zb⟩) (fun D G1 hr=>Zb) (fun G1 e h' n=>YDX.frz (YAV.toN (YGV 61 (f:=YAD.row) R YBs (.inl R) (.inl ⟨(.inl R),fun _=>R⟩) el1))),oB [(59,rI (n1)),(61,qa l1)] [] (ZD R YNj (q:=[(0,_),(1,_),(2,_)]) (by exact ⟨R,R,R,(.inl R),R,R,R,(.inl R),R,R,R,(.inl R),Zb⟩) (cs:=[rI (0),rI (n1),qa l1,cZ]) (by rfl)),oM (fun _=>[(62,.agg [rI (0),rI (n1),qa l1,cZ])]) (fun _=>[]) R (fun G1 e h' n=>YA6 63 R YBw (f:=YAC.row) (l:=([(YAC.mk 0 n1 l1 [])]:List YAC)) ⟨R,⟨_,(.inl R),R⟩,Zb⟩ R (fun _=>R) R),oM (fun G1=>[(58,.own 1001 (i1 0)),(63,.own 63 (G1 9))]) (fun G1=>[(63,some (.arr (G1 9) 81 4 ([(YAC.mk 0 n1 l1 [])].map YAC.row))),(1001,some (.arr (i1 0) 81 4 (w2.out.map YAC.row)))]) R (fun G1 e h' n=>YCr R YBw (.inl R) R (.inr (.inl ⟨_,_,(.inl R),R⟩)) el2),Zb⟩) fun G1 n3=>?_
 refine aGo [0,1,2,54,55,56,57,59,60,61,62,63,64] [63,1000,1001] ?_
 refine sQ R (ZJ (ob:=.box _ _ _) R iL fR R) (sQ R (fB R YDe iL fR R) (Zv R R (Zs (ds:=[.own 1001 (G1 10),cZ,rI (w2.cut)]) R YXH iL R iL R R R R) (Zk ?_)))
 exact RetW.mk (s':=⟨[],[(1000,some (.box gb1000 112 [.own 1001 (G1 10),.own 1002 n3,rI (w2.cut)])),(1001,some (.arr (G1 10) 81 4 (l2.map YAC.row))),(1002,some (.arr n3 78 3 (([]:List YAB).map YAB.row)))],(n3+1),67⟩) (Zl (Zl (Weak.adoptBox 1000 1 1002 78 3 (by decide) R R (by decide)) (by exact ZK (e':=[(0,.ptr 1000 gb1000 0 0),(1,rI (n1)),(2,qa attrs1),(54,.ptr 1000 gb1000 0 0),(55,.ptr 1000 gb1000 0 0),(56,.ptr 1000 gb1000 0 0),(57,.ptr 1000 gb1000 0 0),(59,rI (n1)),(60,qa attrs1),(61,qa l1),(62,.agg [rI (0),rI (n1),qa l1,cZ]),(63,.own 63 (G1 9)),(64,.own 1001 (G1 10)),(65,.ptr 1000 gb1000 0 0),(66,.ptr 1000 gb1000 0 0)]) (h':=[(63,some (.arr (G1 9) 81 4 ([(YAC.mk 0 n1 l1 [])].map YAC.row))),(1000,some (.box gb1000 112 [.own 1001 (G1 10),.own 1002 n3,rI (w2.cut)])),(1001,some (.arr (G1 10) 81 4 (l2.map YAC.row))),(1002,some (.arr n3 78 3 (([]:List YAB).map YAB.row)))]) ⟨jL,jL,jL,jL,jL,jL,jL,jL,jL,jL,jL,jL,jL,jL,jL,Zb⟩ ⟨.inl R,.inl R,.inl R,.inl R,Zb⟩ nL)) wk) (YAu (fun (r:YAE) rr h'=>∃ (i:Nat→Nat),rr = .tup []∧h'=[(1000,some (.box gb1000 112 [.own 1001 (i 0),.own 1002 (i 1),rI (r.cut)])),(1001,some (.arr (i 0) 81 4 (r.out.map YAC.row))),(1002,some (.arr (i 1) 78 3 (r.add.map YAB.row)))]) h11 (by exact ⟨.tup [],[(1000,some (.box gb1000 112 [.own 1001 (G1 10),.own 1002 n3,rI (w2.cut)])),(1001,some (.arr (G1 10) 81 4 (l2.map YAC.row))),(1002,some (.arr n3 78 3 (([]:List YAB).map YAB.row)))],⟨_,R,Zb⟩,⟨.inr R,.inr R,.inr R,Zb⟩,R,R,vec [(G1 10),n3],R,R⟩))
theorem YP5 {f1 r} (h:YHt f1=some r):ARO Tryz.prog 118 [qb f1] (qb r):=by
 unfold YHt at h
 refine mF Tryz.func118 Tryz.ntmps118 R fun n0=>aU (mA R (aZ (aU (mM R (sQ R (Zq R YAw.slice iL) (Ze h fun out1 eout1 h1=>(sS R (YVq 8 R YAw (f:=YAB.row) (z0:=(YAB.mk 0 0 [])) tr_78 iL iL eout1) (mA R (aZ (aS fun K3 c3 wK3=>(aU (mM R (sQ R (Zq R YAw.slice iL) (mM R (aZ (Zg (jb1k h1 fun o1 hit1 hk1=>?_)))))))))))))))))
 have J1 : ∀ (out5:List YAB) (i5:Nat→Nat),o1=out5→K3 ⟨[(3,.own 8 (i5 0))],[(8,some (.arr (i5 0) 78 3 (out5.map YAB.row)))],(i5 1),29⟩:=by
  intro out5 i5 e
  have h2:=hk1 _ e
  exact c3 _ (aU (mM R (mA R (aZ (Zd (YHd (P:=Tryz.prog) (fun (r:(List YAB))=>qb r) h2 iL (.t (.one (.own R)))))))))
 refine AW.iter2 (fun (x2:Int) (out3:List YAB) i3=>⟨[(3,.own 8 (i3 0)),(9,qb f1),(10,rI ((f1.length:Int))),(11,rI (x2))],[(8,some (.arr (i3 0) 78 3 (out3.map YAB.row)))],(i3 1),29⟩) (vec [n0,(n0+1)]) hit1 wk ?_
 intro x2 out3 i3 v1 hv1 hx1
 have h3:YCQ f1 x2 out3=some v1:=hv1; unfold YCQ at h3
 refine aU (sQ R (Zo R iL iL) (aZ (aT fun c7=>(cI R h3 (fun h4=>?_) fun h4=>?_))))
 ·refine Zc (c7 _ (aT fun c8=>(Zg (aU (mM R (Ze h4 fun x4 ex4 h5=>(sQ R (Zp R YAw.slice iL iL (fun _=>R) (fun _=>ex4)) (sQ R (Zy (cs:=(k27_ x4)) R YJh iL R R) (sS R (ZH (cs:=z25_) 5 R YQG R R) (mA R (Zv R R (Zs (ds:=(k27_ x4)) R YOr iL R iL R R R R) (aZ (Ze h5 fun l1 el1 h6=>?_)))))))))))))
  refine AW.regionP 10 [pO 16 (.own 8 (i3 0)),pO 17 (rI (x2)),pO 18 (.ptr 5 (i3 1) 0 0),pO 19 (rI (x4.Char)),pO 20 (.ptr 5 (i3 1) 0 1),pO 21 (rI (x4.Ref)),pO 22 (.ptr 5 (i3 1) 0 2),pO 23 (qa x4.Attrs),⟨some 24,(fun G1=>.own 24 (G1 8)),some (24,(fun G1=>some (.arr (G1 8) 36 2 (l1.map YAD.row)))),[8]⟩,⟨some 25,(fun G1=>.agg [rI (x4.Char),rI (x4.Ref),.own 24 (G1 8)]),none,[8]⟩] hmix (by kernel_rfl) (by exact ⟨fun _ _ h=>⟨R,fun _ _ e=>by cases e⟩,fun _ _ h=>⟨R,fun _ _ e=>by cases e⟩,fun _ _ h=>⟨R,fun _ _ e=>by cases e⟩,fun _ _ h=>⟨R,fun _ _ e=>by cases e⟩,fun _ _ h=>⟨R,fun _ _ e=>by cases e⟩,fun _ _ h=>⟨R,fun _ _ e=>by cases e⟩,fun _ _ h=>⟨R,fun _ _ e=>by cases e⟩,fun _ _ h=>⟨R,fun _ _ e=>by cases e⟩,fun _ _ h=>⟨by simp only [h 8 R],fun _ _ e=>by cases e; simp only [h 8 R]⟩,fun _ _ h=>⟨by simp only [h 8 R],fun _ _ e=>by cases e⟩,Zb⟩) R (by exact ⟨oB [(3,.own 8 (i3 0))] [(8,some (.arr (i3 0) 78 3 (out3.map YAB.row)))] (Zf R (.inl R)),oB [(4,rI (x2))] [] (Zf R (.inl R)),oB [(5,.ptr 5 (i3 1) 0 0)] [(5,some (.box (i3 1) 78 (k27_ x4)))] (fB R YD2 (.inl R) (fun _=>R) R),oB [(18,.ptr 5 (i3 1) 0 0)] [(5,some (.box (i3 1) 78 (k27_ x4)))] (Zi (a:=rI (x4.Char)) R ts_3 (.inl R) R R),oB [(5,.ptr 5 (i3 1) 0 0)] [(5,some (.box (i3 1) 78 (k27_ x4)))] (fB R YCS (.inl R) (fun _=>R) R),oB [(20,.ptr 5 (i3 1) 0 1)] [(5,some (.box (i3 1) 78 (k27_ x4)))] (Zi (a:=rI (x4.Ref)) R ts_3 (.inl R) R R),oB [(5,.ptr 5 (i3 1) 0 0)] [(5,some (.box (i3 1) 78 (k27_ x4)))] (fB R YGl (.inl R) (fun _=>R) R),oB [(22,.ptr 5 (i3 1) 0 2)] [(5,some (.box (i3 1) 78 (k27_ x4)))] (Zi (a:=qa x4.Attrs) R YCf (.inl R) R R),oM (fun _=>[(23,qa x4.Attrs)]) (fun _=>[]) R (fun G1 e h' n=>YGV 24 (f:=YAD.row) R YBs (.inl R) (.inl ⟨(.inl R),fun _=>R⟩) el1),oC (fun G1=>[(19,rI (x4.Char)),(21,rI (x4.Ref)),(24,.own 24 (G1 8))]) (fun G1=>[(24,some (.arr (G1 8) 36 2 (l1.map YAD.row)))]) (fun G1 e h'=>ZD R YLM (q:=[(0,_),(1,_),(2,_)]) (by exact ⟨R,R,R,(.inl R),R,R,R,(.inl R),R,R,R,(.inl R),Zb⟩) (cs:=[rI (x4.Char),rI (x4.Ref),.own 24 (G1 8)]) (by rfl)),Zb⟩) fun G1 n1=>?_
  refine aGo [3,4,5,9,10,11,12,13,14,15,16,17,18,19,20,21,22,23,24,25] [5,8,24] ?_
  refine Ze h6 fun x5 ex5 h7=>(sQ R (YCw R YAw.slice iL R iL (fun _=>ex5)) ?_)
  refine AOps.weak (by exact Weak.frz (e':=[(3,.own 8 (i3 0)),(4,rI (x2)),(5,.ptr 5 (i3 1) 0 0),(9,qb f1),(10,rI ((f1.length:Int))),(11,rI (x2)),(12,rB ((decide (x2<(f1.length:Int))))),(13,rI (x2)),(14,.rop (YAB.row x4) 0),(15,.agg (k27_ x4)),(16,.own 8 (i3 0)),(17,rI (x2)),(18,.ptr 5 (i3 1) 0 0),(19,rI (x4.Char)),(20,.ptr 5 (i3 1) 0 1),(21,rI (x4.Ref)),(22,.ptr 5 (i3 1) 0 2),(23,qa x4.Attrs),(24,qa l1),(25,.agg [rI (x4.Char),rI (x4.Ref),qa l1]),(26,.ptr 8 (i3 0) x2.toNat 0)]) (h':=[(5,some (.box (i3 1) 78 (k27_ x4))),(8,some (.arr (i3 0) 78 3 (out3.map YAB.row)))]) 24 R ⟨jL,jL,jL,jL,jL,jL,jL,jL,jL,jL,jL,jL,jL,jL,jL,jL,jL,jL,.inl (.inr (.inr ⟨R,R⟩)),.inr ⟨_,_,R,R,⟨.inl R,.inl R,.inr (.inr ⟨R,R⟩),Zb⟩⟩,jL,Zb⟩ ⟨R,.inl R,R,.inl R,Zb⟩) ?_
  refine Zv R R (YUC (v:=(YAB.mk x4.Char x4.Ref l1)) R YOr iL R ex5 iL R R R R) (aZ (c8 _ (aG [3,9,10,11] [8] ?_)))
  exact aR (Ze h7 fun x6 ex6 h8=>(sQ R (Zx R iL iL (fun _=>ex6)) (mM R (Zk (YDV.mk h8 (vec [(i3 0),n1]) wk)))))
 exact Zw (wK3 _ _ wk (J1 _ (vec [(i3 0),(i3 1)]) (hx1 _ (Za h4).symm)))
theorem YE9 {w1:YAE} {l1:List YAB} {r:YAE} {gb1000:Nat} {ga1001:Nat} {ga1002:Nat} (h:YBJ w1 l1=some r):AHC Tryz.prog 75 3 [.ptr 1000 gb1000 0 0,qb l1] [(1000,some (.box gb1000 112 [.own 1001 ga1001,.own 1002 ga1002,rI (w1.cut)])),(1001,some (.arr ga1001 81 4 (w1.out.map YAC.row))),(1002,some (.arr ga1002 78 3 (w1.add.map YAB.row)))] (fun rr h'=>∃ (i:Nat→Nat),rr = .tup []∧h'=[(1000,some (.box gb1000 112 [.own 1001 (i 0),.own 1002 (i 1),rI (r.cut)])),(1001,some (.arr (i 0) 81 4 (r.out.map YAC.row))),(1002,some (.arr (i 1) 78 3 (r.add.map YAB.row)))]):=by
 unfold YBJ at h
 refine AHC.mkw Tryz.func75 R R Tryz.ntmps75 (ZN R) fun n0=>Ze h fun r1 er1 h1=>(Ze h1 fun l2 el2 h2=>?_)
 refine AW.regionP 8 [pO 4 (.ptr 1000 gb1000 0 0),pO 5 (.ptr 1000 gb1000 0 0),pO 6 (.ptr 1000 gb1000 0 0),pO 7 (.ptr 1000 gb1000 0 1),pO 8 (.own 1002 ga1002),pO 9 (qb l1),pO 10 (qb r1),⟨some 11,(fun G1=>.own 1002 (G1 7)),some (1002,(fun G1=>some (.arr (G1 7) 78 3 (l2.map YAB.row)))),[7]⟩] hmix (by kernel_rfl) (by exact ⟨fun _ _ h=>⟨R,fun _ _ e=>by cases e⟩,fun _ _ h=>⟨R,fun _ _ e=>by cases e⟩,fun _ _ h=>⟨R,fun _ _ e=>by cases e⟩,fun _ _ h=>⟨R,fun _ _ e=>by cases e⟩,fun _ _ h=>⟨R,fun _ _ e=>by cases e⟩,fun _ _ h=>⟨R,fun _ _ e=>by cases e⟩,fun _ _ h=>⟨R,fun _ _ e=>by cases e⟩,fun _ _ h=>⟨by simp only [h 7 R],fun _ _ e=>by cases e; simp only [h 7 R]⟩,Zb⟩) R (by exact ⟨oB [(0,.ptr 1000 gb1000 0 0)] [(1000,some (.box gb1000 112 [.own 1001 ga1001,.own 1002 ga1002,rI (w1.cut)]))] (Zf R (.inl R)),oB [(0,.ptr 1000 gb1000 0 0)] [(1000,some (.box gb1000 112 [.own 1001 ga1001,.own 1002 ga1002,rI (w1.cut)]))] (Zf R (.inl R)),oB [(5,.ptr 1000 gb1000 0 0)] [(1000,some (.box gb1000 112 [.own 1001 ga1001,.own 1002 ga1002,rI (w1.cut)]))] (ZJ (ob:=.box _ _ _) R (.inl R) (fun _=>R) R),oB [(6,.ptr 1000 gb1000 0 0)] [(1000,some (.box gb1000 112 [.own 1001 ga1001,.own 1002 ga1002,rI (w1.cut)]))] (fB R YIz (.inl R) (fun _=>R) R),oB [(7,.ptr 1000 gb1000 0 1)] [(1000,some (.box gb1000 112 [.own 1001 ga1001,.own 1002 ga1002,rI (w1.cut)]))] (Zi (a:=.own 1002 ga1002) R YDy (.inl R) R R),oB [(1,qb l1)] [] (Zf R (.inl R)),oD (fun _=>[(9,qb l1)]) (fun _=>[]) (fun G1 e h' n=>YBX (r:=qb r1) (caps:=[]) (bs:=[qb l1]) R (.inl R) R ⟨.inl ⟨(.inl R),R⟩,Zb⟩ (fun _=>YP5 (er1))),oM (fun _=>[(8,.own 1002 ga1002),(10,qb r1)]) (fun _=>[(1002,some (.arr ga1002 78 3 (w1.add.map YAB.row)))]) R (fun G1 e h' n=>YCr R YAw (.inl R) R (.inl ⟨(.inl R),fun _=>R⟩) el2),Zb⟩) fun G1 n1=>?_
 refine aGo [0,1,4,5,6,7,9,10,11] [1000,1001,1002] ?_
 refine sQ R (ZJ (ob:=.box _ _ _) R iL fR R) (sQ R (fB R YIz iL fR R) (Zv R R (Zs (ds:=[.own 1001 ga1001,.own 1002 (G1 7),rI (w1.cut)]) R tz_55 iL R iL R R R R) (Zk ?_)))
 exact RetW.mk (s':=⟨[],[(1000,some (.box gb1000 112 [.own 1001 ga1001,.own 1002 (G1 7),rI (w1.cut)])),(1001,some (.arr ga1001 81 4 (w1.out.map YAC.row))),(1002,some (.arr (G1 7) 78 3 (l2.map YAB.row)))],n1,14⟩) wk (YAu (fun (r:YAE) rr h'=>∃ (i:Nat→Nat),rr = .tup []∧h'=[(1000,some (.box gb1000 112 [.own 1001 (i 0),.own 1002 (i 1),rI (r.cut)])),(1001,some (.arr (i 0) 81 4 (r.out.map YAC.row))),(1002,some (.arr (i 1) 78 3 (r.add.map YAB.row)))]) h2 (by exact ⟨.tup [],[(1000,some (.box gb1000 112 [.own 1001 ga1001,.own 1002 (G1 7),rI (w1.cut)])),(1001,some (.arr ga1001 81 4 (w1.out.map YAC.row))),(1002,some (.arr (G1 7) 78 3 (l2.map YAB.row)))],⟨_,R,Zb⟩,⟨.inr R,.inr R,.inr R,Zb⟩,R,R,vec [ga1001,(G1 7)],R,R⟩))
theorem YF1 {l1 r} (h:YBf l1=some r):ARO Tryz.prog 61 [qa l1] (rI (r)):=by
 unfold YBf at h
 exact mF Tryz.func61 Tryz.ntmps61 R fun n0=>aU (mA R (aZ (aU (mM R (Ze h fun r1 er1 h1=>(cL (YJ6 (er1)) R (mA R (aZ (Zd (Y1_ h1 iL (.t (.d R))))))))))))
theorem YJ4 {s1 r} (h:YFT s1=some r):ARO Tryz.prog 74 (k19_ s1) (rI (r)):=by
 unfold YFT at h
 refine mF Tryz.func74 Tryz.ntmps74 R fun n0=>aU (sS R (ZB (cs:=(k21_ s1)) 1 R iL R R) (mA R (aZ (aT fun c2=>(aU (lF YC4 ts_3 R R (aZ (Zg (aS fun K4 c4 wK4=>(aU (sQ R (Zh R iL iL) (mA R (aZ (jb1k h fun p1 hp1 hk1=>?_))))))))))))))
 have J1 : ∀ (x1:Bool) (i1:Nat→Nat),p1=x1→K4 ⟨[(1,.ptr 1 n0 0 0),(4,rI (s1.Kind)),(5,rB (x1))],[(1,some (.box n0 81 (k21_ s1)))],(i1 0),52⟩:=by
  intro x1 i1 e
  have h1:=hk1 _ e
  refine c4 _ (cI R h1 (fun h2=>?_) fun h2=>?_)
  ·refine aT fun c6=>(aU (lF YHQ YDy R R (sQ R (Zq R YAw.slice iL) (sQ R (ZF R iL iL) (mM R (vF YC4 ts_3 R R (vQ R (Zh R (iR R) iL) (vQ R (Zf R (iR R)) (wQ R (fB R YE3 iL fR R) (wQ R (Zi (a:=qa s1.Attrs) R YCf (iR R) R R) (wQ R (Zq R YBs.slice (iR R)) (wQ R (ZF R (iR R) iL) (vQ R (Zj R (iR R) (iR R)) (sQ R (Zr R iL (iR R)) (aZ (cI R h2 (fun h3=>?_) fun h3=>?_))))))))))))))))
   ·refine aT fun c8=>(aF [] ?_)
    exact aR (mA R (aZ (c8 _ (Zd (Y1_ h3 iL (.t (.d R)))))))
   refine Zc (c6 _ (aT fun c9=>(aT fun c10=>(aG [1] [1] ?_))))
   refine aR (lF YD1 ts_3 R R (sQ R (Zo R iL iL) (mM R (vF YD1 ts_3 R R (vQ R (ZF R (iR R) iL) (sQ R (Zr R iL (iR R)) (aZ (c10 _ (cI R h3 (fun h4=>?_) fun h4=>?_)))))))))
   ·refine aT fun c11=>(aF [] ?_)
    exact aR (mA R (aZ (c11 _ (Zd (Y1_ h4 iL (.t (.d R)))))))
   exact Zc (c9 _ (aU (lF YE3 YCf R R (Ze h4 fun r1 er1 h5=>(cL (YF1 (er1)) R (mA R (aZ (Zd (Y1_ h5 iL (.t (.d R)))))))))))
  refine aU (sQ R (Zh R iL iL) (mA R (aZ (cI R h2 (fun h6=>?_) fun h6=>?_))))
  ·refine aT fun c14=>(aU (lF YD1 ts_3 R R (sQ R (Zu R iL iL) (mM R (vF YE3 YCf R R (vQ R (Zq R YBs.slice (iR R)) (vQ R (ZF R (iR R) iL) (sQ R (Zr R iL (iR R)) (aZ (cI R h6 (fun h7=>?_) fun h7=>?_))))))))))
   ·refine aT fun c16=>(aF [] ?_)
    exact aR (mA R (aZ (c16 _ (Zd (Y1_ h7 iL (.t (.d R)))))))
   refine Zc (c14 _ (aT fun c17=>(aT fun c18=>(aG [1] [1] ?_))))
   refine aR (lF YHQ YDy R R (sQ R (Zq R YAw.slice iL) (sQ R (Zh R iL iL) (aZ (c18 _ (cI R h7 (fun h8=>?_) fun h8=>?_))))))
   ·exact aU (mA R (aZ (Zd (Y1_ h8 iL (.t (.d R))))))
   exact Zc (c17 _ (aU (lF YHQ YDy R R (Ze h8 fun r2 er2 h9=>(cL (YG7 (er2)) R (mA R (aZ (Zd (Y1_ h9 iL (.t (.d R)))))))))))
  exact Zc (c2 _ (aU (mA R (aZ (Zd (Y1_ h6 iL (.t (.d R))))))))
 refine aC R (fun hc7=>?_) (fun hc7=>?_)
 ·have h10:=YDO hc7 hp1
  exact Zc (wK4 _ _ wk (J1 _ (vec [(n0+1)]) (Za h10).symm))
 ·have h10:=YDP hc7 hp1
  exact aR (sQ R (Zh R iL iL) (mA R (Zk (wK4 _ _ wk (J1 _ (vec [(n0+1)]) (Za h10).symm)))))
theorem YOo {s1 r} (h:YGf s1=some r):ARO Tryz.prog 151 (k19_ s1) (rI (r)):=by
 unfold YGf at h
 refine mF Tryz.func151 Tryz.ntmps151 R fun n0=>aU (sS R (ZB (cs:=(k21_ s1)) 1 R iL R R) (mA R (aZ (aT fun c2=>(aU (lF YC4 ts_3 R R (sQ R (Zh R iL iL) (aZ (cI R h (fun h1=>?_) fun h1=>?_)))))))))
 ·exact aU (lF YHQ YDy R R (sQ R (Zq R YAw.slice iL) (mA R (aZ (Zd (Y1_ h1 iL (.t (.d R))))))))
 exact Zc (c2 _ (aU (lF YD1 ts_3 R R (mA R (aZ (Zd (Y1_ h1 iL (.t (.d R)))))))))
theorem YNe {d1 r} (h:YFs d1=some r):ARO Tryz.prog 108 [qh d1] (rI (r)):=by
 unfold YFs at h
 refine mF Tryz.func108 Tryz.ntmps108 R fun n0=>aU (mA R (aZ (aU (mA R (mA R (aZ (aS fun K3 c3 wK3=>(aU (mM R (sQ R (Zq R YBw.slice iL) (mM R (aZ (Zg (jc2k h fun o1 hit1 hk1 he1=>?_))))))))))))))
 have J1 : ∀ (before4:Int) (after4:Int) (i5:Nat→Nat),o1 = .nrm (before4,after4)→K3 ⟨[(3,rI (before4)),(4,rI (after4))],[],(i5 0),78⟩:=by
  intro before4 after4 i5 e
  have h1:=hk1 _ _ e
  refine c3 _ (aT fun c5=>(aU (mM R (sQ R (ZF R iL iL) (mM R (vM R (vQ R (ZF R (iR R) iL) (sQ R (Zr R iL (iR R)) (aZ (cI R h1 (fun h2=>?_) fun h2=>?_))))))))))
  ·exact aU (mA R (aZ (Zd (Y1_ h2 iL (.t (.d R))))))
  exact Zc (c5 _ (aU (mA R (aZ (Zd (Y1_ h2 iL (.t (.d R))))))))
 refine AW.iter3 (fun (before2:Int) (after2:Int) (x2:Int) i3=>⟨[(0,qh d1),(3,rI (before2)),(4,rI (after2)),(9,qh d1),(10,rI ((d1.length:Int))),(11,rI (x2))],[],(i3 0),78⟩) (vec [n0]) hit1 wk ?_
 intro before2 after2 x2 i3 v1 hv1 hx1
 have h3:YBS d1 before2 after2 x2=some v1:=hv1; unfold YBS at h3
 refine aU (sQ R (Zo R iL iL) (aZ (aT fun c10=>(cI R h3 (fun h4=>?_) fun h4=>?_))))
 ·refine Zc (c10 _ (aS fun K11 c11 wK11=>(Zg (jc2k h4 fun p1 hp1 hk2 he2=>?_))))
  have J2 : ∀ (before5:Int) (after5:Int) (i6:Nat→Nat),p1 = .nrm (before5,after5)→K11 ⟨[(0,qh d1),(3,rI (before5)),(4,rI (after5)),(9,qh d1),(10,rI ((d1.length:Int))),(11,rI (x2))],[],(i6 0),78⟩:=by
   intro before5 after5 i6 e
   have h5:=hk2 _ _ e
   exact c11 _ (aR (Ze h5 fun x4 ex4 h6=>(sQ R (Zx R iL iL (fun _=>ex4)) (mM R (Zk (YR7.mk h6 (vec [(i6 0)]) wk))))))
  refine aU (mM R (Ze hp1 fun x5 ex5 h7=>(sQ R (Zp R YBw.slice iL iL (fun _=>R) (fun _=>ex5)) (sQ R (Zy (cs:=(k21_ x5)) R YQE iL R R) (sS R (ZH (cs:=z14_) 6 R YVK R R) (mA R (Zv R R (Zs (ds:=(k21_ x5)) R YVD iL R iL R R R R) (aZ (aT fun c13=>(aU (sQ R (Zn R YQE iL R R) (Ze h7 fun e1 ee1 h8=>(cL (YJ4 (ee1)) R (mA R (aZ (aU (mM R (sQ R (Zu R iL iL) (aZ (cI R h8 (fun h9=>?_) fun h9=>?_))))))))))))))))))))
  ·refine aT fun c16=>(aF [7] ?_)
   exact aR (mM R (mA R (aZ (c16 _ (Zd (Y1_ (he1 _ (hx1 _ (Za (he2 _ (Za h9).symm)).symm)) iL (.t (.d R))))))))
  refine Zc (c13 _ (aS fun K17 c17 wK17=>(aT fun c18=>(aG [0,3,4,5,6,9,10,11] [6] ?_))))
  refine aR (mM R (sQ R (ZF R iL iL) (aZ (c18 _ (jc1k h9 fun p2 hp2 hk3 he3=>?_)))))
  have J3 : ∀ (u2:Unit) (i7:Nat→Nat),p2 = .nrm u2→K17 ⟨[(0,qh d1),(3,rI (before2)),(4,rI (after2)),(6,.ptr 6 (i3 0) 0 0),(9,qh d1),(10,rI ((d1.length:Int))),(11,rI (x2))],[(6,some (.box (i3 0) 81 (k21_ x5)))],(i7 0),78⟩:=by
   intro u2 i7 e
   have h10:=hk3 _ e
   refine c17 _ (aS fun K19 c19 wK19=>(aU (lF YC4 ts_3 R R (sQ R (Zu R iL iL) (aZ (jb1k h10 fun p3 hp3 hk4=>?_))))))
   have J4 : ∀ (before6:Int) (i8:Nat→Nat),p3=before6→K19 ⟨[(0,qh d1),(3,rI (before6)),(4,rI (after2)),(6,.ptr 6 (i3 0) 0 0),(9,qh d1),(10,rI ((d1.length:Int))),(11,rI (x2))],[(6,some (.box (i3 0) 81 (k21_ x5)))],(i8 0),78⟩:=by
    intro before6 i8 e
    have h11:=hk4 _ e
    refine c19 _ (aU (lF YC4 ts_3 R R (sQ R (Zu R iL iL) (aZ (cI R h11 (fun h12=>?_) fun h12=>?_)))))
    ·exact aR (mM R (sQ R (Zn R YQE iL R R) (Ze h12 fun r1 er1 h13=>(cL (YOo (er1)) R (Ze h13 fun x6 ex6 h14=>(sQ R (Zx R iL iL (fun _=>ex6)) (sQ R (YOw R iL iL) (mA R (Zk (wK11 _ _ wk (J2 _ _ (vec [(i8 0)]) (Za h14).symm)))))))))))
    exact Zc (wK11 _ _ wk (J2 _ _ (vec [(i8 0)]) (Za h12).symm))
   refine aC R (fun hc5=>?_) (fun hc5=>?_)
   ·have h15:=YDO hc5 hp3
    exact aR (mM R (lF YD1 ts_3 R R (Ze h15 fun x7 ex7 h16=>(sQ R (Zx R iL iL (fun _=>ex7)) (sQ R (YOw R iL iL) (mA R (Zk (wK19 _ _ wk (J4 _ (vec [(i7 0)]) (Za h16).symm)))))))))
   ·have h15:=YDP hc5 hp3
    exact Zc (wK19 _ _ wk (J4 _ (vec [(i7 0)]) (Za h15).symm))
  refine aC R (fun hc6=>?_) (fun hc6=>?_)
  ·have h17:=YDO hc6 hp2
   refine aU (mM R (mM R (Ze h17 fun x8 ex8 h18=>(sQ R (YBg R iL iL (fun _=>ex8)) (Ze h18 fun x9 ex9 h19=>(sQ R (Zp R YBw.slice iL iL (fun _=>R) (fun _=>ex9)) (sQ R (Zy (cs:=(k21_ x9)) R YQE iL R R) (sS R (ZH (cs:=z14_) 8 R YVK R R) (Zv R R (Zs (ds:=(k21_ x9)) R YVD iL R iL R R R R) (aZ (aU (lF YC4 ts_3 R R (lF YC4 ts_3 R R (sQ R (Zh R iL iL) (mM R (vF YC4 ts_3 R R (vQ R (Zu R (iR R) iL) (vQ R (Zf R (iR R)) (wQ R (fB R YE3 iL fR R) (wQ R (Zi (a:=qa x9.Attrs) R YCf (iR R) R R) (wQ R (fB R YE3 iL fR R) (wQ R (Zi (a:=qa x5.Attrs) R YCf (iR R) R R) (Ze h19 fun r2 er2 h20=>AOps.stepW (.two R R R) R R (YBb (r:=rB (r2)) (caps:=[]) (bs:=[qa x9.Attrs,qa x5.Attrs]) R iL R ⟨⟨_,(iR R),.d R⟩,⟨_,(iR R),.d R⟩,Zb⟩ (fun hg=>YIZ (gdt er2 hg)) R) (vQ R (Zr R (iR R) (iR R)) (sQ R (Zj R iL (iR R)) (mM R (vF YC4 ts_3 R R (vQ R (Zh R (iR R) iL) (vQ R (Zf R (iR R)) (wQ R (fB R YC4 iL fR R) (wQ R (Zi (a:=rI (x5.Kind)) R ts_3 (iR R) R R) (wQ R (Zh R (iR R) iL) (vQ R (Zj R (iR R) (iR R)) (sQ R (Zr R iL (iR R)) (aZ (cI R h20 (fun h21=>?_) fun h21=>?_))))))))))))))))))))))))))))))))))))
   ·refine aT fun c24=>(aF [] ?_)
    exact aR (mA R (aZ (c24 _ (Zd (Y1_ (he1 _ (hx1 _ (Za (he2 _ (Za (he3 _ (Za h21).symm)).symm)).symm)) iL (.t (.d R)))))))
   exact Zc (wK17 _ _ wk (J3 _ (vec [((i3 0)+2)]) (Za h21).symm))
  ·have h17:=YDP hc6 hp2
   exact Zc (wK17 _ _ wk (J3 _ (vec [((i3 0)+1)]) (Za h17).symm))
 exact Zw (wK3 _ _ wk (J1 _ _ (vec [(i3 0)]) (hx1 _ (Za h4).symm)))
theorem YFZ {w1:YAE} {r:(List YAC) × Int × YAE} {gb1000:Nat} {ga1001:Nat} {ga1002:Nat} (h:YBO w1=some r):AHC Tryz.prog 63 3 [.ptr 1000 gb1000 0 0] [(1000,some (.box gb1000 112 [.own 1001 ga1001,.own 1002 ga1002,rI (w1.cut)])),(1001,some (.arr ga1001 81 4 (w1.out.map YAC.row))),(1002,some (.arr ga1002 78 3 (w1.add.map YAB.row)))] (fun rr h'=>∃ (i:Nat→Nat),rr = .tup [qh r.1,rI (r.2.1)]∧h'=[(1000,some (.box gb1000 112 [qh r.2.2.out,cZ,rI (r.2.2.cut)]))]):=by
 unfold YBO at h
 refine AHC.mkw Tryz.func63 R R Tryz.ntmps63 (ZN R) fun n0=>aU (mA R (mA R (aZ (aT fun c2=>(aR (mM R (Ze h fun w2 ew2 h1=>?_)))))))
 refine AOps.stepHI [1000,1001,1002] (hc:=[(1000,some (.box gb1000 112 [.own 1001 ga1001,.own 1002 ga1002,rI (w1.cut)])),(1001,some (.arr ga1001 81 4 (w1.out.map YAC.row))),(1002,some (.arr ga1002 78 3 (w1.add.map YAB.row)))]) (bs:=[.ptr 1000 gb1000 0 0]) (caps:=[]) R R R R iL R ⟨.inl ⟨iL,R⟩,Zb⟩ ⟨R,R,R,R,R,R,R,R,R,Zb⟩ (by decide) (YE8 ew2) ?_
 intro i1 n1
 refine aGo [0,2,3,4,5] [1000,1001] ?_
 refine aZ (c2 _ (aT fun c3=>(aU (mM R (sQ R (ZJ (ob:=.box _ _ _) R iL fR R) (lF YDe YLI R R (Ze h1 fun r1 er1 h2=>(cL (YNe (er1)) R (sQ R (Zu R iL iL) (aZ (cI R h2 (fun h3=>?_) fun h3=>?_)))))))))))
 ·refine aT fun c5=>(aG [] [1000,1001] ?_)
  refine aR (mA R (mA R (oZ c5 ?_)))
  exact Zd (RetW.mk (s':=⟨[(2,.r (.sl [])),(3,rI (3))],[(1000,some (.box gb1000 112 [qh w2.out,cZ,rI (w2.cut)]))],n1,16⟩) (Zl (by exact Weak.frz (e':=[(2,cZ),(3,rI (3))]) (h':=[(1000,some (.box gb1000 112 [qh w2.out,cZ,rI (w2.cut)]))]) 1001 R ⟨jL,jL,Zb⟩ ⟨R,.inr (.inr (.inl ⟨_,_,_,_,R,R,⟨.inr (.inr ⟨R,R⟩),.inl R,.inl R,Zb⟩⟩)),Zb⟩) (by exact ZK ⟨.inl (.inr (.inr ⟨R,R⟩)),jL,Zb⟩ ⟨.inl R,Zb⟩ nL)) (YAu (fun (r:(List YAC) × Int × YAE) rr h'=>∃ (i:Nat→Nat),rr = .tup [qh r.1,rI (r.2.1)]∧h'=[(1000,some (.box gb1000 112 [qh r.2.2.out,cZ,rI (r.2.2.cut)]))]) h3 (by exact ⟨.tup [.r (.sl []),rI (3)],[(1000,some (.box gb1000 112 [qh w2.out,cZ,rI (w2.cut)]))],⟨_,R,⟨R,R,Zb⟩⟩,⟨.inr R,Zb⟩,R,R,vec [],R,R⟩)))
 refine Zc (c3 _ (aT fun c6=>(aG [0] [1000,1001] ?_)))
 refine aR (mM R (sQ R (ZJ (ob:=.box _ _ _) R iL fR R) (lF YDe YLI R R (mA R (mA R (oZ c6 ?_))))))
 exact Zd (RetW.mk (s':=⟨[(2,qh w2.out),(3,rI (0))],[(1000,some (.box gb1000 112 [qh w2.out,cZ,rI (w2.cut)]))],n1,16⟩) (Zl (by exact Weak.frz (e':=[(0,.ptr 1000 gb1000 0 0),(2,qh w2.out),(3,rI (0)),(12,.ptr 1000 gb1000 0 0),(13,.ptr 1000 gb1000 0 0),(14,.ptr 1000 gb1000 0 0),(15,qh w2.out)]) (h':=[(1000,some (.box gb1000 112 [qh w2.out,cZ,rI (w2.cut)]))]) 1001 R ⟨jL,.inl (.inr (.inr ⟨R,R⟩)),jL,jL,jL,jL,.inl (.inr (.inr ⟨R,R⟩)),Zb⟩ ⟨R,.inr (.inr (.inl ⟨_,_,_,_,R,R,⟨.inr (.inr ⟨R,R⟩),.inl R,.inl R,Zb⟩⟩)),Zb⟩) wk) (YAu (fun (r:(List YAC) × Int × YAE) rr h'=>∃ (i:Nat→Nat),rr = .tup [qh r.1,rI (r.2.1)]∧h'=[(1000,some (.box gb1000 112 [qh r.2.2.out,cZ,rI (r.2.2.cut)]))]) h3 (by exact ⟨.tup [qh w2.out,rI (0)],[(1000,some (.box gb1000 112 [qh w2.out,cZ,rI (w2.cut)]))],⟨_,R,⟨R,R,Zb⟩⟩,⟨.inr R,Zb⟩,R,R,vec [],R,R⟩)))
theorem YHN {n1 f b c r} (h:YCd n1 f b c=some r):ARO Tryz.prog 70 [rI (n1),rI (f),rI (b),qb c] (.tup [qh r.1,rI (r.2)]):=by
 unfold YCd at h
 refine mF Tryz.func70 Tryz.ntmps70 R fun n0=>aU (mA R (mA R (aZ (aT fun c2=>(aU (mM R (mM R (mM R (Ze h fun e1 ee1 h1=>(cL (YMM (ee1)) R (mA R (aZ (aU (mM R (sQ R (Zu R iL iL) (aZ (cI R h1 (fun h2=>?_) fun h2=>?_)))))))))))))))))
 ·refine aT fun c5=>(aF [10] ?_)
  exact aR (mM R (mA R (mA R (aZ (c5 _ (Zd (YCX (P:=Tryz.prog) (fun (r:(List YAC) × Int)=>qh r.1) (fun (r:(List YAC) × Int)=>rI (r.2)) h2 iL (.t (.one (.nil))) (.t (.d R)))))))))
 refine Zc (c2 _ (aT fun c6=>(aT fun c7=>(aF [0,1,2,3] ?_))))
 refine aR (mM R (Ze h2 fun e2 ee2 h3=>(cL (YG7 (ee2)) R (mA R (aZ (c7 _ (aU (mM R (sQ R (Zu R iL iL) (aZ (cI R h3 (fun h4=>?_) fun h4=>?_)))))))))))
 ·exact aU (mM R (mA R (mA R (aZ (Zd (YCX (P:=Tryz.prog) (fun (r:(List YAC) × Int)=>qh r.1) (fun (r:(List YAC) × Int)=>rI (r.2)) h4 iL (.t (.one (.nil))) (.t (.d R))))))))
 refine Zc (c6 _ (aU (sS R (ZH (cs:=[cZ,cZ,rI (0)]) 12 R YWj R R) (aZ (aT fun c11=>(aR (mM R ?_)))))))
 refine AOps.weak (Zl (Weak.adoptBox 12 0 3120 81 4 (by decide) R R (by decide)) (by exact ZK (e':=[(0,rI (n1)),(1,rI (f)),(2,rI (b)),(3,qb c),(11,rI (e2)),(12,.ptr 12 n0 0 0),(20,qb c),(21,rI (e2)),(22,rI (e2)),(23,rB ((!decide (e2=0)))),(25,rI (f))]) (h':=[(12,some (.box n0 112 [.own 3120 (n0+1),cZ,rI (0)])),(3120,some (.arr (n0+1) 81 4 (([]:List YAC).map YAC.row)))]) ⟨jL,jL,jL,jL,jL,jL,jL,jL,jL,jL,jL,Zb⟩ ⟨.inl R,.inl R,Zb⟩ nL)) ?_
 refine AOps.weak (Zl (Weak.adoptBox 12 1 3121 78 3 (by decide) R R (by decide)) (by exact ZK (e':=[(0,rI (n1)),(1,rI (f)),(2,rI (b)),(3,qb c),(11,rI (e2)),(12,.ptr 12 n0 0 0),(20,qb c),(21,rI (e2)),(22,rI (e2)),(23,rB ((!decide (e2=0)))),(25,rI (f))]) (h':=[(12,some (.box n0 112 [.own 3120 (n0+1),.own 3121 (n0+2),rI (0)])),(3120,some (.arr (n0+1) 81 4 (([]:List YAC).map YAC.row))),(3121,some (.arr (n0+2) 78 3 (([]:List YAB).map YAB.row)))]) ⟨jL,jL,jL,jL,jL,jL,jL,jL,jL,jL,jL,Zb⟩ ⟨.inl R,.inl R,.inl R,Zb⟩ nL)) ?_
 refine Ze h4 fun w1 ew1 h5=>?_
 refine AOps.stepHI [12,3120,3121] (hc:=[(1000,some (.box n0 112 [.own 1001 (n0+1),.own 1002 (n0+2),rI (0)])),(1001,some (.arr (n0+1) 81 4 (([]:List YAC).map YAC.row))),(1002,some (.arr (n0+2) 78 3 (([]:List YAB).map YAB.row)))]) (bs:=[.ptr 1000 n0 0 0,rI (f),.r (.sl [])]) (caps:=[]) R R R R iL R ⟨.inl ⟨iL,R⟩,.inl ⟨iL,R⟩,.inr ⟨iL,R⟩,Zb⟩ ⟨R,R,R,R,R,R,R,R,R,Zb⟩ (by decide) (YDj ew1) ?_
 intro i1 n2
 refine aGo [0,1,2,3,11,12,20,21,22,23,25,26] [12,3120,3121] ?_
 refine aZ (c11 _ (aT fun c12=>(aR (mM R (Ze h5 fun w2 ew2 h6=>?_)))))
 refine AOps.stepHI [12,3120,3121] (hc:=[(1000,some (.box n0 112 [.own 1001 (i1 0),.own 1002 (i1 1),rI (w1.cut)])),(1001,some (.arr (i1 0) 81 4 (w1.out.map YAC.row))),(1002,some (.arr (i1 1) 78 3 (w1.add.map YAB.row)))]) (bs:=[.ptr 1000 n0 0 0,qb c]) (caps:=[]) R R R R iL R ⟨.inl ⟨iL,R⟩,.inl ⟨iL,R⟩,Zb⟩ ⟨R,R,R,R,R,R,R,R,R,Zb⟩ (by decide) (YE9 ew2) ?_
 intro i2 n3
 refine aGo [0,1,2,3,11,12,20,21,22,23,25,26,27,28] [12,3120,3121] ?_
 refine aZ (c12 _ (aT fun c13=>(aG [0,1,2,12] [12,3120,3121] ?_)))
 refine aR (mM R (mM R (Ze h6 fun x1 ex1 h7=>(sQ R (YBg R iL iL (fun _=>ex1)) (sQ R (fB R YGo iL fR R) (Zv R R (Zs (ds:=[.own 3120 (i2 0),.own 3121 (i2 1),rI (x1)]) R tz_3 iL R iL R R R R) (aZ (c13 _ (aT fun c14=>(aR (mM R (mM R (Ze h7 fun x2 ex2 h8=>(sQ R (YBg R iL iL (fun _=>ex2)) (Ze h8 fun w3 ew3 h9=>?_)))))))))))))))
 refine AOps.stepHI [12,3120,3121] (hc:=[(1000,some (.box n0 112 [.own 1001 (i2 0),.own 1002 (i2 1),rI (x1)])),(1001,some (.arr (i2 0) 81 4 (w2.out.map YAC.row))),(1002,some (.arr (i2 1) 78 3 (w2.add.map YAB.row)))]) (bs:=[.ptr 1000 n0 0 0,rI (x2),.r (.sl [])]) (caps:=[]) R R R R iL R ⟨.inl ⟨iL,R⟩,.inl ⟨iL,R⟩,.inr ⟨iL,R⟩,Zb⟩ ⟨R,R,R,R,R,R,R,R,R,Zb⟩ (by decide) (YDj ew3) ?_
 intro i3 n4
 refine aGo [0,1,2,12,29,30,31,32,33,34,35,36] [12,3120,3121] ?_
 refine aZ (c14 _ (aT fun c15=>(aG [12] [12,3120,3121] ?_)))
 refine aR (ob3k h9 fun r1 r2 w4 er1 h10=>?_)
 refine AOps.stepHI [12,3120,3121] (hc:=[(1000,some (.box n0 112 [.own 1001 (i3 0),.own 1002 (i3 1),rI (w3.cut)])),(1001,some (.arr (i3 0) 81 4 (w3.out.map YAC.row))),(1002,some (.arr (i3 1) 78 3 (w3.add.map YAB.row)))]) (bs:=[.ptr 1000 n0 0 0]) (caps:=[]) R R R R iL R ⟨.inl ⟨iL,R⟩,Zb⟩ ⟨R,R,R,R,R,R,R,R,R,Zb⟩ (by decide) (YFZ er1) ?_
 intro i4 n5
 refine aGo [12,37] [12] ?_
 exact sQ R (Zt (a:=qh r1) R iL R) (sQ R (Zt (a:=rI (r2)) R iL R) (mA R (mA R (aZ (c15 _ (Zd (YCX (P:=Tryz.prog) (fun (r:(List YAC) × Int)=>qh r.1) (fun (r:(List YAC) × Int)=>rI (r.2)) h10 iL (.t (.d R)) (.t (.d R)))))))))
theorem YNV {d1 b c s r} (h:YCY d1 b c s=some r):ARO Tryz.prog 35 [.agg [qe d1.Nodes],qa b,.r (.str c),rI (s)] (.tup [qg r.1,rI (r.2.1),rI (r.2.2)]):=by
 unfold YCY at h
 refine mF Tryz.func35 Tryz.ntmps35 R fun n0=>aU (sS R (ZB (cs:=[qe d1.Nodes]) 4 R iL R R) (mA R (mA R (mA R (aZ (aU (sQ R (Zn R YDZ iL R R) (mM R (ob2k h fun r1 r2 er1 h1=>(cL (YJe (er1)) R (mM R (sQ R (Zt (a:=rI (r1)) R iL R) (sQ R (Zt (a:=rI (r2)) R iL R) (mA R (mA R (aZ (aT fun c3=>(aT fun c4=>(aG [1,2,4,11,12] [4] ?_)))))))))))))))))))
 refine aR (mM R (sQ R (Zu R iL iL) (aZ (c4 _ (cI R h1 (fun h2=>?_) fun h2=>?_)))))
 ·exact aU (mM R (mA R (mA R (mA R (aZ (Zd (YKV (P:=Tryz.prog) (fun (r:(List GOp) × Int × Int)=>qg r.1) (fun (r:(List GOp) × Int × Int)=>rI (r.2.1)) (fun (r:(List GOp) × Int × Int)=>rI (r.2.2)) h2 iL (.t (.one (.nil))) (.t (.d R)) (.t (.d R)))))))))
 refine Zc (c3 _ (aT fun c6=>(aU (mM R (sQ R (YAj R Tryz.underlying9 iL) (sQ R (ZF R iL iL) (aZ (cI R h2 (fun h3=>?_) fun h3=>?_))))))))
 ·refine aT fun c8=>(aF [] ?_)
  exact aR (mA R (mA R (mA R (aZ (c8 _ (Zd (YKV (P:=Tryz.prog) (fun (r:(List GOp) × Int × Int)=>qg r.1) (fun (r:(List GOp) × Int × Int)=>rI (r.2.1)) (fun (r:(List GOp) × Int × Int)=>rI (r.2.2)) h3 iL (.t (.one (.nil))) (.t (.d R)) (.t (.d R)))))))))
 refine Zc (c6 _ (aT fun c9=>(aR (mM R (ob2k h3 fun r3 w1 er3 h4=>?_)))))
 refine AOps.stepHI [31] (hc:=[]) (bs:=[.r (.str c),.r (.sl [])]) (caps:=[]) R R R R iL R ⟨.inl ⟨iL,R⟩,.inr ⟨iL,R⟩,Zb⟩ Zb (by decide) (YLB er3) ?_
 intro i1 n1
 refine aGo [1,2,4,11,12,23,24,26,27,28,30,31] [4,31] ?_
 refine mM R (sQ R (Zt (a:=.own 31 (i1 0)) R iL R) (sQ R (Zt (a:=rI (r3)) R iL R) (mA R (mA R (aZ (c9 _ (aT fun c10=>(aT fun c11=>(aG [1,4,11,12,13] [4,31] ?_)))))))))
 refine aR (mM R (sQ R (Zu R iL iL) (aZ (c11 _ (cI R h4 (fun h5=>?_) fun h5=>?_)))))
 ·exact aU (mM R (mA R (mA R (mA R (aZ (Zd (YKV (P:=Tryz.prog) (fun (r:(List GOp) × Int × Int)=>qg r.1) (fun (r:(List GOp) × Int × Int)=>rI (r.2.1)) (fun (r:(List GOp) × Int × Int)=>rI (r.2.2)) h5 iL (.t (.one (.nil))) (.t (.d R)) (.t (.d R)))))))))
 refine Zc (c10 _ (aT fun c13=>(aR (mM R (mM R (mM R ?_))))))
 refine sQ R (ZD R YLM (q:=[(0,_)]) (by exact ⟨R,R,R,iL,Zb⟩) (cs:=z24_) (by rfl)) ?_
 refine sS R (YA6 41 R YAw (f:=YAB.row) (l:=([(YAB.mk 10 0 [])]:List YAB)) ⟨R,⟨_,iL,R⟩,Zb⟩ R (fun _=>R) R) (Ze h5 fun l1 el1 h6=>(sS R (YCr R YAw iL R (.inr (.inl ⟨_,_,iL,R⟩)) el1) ?_))
 refine sQ R (ZD R YXL (q:=[(0,_),(1,_),(2,_),(3,_)]) (by exact ⟨R,R,R,iL,R,R,R,iL,R,R,R,iL,R,R,R,iL,Zb⟩) (cs:=[rI (r1),rI (12),qa b,.own 31 (n1+1),rI (0),rI (0),cZ,cZ,cZ]) (by rfl)) ?_
 refine sS R (ZH (cs:=z4_) 14 R YQH R R) (Zv R R (Zs (ds:=[rI (r1),rI (12),qa b,.own 31 (n1+1),rI (0),rI (0),cZ,cZ,cZ]) R YP9 iL R iL R R R R) (aZ (c13 _ (aT fun c14=>(aG [4,11,14] [4,14,31] ?_)))))
 refine aR (lF YBG YD0 R R (Ze h6 fun x1 ex1 h7=>(sQ R (Zp R YDH.slice iL iL (fun _=>R) (fun _=>ex1)) (sQ R (Zm R YC0 iL) (sQ R (ZA (d:=.sl (x1.Flow.map YAB.row)) R YDy iL R) (sQ R (Zq R YAw.slice iL) (mA R (aZ (c14 _ (aT fun c15=>(aR (mM R (mM R (mM R (mM R ?_)))))))))))))))
 refine sQ R (ZD R YLM (q:=[(1,_)]) (by exact ⟨R,R,R,iL,Zb⟩) (cs:=[rI (0),rI (r1),cZ]) (by rfl)) ?_
 refine sS R (YA6 56 R YAw (f:=YAB.row) (l:=([(YAB.mk 0 r1 [])]:List YAB)) ⟨R,⟨_,iL,R⟩,Zb⟩ R (fun _=>R) R) ?_
 refine AOps.weak (by exact Weak.frz (e':=[(4,.ptr 4 n0 0 0),(11,rI (r1)),(14,.ptr 14 (n1+2) 0 0),(15,rI ((x1.Flow.length:Int))),(44,.ptr 4 n0 0 0),(45,qe d1.Nodes),(46,.rop (YAR.row x1) 0),(47,.rop (YAR.row x1) 3),(48,qb x1.Flow),(49,rI ((x1.Flow.length:Int))),(51,rI ((x1.Flow.length:Int))),(52,rI ((x1.Flow.length:Int))),(53,rI ((x1.Flow.length:Int))),(54,rI (r1)),(55,.agg [rI (0),rI (r1),cZ]),(56,.r (.sl ([(YAB.mk 0 r1 [])].map YAB.row)))]) (h':=[(4,some (.box n0 43 [qe d1.Nodes])),(14,some (.box (n1+2) 62 [rI (r1),rI (12),qa b,.own 31 (n1+1),rI (0),rI (0),cZ,cZ,cZ])),(31,some (.arr (n1+1) 78 3 (l1.map YAB.row)))]) 56 R ⟨jL,jL,jL,jL,jL,jL,jL,jL,jL,jL,jL,jL,jL,jL,jL,.inl (.inr (.inr ⟨R,R⟩)),Zb⟩ ⟨R,.inl R,R,.inl R,R,.inl R,Zb⟩) ?_
 refine ob2k h7 fun r4 r5 er4 h8=>(sS R (YBX (r:=.tup [qh r4,rI (r5)]) (caps:=[]) (bs:=[rI ((x1.Flow.length:Int)),rI ((x1.Flow.length:Int)),rI ((x1.Flow.length:Int)),.r (.sl ([(YAB.mk 0 r1 [])].map YAB.row))]) R iL R ⟨.inl ⟨iL,R⟩,.inl ⟨iL,R⟩,.inl ⟨iL,R⟩,.inl ⟨iL,R⟩,Zb⟩ (fun _=>YHN (er4))) (mM R (sQ R (Zt (a:=qh r4) R iL R) (sQ R (Zt (a:=rI (r5)) R iL R) (mA R (mA R (aZ (c15 _ (aT fun c16=>(aG [11,12,14,16] [14,31] ?_))))))))))
 refine aR (sQ R (Zn R YIE iL R R) ?_)
 refine sQ R (ZD R YMR (q:=[(0,_),(2,_)]) (by exact ⟨R,R,R,iL,R,R,R,iL,Zb⟩) (cs:=[rI (0),rI (0),rI (r1),rI (12),qa b,.own 31 (n1+1),rI (0),rI (0),cZ,cZ,cZ,cZ,cZ,cZ,cZ,cZ,cZ,cZ,cZ]) (by rfl)) ?_
 refine mM R ?_
 refine sQ R (ZD R YMR (q:=[(0,_),(1,_),(12,_)]) (by exact ⟨R,R,R,iL,R,R,R,iL,R,R,R,iL,Zb⟩) (cs:=[rI (2),rI (1),rI (0),rI (0),cZ,cZ,rI (0),rI (0),cZ,cZ,cZ,cZ,qh r4,cZ,cZ,cZ,cZ,cZ,cZ]) (by rfl)) ?_
 refine AOps.weak (by exact Weak.frz (e':=[(11,rI (r1)),(12,rI (r5)),(14,.ptr 14 (n1+2) 0 0),(16,qh r4),(60,.agg [rI (r1),rI (12),qa b,qb l1,rI (0),rI (0),cZ,cZ,cZ]),(61,.agg [rI (0),rI (0),rI (r1),rI (12),qa b,qb l1,rI (0),rI (0),cZ,cZ,cZ,cZ,cZ,cZ,cZ,cZ,cZ,cZ,cZ]),(62,qh r4),(63,.agg [rI (2),rI (1),rI (0),rI (0),cZ,cZ,rI (0),rI (0),cZ,cZ,cZ,cZ,qh r4,cZ,cZ,cZ,cZ,cZ,cZ])]) (h':=[(14,some (.box (n1+2) 62 [rI (r1),rI (12),qa b,qb l1,rI (0),rI (0),cZ,cZ,cZ]))]) 31 R ⟨jL,jL,jL,jL,.inr ⟨_,_,R,R,⟨.inl R,.inl R,.inl R,.inr (.inr ⟨R,R⟩),.inl R,.inl R,.inl R,.inl R,.inl R,Zb⟩⟩,.inr ⟨_,_,R,R,⟨.inl R,.inl R,.inl R,.inl R,.inl R,.inr (.inr ⟨R,R⟩),.inl R,.inl R,.inl R,.inl R,.inl R,.inl R,.inl R,.inl R,.inl R,.inl R,.inl R,.inl R,.inl R,Zb⟩⟩,jL,jL,Zb⟩ ⟨R,.inr (.inr (.inl ⟨_,_,_,_,R,R,⟨.inl R,.inl R,.inl R,.inr (.inr ⟨R,R⟩),.inl R,.inl R,.inl R,.inl R,.inl R,Zb⟩⟩)),Zb⟩) ?_
 exact sS R (YA6 64 R YHH (f:=GOp.row) (l:=([(GOp.mk 0 0 (YAR.mk r1 12 b l1 (YAy.mk 0 0 [] []) []) [] [] (YAY.mk [] [] [] [] []) []),(GOp.mk 2 1 (YAR.mk 0 0 [] [] (YAy.mk 0 0 [] []) []) [] r4 (YAY.mk [] [] [] [] []) [])]:List GOp)) ⟨R,⟨_,iL,R⟩,R,⟨_,iL,R⟩,Zb⟩ R (fun _=>R) R) (mM R (mM R (mA R (mA R (mA R (aZ (c16 _ (Zd (YKV (P:=Tryz.prog) (fun (r:(List GOp) × Int × Int)=>qg r.1) (fun (r:(List GOp) × Int × Int)=>rI (r.2.1)) (fun (r:(List GOp) × Int × Int)=>rI (r.2.2)) h8 iL (.t (.one (.own R))) (.t (.d R)) (.t (.d R)))))))))))
theorem YIJ {n1 r} (h:strconv_Itoa n1=some r):ARO Tryz.prog 42 [rI (n1)] (.r (.str r)):=by
 unfold strconv_Itoa at h
 exact ARO.itoaS (g:=gPow) YRc R (by kernel_rfl) R ⟨_,Tryz.func42,R,R⟩ h
theorem YNU {i r} (h:YFg i=some r):ARO Tryz.prog 39 [rI (i)] (.r (.str r)):=by
 unfold YFg at h
 exact mF Tryz.func39 Tryz.ntmps39 R fun n0=>aU (mA R (aZ (aU (mM R (Ze h fun r1 er1 h1=>(cL (YIJ (er1)) R (Ze h1 fun s1 es1 h2=>(sQ R (YN7 R iL iL (fun _=>es1)) (mA R (aZ (Zd (YHd (P:=Tryz.prog) (fun (r:(List UInt8))=>.r (.str r)) h2 iL (.t (.d R))))))))))))))
theorem YOp {d1 r} (h:YFU d1=some r):ARO Tryz.prog 40 [qh d1] (.tup [qh r.1,rI (r.2)]):=by
 unfold YFU at h
 refine mF Tryz.func40 Tryz.ntmps40 R fun n0=>aU (mA R (mA R (aZ (aU (sS R (ZH (cs:=[cZ,cZ,rI (0)]) 4 R YWj R R) (aZ (aS fun K3 c3 wK3=>(aU (mM R (sQ R (Zq R YBw.slice iL) (mM R (aZ (Zg (jc1k h fun o1 hit1 hk1 he1=>?_))))))))))))))
 have J1 : ∀ (w4:YAE) (i5:Nat→Nat),o1 = .nrm w4→K3 ⟨[(4,.ptr 4 n0 0 0)],[(4,some (.box n0 112 [.own 3040 (i5 0),.own 3041 (i5 1),rI (w4.cut)])),(3040,some (.arr (i5 0) 81 4 (w4.out.map YAC.row))),(3041,some (.arr (i5 1) 78 3 (w4.add.map YAB.row)))],(i5 2),76⟩:=by
  intro w4 i5 e
  have h1:=hk1 _ e
  refine c3 _ (aT fun c5=>(aR (ob3k h1 fun r1 r2 w5 er1 h2=>?_)))
  refine AOps.stepHI [4,3040,3041] (hc:=[(1000,some (.box n0 112 [.own 1001 (i5 0),.own 1002 (i5 1),rI (w4.cut)])),(1001,some (.arr (i5 0) 81 4 (w4.out.map YAC.row))),(1002,some (.arr (i5 1) 78 3 (w4.add.map YAB.row)))]) (bs:=[.ptr 1000 n0 0 0]) (caps:=[]) R R R R iL R ⟨.inl ⟨iL,R⟩,Zb⟩ ⟨R,R,R,R,R,R,R,R,R,Zb⟩ (by decide) (YFZ er1) ?_
  intro i6 n1
  refine aGo [4,73] [4] ?_
  exact sQ R (Zt (a:=qh r1) R iL R) (sQ R (Zt (a:=rI (r2)) R iL R) (mA R (mA R (aZ (c5 _ (Zd (YCX (P:=Tryz.prog) (fun (r:(List YAC) × Int)=>qh r.1) (fun (r:(List YAC) × Int)=>rI (r.2)) h2 iL (.t (.d R)) (.t (.d R)))))))))
 refine AW.iter2 (fun (x2:Int) (w2:YAE) i3=>⟨[(4,.ptr 4 n0 0 0),(8,qh d1),(9,rI ((d1.length:Int))),(10,rI (x2))],[(4,some (.box n0 112 [.own 3040 (i3 0),.own 3041 (i3 1),rI (w2.cut)])),(3040,some (.arr (i3 0) 81 4 (w2.out.map YAC.row))),(3041,some (.arr (i3 1) 78 3 (w2.add.map YAB.row)))],(i3 2),76⟩) (vec [(n0+1),(n0+2),(n0+3)]) hit1 (Zl (Zl (Weak.adoptBox 4 0 3040 81 4 (by decide) R R (by decide)) (by exact ZK (e':=[(0,qh d1),(2,cZ),(3,rI (0)),(4,.ptr 4 n0 0 0),(8,qh d1),(9,rI ((d1.length:Int))),(10,rI (0))]) (h':=[(4,some (.box n0 112 [.own 3040 (n0+1),cZ,rI (0)])),(3040,some (.arr (n0+1) 81 4 (([]:List YAC).map YAC.row)))]) ⟨jL,jL,jL,jL,jL,jL,jL,Zb⟩ ⟨.inl R,.inl R,Zb⟩ nL)) (Zl (Zl (Weak.adoptBox 4 1 3041 78 3 (by decide) R R (by decide)) (by exact ZK (e':=[(0,qh d1),(2,cZ),(3,rI (0)),(4,.ptr 4 n0 0 0),(8,qh d1),(9,rI ((d1.length:Int))),(10,rI (0))]) (h':=[(4,some (.box n0 112 [.own 3040 (n0+1),.own 3041 (n0+2),rI (0)])),(3040,some (.arr (n0+1) 81 4 (([]:List YAC).map YAC.row))),(3041,some (.arr (n0+2) 78 3 (([]:List YAB).map YAB.row)))]) ⟨jL,jL,jL,jL,jL,jL,jL,Zb⟩ ⟨.inl R,.inl R,.inl R,Zb⟩ nL)) wk)) ?_
 intro x2 w2 i3 v1 hv1 hx1
 have h3:YBl d1 x2 w2=some v1:=hv1; unfold YBl at h3
 refine aU (sQ R (Zo R iL iL) (aZ (aT fun c7=>(cI R h3 (fun h4=>?_) fun h4=>?_))))
 ·refine Zc (c7 _ (aS fun K8 c8 wK8=>(Zg (jc1k h4 fun p1 hp1 hk2 he2=>?_))))
  have J2 : ∀ (w6:YAE) (i7:Nat→Nat),p1 = .nrm w6→K8 ⟨[(4,.ptr 4 n0 0 0),(8,qh d1),(9,rI ((d1.length:Int))),(10,rI (x2))],[(4,some (.box n0 112 [.own 3040 (i7 0),.own 3041 (i7 1),rI (w6.cut)])),(3040,some (.arr (i7 0) 81 4 (w6.out.map YAC.row))),(3041,some (.arr (i7 1) 78 3 (w6.add.map YAB.row)))],(i7 2),76⟩:=by
   intro w6 i7 e
   have h5:=hk2 _ e
   exact c8 _ (aR (Ze h5 fun x4 ex4 h6=>(sQ R (Zx R iL iL (fun _=>ex4)) (mM R (Zk (YDV.mk h6 (vec [(i7 0),(i7 1),(i7 2)]) wk))))))
  refine aU (Ze hp1 fun x5 ex5 h7=>(sQ R (Zp R YBw.slice iL iL (fun _=>R) (fun _=>ex5)) (sQ R (Zy (cs:=(k21_ x5)) R YQE iL R R) (sS R (ZH (cs:=z14_) 6 R YVK R R) (Zv R R (Zs (ds:=(k21_ x5)) R YVD iL R iL R R R R) (aZ (aU (sQ R (Zn R YQE iL R R) (Ze h7 fun e1 ee1 h8=>(cL (YJ4 (ee1)) R (mA R (aZ (aS fun K11 c11 wK11=>(aT fun c12=>(aR (lF YC4 ts_3 R R (sQ R (Zh R iL iL) (mM R (vF YHQ YDy R R (vQ R (Zq R YAw.slice (iR R)) (vQ R (Zh R (iR R) iL) (sQ R (Zj R iL (iR R)) (mM R (vM R (vQ R (Zh R (iR R) iL) (sQ R (Zj R iL (iR R)) (mM R (vF YC4 ts_3 R R (vQ R (Zu R (iR R) iL) (vQ R (Zf R (iR R)) (wQ R (fB R YD1 iL fR R) (wQ R (Zi (a:=rI (x5.N)) R ts_3 (iR R) R R) (wQ R (Zh R (iR R) iL) (vQ R (Zj R (iR R) (iR R)) (vQ R (Zf R (iR R)) (wQ R (Zf R iL) (wQ R (Zh R (iR R) iL) (vQ R (Zj R (iR R) (iR R)) (sQ R (Zr R iL (iR R)) (aZ (c12 _ (jb1k h8 fun p2 hp2 hk3=>?_))))))))))))))))))))))))))))))))))))))))))
  have J3 : ∀ (e2:Int) (i8:Nat→Nat),p2=e2→K11 ⟨[(4,.ptr 4 n0 0 0),(6,.ptr 6 (i3 2) 0 0),(7,rI (e2)),(8,qh d1),(9,rI ((d1.length:Int))),(10,rI (x2))],[(4,some (.box n0 112 [.own 3040 (i3 0),.own 3041 (i3 1),rI (w2.cut)])),(6,some (.box (i3 2) 81 (k21_ x5))),(3040,some (.arr (i3 0) 81 4 (w2.out.map YAC.row))),(3041,some (.arr (i3 1) 78 3 (w2.add.map YAB.row)))],(i8 0),76⟩:=by
   intro e2 i8 e
   have h9:=hk3 _ e
   refine c11 _ (aT fun c13=>(aU (mM R (sQ R (Zu R iL iL) (aZ (cI R h9 (fun h10=>?_) fun h10=>?_))))))
   ·exact aU (mM R (mA R (mA R (aZ (Zd (YCX (P:=Tryz.prog) (fun (r:(List YAC) × Int)=>qh r.1) (fun (r:(List YAC) × Int)=>rI (r.2)) (he1 _ (hx1 _ (Za (he2 _ (Za h10).symm)).symm)) iL (.t (.one (.nil))) (.t (.d R))))))))
   refine Zc (c13 _ (aU (lF YC4 ts_3 R R (aZ (Zg (aU (sQ R (Zh R iL iL) (mA R (aZ (cI R h10 (fun h11=>?_) fun h11=>?_))))))))))
   ·refine aR (lF YD1 ts_3 R R (lF YE3 YCf R R (Ze h11 fun w7 ew7 h12=>?_)))
    refine AOps.stepHI [4,3040,3041] (hc:=[(1000,some (.box n0 112 [.own 1001 (i3 0),.own 1002 (i3 1),rI (w2.cut)])),(1001,some (.arr (i3 0) 81 4 (w2.out.map YAC.row))),(1002,some (.arr (i3 1) 78 3 (w2.add.map YAB.row)))]) (bs:=[.ptr 1000 n0 0 0,rI (x5.N),qa x5.Attrs]) (caps:=[]) R R R R iL R ⟨.inl ⟨iL,R⟩,.inl ⟨iL,R⟩,.inl ⟨iL,R⟩,Zb⟩ ⟨R,R,R,R,R,R,R,R,R,Zb⟩ (by decide) (YDj ew7) ?_
    intro i9 n2
    refine aGo [4,6,7,8,9,10,46,47,49,50,60,61,62,63,64,65,66] [4,6,3040,3041] ?_
    exact Zk (wK8 _ _ wk (J2 _ (vec [(i9 0),(i9 1),n2]) (Za h12).symm))
   refine aU (sQ R (Zh R iL iL) (mA R (aZ (cI R h11 (fun h13=>?_) fun h13=>?_))))
   ·refine aG [4,6,8,9,10] [4,6,3040,3041] ?_
    refine aR (lF YHQ YDy R R (Ze h13 fun w8 ew8 h14=>?_))
    refine AOps.stepHI [4,3040,3041] (hc:=[(1000,some (.box n0 112 [.own 1001 (i3 0),.own 1002 (i3 1),rI (w2.cut)])),(1001,some (.arr (i3 0) 81 4 (w2.out.map YAC.row))),(1002,some (.arr (i3 1) 78 3 (w2.add.map YAB.row)))]) (bs:=[.ptr 1000 n0 0 0,qb x5.Elems]) (caps:=[]) R R R R iL R ⟨.inl ⟨iL,R⟩,.inl ⟨iL,R⟩,Zb⟩ ⟨R,R,R,R,R,R,R,R,R,Zb⟩ (by decide) (YE9 ew8) ?_
    intro i10 n3
    refine aGo [4,6,8,9,10,69,70,71] [4,6,3040,3041] ?_
    exact Zk (wK8 _ _ wk (J2 _ (vec [(i10 0),(i10 1),n3]) (Za h14).symm))
   refine aT fun c19=>(aG [4,6,8,9,10] [4,6,3040,3041] ?_)
   refine aR (lF YGo ts_3 R R (lF YD1 ts_3 R R (Ze h13 fun x6 ex6 h15=>(sQ R (Zx R iL iL (fun _=>ex6)) (sQ R (fB R YGo iL fR R) (Zv R R (Zs (ds:=[.own 3040 (i3 0),.own 3041 (i3 1),rI (x6)]) R tz_3 iL R iL R R R R) (aZ (c19 _ (aU (lF YGo ts_3 R R (sQ R (ZF R iL iL) (aZ (cI R h15 (fun h16=>?_) fun h16=>?_)))))))))))))
   ·refine aT fun c21=>(aF [] ?_)
    exact aR (mA R (mA R (aZ (c21 _ (Zd (YCX (P:=Tryz.prog) (fun (r:(List YAC) × Int)=>qh r.1) (fun (r:(List YAC) × Int)=>rI (r.2)) (he1 _ (hx1 _ (Za (he2 _ (Za h16).symm)).symm)) iL (.t (.one (.nil))) (.t (.d R))))))))
   exact Zc (wK8 _ _ wk (J2 _ (vec [(i3 0),(i3 1),(i8 0)]) (Za h16).symm))
  refine aC R (fun hc6=>?_) (fun hc6=>?_)
  ·have h17:=YDO hc6 hp2
   refine aG [4,6,8,9,10] [4,6,3040,3041] ?_
   exact aR (lF YE3 YCf R R (Ze h17 fun e3 ee3 h18=>(cL (YF1 (ee3)) R (mA R (Zk (wK11 _ _ wk (J3 _ (vec [((i3 2)+1)]) (Za h18).symm)))))))
  ·have h17:=YDP hc6 hp2
   exact Zc (wK11 _ _ wk (J3 _ (vec [((i3 2)+1)]) (Za h17).symm))
 exact Zw (wK3 _ _ wk (J1 _ (vec [(i3 0),(i3 1),(i3 2)]) (hx1 _ (Za h4).symm)))
theorem YKv {d1 b t s r} (h:YDJ d1 b t s=some r):AHC Tryz.prog 35 1 [.agg [qe d1.Nodes],qa b,.r (.str t),rI (s)] [] (fun rr h'=>∃ (i:Nat→Nat),rr = .tup [.own 1000 (i 0),rI (r.1),rI (r.2.1)]∧h'=[(1000,some (.arr (i 0) 69 19 (r.2.2.map GOp.row)))]):=by
 unfold YDJ at h
 refine AHC.mkw Tryz.func35 R R Tryz.ntmps35 (ZN R) fun n0=>aU (sS R (ZB (cs:=[qe d1.Nodes]) 4 R iL R R) (mA R (mA R (mA R (aZ (aU (sQ R (Zn R YDZ iL R R) (mM R (ob2k h fun r1 r2 er1 h1=>(cL (YJe (er1)) R (mM R (sQ R (Zt (a:=rI (r1)) R iL R) (sQ R (Zt (a:=rI (r2)) R iL R) (mA R (mA R (aZ (aT fun c3=>(aT fun c4=>(aG [1,2,4,11,12] [4] ?_)))))))))))))))))))
 refine aR (mM R (sQ R (Zu R iL iL) (aZ (c4 _ (cI R h1 (fun h2=>?_) fun h2=>?_)))))
 ·refine aU (mM R (mA R (mA R (mA R (aZ ?_)))))
  exact Zd (RetW.mk (s':=⟨[(8,.own 1000 (n0+1)),(9,rI (0)),(10,rI (r2))],[(1000,some (.arr (n0+1) 69 19 (([]:List GOp).map GOp.row)))],(n0+2),67⟩) (Zl (Zl (ZM 8 1000 69 19 (by decide) R) (by exact ZK (e':=[(1,qa b),(2,.r (.str t)),(4,.ptr 4 n0 0 0),(8,.own 1000 (n0+1)),(9,rI (0)),(10,rI (r2)),(11,rI (r1)),(12,rI (r2)),(23,rI (r2)),(24,rB ((!decide (r2=0)))),(25,rI (r2))]) (h':=[(4,some (.box n0 43 [qe d1.Nodes])),(1000,some (.arr (n0+1) 69 19 (([]:List GOp).map GOp.row)))]) ⟨jL,jL,jL,jL,jL,jL,jL,jL,jL,jL,jL,Zb⟩ ⟨.inl R,.inl R,Zb⟩ nL)) wk) (YAu (fun (r:Int × Int × (List GOp)) rr h'=>∃ (i:Nat→Nat),rr = .tup [.own 1000 (i 0),rI (r.1),rI (r.2.1)]∧h'=[(1000,some (.arr (i 0) 69 19 (r.2.2.map GOp.row)))]) h2 (by exact ⟨.tup [.own 1000 (n0+1),rI (0),rI (r2)],[(1000,some (.arr (n0+1) 69 19 (([]:List GOp).map GOp.row)))],⟨_,R,⟨R,R,R,Zb⟩⟩,⟨.inr R,Zb⟩,R,R,vec [(n0+1)],R,R⟩)))
 refine Zc (c3 _ (aT fun c6=>(aU (mM R (sQ R (YAj R Tryz.underlying9 iL) (sQ R (ZF R iL iL) (aZ (cI R h2 (fun h3=>?_) fun h3=>?_))))))))
 ·refine aT fun c8=>(aF [] ?_)
  refine aR (mA R (mA R (mA R (oZ c8 ?_))))
  exact Zd (RetW.mk (s':=⟨[(8,.own 1000 (n0+1)),(9,rI (0)),(10,rI (3))],[(1000,some (.arr (n0+1) 69 19 (([]:List GOp).map GOp.row)))],(n0+2),67⟩) (Zl (Zl (ZM 8 1000 69 19 (by decide) R) (by exact ZK (e':=[(8,.own 1000 (n0+1)),(9,rI (0)),(10,rI (3))]) (h':=[(1000,some (.arr (n0+1) 69 19 (([]:List GOp).map GOp.row)))]) ⟨jL,jL,jL,Zb⟩ ⟨.inl R,Zb⟩ nL)) wk) (YAu (fun (r:Int × Int × (List GOp)) rr h'=>∃ (i:Nat→Nat),rr = .tup [.own 1000 (i 0),rI (r.1),rI (r.2.1)]∧h'=[(1000,some (.arr (i 0) 69 19 (r.2.2.map GOp.row)))]) h3 (by exact ⟨.tup [.own 1000 (n0+1),rI (0),rI (3)],[(1000,some (.arr (n0+1) 69 19 (([]:List GOp).map GOp.row)))],⟨_,R,⟨R,R,R,Zb⟩⟩,⟨.inr R,Zb⟩,R,R,vec [(n0+1)],R,R⟩)))
 refine Zc (c6 _ (aT fun c9=>(aR (mM R (ob2k h3 fun r3 w1 er3 h4=>?_)))))
 refine AOps.stepHI [31] (hc:=[]) (bs:=[.r (.str t),.r (.sl [])]) (caps:=[]) R R R R iL R ⟨.inl ⟨iL,R⟩,.inr ⟨iL,R⟩,Zb⟩ Zb (by decide) (YLB er3) ?_
 intro i1 n1
 refine aGo [1,2,4,11,12,23,24,26,27,28,30,31] [4,31] ?_
 refine mM R (sQ R (Zt (a:=.own 31 (i1 0)) R iL R) (sQ R (Zt (a:=rI (r3)) R iL R) (mA R (mA R (aZ (c9 _ (aT fun c10=>(aT fun c11=>(aG [1,4,11,12,13] [4,31] ?_)))))))))
 refine aR (mM R (sQ R (Zu R iL iL) (aZ (c11 _ (cI R h4 (fun h5=>?_) fun h5=>?_)))))
 ·refine aU (mM R (mA R (mA R (mA R (aZ ?_)))))
  exact Zd (RetW.mk (s':=⟨[(8,.own 1000 n1),(9,rI (0)),(10,rI (r3))],[(1000,some (.arr n1 69 19 (([]:List GOp).map GOp.row)))],(n1+1),67⟩) (Zl (Zl (ZM 8 1000 69 19 (by decide) R) (by exact ZK (e':=[(1,qa b),(4,.ptr 4 n0 0 0),(8,.own 1000 n1),(9,rI (0)),(10,rI (r3)),(11,rI (r1)),(12,rI (r3)),(13,.own 31 (i1 0)),(34,rI (r3)),(35,rB ((!decide (r3=0)))),(36,rI (r3))]) (h':=[(4,some (.box n0 43 [qe d1.Nodes])),(31,some (.arr (i1 0) 78 3 (w1.map YAB.row))),(1000,some (.arr n1 69 19 (([]:List GOp).map GOp.row)))]) ⟨jL,jL,jL,jL,jL,jL,jL,jL,jL,jL,jL,Zb⟩ ⟨.inl R,.inl R,.inl R,Zb⟩ nL)) wk) (YAu (fun (r:Int × Int × (List GOp)) rr h'=>∃ (i:Nat→Nat),rr = .tup [.own 1000 (i 0),rI (r.1),rI (r.2.1)]∧h'=[(1000,some (.arr (i 0) 69 19 (r.2.2.map GOp.row)))]) h5 (by exact ⟨.tup [.own 1000 n1,rI (0),rI (r3)],[(1000,some (.arr n1 69 19 (([]:List GOp).map GOp.row)))],⟨_,R,⟨R,R,R,Zb⟩⟩,⟨.inr R,Zb⟩,R,R,vec [n1],R,R⟩)))
 refine Zc (c10 _ (aT fun c13=>(aR (mM R (mM R (mM R ?_))))))
 refine sQ R (ZD R YLM (q:=[(0,_)]) (by exact ⟨R,R,R,iL,Zb⟩) (cs:=z24_) (by rfl)) ?_
 refine sS R (YA6 41 R YAw (f:=YAB.row) (l:=([(YAB.mk 10 0 [])]:List YAB)) ⟨R,⟨_,iL,R⟩,Zb⟩ R (fun _=>R) R) (Ze h5 fun l1 el1 h6=>(sS R (YCr R YAw iL R (.inr (.inl ⟨_,_,iL,R⟩)) el1) ?_))
 refine sQ R (ZD R YXL (q:=[(0,_),(1,_),(2,_),(3,_)]) (by exact ⟨R,R,R,iL,R,R,R,iL,R,R,R,iL,R,R,R,iL,Zb⟩) (cs:=[rI (r1),rI (12),qa b,.own 31 (n1+1),rI (0),rI (0),cZ,cZ,cZ]) (by rfl)) ?_
 refine sS R (ZH (cs:=z4_) 14 R YQH R R) (Zv R R (Zs (ds:=[rI (r1),rI (12),qa b,.own 31 (n1+1),rI (0),rI (0),cZ,cZ,cZ]) R YP9 iL R iL R R R R) (aZ (c13 _ (aT fun c14=>(aG [4,11,14] [4,14,31] ?_)))))
 refine aR (lF YBG YD0 R R (Ze h6 fun x1 ex1 h7=>(sQ R (Zp R YDH.slice iL iL (fun _=>R) (fun _=>ex1)) (sQ R (Zm R YC0 iL) (sQ R (ZA (d:=.sl (x1.Flow.map YAB.row)) R YDy iL R) (sQ R (Zq R YAw.slice iL) (mA R (aZ (c14 _ (aT fun c15=>(aR (mM R (mM R (mM R (mM R ?_)))))))))))))))
 refine sQ R (ZD R YLM (q:=[(1,_)]) (by exact ⟨R,R,R,iL,Zb⟩) (cs:=[rI (0),rI (r1),cZ]) (by rfl)) ?_
 refine sS R (YA6 56 R YAw (f:=YAB.row) (l:=([(YAB.mk 0 r1 [])]:List YAB)) ⟨R,⟨_,iL,R⟩,Zb⟩ R (fun _=>R) R) ?_
 refine AOps.weak (by exact Weak.frz (e':=[(4,.ptr 4 n0 0 0),(11,rI (r1)),(14,.ptr 14 (n1+2) 0 0),(15,rI ((x1.Flow.length:Int))),(44,.ptr 4 n0 0 0),(45,qe d1.Nodes),(46,.rop (YAR.row x1) 0),(47,.rop (YAR.row x1) 3),(48,qb x1.Flow),(49,rI ((x1.Flow.length:Int))),(51,rI ((x1.Flow.length:Int))),(52,rI ((x1.Flow.length:Int))),(53,rI ((x1.Flow.length:Int))),(54,rI (r1)),(55,.agg [rI (0),rI (r1),cZ]),(56,.r (.sl ([(YAB.mk 0 r1 [])].map YAB.row)))]) (h':=[(4,some (.box n0 43 [qe d1.Nodes])),(14,some (.box (n1+2) 62 [rI (r1),rI (12),qa b,.own 31 (n1+1),rI (0),rI (0),cZ,cZ,cZ])),(31,some (.arr (n1+1) 78 3 (l1.map YAB.row)))]) 56 R ⟨jL,jL,jL,jL,jL,jL,jL,jL,jL,jL,jL,jL,jL,jL,jL,.inl (.inr (.inr ⟨R,R⟩)),Zb⟩ ⟨R,.inl R,R,.inl R,R,.inl R,Zb⟩) ?_
 refine ob2k h7 fun r4 r5 er4 h8=>(sS R (YBX (r:=.tup [qh r4,rI (r5)]) (caps:=[]) (bs:=[rI ((x1.Flow.length:Int)),rI ((x1.Flow.length:Int)),rI ((x1.Flow.length:Int)),.r (.sl ([(YAB.mk 0 r1 [])].map YAB.row))]) R iL R ⟨.inl ⟨iL,R⟩,.inl ⟨iL,R⟩,.inl ⟨iL,R⟩,.inl ⟨iL,R⟩,Zb⟩ (fun _=>YHN (er4))) (mM R (sQ R (Zt (a:=qh r4) R iL R) (sQ R (Zt (a:=rI (r5)) R iL R) (mA R (mA R (aZ (c15 _ (aT fun c16=>(aG [11,12,14,16] [14,31] ?_))))))))))
 refine aR (sQ R (Zn R YIE iL R R) ?_)
 refine sQ R (ZD R YMR (q:=[(0,_),(2,_)]) (by exact ⟨R,R,R,iL,R,R,R,iL,Zb⟩) (cs:=[rI (0),rI (0),rI (r1),rI (12),qa b,.own 31 (n1+1),rI (0),rI (0),cZ,cZ,cZ,cZ,cZ,cZ,cZ,cZ,cZ,cZ,cZ]) (by rfl)) ?_
 refine mM R ?_
 refine sQ R (ZD R YMR (q:=[(0,_),(1,_),(12,_)]) (by exact ⟨R,R,R,iL,R,R,R,iL,R,R,R,iL,Zb⟩) (cs:=[rI (2),rI (1),rI (0),rI (0),cZ,cZ,rI (0),rI (0),cZ,cZ,cZ,cZ,qh r4,cZ,cZ,cZ,cZ,cZ,cZ]) (by rfl)) ?_
 refine AOps.weak (by exact Weak.frz (e':=[(11,rI (r1)),(12,rI (r5)),(14,.ptr 14 (n1+2) 0 0),(16,qh r4),(60,.agg [rI (r1),rI (12),qa b,qb l1,rI (0),rI (0),cZ,cZ,cZ]),(61,.agg [rI (0),rI (0),rI (r1),rI (12),qa b,qb l1,rI (0),rI (0),cZ,cZ,cZ,cZ,cZ,cZ,cZ,cZ,cZ,cZ,cZ]),(62,qh r4),(63,.agg [rI (2),rI (1),rI (0),rI (0),cZ,cZ,rI (0),rI (0),cZ,cZ,cZ,cZ,qh r4,cZ,cZ,cZ,cZ,cZ,cZ])]) (h':=[(14,some (.box (n1+2) 62 [rI (r1),rI (12),qa b,qb l1,rI (0),rI (0),cZ,cZ,cZ]))]) 31 R ⟨jL,jL,jL,jL,.inr ⟨_,_,R,R,⟨.inl R,.inl R,.inl R,.inr (.inr ⟨R,R⟩),.inl R,.inl R,.inl R,.inl R,.inl R,Zb⟩⟩,.inr ⟨_,_,R,R,⟨.inl R,.inl R,.inl R,.inl R,.inl R,.inr (.inr ⟨R,R⟩),.inl R,.inl R,.inl R,.inl R,.inl R,.inl R,.inl R,.inl R,.inl R,.inl R,.inl R,.inl R,.inl R,Zb⟩⟩,jL,jL,Zb⟩ ⟨R,.inr (.inr (.inl ⟨_,_,_,_,R,R,⟨.inl R,.inl R,.inl R,.inr (.inr ⟨R,R⟩),.inl R,.inl R,.inl R,.inl R,.inl R,Zb⟩⟩)),Zb⟩) ?_
 refine sS R (YA6 64 R YHH (f:=GOp.row) (l:=([(GOp.mk 0 0 (YAR.mk r1 12 b l1 (YAy.mk 0 0 [] []) []) [] [] (YAY.mk [] [] [] [] []) []),(GOp.mk 2 1 (YAR.mk 0 0 [] [] (YAy.mk 0 0 [] []) []) [] r4 (YAY.mk [] [] [] [] []) [])]:List GOp)) ⟨R,⟨_,iL,R⟩,R,⟨_,iL,R⟩,Zb⟩ R (fun _=>R) R) (mM R (mM R (mA R (mA R (mA R (oZ c16 ?_))))))
 exact Zd (RetW.mk (s':=⟨[(8,.own 1000 (n1+5)),(9,rI (r1)),(10,rI (r5))],[(1000,some (.arr (n1+5) 69 19 ([(GOp.mk 0 0 (YAR.mk r1 12 b l1 (YAy.mk 0 0 [] []) []) [] [] (YAY.mk [] [] [] [] []) []),(GOp.mk 2 1 (YAR.mk 0 0 [] [] (YAy.mk 0 0 [] []) []) [] r4 (YAY.mk [] [] [] [] []) [])].map GOp.row)))],(n1+6),67⟩) (Zl (Zl (Weak.ren 8 64 1000 R R R) (by exact ZK (e':=[(8,.own 1000 (n1+5)),(9,rI (r1)),(10,rI (r5)),(11,rI (r1)),(12,rI (r5)),(14,.ptr 14 (n1+2) 0 0),(16,qh r4),(60,.agg [rI (r1),rI (12),qa b,qb l1,rI (0),rI (0),cZ,cZ,cZ]),(61,.agg [rI (0),rI (0),rI (r1),rI (12),qa b,qb l1,rI (0),rI (0),cZ,cZ,cZ,cZ,cZ,cZ,cZ,cZ,cZ,cZ,cZ]),(62,qh r4),(63,.agg [rI (2),rI (1),rI (0),rI (0),cZ,cZ,rI (0),rI (0),cZ,cZ,cZ,cZ,qh r4,cZ,cZ,cZ,cZ,cZ,cZ]),(65,rI (r1)),(66,rI (r5))]) (h':=[(14,some (.box (n1+2) 62 [rI (r1),rI (12),qa b,qb l1,rI (0),rI (0),cZ,cZ,cZ])),(1000,some (.arr (n1+5) 69 19 ([(GOp.mk 0 0 (YAR.mk r1 12 b l1 (YAy.mk 0 0 [] []) []) [] [] (YAY.mk [] [] [] [] []) []),(GOp.mk 2 1 (YAR.mk 0 0 [] [] (YAy.mk 0 0 [] []) []) [] r4 (YAY.mk [] [] [] [] []) [])].map GOp.row)))]) ⟨jL,jL,jL,jL,jL,jL,jL,jL,jL,jL,jL,jL,jL,Zb⟩ ⟨.inl R,.inl R,Zb⟩ nL)) wk) (YAu (fun (r:Int × Int × (List GOp)) rr h'=>∃ (i:Nat→Nat),rr = .tup [.own 1000 (i 0),rI (r.1),rI (r.2.1)]∧h'=[(1000,some (.arr (i 0) 69 19 (r.2.2.map GOp.row)))]) h8 (by exact ⟨.tup [.own 1000 (n1+5),rI (r1),rI (r5)],[(1000,some (.arr (n1+5) 69 19 ([(GOp.mk 0 0 (YAR.mk r1 12 b l1 (YAy.mk 0 0 [] []) []) [] [] (YAY.mk [] [] [] [] []) []),(GOp.mk 2 1 (YAR.mk 0 0 [] [] (YAy.mk 0 0 [] []) []) [] r4 (YAY.mk [] [] [] [] []) [])].map GOp.row)))],⟨_,R,⟨R,R,R,Zb⟩⟩,⟨.inr R,Zb⟩,R,R,vec [(n1+5)],R,R⟩)))
theorem YOe {d1 s1 b c s r} (h:YGN d1 s1 b c s=some r):ARO Tryz.prog 12 [.agg [qe d1.Nodes],.agg (k28_ s1),.r (.str b),.r (.str c),rI (s)] (.tup [qg r.1,rI (r.2.1),rI (r.2.2)]):=by
 unfold YGN at h
 refine mF Tryz.func12 Tryz.ntmps12 R fun n0=>aU (sS R (ZB (cs:=[qe d1.Nodes]) 5 R iL R R) (sS R (ZB (cs:=(k28_ s1)) 6 R iL R R) (mA R (mA R (mA R (aZ (aT fun c2=>(aU (sQ R (Zn R YDZ iL R R) (sQ R (Zn R YVJ iL R R) (Ze h fun e1 ee1 h1=>(cL (YJc (ee1)) R (mA R (aZ (aU (mM R (sQ R (Zu R iL iL) (aZ (cI R h1 (fun h2=>?_) fun h2=>?_)))))))))))))))))))
 ·refine aT fun c5=>(aF [13] ?_)
  exact aR (mM R (mA R (mA R (mA R (aZ (c5 _ (Zd (YKV (P:=Tryz.prog) (fun (r:(List GOp) × Int × Int)=>qg r.1) (fun (r:(List GOp) × Int × Int)=>rI (r.2.1)) (fun (r:(List GOp) × Int × Int)=>rI (r.2.2)) h2 iL (.t (.one (.nil))) (.t (.d R)) (.t (.d R))))))))))
 refine Zc (c2 _ (aT fun c6=>(aT fun c7=>(aG [2,3,4,5,6] [5,6] ?_))))
 refine aR (lF YHT ts_3 R R (lF YHS ts_3 R R (sQ R (Zh R iL iL) (aZ (c7 _ (cI R h2 (fun h3=>?_) fun h3=>?_))))))
 ·refine aT fun c8=>(aF [] ?_)
  exact aR (mA R (mA R (mA R (aZ (c8 _ (Zd (YKV (P:=Tryz.prog) (fun (r:(List GOp) × Int × Int)=>qg r.1) (fun (r:(List GOp) × Int × Int)=>rI (r.2.1)) (fun (r:(List GOp) × Int × Int)=>rI (r.2.2)) h3 iL (.t (.one (.nil))) (.t (.d R)) (.t (.d R)))))))))
 refine Zc (c6 _ (aT fun c9=>(aU (mM R (Ze h3 fun r1 er1 h4=>(cL (YEk (er1)) R (sQ R (Zz R iL) (aZ (cI R h4 (fun h5=>?_) fun h5=>?_)))))))))
 ·refine aT fun c11=>(aF [] ?_)
  exact aR (mA R (mA R (mA R (aZ (c11 _ (Zd (YKV (P:=Tryz.prog) (fun (r:(List GOp) × Int × Int)=>qg r.1) (fun (r:(List GOp) × Int × Int)=>rI (r.2.1)) (fun (r:(List GOp) × Int × Int)=>rI (r.2.2)) h5 iL (.t (.one (.nil))) (.t (.d R)) (.t (.d R)))))))))
 refine Zc (c9 _ (aT fun c12=>(aR (sQ R (Zn R YDZ iL R R) (mM R ?_)))))
 refine sQ R (ZD R YOs (q:=[(0,_),(1,_)]) (by exact ⟨R,R,R,iL,R,R,R,iL,Zb⟩) (cs:=[.r (.str [97,117,116,104,111,114]),.r (.str b)]) (by rfl)) ?_
 refine sS R (YA6 40 R YBs (f:=YAD.row) (l:=([(YAD.mk [97,117,116,104,111,114] b)]:List YAD)) ⟨R,⟨_,iL,R⟩,Zb⟩ R (fun _=>R) R) (mM R (mM R ?_))
 refine AOps.weak (by exact Weak.frz (e':=[(2,.r (.str b)),(3,.r (.str c)),(4,rI (s)),(5,.ptr 5 n0 0 0),(6,.ptr 6 (n0+1) 0 0),(28,.ptr 6 (n0+1) 0 1),(29,rI (s1.From)),(30,.ptr 6 (n0+1) 0 2),(31,rI (s1.To)),(32,rB ((decide (s1.From=s1.To)))),(33,.r (.str b)),(34,rB (r1)),(35,rB ((!r1))),(37,.agg [qe d1.Nodes]),(38,.r (.str b)),(39,.agg [.r (.str [97,117,116,104,111,114]),.r (.str b)]),(40,.r (.sl ([(YAD.mk [97,117,116,104,111,114] b)].map YAD.row))),(41,.r (.str c)),(42,rI (s))]) (h':=[(5,some (.box n0 43 [qe d1.Nodes])),(6,some (.box (n0+1) 45 (k28_ s1)))]) 40 R ⟨jL,jL,jL,jL,jL,jL,jL,jL,jL,jL,jL,jL,jL,jL,jL,jL,.inl (.inr (.inr ⟨R,R⟩)),jL,jL,Zb⟩ ⟨R,.inl R,R,.inl R,Zb⟩) ?_
 refine ob3k h5 fun r2 r3 w1 er2 h6=>?_
 refine AOps.stepHI [43] (hc:=[]) (bs:=[.agg [qe d1.Nodes],.r (.sl ([(YAD.mk [97,117,116,104,111,114] b)].map YAD.row)),.r (.str c),rI (s)]) (caps:=[]) R R R R iL R ⟨.inl ⟨iL,R⟩,.inl ⟨iL,R⟩,.inl ⟨iL,R⟩,.inl ⟨iL,R⟩,Zb⟩ Zb (by decide) (YKv er2) ?_
 intro i1 n1
 refine aGo [2,3,4,5,6,28,29,30,31,32,33,34,35,37,38,39,40,41,42,43] [5,6,43] ?_
 refine mM R (sQ R (Zt (a:=.own 43 (i1 0)) R iL R) (sQ R (Zt (a:=rI (r2)) R iL R) (sQ R (Zt (a:=rI (r3)) R iL R) (mA R (mA R (mA R (aZ (c12 _ (aT fun c13=>(aT fun c14=>(aG [5,6,14,15,16] [5,6,43] ?_)))))))))))
 refine aR (mM R (sQ R (Zu R iL iL) (aZ (c14 _ (cI R h6 (fun h7=>?_) fun h7=>?_)))))
 ·exact aU (mM R (mA R (mA R (mA R (aZ (Zd (YKV (P:=Tryz.prog) (fun (r:(List GOp) × Int × Int)=>qg r.1) (fun (r:(List GOp) × Int × Int)=>rI (r.2.1)) (fun (r:(List GOp) × Int × Int)=>rI (r.2.2)) h7 iL (.t (.one (.nil))) (.t (.d R)) (.t (.d R)))))))))
 refine Zc (c13 _ (aT fun c16=>(Ze h7 fun r4 er4 h8=>(Ze h8 fun x1 ex1 h9=>?_))))
 refine AW.regionP 9 [pO 50 (.ptr 5 n0 0 0),pO 51 (qe d1.Nodes),pO 52 (.agg [qe d1.Nodes]),pO 53 (.ptr 6 (n0+1) 0 0),pO 54 (rI (s1.Node)),pO 55 (rI (r4)),pO 56 (.rop (YAR.row x1) 0),pO 57 (.agg (k7_ x1)),⟨some 17,(fun G1=>.ptr 17 (G1 8) 0 0),some (17,(fun G1=>some (.box (G1 8) 62 z4_))),[8]⟩] hmix (by kernel_rfl) (by exact ⟨fun _ _ h=>⟨R,fun _ _ e=>by cases e⟩,fun _ _ h=>⟨R,fun _ _ e=>by cases e⟩,fun _ _ h=>⟨R,fun _ _ e=>by cases e⟩,fun _ _ h=>⟨R,fun _ _ e=>by cases e⟩,fun _ _ h=>⟨R,fun _ _ e=>by cases e⟩,fun _ _ h=>⟨R,fun _ _ e=>by cases e⟩,fun _ _ h=>⟨R,fun _ _ e=>by cases e⟩,fun _ _ h=>⟨R,fun _ _ e=>by cases e⟩,fun _ _ h=>⟨by simp only [h 8 R],fun _ _ e=>by cases e; simp only [h 8 R]⟩,Zb⟩) R (by exact ⟨oB [(5,.ptr 5 n0 0 0)] [(5,some (.box n0 43 [qe d1.Nodes]))] (fB R YBG (.inl R) (fun _=>R) R),oB [(50,.ptr 5 n0 0 0)] [(5,some (.box n0 43 [qe d1.Nodes]))] (Zi (a:=qe d1.Nodes) R YD0 (.inl R) R R),oB [(5,.ptr 5 n0 0 0)] [(5,some (.box n0 43 [qe d1.Nodes]))] (Zn R YDZ (.inl R) R R),oB [(6,.ptr 6 (n0+1) 0 0)] [(6,some (.box (n0+1) 45 (k28_ s1)))] (fB R YJg (.inl R) (fun _=>R) R),oB [(53,.ptr 6 (n0+1) 0 0)] [(6,some (.box (n0+1) 45 (k28_ s1)))] (Zi (a:=rI (s1.Node)) R ts_3 (.inl R) R R),oD (fun _=>[(52,.agg [qe d1.Nodes]),(54,rI (s1.Node))]) (fun _=>[]) (fun G1 e h' n=>YBb (r:=rI (r4)) (caps:=[]) (bs:=[.agg [qe d1.Nodes],rI (s1.Node)]) R (.inl R) R ⟨⟨_,(.inl R),.g (cs:=[.sl (d1.Nodes.map YAR.row)]) R R⟩,⟨_,(.inl R),.d R⟩,Zb⟩ (fun _=>YIW (er4)) R),oB [(51,qe d1.Nodes),(55,rI (r4))] [] (Zp R YDH.slice (.inl R) (.inl R) (fun _=>R) (fun _=>ex1)),oB [(56,.rop (YAR.row x1) 0)] [] (Zy (cs:=(k7_ x1)) R YIE (.inl R) R R),oM (fun _=>[]) (fun _=>[]) R (fun G1 e h' n=>ZH (cs:=z4_) 17 R YQH R R),Zb⟩) fun G1 n2=>?_
 refine aGo [5,6,14,15,16,17,47,48,50,51,52,53,54,55,56,57] [5,6,17,43] ?_
 refine Zv R R (Zs (ds:=(k7_ x1)) R YP9 iL R iL R R R R) (aZ (c16 _ (aT fun c17=>(aG [6,14,15,17] [6,17,43] ?_))))
 refine Ze h9 fun r5 er5 h10=>?_
 refine rP 7 [pO 58 (.ptr 17 (G1 8) 0 3),pO 59 (qb x1.Flow),pO 60 (.r (.sl (r5.map (rInt .i64)))),pO 61 (.ptr 6 (n0+1) 0 1),pO 62 (rI (s1.From)),pO 63 (.ptr 6 (n0+1) 0 2),pO 64 (rI (s1.To))] hmix R (by exact ⟨oB [(17,.ptr 17 (G1 8) 0 0)] [(17,some (.box (G1 8) 62 (k7_ x1)))] (fB R YC0 (.inl R) (fun _=>R) R),oB [(58,.ptr 17 (G1 8) 0 3)] [(17,some (.box (G1 8) 62 (k7_ x1)))] (Zi (a:=qb x1.Flow) R YDy (.inl R) R R),oD (fun _=>[(59,qb x1.Flow)]) (fun _=>[]) (fun G2 e h' n=>YBX (r:=.r (.sl (r5.map (rInt .i64)))) (caps:=[]) (bs:=[qb x1.Flow,rI (0)]) R (.inl R) R ⟨.inl ⟨(.inl R),R⟩,.inl ⟨(.inl R),R⟩,Zb⟩ (fun _=>YII (er5))),oB [(6,.ptr 6 (n0+1) 0 0)] [(6,some (.box (n0+1) 45 (k28_ s1)))] (fB R YHT (.inl R) (fun _=>R) R),oB [(61,.ptr 6 (n0+1) 0 1)] [(6,some (.box (n0+1) 45 (k28_ s1)))] (Zi (a:=rI (s1.From)) R ts_3 (.inl R) R R),oB [(6,.ptr 6 (n0+1) 0 0)] [(6,some (.box (n0+1) 45 (k28_ s1)))] (fB R YHS (.inl R) (fun _=>R) R),oB [(63,.ptr 6 (n0+1) 0 2)] [(6,some (.box (n0+1) 45 (k28_ s1)))] (Zi (a:=rI (s1.To)) R ts_3 (.inl R) R R),Zb⟩) fun G2 n3=>?_
 refine aGo [6,14,15,17,58,59,60,61,62,63,64] [6,17,43] ?_
 refine Ze h10 fun shown1 eshown1 h11=>?_
 refine sQ R (YN6 R YC3.slice iL (by exact ⟨_,iL⟩) (by exact ⟨_,iL⟩) (fun _=>R) (fun _=>eshown1)) ?_
 refine mA R (aZ (c17 _ (aU (mA R (aZ (aS fun K19 c19 wK19=>(aU (lF YC0 YDy R R (sQ R (Zq R YAw.slice iL) (mM R (aZ (Zg (jb1k h11 fun o1 hit1 hk1=>?_)))))))))))))
 have J1 : ∀ (steps4:List YAC) (i6:Nat→Nat),o1=steps4→K19 ⟨[(6,.ptr 6 (n0+1) 0 0),(14,.own 43 (i1 0)),(15,rI (r2)),(19,.own 5019 (i6 0))],[(6,some (.box (n0+1) 45 (k28_ s1))),(43,some (.arr (i1 0) 69 19 (w1.map GOp.row))),(5019,some (.arr (i6 0) 81 4 (steps4.map YAC.row)))],(i6 1),99⟩:=by
  intro steps4 i6 e
  have h12:=hk1 _ e
  refine c19 _ (aT fun c21=>(aR (mM R ?_)))
  refine AOps.weak (by exact Weak.frz (e':=[(6,.ptr 6 (n0+1) 0 0),(14,.own 43 (i1 0)),(15,rI (r2)),(19,qh steps4),(87,qh steps4)]) (h':=[(6,some (.box (n0+1) 45 (k28_ s1))),(43,some (.arr (i1 0) 69 19 (w1.map GOp.row)))]) 5019 R ⟨jL,jL,jL,.inl (.inr (.inr ⟨R,R⟩)),.inl (.inr (.inr ⟨R,R⟩)),Zb⟩ ⟨R,.inl R,R,.inl R,Zb⟩) ?_
  refine ob2k h12 fun r6 r7 er6 h13=>(sS R (YBX (r:=.tup [qh r6,rI (r7)]) (caps:=[]) (bs:=[qh steps4]) R iL R ⟨.inl ⟨iL,R⟩,Zb⟩ (fun _=>YOp (er6))) (mM R (sQ R (Zt (a:=qh r6) R iL R) (sQ R (Zt (a:=rI (r7)) R iL R) (mA R (aZ (c21 _ (aT fun c22=>(aR (mM R (lF YJg ts_3 R R (mM R ?_))))))))))))
  refine sQ R (ZD R YMR (q:=[(0,_),(1,_),(12,_)]) (by exact ⟨R,R,R,iL,R,R,R,iL,R,R,R,iL,Zb⟩) (cs:=[rI (2),rI (s1.Node),rI (0),rI (0),cZ,cZ,rI (0),rI (0),cZ,cZ,cZ,cZ,qh r6,cZ,cZ,cZ,cZ,cZ,cZ]) (by rfl)) ?_
  exact sS R (YA6 96 R YHH (f:=GOp.row) (l:=([(GOp.mk 2 s1.Node (YAR.mk 0 0 [] [] (YAy.mk 0 0 [] []) []) [] r6 (YAY.mk [] [] [] [] []) [])]:List GOp)) ⟨R,⟨_,iL,R⟩,Zb⟩ R (fun _=>R) R) (Ze h13 fun l1 el1 h14=>(sS R (YCr R YHH iL R (.inr (.inl ⟨_,_,iL,R⟩)) el1) (mM R (mA R (mA R (mA R (aZ (c22 _ (Zd (YKV (P:=Tryz.prog) (fun (r:(List GOp) × Int × Int)=>qg r.1) (fun (r:(List GOp) × Int × Int)=>rI (r.2.1)) (fun (r:(List GOp) × Int × Int)=>rI (r.2.2)) h14 iL (.t (.one (.own R))) (.t (.d R)) (.t (.d R))))))))))))
 refine AW.iter2 (fun (x3:Int) (steps2:List YAC) i4=>⟨[(6,.ptr 6 (n0+1) 0 0),(14,.own 43 (i1 0)),(15,rI (r2)),(18,.r (.sl (shown1.map (rInt .i64)))),(19,.own 5019 (i4 0)),(68,rI ((x1.Flow.length:Int))),(69,rI (x3))],[(6,some (.box (n0+1) 45 (k28_ s1))),(43,some (.arr (i1 0) 69 19 (w1.map GOp.row))),(5019,some (.arr (i4 0) 81 4 (steps2.map YAC.row)))],(i4 1),99⟩) (vec [n3,(n3+1)]) hit1 (Zl (Zl (ZM 19 5019 81 4 (by decide) R) (by exact ZK (e':=[(6,.ptr 6 (n0+1) 0 0),(14,.own 43 (i1 0)),(15,rI (r2)),(17,.ptr 17 (G1 8) 0 0),(18,.r (.sl (shown1.map (rInt .i64)))),(19,.own 5019 n3),(58,.ptr 17 (G1 8) 0 3),(59,qb x1.Flow),(60,.r (.sl (r5.map (rInt .i64)))),(61,.ptr 6 (n0+1) 0 1),(62,rI (s1.From)),(63,.ptr 6 (n0+1) 0 2),(64,rI (s1.To)),(65,.r (.sl (shown1.map (rInt .i64)))),(66,.ptr 17 (G1 8) 0 3),(67,qb x1.Flow),(68,rI ((x1.Flow.length:Int))),(69,rI (0))]) (h':=[(6,some (.box (n0+1) 45 (k28_ s1))),(17,some (.box (G1 8) 62 (k7_ x1))),(43,some (.arr (i1 0) 69 19 (w1.map GOp.row))),(5019,some (.arr n3 81 4 (([]:List YAC).map YAC.row)))]) ⟨jL,jL,jL,jL,jL,jL,jL,jL,jL,jL,jL,jL,jL,jL,jL,jL,jL,jL,Zb⟩ ⟨.inl R,.inl R,.inl R,.inl R,Zb⟩ nL)) wk) ?_
 intro x3 steps2 i4 v1 hv1 hx1
 have h15:YDK r2 x1 shown1 x3 steps2=some v1:=hv1; unfold YDK at h15
 refine aU (sQ R (Zo R iL iL) (aZ (aT fun c24=>(cI R h15 (fun h16=>?_) fun h16=>?_))))
 ·refine Zc (c24 _ (aT fun c25=>(Zg (aU (mM R (mA R (aZ (aT fun c27=>(aR ?_)))))))))
  refine sQ R (ZD R YNj (q:=[(0,_),(1,_)]) (by exact ⟨R,R,R,iL,R,R,R,iL,Zb⟩) (cs:=z15_) (by rfl)) ?_
  refine sS R (ZH (cs:=z14_) 21 R YVK R R) (Zv R R (Zs (ds:=z15_) R YVD iL R iL R R R R) (aZ (c27 _ (aS fun K28 c28 wK28=>(aU (mM R (mM R (Ze h16 fun r8 er8 h17=>(cL (YDY (er8)) R (aZ (jb1k h17 fun p1 hp1 hk2=>?_)))))))))))
  have J2 : ∀ (x5:YAC) (i7:Nat→Nat),p1=x5→K28 ⟨[(6,.ptr 6 (n0+1) 0 0),(14,.own 43 (i1 0)),(15,rI (r2)),(18,.r (.sl (shown1.map (rInt .i64)))),(19,.own 5019 (i4 0)),(21,.ptr 21 (i4 1) 0 0),(68,rI ((x1.Flow.length:Int))),(69,rI (x3))],[(6,some (.box (n0+1) 45 (k28_ s1))),(21,some (.box (i4 1) 81 [rI (x5.Kind),rI (x5.N),.own 79 (i7 0),cZ])),(43,some (.arr (i1 0) 69 19 (w1.map GOp.row))),(79,some (.arr (i7 0) 36 2 (x5.Attrs.map YAD.row))),(5019,some (.arr (i4 0) 81 4 (steps2.map YAC.row)))],(i7 1),99⟩:=by
   intro x5 i7 e
   have h18:=hk2 _ e
   refine c28 _ (aR (mM R (sQ R (Zn R YQE iL R R) ?_)))
   refine AOps.weak (by exact Weak.frz (e':=[(6,.ptr 6 (n0+1) 0 0),(14,.own 43 (i1 0)),(15,rI (r2)),(18,.r (.sl (shown1.map (rInt .i64)))),(19,.own 5019 (i4 0)),(21,.ptr 21 (i4 1) 0 0),(68,rI ((x1.Flow.length:Int))),(69,rI (x3)),(81,.own 5019 (i4 0)),(82,.agg [rI (x5.Kind),rI (x5.N),qa x5.Attrs,cZ])]) (h':=[(6,some (.box (n0+1) 45 (k28_ s1))),(21,some (.box (i4 1) 81 [rI (x5.Kind),rI (x5.N),qa x5.Attrs,cZ])),(43,some (.arr (i1 0) 69 19 (w1.map GOp.row))),(5019,some (.arr (i4 0) 81 4 (steps2.map YAC.row)))]) 79 R ⟨jL,jL,jL,jL,jL,jL,jL,jL,jL,.inr ⟨_,_,R,R,⟨.inl R,.inl R,.inr (.inr ⟨R,R⟩),.inl R,Zb⟩⟩,Zb⟩ ⟨R,.inl R,R,.inr (.inr (.inl ⟨_,_,_,_,R,R,⟨.inl R,.inl R,.inr (.inr ⟨R,R⟩),.inl R,Zb⟩⟩)),R,.inl R,R,.inl R,Zb⟩) ?_
   exact sS R (YA6 83 R YBw (f:=YAC.row) (l:=([(YAC.mk x5.Kind x5.N x5.Attrs [])]:List YAC)) ⟨R,⟨_,iL,R⟩,Zb⟩ R (fun _=>R) R) (Ze h18 fun steps5 esteps5 h19=>(sS R (YCr R YBw iL R (.inr (.inl ⟨_,_,iL,R⟩)) esteps5) (mA R (aZ (c25 _ (aR (Ze h19 fun x6 ex6 h20=>(sQ R (Zx R iL iL (fun _=>ex6)) (mM R (Zk (YDV.mk h20 (vec [((i7 1)+1),((i7 1)+2)]) wk)))))))))))
  refine aC R (fun hc6=>?_) (fun hc6=>?_)
  ·have h21:=YDO hc6 hp1
   refine aR (mM R (Ze h21 fun r9 er9 h22=>(cL (YNU (er9)) R ?_)))
   refine sQ R (ZD R YOs (q:=[(0,_),(1,_)]) (by exact ⟨R,R,R,iL,R,R,R,iL,Zb⟩) (cs:=[.r (.str r9),.r (.str [111,110])]) (by rfl)) ?_
   exact sS R (YA6 79 R YBs (f:=YAD.row) (l:=([(YAD.mk r9 [111,110])]:List YAD)) ⟨R,⟨_,iL,R⟩,Zb⟩ R (fun _=>R) R) (sQ R (fB R YE3 iL fR R) (Zv R R (Zs (ds:=[rI (0),rI (1),.own 79 ((i4 1)+1),cZ]) R tz_37 iL R iL R R R R) (Zk (wK28 _ _ wk (J2 _ (vec [((i4 1)+1),((i4 1)+2)]) (Za h22).symm)))))
  ·have h21:=YDP hc6 hp1
   refine Zc ?_
   exact wK28 _ _ (Zl (Zl (Weak.adoptBox 21 2 79 36 2 (by decide) R R (by decide)) (by exact ZK (e':=[(6,.ptr 6 (n0+1) 0 0),(14,.own 43 (i1 0)),(15,rI (r2)),(18,.r (.sl (shown1.map (rInt .i64)))),(19,.own 5019 (i4 0)),(20,rI (x3)),(21,.ptr 21 (i4 1) 0 0),(68,rI ((x1.Flow.length:Int))),(69,rI (x3)),(70,rB ((decide (x3<(x1.Flow.length:Int))))),(71,rI (x3)),(72,.agg z15_),(73,.r (.sl (shown1.map (rInt .i64)))),(74,rI (x3)),(75,rB (r8))]) (h':=[(6,some (.box (n0+1) 45 (k28_ s1))),(21,some (.box (i4 1) 81 [rI (0),rI (1),.own 79 ((i4 1)+1),cZ])),(43,some (.arr (i1 0) 69 19 (w1.map GOp.row))),(79,some (.arr ((i4 1)+1) 36 2 (([]:List YAD).map YAD.row))),(5019,some (.arr (i4 0) 81 4 (steps2.map YAC.row)))]) ⟨jL,jL,jL,jL,jL,jL,jL,jL,jL,jL,jL,jL,jL,jL,jL,Zb⟩ ⟨.inl R,.inl R,.inl R,.inl R,.inl R,Zb⟩ nL)) wk) (J2 _ (vec [((i4 1)+1),((i4 1)+2)]) (Za h21).symm)
 exact Zw (wK19 _ _ wk (J1 _ (vec [(i4 0),(i4 1)]) (hx1 _ (Za h16).symm)))
theorem YKw {d1 i r} (h:YEo d1 i=some r):ARO Tryz.prog 41 [.agg [qe d1.Nodes],rI (i)] (rI (r)):=by
 unfold YEo at h
 refine mF Tryz.func41 Tryz.ntmps41 R fun n0=>aU (sS R (ZB (cs:=[qe d1.Nodes]) 2 R iL R R) (mA R (aZ (aT fun c2=>(aU (sQ R (Zn R YDZ iL R R) (Ze h fun e1 ee1 h1=>(cL (YIY (ee1)) R (mA R (aZ (aU (mM R (sQ R (Zu R iL iL) (aZ (cI R h1 (fun h2=>?_) fun h2=>?_)))))))))))))))
 ·exact aU (mM R (mA R (aZ (Zd (Y1_ h2 iL (.t (.d R)))))))
 refine Zc (c2 _ (aU (sQ R (Zn R YDZ iL R R) (mM R (Ze h2 fun i1 ei1 h3=>(cL (YIW (ei1)) R (mA R (aZ (aT fun c7=>(aT fun c8=>(aG [2,6] [2] ?_)))))))))))
 refine aR (mM R (sQ R (Zo R iL iL) (aZ (c8 _ (cI R h3 (fun h4=>?_) fun h4=>?_)))))
 ·exact aU (mA R (aZ (Zd (Y1_ h4 iL (.t (.d R))))))
 refine Zc (c7 _ (aT fun c10=>(aU (lF YBG YD0 R R (mM R (Ze h4 fun x1 ex1 h5=>(sQ R (Zp R YDH.slice iL iL (fun _=>R) (fun _=>ex1)) (sQ R (Zm R YA9 iL) (sQ R (ZA (d:=.int .i64 x1.Kind) R ts_3 iL R) (sQ R (Zu R iL iL) (aZ (cI R h5 (fun h6=>?_) fun h6=>?_))))))))))))
 ·refine aT fun c12=>(aF [] ?_)
  exact aR (mA R (aZ (c12 _ (Zd (Y1_ h6 iL (.t (.d R)))))))
 refine Zc (c10 _ (aT fun c13=>(aF [] ?_)))
 exact aR (mA R (aZ (c13 _ (Zd (Y1_ h6 iL (.t (.d R)))))))
theorem YMC {d1 i b c s r} (h:YEp d1 i b c s=some r):ARO Tryz.prog 13 [.agg [qe d1.Nodes],rI (i),.r (.str b),.r (.str c),rI (s)] (.tup [qg r.1,rI (r.2.1),rI (r.2.2)]):=by
 unfold YEp at h
 refine mF Tryz.func13 Tryz.ntmps13 R fun n0=>aU (sS R (ZB (cs:=[qe d1.Nodes]) 5 R iL R R) (mA R (mA R (mA R (aZ (aT fun c2=>(aU (sQ R (Zn R YDZ iL R R) (mM R (Ze h fun e1 ee1 h1=>(cL (YKw (ee1)) R (mA R (aZ (aU (mM R (sQ R (Zu R iL iL) (aZ (cI R h1 (fun h2=>?_) fun h2=>?_))))))))))))))))))
 ·refine aT fun c5=>(aF [13] ?_)
  exact aR (mM R (mA R (mA R (mA R (aZ (c5 _ (Zd (YKV (P:=Tryz.prog) (fun (r:(List GOp) × Int × Int)=>qg r.1) (fun (r:(List GOp) × Int × Int)=>rI (r.2.1)) (fun (r:(List GOp) × Int × Int)=>rI (r.2.2)) h2 iL (.t (.one (.nil))) (.t (.d R)) (.t (.d R))))))))))
 refine Zc (c2 _ (aT fun c6=>(aT fun c7=>(aG [1,2,3,4,5] [5] ?_))))
 refine aR (mM R (Ze h2 fun r1 er1 h3=>(cL (YEk (er1)) R (sQ R (Zz R iL) (aZ (c7 _ (cI R h3 (fun h4=>?_) fun h4=>?_)))))))
 ·exact aU (mA R (mA R (mA R (aZ (Zd (YKV (P:=Tryz.prog) (fun (r:(List GOp) × Int × Int)=>qg r.1) (fun (r:(List GOp) × Int × Int)=>rI (r.2.1)) (fun (r:(List GOp) × Int × Int)=>rI (r.2.2)) h4 iL (.t (.one (.nil))) (.t (.d R)) (.t (.d R))))))))
 refine Zc (c6 _ (aT fun c9=>(Ze h4 fun r2 er2 h5=>(ob3k h5 fun r3 r4 r5 er3 h6=>?_))))
 refine rP 13 [pO 23 (.agg [qe d1.Nodes]),pO 24 (.r (.str b)),pO 25 (.agg [.r (.str [97,117,116,104,111,114]),.r (.str b)]),pO 26 (rI (i)),pO 27 (.r (.str r2)),pO 28 (.agg [.r (.str [114,101,112,108,121]),.r (.str r2)]),⟨some 29,(fun _=>.r (.sl ([(YAD.mk [97,117,116,104,111,114] b),(YAD.mk [114,101,112,108,121] r2)].map YAD.row))),some (29,(fun _=>none)),[]⟩,pO 30 (.r (.str c)),pO 31 (rI (s)),pO 32 (.tup [qg r3,rI (r4),rI (r5)]),pO 33 (qg r3),pO 34 (rI (r4)),pO 35 (rI (r5))] hmix R (by exact ⟨oB [(5,.ptr 5 n0 0 0)] [(5,some (.box n0 43 [qe d1.Nodes]))] (Zn R YDZ (.inl R) R R),oB [(2,.r (.str b))] [] (Zf R (.inl R)),oB [(24,.r (.str b))] [] (ZD R YOs (q:=[(0,_),(1,_)]) (by exact ⟨R,R,R,(.inl R),R,R,R,(.inl R),Zb⟩) (cs:=[.r (.str [97,117,116,104,111,114]),.r (.str b)]) (by rfl)),oB [(1,rI (i))] [] (Zf R (.inl R)),oD (fun _=>[(26,rI (i))]) (fun _=>[]) (fun G1 e h' n=>YBb (r:=.r (.str r2)) (caps:=[]) (bs:=[rI (i)]) R (.inl R) R ⟨⟨_,(.inl R),.d R⟩,Zb⟩ (fun _=>YIJ (er2)) R),oB [(27,.r (.str r2))] [] (ZD R YOs (q:=[(0,_),(1,_)]) (by exact ⟨R,R,R,(.inl R),R,R,R,(.inl R),Zb⟩) (cs:=[.r (.str [114,101,112,108,121]),.r (.str r2)]) (by rfl)),Ob.makeN R R (by intro d h; cases h; rfl) R (fun _=>[(25,.agg [.r (.str [97,117,116,104,111,114]),.r (.str b)]),(28,.agg [.r (.str [114,101,112,108,121]),.r (.str r2)])]) (fun _=>[]) (fun D G1 hr=>⟨YJD hr 2 R R (by kernel_rfl) R R,YJD hr 5 R R (by kernel_rfl) R R,Zb⟩) (fun D G1 hr=>Zb) (fun G1 e h' n=>YDX.frz (YAV.toN (YA6 29 R YBs (f:=YAD.row) (l:=([(YAD.mk [97,117,116,104,111,114] b),(YAD.mk [114,101,112,108,121] r2)]:List YAD)) ⟨R,⟨_,(.inl R),R⟩,R,⟨_,(.inl R),R⟩,Zb⟩ R (fun _=>R) R))),oB [(3,.r (.str c))] [] (Zf R (.inl R)),oB [(4,rI (s))] [] (Zf R (.inl R)),oD (fun _=>[(23,.agg [qe d1.Nodes]),(29,.r (.sl ([(YAD.mk [97,117,116,104,111,114] b),(YAD.mk [114,101,112,108,121] r2)].map YAD.row))),(30,.r (.str c)),(31,rI (s))]) (fun _=>[]) (fun G1 e h' n=>YBX (r:=.tup [qg r3,rI (r4),rI (r5)]) (caps:=[]) (bs:=[.agg [qe d1.Nodes],.r (.sl ([(YAD.mk [97,117,116,104,111,114] b),(YAD.mk [114,101,112,108,121] r2)].map YAD.row)),.r (.str c),rI (s)]) R (.inl R) R ⟨.inl ⟨(.inl R),R⟩,.inl ⟨(.inl R),R⟩,.inl ⟨(.inl R),R⟩,.inl ⟨(.inl R),R⟩,Zb⟩ (fun _=>YNV (er3))),oB [(32,.tup [qg r3,rI (r4),rI (r5)])] [] (Zt (a:=qg r3) R (.inl R) R),oB [(32,.tup [qg r3,rI (r4),rI (r5)])] [] (Zt (a:=rI (r4)) R (.inl R) R),oB [(32,.tup [qg r3,rI (r4),rI (r5)])] [] (Zt (a:=rI (r5)) R (.inl R) R),Zb⟩) fun G1 n1=>?_
 refine aGo [1,2,3,4,5,20,21,22,23,24,25,26,27,28,29,30,31,32,33,34,35] [5] ?_
 exact mA R (mA R (mA R (aZ (c9 _ (Zd (YKV (P:=Tryz.prog) (fun (r:(List GOp) × Int × Int)=>qg r.1) (fun (r:(List GOp) × Int × Int)=>rI (r.2.1)) (fun (r:(List GOp) × Int × Int)=>rI (r.2.2)) h6 iL (.t (.d R)) (.t (.d R)) (.t (.d R))))))))
theorem YNW {d1 i a r} (h:YFh d1 i a=some r):ARO Tryz.prog 14 [.agg [qe d1.Nodes],rI (i),rB (a)] (.tup [qg r.1,rI (r.2)]):=by
 unfold YFh at h
 refine mF Tryz.func14 Tryz.ntmps14 R fun n0=>aU (sS R (ZB (cs:=[qe d1.Nodes]) 3 R iL R R) (mA R (mA R (aZ (aT fun c2=>(aU (sQ R (Zn R YDZ iL R R) (mM R (Ze h fun e1 ee1 h1=>(cL (YKw (ee1)) R (mA R (aZ (aU (mM R (sQ R (Zu R iL iL) (aZ (cI R h1 (fun h2=>?_) fun h2=>?_)))))))))))))))))
 ·refine aT fun c5=>(aF [8] ?_)
  exact aR (mM R (mA R (mA R (aZ (c5 _ (Zd (YCX (P:=Tryz.prog) (fun (r:(List GOp) × Int)=>qg r.1) (fun (r:(List GOp) × Int)=>rI (r.2)) h2 iL (.t (.one (.nil))) (.t (.d R)))))))))
 refine Zc (c2 _ (aT fun c6=>(aF [1,2] ?_)))
 refine aR ?_
 refine sQ R (ZD R YOs (q:=[(0,_)]) (by exact ⟨R,R,R,iL,Zb⟩) (cs:=[.r (.str [100,111,110,101]),.r (.str [])]) (by rfl)) ?_
 refine sS R (ZH (cs:=[.r (.str []),.r (.str [])]) 9 R YXM R R) (Zv R R (Zs (ds:=[.r (.str [100,111,110,101]),.r (.str [])]) R YXG iL R iL R R R R) (aZ (c6 _ (aS fun K7 c7 wK7=>(aU (mM R (aZ (jb1k h2 fun p1 hp1 hk1=>?_))))))))
 have J1 : ∀ (a1:YAD) (i1:Nat→Nat),p1=a1→K7 ⟨[(1,rI (i)),(9,.ptr 9 (n0+1) 0 0)],[(9,some (.box (n0+1) 36 (k26_ a1)))],(i1 0),24⟩:=by
  intro a1 i1 e
  have h3:=hk1 _ e
  refine c7 _ (aT fun c9=>(aR (mM R (sQ R (Zn R YQF iL R R) (sS R (YA6 21 R YBs (f:=YAD.row) (l:=([a1]:List YAD)) ⟨R,⟨_,iL,R⟩,Zb⟩ R (fun _=>R) R) ?_)))))
  refine sQ R (ZD R YMR (q:=[(0,_),(1,_),(11,_)]) (by exact ⟨R,R,R,iL,R,R,R,iL,R,R,R,iL,Zb⟩) (cs:=[rI (1),rI (i),rI (0),rI (0),cZ,cZ,rI (0),rI (0),cZ,cZ,cZ,.own 21 (i1 0),cZ,cZ,cZ,cZ,cZ,cZ,cZ]) (by rfl)) ?_
  refine AOps.weak (by exact Weak.frz (e':=[(1,rI (i)),(9,.ptr 9 (n0+1) 0 0),(19,rI (i)),(20,.agg (k26_ a1)),(21,.r (.sl ([a1].map YAD.row))),(22,.agg [rI (1),rI (i),rI (0),rI (0),cZ,cZ,rI (0),rI (0),cZ,cZ,cZ,.r (.sl ([a1].map YAD.row)),cZ,cZ,cZ,cZ,cZ,cZ,cZ])]) (h':=[(9,some (.box (n0+1) 36 (k26_ a1)))]) 21 R ⟨jL,jL,jL,jL,.inl (.inr (.inr ⟨R,R⟩)),.inr ⟨_,_,R,R,⟨.inl R,.inl R,.inl R,.inl R,.inl R,.inl R,.inl R,.inl R,.inl R,.inl R,.inl R,.inr (.inr ⟨R,R⟩),.inl R,.inl R,.inl R,.inl R,.inl R,.inl R,.inl R,Zb⟩⟩,Zb⟩ ⟨R,.inl R,Zb⟩) ?_
  exact sS R (YA6 23 R YHH (f:=GOp.row) (l:=([(GOp.mk 1 i (YAR.mk 0 0 [] [] (YAy.mk 0 0 [] []) []) [a1] [] (YAY.mk [] [] [] [] []) [])]:List GOp)) ⟨R,⟨_,iL,R⟩,Zb⟩ R (fun _=>R) R) (mA R (mA R (aZ (c9 _ (Zd (YCX (P:=Tryz.prog) (fun (r:(List GOp) × Int)=>qg r.1) (fun (r:(List GOp) × Int)=>rI (r.2)) h3 iL (.t (.one (.own R))) (.t (.d R))))))))
 refine aC R (fun hc2=>?_) (fun hc2=>?_)
 ·have h4:=YDO hc2 hp1
  exact aR (sQ R (fB R YHU iL fR R) (Zv R R (Zs (ds:=[.r (.str [100,111,110,101]),.r (.str [111,110])]) R tz_9 iL R iL R R R R) (Zk (wK7 _ _ wk (J1 _ (vec [(n0+2)]) (Za h4).symm)))))
 ·have h4:=YDP hc2 hp1
  exact Zc (wK7 _ _ wk (J1 _ (vec [(n0+2)]) (Za h4).symm))
theorem YBj {x1 l a r} (h:YC2 x1 l a=some r):ARO Tryz.prog 8 [rI (x1),rI (l),rI (a)] (rB (r)):=by
 unfold YC2 at h
 exact mF Tryz.func8 Tryz.ntmps8 R fun n0=>aU (mA R (aZ (aU (mM R (mM R (sQ R (YC1 R iL iL) (mM R (vM R (vM R (vQ R (YFB R (iR R) (iR R)) (sQ R (Zj R iL (iR R)) (mA R (aZ (Zd (Y2_ h iL (.t (.d R)))))))))))))))))
theorem YMp {s1 r} (h:YH2 s1=some r):ARO Tryz.prog 7 [.r (.str s1)] (rB (r)):=by
 unfold YH2 at h
 refine mF Tryz.func7 Tryz.ntmps7 R fun n0=>aU (mA R (aZ (aS fun K2 c2 wK2=>(aU (mM R (sQ R (YAj R Tryz.underlying9 iL) (mM R (aZ (Zg (jc1k h fun o1 hit1 hk1 he1=>?_))))))))))
 have J1 : ∀ (u2:Unit) (i5:Nat→Nat),o1 = .nrm u2→K2 ⟨[(0,.r (.str s1))],[],(i5 0),59⟩:=by
  intro u2 i5 e
  have h1:=hk1 _ e
  exact c2 _ (aU (mM R (sQ R (YAj R Tryz.underlying9 iL) (sQ R (YC1 R iL iL) (mM R (vM R (vQ R (YAj R Tryz.underlying9 (iR R)) (vQ R (YFB R (iR R) iL) (sQ R (Zj R iL (iR R)) (mA R (aZ (Zd (Y2_ h1 iL (.t (.d R)))))))))))))))
 refine ZE (fun (x2:Int) i3=>⟨[(0,.r (.str s1)),(6,rI ((s1.length:Int))),(7,rI (x2))],[],(i3 0),59⟩) (vec [n0]) hit1 wk ?_
 intro x2 i3 v1 hv1 hx1
 have h2:YEZ s1 x2=some v1:=hv1; unfold YEZ at h2
 refine aU (sQ R (Zo R iL iL) (aZ (aT fun c6=>(cI R h2 (fun h3=>?_) fun h3=>?_))))
 ·refine Zc (c6 _ (aT fun c7=>(Zg (aU (mM R (mA R (aZ (aU (mM R (mM R (Ze h3 fun ch1 ech1 h4=>(sQ R (ZL R Tryz.underlying9 iL iL (fun _=>ech1)) (sQ R (YC1 R iL iL) (mM R (vM R (vM R (vQ R (ZL R Tryz.underlying9 (iR R) (iR R) (fun _=>ech1)) (vQ R (YFB R (iR R) iL) (sQ R (Zj R iL (iR R)) (mA R (aZ (aT fun c10=>(aR (mM R (sQ R (Zz R iL) (mM R (vM R (vQ R (Zh R (iR R) iL) (vQ R (Zf R (iR R)) (wQ R (Zf R iL) (wQ R (Zf R iL) (wQ R (ZL R Tryz.underlying9 (iR R) (iR R) (fun _=>ech1)) (wQ R (Zu R (iR R) iL) (wQ R (Zf R (iR R)) (wQ R (Zf R iL) (wQ R (Zf R iL) (wQ R (ZL R Tryz.underlying9 (iR R) (iR R) (fun _=>ech1)) (wQ R (Zu R (iR R) iL) (wQ R (Zj R (iR R) (iR R)) (wQ R (Zf R (iR R)) (wQ R (Zf R iL) (wQ R (Zf R iL) (wQ R (ZL R Tryz.underlying9 (iR R) (iR R) (fun _=>ech1)) (wQ R (Zo R (iR R) iL) (wQ R (Zf R (iR R)) (wQ R (Zf R iL) (wQ R (Zf R iL) (wQ R (ZL R Tryz.underlying9 (iR R) (iR R) (fun _=>ech1)) (wQ R (ZF R (iR R) iL) (wQ R (Zr R (iR R) (iR R)) (wQ R (Zj R (iR R) (iR R)) (vQ R (Zr R (iR R) (iR R)) (sQ R (Zj R iL (iR R)) (aZ (c10 _ (cI R h4 (fun h5=>?_) fun h5=>?_))))))))))))))))))))))))))))))))))))))))))))))))))))))))
  ·refine aT fun c11=>(aF [] ?_)
   exact aR (mA R (aZ (c11 _ (Zd (Y2_ (he1 _ (hx1 _ (Za h5).symm)) iL (.t (.d R)))))))
  refine Zc (c7 _ (aF [0,6,7] ?_))
  exact aR (Ze h5 fun x4 ex4 h6=>(sQ R (Zx R iL iL (fun _=>ex4)) (mM R (Zk (ZC h6 (vec [(i3 0)]) wk)))))
 exact Zw (wK2 _ _ wk (J1 _ (vec [(i3 0)]) (hx1 _ (Za h3).symm)))
theorem YIU {s1 r} (h:YFi s1=some r):ARO Tryz.prog 47 [.r (.str s1)] (rB (r)):=by
 unfold YFi at h
 refine mF Tryz.func47 Tryz.ntmps47 R fun n0=>aU (mA R (aZ (aS fun K2 c2 wK2=>(aU (mM R (sQ R (YAj R Tryz.underlying9 iL) (mM R (aZ (Zg (jc1k h fun o1 hit1 hk1 he1=>?_))))))))))
 have J1 : ∀ (u2:Unit) (i5:Nat→Nat),o1 = .nrm u2→K2 ⟨[(0,.r (.str s1))],[],(i5 0),28⟩:=by
  intro u2 i5 e
  have h1:=hk1 _ e
  exact c2 _ (aU (mM R (sQ R (YAj R Tryz.underlying9 iL) (sQ R (YC1 R iL iL) (mM R (vM R (vQ R (YAj R Tryz.underlying9 (iR R)) (vQ R (YFB R (iR R) iL) (sQ R (Zj R iL (iR R)) (mA R (aZ (Zd (Y2_ h1 iL (.t (.d R)))))))))))))))
 refine ZE (fun (x2:Int) i3=>⟨[(0,.r (.str s1)),(5,rI ((s1.length:Int))),(6,rI (x2))],[],(i3 0),28⟩) (vec [n0]) hit1 wk ?_
 intro x2 i3 v1 hv1 hx1
 have h2:YEs s1 x2=some v1:=hv1; unfold YEs at h2
 refine aU (sQ R (Zo R iL iL) (aZ (aT fun c6=>(cI R h2 (fun h3=>?_) fun h3=>?_))))
 ·refine Zc (c6 _ (aT fun c7=>(Zg (aU (mM R (mA R (aZ (aU (mM R (mM R (Ze h3 fun ch1 ech1 h4=>(sQ R (ZL R Tryz.underlying9 iL iL (fun _=>ech1)) (sQ R (Zo R iL iL) (mM R (vM R (vM R (vQ R (ZL R Tryz.underlying9 (iR R) (iR R) (fun _=>ech1)) (vQ R (ZF R (iR R) iL) (sQ R (Zr R iL (iR R)) (aZ (cI R h4 (fun h5=>?_) fun h5=>?_)))))))))))))))))))))
  ·refine aT fun c10=>(aF [] ?_)
   exact aR (mA R (aZ (c10 _ (Zd (Y2_ (he1 _ (hx1 _ (Za h5).symm)) iL (.t (.d R)))))))
  refine Zc (c7 _ (aF [0,5,6] ?_))
  exact aR (Ze h5 fun x4 ex4 h6=>(sQ R (Zx R iL iL (fun _=>ex4)) (mM R (Zk (ZC h6 (vec [(i3 0)]) wk)))))
 exact Zw (wK2 _ _ wk (J1 _ (vec [(i3 0)]) (hx1 _ (Za h3).symm)))
theorem YCe {l1 c r} (h:YBR l1 c=some r):ARO Tryz.prog 77 [qa l1,rB (c)] (rI (r)):=by
 unfold YBR at h
 refine mF Tryz.func77 Tryz.ntmps77 R fun n0=>aU (mA R (aZ (aS fun K2 c2 wK2=>(aU (mM R (sQ R (Zq R YBs.slice iL) (mM R (aZ (Zg (jc1k h fun o1 hit1 hk1 he1=>?_))))))))))
 have J1 : ∀ (u2:Unit) (i5:Nat→Nat),o1 = .nrm u2→K2 ⟨[],[],(i5 0),54⟩:=by
  intro u2 i5 e
  have h1:=hk1 _ e
  exact c2 _ (aU (mA R (aZ (Zd (Y1_ h1 iL (.t (.d R)))))))
 refine ZE (fun (x2:Int) i3=>⟨[(0,qa l1),(1,rB (c)),(7,rI ((l1.length:Int))),(8,rI (x2))],[],(i3 0),54⟩) (vec [n0]) hit1 wk ?_
 intro x2 i3 v1 hv1 hx1
 have h2:YBn l1 c x2=some v1:=hv1; unfold YBn at h2
 refine aU (sQ R (Zo R iL iL) (aZ (aT fun c6=>(cI R h2 (fun h3=>?_) fun h3=>?_))))
 ·refine Zc (c6 _ (aT fun c7=>(Zg (aU (mM R (mA R (aZ (aT fun c9=>(aU (mM R (mM R (Ze h3 fun x4 ex4 h4=>(sQ R (Zp R YBs.slice iL iL (fun _=>R) (fun _=>ex4)) (sQ R (Zm R YGm iL) (sQ R (ZA (d:=.str x4.Name) R ts_9 iL R) (Ze h4 fun r1 er1 h5=>(cL (YMp (er1)) R (sQ R (Zz R iL) (aZ (cI R h5 (fun h6=>?_) fun h6=>?_))))))))))))))))))))
  ·refine aT fun c11=>(aF [] ?_)
   exact aR (mA R (aZ (c11 _ (Zd (Y1_ (he1 _ (hx1 _ (Za h6).symm)) iL (.t (.d R)))))))
  refine Zc (c9 _ (aT fun c12=>(aT fun c13=>(aF [0,1,5,7,8] ?_))))
  refine aR (mM R (mM R (sQ R (Zp R YBs.slice iL iL (fun _=>R) (fun _=>ex4)) (sQ R (Zm R YHU iL) (sQ R (ZA (d:=.str x4.Value) R ts_9 iL R) (Ze h6 fun r2 er2 h7=>(cL (YIU (er2)) R (sQ R (Zz R iL) (mM R (vM R (vM R (vQ R (Zp R YBs.slice (iR R) (iR R) (fun _=>R) (fun _=>ex4)) (vQ R (Zm R YHU (iR R)) (vQ R (ZA (d:=.str x4.Value) R ts_9 (iR R) R) (vQ R (YCH R (iR R) iL) (vQ R (Zf R (iR R)) (wQ R (Zf R iL) (wQ R (Zz R (iR R)) (vQ R (Zr R (iR R) (iR R)) (sQ R (Zj R iL (iR R)) (aZ (c13 _ (cI R h7 (fun h8=>?_) fun h8=>?_)))))))))))))))))))))))
  ·refine aT fun c14=>(aF [] ?_)
   exact aR (mA R (aZ (c14 _ (Zd (Y1_ (he1 _ (hx1 _ (Za h8).symm)) iL (.t (.d R)))))))
  refine Zc (c12 _ (aT fun c15=>(aF [0,1,5,7,8] ?_)))
  refine ZI hmix (by kernel_rfl) ?_
  refine qP R (Zf R iL) (qP R (ZF R iL iL) (qP R (Zf R iL) (qO R (Zf R iL) (qO R (Zf R iL) (Ze h8 fun x5 ex5 h9=>qO R (YBg R (iR R) iL (gdt ex5)) (Ze h9 fun x6 ex6 h10=>qO R (Zp R YBs.slice (iR R) (iR R) (fun _=>R) (gdt ex6)) (qO R (Zm R YGm (iR R)) (qO R (ZA (d:=.str x6.Name) R ts_9 (iR R) R) (qO R (Zf R iL) (qO R (Zf R iL) (qO R (Zp R YBs.slice (iR R) (iR R) (fun _=>R) (fun _=>ex4)) (qO R (Zm R YGm (iR R)) (qO R (ZA (d:=.str x4.Name) R ts_9 (iR R) R) (qO R (YTU R (iR R) (iR R)) (qP R (Zj R iL (iR R)) (AQ.nil (c15 _ (cI R h10 (fun h11=>?_) fun h11=>?_))))))))))))))))))
  ·refine aT fun c16=>(aF [] ?_)
   exact aR (mA R (aZ (c16 _ (Zd (Y1_ (he1 _ (hx1 _ (Za h11).symm)) iL (.t (.d R)))))))
  exact Zc (c7 _ (aR (Ze h11 fun x7 ex7 h12=>(sQ R (Zx R iL iL (fun _=>ex7)) (mM R (Zk (ZC h12 (vec [(i3 0)]) wk)))))))
 exact Zw (wK2 _ _ wk (J1 _ (vec [(i3 0)]) (hx1 _ (Za h3).symm)))
theorem YFD {k r} (h:YDk k=some r):ARO Tryz.prog 43 [rI (k)] (rB (r)):=by
 unfold YDk at h
 exact mF Tryz.func43 Tryz.ntmps43 R fun n0=>aU (mA R (aZ (aU (mM R (sQ R (Zh R iL iL) (mM R (vM R (vQ R (Zh R (iR R) iL) (sQ R (Zr R iL (iR R)) (mM R (vM R (vQ R (Zh R (iR R) iL) (sQ R (Zr R iL (iR R)) (mM R (vM R (vQ R (Zh R (iR R) iL) (sQ R (Zr R iL (iR R)) (mA R (aZ (Zd (Y2_ h iL (.t (.d R)))))))))))))))))))))))
theorem YNX {k r} (h:YGs k=some r):ARO Tryz.prog 78 [rI (k)] (rB (r)):=by
 unfold YGs at h
 exact mF Tryz.func78 Tryz.ntmps78 R fun n0=>aU (mA R (aZ (aU (mM R (sQ R (Zh R iL iL) (mM R (vM R (vQ R (Zh R (iR R) iL) (sQ R (Zr R iL (iR R)) (mA R (aZ (Zd (Y2_ h iL (.t (.d R)))))))))))))))
theorem YMD {g1 r} (h:YEq g1=some r):ARO Tryz.prog 79 (k17_ g1) (rB (r)):=by
 unfold YEq at h
 exact mF Tryz.func79 Tryz.ntmps79 R fun n0=>aU (sS R (ZB (cs:=(k20_ g1)) 1 R iL R R) (mA R (aZ (aU (lF YE6 ts_3 R R (sQ R (Zh R iL iL) (mM R (vF YE5 ts_3 R R (vQ R (Zh R (iR R) iL) (sQ R (Zj R iL (iR R)) (mM R (vF YEX YIa R R (vQ R (Zq R YDz.slice (iR R)) (vQ R (Zh R (iR R) iL) (sQ R (Zj R iL (iR R)) (mM R (vF YD3 YHG R R (vQ R (Zq R YFa.slice (iR R)) (vQ R (Zh R (iR R) iL) (sQ R (Zj R iL (iR R)) (mA R (aZ (Zd (Y2_ h iL (.t (.d R))))))))))))))))))))))))))
theorem YIv {k r} (h:YFj k=some r):ARO Tryz.prog 80 [rI (k)] (rB (r)):=by
 unfold YFj at h
 exact mF Tryz.func80 Tryz.ntmps80 R fun n0=>aU (mA R (aZ (aU (mM R (sQ R (Zh R iL iL) (mM R (vM R (vQ R (Zh R (iR R) iL) (sQ R (Zr R iL (iR R)) (mA R (aZ (Zd (Y2_ h iL (.t (.d R)))))))))))))))
theorem YNY {k r} (h:YGt k=some r):ARO Tryz.prog 81 [rI (k)] (rB (r)):=by
 unfold YGt at h
 exact mF Tryz.func81 Tryz.ntmps81 R fun n0=>aU (mA R (aZ (aU (mM R (sQ R (Zh R iL iL) (mM R (vM R (vQ R (Zh R (iR R) iL) (sQ R (Zr R iL (iR R)) (mM R (vM R (vQ R (Zh R (iR R) iL) (sQ R (Zr R iL (iR R)) (mA R (aZ (Zd (Y2_ h iL (.t (.d R)))))))))))))))))))
theorem YH0 {c1 r} (h:YF4 c1=some r):ARO Tryz.prog 89 [rI (c1)] (rB (r)):=by
 unfold YF4 at h
 exact mF Tryz.func89 Tryz.ntmps89 R fun n0=>aU (mA R (aZ (aU (mM R (sQ R (Zh R iL iL) (mM R (vM R (vQ R (Zh R (iR R) iL) (sQ R (Zr R iL (iR R)) (mM R (vM R (Ze h fun r1 er1 h1=>vL (fun hg=>YBj (gdt er1 hg)) R (sQ R (Zr R iL (iR R)) (mM R (vM R (Ze h1 fun r2 er2 h2=>vL (fun hg=>YBj (gdt er2 hg)) R (sQ R (Zr R iL (iR R)) (mM R (vM R (Ze h2 fun r3 er3 h3=>vL (fun hg=>YBj (gdt er3 hg)) R (sQ R (Zr R iL (iR R)) (mA R (aZ (Zd (Y2_ h3 iL (.t (.d R)))))))))))))))))))))))))))
theorem YK5 {x1 r} (h:YEI x1=some r):ARO Tryz.prog 120 (k23_ x1) (rI (r)):=by
 unfold YEI at h
 refine mF Tryz.func120 Tryz.ntmps120 R fun n0=>aU (sS R (ZB (cs:=(k27_ x1)) 1 R iL R R) (mA R (aZ (aT fun c2=>(aU (lF YD2 ts_3 R R (sQ R (Zh R iL iL) (mM R (vF YCS ts_3 R R (vQ R (Zh R (iR R) iL) (sQ R (Zj R iL (iR R)) (mM R (vF YD2 ts_3 R R (vQ R (Zu R (iR R) iL) (vQ R (Zf R (iR R)) (wQ R (fB R YCS iL fR R) (wQ R (Zi (a:=rI (x1.Ref)) R ts_3 (iR R) R R) (wQ R (Zu R (iR R) iL) (vQ R (Zj R (iR R) (iR R)) (sQ R (Zr R iL (iR R)) (aZ (cI R h (fun h1=>?_) fun h1=>?_))))))))))))))))))))))
 ·refine aT fun c4=>(aF [] ?_)
  exact aR (mA R (aZ (c4 _ (Zd (Y1_ h1 iL (.t (.d R)))))))
 refine Zc (c2 _ (aT fun c5=>(aT fun c6=>(aG [1] [1] ?_))))
 refine aR (lF YD2 ts_3 R R (sQ R (Zu R iL iL) (mM R (vF YD2 ts_3 R R (Ze h1 fun r1 er1 h2=>vL (fun hg=>YH0 (gdt er1 hg)) R (vQ R (Zz R (iR R)) (sQ R (Zj R iL (iR R)) (mM R (vF YCS ts_3 R R (vQ R (Zu R (iR R) iL) (vQ R (Zf R (iR R)) (wQ R (fB R YCS iL fR R) (wQ R (Zi (a:=rI (x1.Ref)) R ts_3 (iR R) R R) (Ze h2 fun r2 er2 h3=>AOps.stepW (.two R R R) R R (YBb (r:=rB (r2)) (caps:=[]) (bs:=[rI (x1.Ref),rI (1),rI (1073741824)]) R iL R ⟨⟨_,(iR R),.d R⟩,⟨_,iL,.d R⟩,⟨_,iL,.d R⟩,Zb⟩ (fun hg=>YBj (gdt er2 hg)) R) (wQ R (Zz R (iR R)) (vQ R (Zj R (iR R) (iR R)) (sQ R (Zr R iL (iR R)) (aZ (c6 _ (cI R h3 (fun h4=>?_) fun h4=>?_))))))))))))))))))))
 ·refine aT fun c7=>(aF [] ?_)
  exact aR (mA R (aZ (c7 _ (Zd (Y1_ h4 iL (.t (.d R)))))))
 refine Zc (c5 _ (aT fun c8=>(aG [1] [1] ?_)))
 exact aR (lF YGl YCf R R (Ze h4 fun r3 er3 h5=>(cL (YCe (er3)) R (mA R (aZ (c8 _ (Zd (Y1_ h5 iL (.t (.d R))))))))))
theorem YK3 {f1 a r} (h:YB0 f1 a=some r):ARO Tryz.prog 82 [qb f1,rB (a)] (rI (r)):=by
 unfold YB0 at h
 refine mF Tryz.func82 Tryz.ntmps82 R fun n0=>aU (mA R (aZ (aS fun K2 c2 wK2=>(aU (mM R (sQ R (Zq R YAw.slice iL) (mM R (aZ (Zg (jc1k h fun o1 hit1 hk1 he1=>?_))))))))))
 have J1 : ∀ (u2:Unit) (i5:Nat→Nat),o1 = .nrm u2→K2 ⟨[(0,qb f1),(1,rB (a))],[],(i5 0),47⟩:=by
  intro u2 i5 e
  have h1:=hk1 _ e
  refine c2 _ (aT fun c4=>(aU (mM R (mM R (vM R (vQ R (Zq R YAw.slice (iR R)) (vQ R (Zh R (iR R) iL) (vQ R (Zf R (iR R)) (wQ R (Zf R iL) (wQ R (Zf R iL) (wQ R (Zq R YAw.slice (iR R)) (Ze h1 fun x4 ex4 h2=>wQ R (YBg R (iR R) iL (gdt ex4)) (Ze h2 fun x5 ex5 h3=>wQ R (Zp R YAw.slice (iR R) (iR R) (fun _=>R) (gdt ex5)) (wQ R (Zm R YD2 (iR R)) (wQ R (ZA (d:=.int .i64 x5.Char) R ts_3 (iR R) R) (wQ R (Zu R (iR R) iL) (vQ R (Zr R (iR R) (iR R)) (sQ R (Zj R iL (iR R)) (aZ (cI R h3 (fun h4=>?_) fun h4=>?_))))))))))))))))))))
  ·refine aT fun c6=>(aF [] ?_)
   exact aR (mA R (aZ (c6 _ (Zd (Y1_ h4 iL (.t (.d R)))))))
  refine Zc (c4 _ (aT fun c7=>(aF [] ?_)))
  exact aR (mA R (aZ (c7 _ (Zd (Y1_ h4 iL (.t (.d R)))))))
 refine ZE (fun (x2:Int) i3=>⟨[(0,qb f1),(1,rB (a)),(8,rI ((f1.length:Int))),(9,rI (x2))],[],(i3 0),47⟩) (vec [n0]) hit1 wk ?_
 intro x2 i3 v1 hv1 hx1
 have h5:YBe f1 a x2=some v1:=hv1; unfold YBe at h5
 refine aU (sQ R (Zo R iL iL) (aZ (aT fun c9=>(cI R h5 (fun h6=>?_) fun h6=>?_))))
 ·refine Zc (c9 _ (aT fun c10=>(Zg (aU (mM R (mA R (aZ (aT fun c12=>(aU (mM R (mM R (Ze h6 fun x6 ex6 h7=>(sQ R (Zp R YAw.slice iL iL (fun _=>R) (fun _=>ex6)) (sQ R (Zy (cs:=(k27_ x6)) R YJh iL R R) (Ze h7 fun e1 ee1 h8=>(cL (YK5 (ee1)) R (mA R (aZ (aU (mM R (sQ R (Zu R iL iL) (aZ (cI R h8 (fun h9=>?_) fun h9=>?_)))))))))))))))))))))))
  ·refine aT fun c15=>(aF [6] ?_)
   exact aR (mM R (mA R (aZ (c15 _ (Zd (Y1_ (he1 _ (hx1 _ (Za h9).symm)) iL (.t (.d R))))))))
  refine Zc (c12 _ (aT fun c16=>(aF [0,1,5,8,9] ?_)))
  refine aR (mM R (sQ R (Zz R iL) (mM R (vM R (vM R (vQ R (Zp R YAw.slice (iR R) (iR R) (fun _=>R) (fun _=>ex6)) (vQ R (Zm R YD2 (iR R)) (vQ R (ZA (d:=.int .i64 x6.Char) R ts_3 (iR R) R) (vQ R (Zu R (iR R) iL) (sQ R (Zj R iL (iR R)) (aZ (c16 _ (cI R h9 (fun h10=>?_) fun h10=>?_)))))))))))))
  ·refine aT fun c17=>(aF [] ?_)
   exact aR (mA R (aZ (c17 _ (Zd (Y1_ (he1 _ (hx1 _ (Za h10).symm)) iL (.t (.d R)))))))
  exact Zc (c10 _ (aR (Ze h10 fun x7 ex7 h11=>(sQ R (Zx R iL iL (fun _=>ex7)) (mM R (Zk (ZC h11 (vec [(i3 0)]) wk)))))))
 exact Zw (wK2 _ _ wk (J1 _ (vec [(i3 0)]) (hx1 _ (Za h6).symm)))
theorem YFy {s1 r} (h:YBV s1=some r):ARO Tryz.prog 202 [.r (.str s1)] (rB (r)):=by
 unfold YBV at h
 exact ARO.validString YUI R R R ⟨_,Tryz.func202,R,R⟩ h
theorem YMK {s1 r} (h:YEw s1=some r):ARO Tryz.prog 159 [.r (.str s1)] (rB (r)):=by
 unfold YEw at h
 refine mF Tryz.func159 Tryz.ntmps159 R fun n0=>aU (mA R (aZ (aT fun c2=>(aU (mM R (Ze h fun r1 er1 h1=>(cL (YFy (er1)) R (sQ R (Zz R iL) (aZ (cI R h1 (fun h2=>?_) fun h2=>?_))))))))))
 ·exact aU (mA R (aZ (Zd (Y2_ h2 iL (.t (.d R))))))
 refine Zc (c2 _ (aS fun K5 c5 wK5=>(aU (mM R (sS R (YVp 9 R Tryz.underlying9 iL) (aZ (Zg (jc1k h2 fun o1 hit1 hk1 he1=>?_))))))))
 have J1 : ∀ (u2:Unit) (i5:Nat→Nat),o1 = .nrm u2→K5 ⟨[],[],(i5 0),21⟩:=by
  intro u2 i5 e
  have h3:=hk1 _ e
  exact c5 _ (aU (mA R (aZ (Zd (Y2_ h3 iL (.t (.d R)))))))
 refine ZE (fun (p2:(Nat)) i3=>⟨[(9,.ptr 9 n0 0 0)],[(9,some (.it n0 s1 p2))],(i3 0),21⟩) (vec [(n0+1)]) hit1 wk ?_
 intro p2 i3 v1 hv1 hx1
 have h4:YAi s1 p2=some v1:=hv1; unfold YAi at h4
 refine aT fun c8=>(AW.split (decide (p2<s1.length)) (fun hg1=>?_) (fun hg1=>?_))
 ·have h5:=YDO hg1 h4
  refine aR (sS R (YUD R iL R (fun _=>hg1)) (sQ R (Zt (a:=rB (true)) R iL R) (aZ (c8 _ (aT fun c9=>(aC R (fun hc2=>?_) (fun hc2=>by cases hc2)))))))
  refine Zc (c9 _ (Zg (aU (sQ R (Zt (a:=.r (.int .i32 ((YGJ s1 p2).1:Int))) R iL R) (mA R (aZ (aU (mM R (sQ R (Zh R iL iL) (mM R (vM R (vQ R (ZG R Tryz.underlying21 Tryz.underlying3 (iR R)) (Ze h5 fun r2 er2 h6=>vL (fun hg=>YH0 (gdt er2 hg)) R (vQ R (Zz R (iR R)) (sQ R (Zr R iL (iR R)) (aZ (cI R h6 (fun h7=>?_) fun h7=>?_)))))))))))))))))
  ·refine aT fun c12=>(aF [] ?_)
   exact aR (mA R (aZ (c12 _ (Zd (Y2_ (he1 _ (hx1 _ (Za h7).symm)) iL (.t (.d R)))))))
  exact Zc (ZC h7 (vec [(i3 0)]) wk)
 ·have h5:=YDP hg1 h4
  exact aR (sS R (YUE R iL R (fun _=>hg1)) (sQ R (Zt (a:=rB (false)) R iL R) (aZ (c8 _ (aT fun c13=>(aC R (fun hc4=>by cases hc4) (fun hc4=>Zw (wK5 _ _ wk (J1 _ (vec [(i3 0)]) (hx1 _ (Za h5).symm))))))))))
theorem YK4 {c1 r} (h:YEH c1=some r):ARO Tryz.prog 160 (k11_ c1) (rB (r)):=by
 unfold YEH at h
 exact mF Tryz.func160 Tryz.ntmps160 R fun n0=>aU (sS R (ZB (cs:=(k13_ c1)) 1 R iL R R) (mA R (aZ (aU (lF YEi ts_9 R R (sQ R (YD6 R iL iL) (mM R (vF YCU ts_3 R R (vQ R (Zh R (iR R) iL) (sQ R (Zj R iL (iR R)) (mM R (vF YEh YCf R R (vQ R (Zq R YBs.slice (iR R)) (vQ R (Zh R (iR R) iL) (sQ R (Zj R iL (iR R)) (mA R (aZ (Zd (Y2_ h iL (.t (.d R)))))))))))))))))))))
theorem YKS {l1 b c n r} (h:YDc l1 b c n=some r):ARO Tryz.prog 121 [qd l1,rI (b),rI (c),rB (n)] (rI (r)):=by
 unfold YDc at h
 refine mF Tryz.func121 Tryz.ntmps121 R fun n0=>aU (mA R (aZ (aS fun K2 c2 wK2=>(aU (mM R (sQ R (Zq R YDz.slice iL) (mM R (aZ (Zg (jc1k h fun o1 hit1 hk1 he1=>?_))))))))))
 have J1 : ∀ (u2:Unit) (i5:Nat→Nat),o1 = .nrm u2→K2 ⟨[],[],(i5 0),93⟩:=by
  intro u2 i5 e
  have h1:=hk1 _ e
  exact c2 _ (aU (mA R (aZ (Zd (Y1_ h1 iL (.t (.d R)))))))
 refine ZE (fun (x2:Int) i3=>⟨[(0,qd l1),(1,rI (b)),(2,rI (c)),(3,rB (n)),(13,rI ((l1.length:Int))),(14,rI (x2))],[],(i3 0),93⟩) (vec [n0]) hit1 wk ?_
 intro x2 i3 v1 hv1 hx1
 have h2:YCK l1 b c n x2=some v1:=hv1; unfold YCK at h2
 refine aU (sQ R (Zo R iL iL) (aZ (aT fun c6=>(cI R h2 (fun h3=>?_) fun h3=>?_))))
 ·refine Zc (c6 _ (aT fun c7=>(Zg (aU (mM R (mA R (aZ (aU (mM R (mM R (Ze h3 fun x4 ex4 h4=>(sQ R (Zp R YDz.slice iL iL (fun _=>R) (fun _=>ex4)) (sQ R (Zy (cs:=(k13_ x4)) R YF2 iL R R) (sS R (ZH (cs:=z16_) 10 R YMx R R) (Zv R R (Zs (ds:=(k13_ x4)) R YMs iL R iL R R R R) (aZ (aT fun c10=>(aT fun c11=>(aR (lF YDI ts_3 R R (mM R (Ze h4 fun x5 ex5 h5=>(sQ R (YBg R iL iL (fun _=>ex5)) (Ze h5 fun r1 er1 h6=>(cL (YBj (er1)) R (sQ R (Zz R iL) (mM R (vF YD5 ts_3 R R (vM R (Ze h6 fun x6 ex6 h7=>(vQ R (YBg R (iR R) iL (gdt ex6)) (Ze h7 fun r2 er2 h8=>vL (fun hg=>YBj (gdt er2 hg)) R (vQ R (Zz R (iR R)) (sQ R (Zr R iL (iR R)) (mM R (vF YCU ts_3 R R (Ze h8 fun r3 er3 h9=>vL (fun hg=>YBj (gdt er3 hg)) R (vQ R (Zz R (iR R)) (sQ R (Zr R iL (iR R)) (aZ (c11 _ (cI R h9 (fun h10=>?_) fun h10=>?_))))))))))))))))))))))))))))))))))))))))))
  ·refine aT fun c12=>(aF [] ?_)
   exact aR (mA R (aZ (c12 _ (Zd (Y1_ (he1 _ (hx1 _ (Za h10).symm)) iL (.t (.d R)))))))
  refine Zc (c10 _ (aT fun c13=>(aT fun c14=>(aG [0,1,2,3,9,10,13,14] [10] ?_))))
  refine aR (lF YEi ts_9 R R (Ze h10 fun r4 er4 h11=>(cL (YMK (er4)) R (sQ R (Zz R iL) (aZ (c14 _ (cI R h11 (fun h12=>?_) fun h12=>?_)))))))
  ·refine aT fun c15=>(aF [] ?_)
   exact aR (mA R (aZ (c15 _ (Zd (Y1_ (he1 _ (hx1 _ (Za h12).symm)) iL (.t (.d R)))))))
  refine Zc (c13 _ (aT fun c16=>(aU (lF YEh YCf R R (Ze h12 fun e1 ee1 h13=>(cL (YCe (ee1)) R (mA R (aZ (aU (mM R (sQ R (Zu R iL iL) (aZ (cI R h13 (fun h14=>?_) fun h14=>?_)))))))))))))
  ·refine aT fun c19=>(aF [11] ?_)
   exact aR (mM R (mA R (aZ (c19 _ (Zd (Y1_ (he1 _ (hx1 _ (Za h14).symm)) iL (.t (.d R))))))))
  refine Zc (c16 _ (aT fun c20=>(aT fun c21=>(aG [0,1,2,3,9,10,13,14] [10] ?_))))
  refine aR (mM R (sQ R (Zz R iL) (mM R (vQ R (Zn R YF2 iL R R) (Ze h14 fun r5 er5 h15=>vL (fun hg=>YK4 (gdt er5 hg)) R (sQ R (Zj R iL (iR R)) (aZ (c21 _ (cI R h15 (fun h16=>?_) fun h16=>?_)))))))))
  ·refine aT fun c22=>(aF [] ?_)
   exact aR (mA R (aZ (c22 _ (Zd (Y1_ (he1 _ (hx1 _ (Za h16).symm)) iL (.t (.d R)))))))
  refine Zc (c20 _ (aT fun c23=>?_))
  refine ZI hmix (by kernel_rfl) ?_
  refine qP R (Zf R iL) (qP R (ZF R iL iL) (qP R (Zf R iL) (qO R (fB R YDI iL fR R) (qO R (Zi (a:=rI (x4.Row)) R ts_3 (iR R) R R) (qO R (Zf R iL) (qO R (Zf R iL) (Ze h16 fun x7 ex7 h17=>qO R (YBg R (iR R) iL (gdt ex7)) (Ze h17 fun x8 ex8 h18=>qO R (Zp R YDz.slice (iR R) (iR R) (fun _=>R) (gdt ex8)) (qO R (Zm R YDI (iR R)) (qO R (ZA (d:=.int .i64 x8.Row) R ts_3 (iR R) R) (qO R (Zo R (iR R) (iR R)) (qO R (Zf R (iR R)) (qT R (fB R YDI iL fR R) (qT R (Zi (a:=rI (x4.Row)) R ts_3 (iR R) R R) (qT R (Zf R iL) (qT R (Zf R iL) (qT R (YBg R (iR R) iL (fun h=>gdt ex7 (Bool.and_eq_true_iff.1 h).1)) (qT R (Zp R YDz.slice (iR R) (iR R) (fun _=>R) (fun h=>gdt ex8 (Bool.and_eq_true_iff.1 h).1)) (qT R (Zm R YDI (iR R)) (qT R (ZA (d:=.int .i64 x8.Row) R ts_3 (iR R) R) (qT R (Zh R (iR R) (iR R)) (qT R (Zf R (iR R)) (qT R (fB R YD5 iL fR R) (qT R (Zi (a:=rI (x4.Col)) R ts_3 (iR R) R R) (qT R (Zf R iL) (qT R (Zf R iL) (Ze h18 fun x9 ex9 h19=>qT R (YBg R (iR R) iL (gdt ex9)) (Ze h19 fun x10 ex10 h20=>qT R (Zp R YDz.slice (iR R) (iR R) (fun _=>R) (gdt ex10)) (qT R (Zm R YD5 (iR R)) (qT R (ZA (d:=.int .i64 x10.Col) R ts_3 (iR R) R) (qT R (YFB R (iR R) (iR R)) (qT R (Zj R (iR R) (iR R)) (qO R (Zr R (iR R) (iR R)) (qP R (Zj R iL (iR R)) (AQ.nil (c23 _ (cI R h20 (fun h21=>?_) fun h21=>?_)))))))))))))))))))))))))))))))))))))
  ·refine aT fun c24=>(aF [] ?_)
   exact aR (mA R (aZ (c24 _ (Zd (Y1_ (he1 _ (hx1 _ (Za h21).symm)) iL (.t (.d R)))))))
  refine Zc (c7 _ (aF [0,1,2,3,13,14] ?_))
  exact aR (Ze h21 fun x11 ex11 h22=>(sQ R (Zx R iL iL (fun _=>ex11)) (mM R (Zk (ZC h22 (vec [((i3 0)+1)]) wk)))))
 exact Zw (wK2 _ _ wk (J1 _ (vec [(i3 0)]) (hx1 _ (Za h3).symm)))
theorem YR9 {r1 a c r} (h:YI7 r1 a c=some r):ARO Tryz.prog 122 [.agg (k22_ r1),rI (a),rI (c)] (rB (r)):=by
 unfold YI7 at h
 exact mF Tryz.func122 Tryz.ntmps122 R fun n0=>aU (sS R (ZB (cs:=(k22_ r1)) 3 R iL R R) (mA R (aZ (aT fun c2=>(aR (lF YBQ ts_3 R R (mM R (Ze h fun x1 ex1 h1=>(sQ R (YBg R iL iL (fun _=>ex1)) (Ze h1 fun r2 er2 h2=>(cL (YBj (er2)) R (mM R (vF YBx ts_3 R R (vM R (Ze h2 fun x2 ex2 h3=>(vQ R (YBg R (iR R) iL (gdt ex2)) (Ze h3 fun r3 er3 h4=>vL (fun hg=>YBj (gdt er3 hg)) R (sQ R (Zj R iL (iR R)) (mM R (vF YFF ts_3 R R (vM R (vF YBQ ts_3 R R (Ze h4 fun x3 ex3 h5=>(vQ R (YBg R (iR R) (iR R) (gdt ex3)) (Ze h5 fun r4 er4 h6=>vL (fun hg=>YBj (gdt er4 hg)) R (sQ R (Zj R iL (iR R)) (mM R (vF YFE ts_3 R R (vM R (vF YBx ts_3 R R (Ze h6 fun x4 ex4 h7=>(vQ R (YBg R (iR R) (iR R) (gdt ex4)) (Ze h7 fun r5 er5 h8=>vL (fun hg=>YBj (gdt er5 hg)) R (sQ R (Zj R iL (iR R)) (mA R (aZ (c2 _ (Zd (Y2_ h8 iL (.t (.d R)))))))))))))))))))))))))))))))))))))))))
theorem YP1 {a1 b1 r} (h:YHh a1 b1=some r):ARO Tryz.prog 123 [.agg (k22_ a1),.agg (k22_ b1)] (rB (r)):=by
 unfold YHh at h
 refine mF Tryz.func123 Tryz.ntmps123 R fun n0=>aU (sS R (ZB (cs:=(k22_ a1)) 2 R iL R R) (sS R (ZB (cs:=(k22_ b1)) 3 R iL R R) (mA R (aZ (aT fun c2=>?_)))))
 refine ZI hmix (by kernel_rfl) ?_
 refine qP R (fB R YBQ iL fR R) (qP R (Zi (a:=rI (a1.Row)) R ts_3 iL R R) (qP R (fB R YBQ iL fR R) (qP R (Zi (a:=rI (b1.Row)) R ts_3 iL R R) (qP R (YRH R iL iL) (qP R (fB R YBx iL fR R) (qP R (Zi (a:=rI (a1.Col)) R ts_3 iL R R) (qP R (fB R YBx iL fR R) (qP R (Zi (a:=rI (b1.Col)) R ts_3 iL R R) (qP R (YRH R iL iL) (qP R (YCI R iL) (qP R (YCI R iL) (AQ.nil (c2 _ (aT fun c3=>(aG [2,3,5,6] [2,3] ?_)))))))))))))))
 exact aR (mM R (lF YBQ ts_3 R R (lF YFF ts_3 R R (Ze h fun x1 ex1 h1=>(sQ R (Zx R iL iL (fun _=>ex1)) (lF YBQ ts_3 R R (lF YFF ts_3 R R (Ze h1 fun x2 ex2 h2=>(sQ R (Zx R iL iL (fun _=>ex2)) (sQ R (YOw R iL iL) (sQ R (Zo R iL iL) (mM R (vM R (vF YBx ts_3 R R (vF YFE ts_3 R R (Ze h2 fun x3 ex3 h3=>(vQ R (Zx R (iR R) (iR R) (gdt ex3)) (vF YBx ts_3 R R (vF YFE ts_3 R R (Ze h3 fun x4 ex4 h4=>(vQ R (Zx R (iR R) (iR R) (gdt ex4)) (vQ R (YOw R (iR R) (iR R)) (vQ R (Zo R (iR R) (iR R)) (sQ R (Zj R iL (iR R)) (mA R (aZ (c3 _ (Zd (Y2_ h4 iL (.t (.d R)))))))))))))))))))))))))))))))
theorem YK2 {g1 r} (h:YEG g1=some r):ARO Tryz.prog 83 (k17_ g1) (rI (r)):=by
 unfold YEG at h
 refine mF Tryz.func83 Tryz.ntmps83 R fun n0=>aU (sS R (ZB (cs:=(k20_ g1)) 1 R iL R R) (mA R (aZ (aT fun c2=>(aU (lF YE6 ts_3 R R (Ze h fun r1 er1 h1=>(cL (YBj (er1)) R (sQ R (Zz R iL) (mM R (vF YE5 ts_3 R R (Ze h1 fun r2 er2 h2=>vL (fun hg=>YBj (gdt er2 hg)) R (vQ R (Zz R (iR R)) (sQ R (Zr R iL (iR R)) (aZ (cI R h2 (fun h3=>?_) fun h3=>?_))))))))))))))))
 ·refine aT fun c4=>(aF [] ?_)
  exact aR (mA R (aZ (c4 _ (Zd (Y1_ h3 iL (.t (.d R)))))))
 refine Zc (c2 _ (aT fun c5=>(aT fun c6=>(aG [1] [1] ?_))))
 refine aR (lF YEX YIa R R (lF YE6 ts_3 R R (lF YE5 ts_3 R R (Ze h3 fun e1 ee1 h4=>(cL (YKS (ee1)) R (mA R (aZ (c6 _ (aU (mM R (sQ R (Zu R iL iL) (aZ (cI R h4 (fun h5=>?_) fun h5=>?_)))))))))))))
 ·refine aT fun c8=>(aF [3] ?_)
  exact aR (mM R (mA R (aZ (c8 _ (Zd (Y1_ h5 iL (.t (.d R))))))))
 refine Zc (c5 _ (aS fun K9 c9 wK9=>(aT fun c10=>(aG [1] [1] ?_))))
 refine aR (lF YD3 YHG R R (sQ R (Zq R YFa.slice iL) (mM R (aZ (c10 _ (Zg (jc1k h5 fun o1 hit1 hk1 he1=>?_)))))))
 have J1 : ∀ (u2:Unit) (i5:Nat→Nat),o1 = .nrm u2→K9 ⟨[],[],(i5 0),104⟩:=by
  intro u2 i5 e
  have h6:=hk1 _ e
  exact c9 _ (aU (mA R (aZ (Zd (Y1_ h6 iL (.t (.d R)))))))
 refine ZE (fun (x2:Int) i3=>⟨[(1,.ptr 1 n0 0 0),(29,rI ((g1.Merges.length:Int))),(30,rI (x2))],[(1,some (.box n0 59 (k20_ g1)))],(i3 0),104⟩) (vec [(n0+1)]) hit1 wk ?_
 intro x2 i3 v1 hv1 hx1
 have h7:YCo g1 x2=some v1:=hv1; unfold YCo at h7
 refine aU (sQ R (Zo R iL iL) (aZ (aT fun c13=>(cI R h7 (fun h8=>?_) fun h8=>?_))))
 ·refine Zc (c13 _ (aS fun K14 c14 wK14=>(Zg (aU (mM R (mA R (aZ (aU (lF YD3 YHG R R (mM R (Ze h8 fun x4 ex4 h9=>(sQ R (Zp R YFa.slice iL iL (fun _=>R) (fun _=>ex4)) (sQ R (Zy (cs:=(k22_ x4)) R YFb iL R R) (sS R (ZH (cs:=[rI (0),rI (0),rI (0),rI (0)]) 5 R YWh R R) (Zv R R (Zs (ds:=(k22_ x4)) R YWd iL R iL R R R R) (aZ (aT fun c17=>(aU (sQ R (Zn R YFb iL R R) (lF YE6 ts_3 R R (lF YE5 ts_3 R R (Ze h9 fun r3 er3 h10=>(cL (YR9 (er3)) R (sQ R (Zz R iL) (aZ (cI R h10 (fun h11=>?_) fun h11=>?_))))))))))))))))))))))))))
  ·refine aT fun c19=>(aF [] ?_)
   exact aR (mA R (aZ (c19 _ (Zd (Y1_ (he1 _ (hx1 _ (Za h11).symm)) iL (.t (.d R)))))))
  refine Zc (c17 _ (aT fun c20=>(aT fun c21=>(aG [1,4,5,29,30] [1,5] ?_))))
  refine aR (lF YFF ts_3 R R (sQ R (Zh R iL iL) (mM R (vF YFE ts_3 R R (vQ R (Zh R (iR R) iL) (sQ R (Zj R iL (iR R)) (aZ (c21 _ (cI R h11 (fun h12=>?_) fun h12=>?_)))))))))
  ·refine aT fun c22=>(aF [] ?_)
   exact aR (mA R (aZ (c22 _ (Zd (Y1_ (he1 _ (hx1 _ (Za h12).symm)) iL (.t (.d R)))))))
  refine Zc (c20 _ (aT fun c23=>(aT fun c24=>?_)))
  refine ZI hmix (by kernel_rfl) ?_
  refine qP R (Zf R iL) (qP R (ZF R iL iL) (qP R (Zf R iL) (qO R (fB R YBQ iL fR R) (qO R (Zi (a:=rI (x4.Row)) R ts_3 (iR R) R R) (qO R (fB R YD3 iL fR R) (qO R (Zi (a:=qc g1.Merges) R YHG (iR R) R R) (qO R (Zf R iL) (Ze h12 fun x5 ex5 h13=>qO R (YBg R (iR R) iL (gdt ex5)) (Ze h13 fun x6 ex6 h14=>qO R (Zp R YFa.slice (iR R) (iR R) (fun _=>R) (gdt ex6)) (qO R (Zm R YBQ (iR R)) (qO R (ZA (d:=.int .i64 x6.Row) R ts_3 (iR R) R) (qO R (Zo R (iR R) (iR R)) (qO R (Zf R (iR R)) (qT R (fB R YBQ iL fR R) (qT R (Zi (a:=rI (x4.Row)) R ts_3 (iR R) R R) (qT R (fB R YD3 iL fR R) (qT R (Zi (a:=qc g1.Merges) R YHG (iR R) R R) (qT R (Zf R iL) (qT R (YBg R (iR R) iL (fun h=>gdt ex5 (Bool.and_eq_true_iff.1 h).1)) (qT R (Zp R YFa.slice (iR R) (iR R) (fun _=>R) (fun h=>gdt ex6 (Bool.and_eq_true_iff.1 h).1)) (qT R (Zm R YBQ (iR R)) (qT R (ZA (d:=.int .i64 x6.Row) R ts_3 (iR R) R) (qT R (Zh R (iR R) (iR R)) (qT R (Zf R (iR R)) (qT R (fB R YBx iL fR R) (qT R (Zi (a:=rI (x4.Col)) R ts_3 (iR R) R R) (qT R (fB R YD3 iL fR R) (qT R (Zi (a:=qc g1.Merges) R YHG (iR R) R R) (qT R (Zf R iL) (Ze h14 fun x7 ex7 h15=>qT R (YBg R (iR R) iL (gdt ex7)) (Ze h15 fun x8 ex8 h16=>qT R (Zp R YFa.slice (iR R) (iR R) (fun _=>R) (gdt ex8)) (qT R (Zm R YBx (iR R)) (qT R (ZA (d:=.int .i64 x8.Col) R ts_3 (iR R) R) (qT R (YFB R (iR R) (iR R)) (qT R (Zj R (iR R) (iR R)) (qO R (Zr R (iR R) (iR R)) (qP R (Zj R iL (iR R)) (AQ.nil (c24 _ (cI R h16 (fun h17=>?_) fun h17=>?_))))))))))))))))))))))))))))))))))))))))
  ·refine aT fun c25=>(aF [] ?_)
   exact aR (mA R (aZ (c25 _ (Zd (Y1_ (he1 _ (hx1 _ (Za h17).symm)) iL (.t (.d R)))))))
  refine Zc (c23 _ (aT fun c26=>(aG [1,4,5,29,30] [1,5] ?_)))
  refine aR (mM R (mM R (aZ (c26 _ (Zg (jc1k h17 fun o2 hit2 hk2 he2=>?_))))))
  have J2 : ∀ (u4:Unit) (i10:Nat→Nat),o2 = .nrm u4→K14 ⟨[(1,.ptr 1 n0 0 0),(29,rI ((g1.Merges.length:Int))),(30,rI (x2))],[(1,some (.box n0 59 (k20_ g1)))],(i10 0),104⟩:=by
   intro u4 i10 e
   have h18:=hk2 _ e
   exact c14 _ (aR (Ze h18 fun x12 ex12 h19=>(sQ R (Zx R iL iL (fun _=>ex12)) (mM R (Zk (ZC h19 (vec [(i10 0)]) wk))))))
  refine ZE (fun (x10:Int) i8=>⟨[(1,.ptr 1 n0 0 0),(5,.ptr 5 (i3 0) 0 0),(29,rI ((g1.Merges.length:Int))),(30,rI (x2)),(91,rI (x2)),(92,rI (x10))],[(1,some (.box n0 59 (k20_ g1))),(5,some (.box (i3 0) 174 (k22_ x4)))],(i8 0),104⟩) (vec [((i3 0)+1)]) hit2 wk ?_
  intro x10 i8 v2 hv2 hx2
  have h20:YCn g1 x2 x4 x10=some v2:=hv2; unfold YCn at h20
  refine aU (sQ R (Zo R iL iL) (aZ (aT fun c28=>(cI R h20 (fun h21=>?_) fun h21=>?_))))
  ·refine Zc (c28 _ (aT fun c29=>(Zg (aU (mM R (mA R (aZ (aT fun c31=>?_))))))))
   refine ZI hmix (by kernel_rfl) ?_
   refine qP R (Zn R YFb iL R R) (qP R (fB R YD3 iL fR R) (qP R (Zi (a:=qc g1.Merges) R YHG iL R R) (qP R (Zf R iL) (Ze h21 fun x13 ex13 h22=>(qP R (Zp R YFa.slice iL iL (fun _=>R) (fun _=>ex13)) (qP R (Zy (cs:=(k22_ x13)) R YFb iL R R) (Ze h22 fun r4 er4 h23=>AQ.stepC R R R (r:=rB (r4)) (caps:=[]) (bs:=[.agg (k22_ x4),.agg (k22_ x13)]) R iL R ⟨⟨_,iL,.g (cs:=[.int .i64 x4.Row,.int .i64 x4.Col,.int .i64 x4.H,.int .i64 x4.W]) R R⟩,⟨_,iL,.g (cs:=[.int .i64 x13.Row,.int .i64 x13.Col,.int .i64 x13.H,.int .i64 x13.W]) R R⟩,Zb⟩ (fun _=>YP1 (er4)) R (AQ.nil (c31 _ (cI R h23 (fun h24=>?_) fun h24=>?_))))))))))
   ·refine aT fun c32=>(aF [] ?_)
    exact aR (mA R (aZ (c32 _ (Zd (Y1_ (he1 _ (hx1 _ (Za (he2 _ (hx2 _ (Za h24).symm))).symm)) iL (.t (.d R)))))))
   refine Zc (c29 _ (aG [1,5,29,30,91,92] [1,5] ?_))
   exact aR (Ze h24 fun x14 ex14 h25=>(sQ R (Zx R iL iL (fun _=>ex14)) (mM R (Zk (ZC h25 (vec [(i8 0)]) wk)))))
  exact Zw (wK14 _ _ wk (J2 _ (vec [(i8 0)]) (hx2 _ (Za h21).symm)))
 exact Zw (wK9 _ _ wk (J1 _ (vec [(i3 0)]) (hx1 _ (Za h8).symm)))
theorem YK7 {k l1 r} (h:YEK k l1=some r):ARO Tryz.prog 84 [rI (k),qd l1] (rI (r)):=by
 unfold YEK at h
 refine mF Tryz.func84 Tryz.ntmps84 R fun n0=>aU (mA R (aZ (aS fun K2 c2 wK2=>(aU (mM R (sQ R (Zq R YDz.slice iL) (mM R (aZ (Zg (jc1k h fun o1 hit1 hk1 he1=>?_))))))))))
 have J1 : ∀ (u2:Unit) (i5:Nat→Nat),o1 = .nrm u2→K2 ⟨[],[],(i5 0),43⟩:=by
  intro u2 i5 e
  have h1:=hk1 _ e
  exact c2 _ (aU (mA R (aZ (Zd (Y1_ h1 iL (.t (.d R)))))))
 refine ZE (fun (x2:Int) i3=>⟨[(0,rI (k)),(1,qd l1),(7,rI ((l1.length:Int))),(8,rI (x2))],[],(i3 0),43⟩) (vec [n0]) hit1 wk ?_
 intro x2 i3 v1 hv1 hx1
 have h2:YCq k l1 x2=some v1:=hv1; unfold YCq at h2
 refine aU (sQ R (Zo R iL iL) (aZ (aT fun c6=>(cI R h2 (fun h3=>?_) fun h3=>?_))))
 ·refine Zc (c6 _ (aT fun c7=>(Zg (aU (mM R (mA R (aZ (aT fun c9=>(aR (mM R (sQ R (Zh R iL iL) (mM R (vM R (vM R (Ze h3 fun x4 ex4 h4=>(vQ R (Zp R YDz.slice (iR R) (iR R) (fun _=>R) (gdt ex4)) (vQ R (Zm R YEi (iR R)) (vQ R (ZA (d:=.str x4.Text) R ts_9 (iR R) R) (vQ R (YCH R (iR R) iL) (vQ R (Zf R (iR R)) (wQ R (Zf R iL) (wQ R (Zf R iL) (wQ R (Zp R YDz.slice (iR R) (iR R) (fun _=>R) (fun h=>gdt ex4 (Bool.and_eq_true_iff.1 h).1)) (wQ R (Zm R YEh (iR R)) (wQ R (ZA (d:=.sl (x4.Attrs.map YAD.row)) R YCf (iR R) R) (wQ R (Zq R YBs.slice (iR R)) (wQ R (ZF R (iR R) iL) (vQ R (Zr R (iR R) (iR R)) (sQ R (Zj R iL (iR R)) (mM R (vM R (vQ R (Zh R (iR R) iL) (vQ R (Zf R (iR R)) (wQ R (Zf R iL) (wQ R (Zf R iL) (Ze h4 fun x5 ex5 h5=>wQ R (Zp R YDz.slice (iR R) (iR R) (fun _=>R) (gdt ex5)) (wQ R (Zm R YCU (iR R)) (wQ R (ZA (d:=.int .i64 x5.Ref) R ts_3 (iR R) R) (wQ R (Zu R (iR R) iL) (vQ R (Zj R (iR R) (iR R)) (sQ R (Zr R iL (iR R)) (aZ (c9 _ (cI R h5 (fun h6=>?_) fun h6=>?_))))))))))))))))))))))))))))))))))))))))))))
  ·refine aT fun c10=>(aF [] ?_)
   exact aR (mA R (aZ (c10 _ (Zd (Y1_ (he1 _ (hx1 _ (Za h6).symm)) iL (.t (.d R)))))))
  refine Zc (c7 _ (aF [0,1,7,8] ?_))
  exact aR (Ze h6 fun x6 ex6 h7=>(sQ R (Zx R iL iL (fun _=>ex6)) (mM R (Zk (ZC h7 (vec [(i3 0)]) wk)))))
 exact Zw (wK2 _ _ wk (J1 _ (vec [(i3 0)]) (hx1 _ (Za h3).symm)))
end Go.Proofs.YtkefchjpggjibaaGreatDoor.Al
