/- Walks, as printed. -/
import Derived.Test.YtfkolgjapajekaaDoorPL1
import Derived.Test.YtfkolgjapajekaaDoorProg
set_option linter.unusedVariables false
namespace Go.Proofs.YtfkolgjapajekaaDoor.Al
open Go.Proofs
theorem hmix : Tryd.prog.follows .mixedOrders = true := by kernel_rfl
theorem i_113 : (Tryd.prog.info? 113).map (fun i => (i.zero, i.size, i.bytes)) = some (some (.agg #[.slice none 0 0, .slice none 0 0]), 2, 48) := by kernel_rfl
theorem i_114 : (Tryd.prog.info? 114).map (fun i => (i.zero, i.size, i.bytes)) = some (some (.agg #[.slice none 0 0, .slice none 0 0]), 2, 48) := by kernel_rfl
theorem i_122 : (Tryd.prog.info? 122).map (fun i => (i.zero, i.size, i.bytes)) = some (some (.agg #[.string ⟨#[]⟩, .string ⟨#[]⟩]), 2, 32) := by kernel_rfl
theorem i_148 : (Tryd.prog.info? 148).map (fun i => (i.zero, i.size, i.bytes)) = some (some (.agg #[.int .u8 0, .int .u8 0]), 2, 2) := by kernel_rfl
theorem i_27 : (Tryd.prog.info? 27).map (fun i => (i.zero, i.size, i.bytes)) = some (some (.slice none 0 0), 1, 24) := by kernel_rfl
theorem i_29 : (Tryd.prog.info? 29).map (fun i => (i.zero, i.size, i.bytes)) = some (some (.slice none 0 0), 1, 24) := by kernel_rfl
theorem i_3 : (Tryd.prog.info? 3).map (fun i => (i.zero, i.size, i.bytes)) = some (some (.int .i64 0), 1, 8) := by kernel_rfl
theorem i_30 : (Tryd.prog.info? 30).map (fun i => (i.zero, i.size, i.bytes)) = some (some (.slice none 0 0), 1, 24) := by kernel_rfl
theorem i_32 : (Tryd.prog.info? 32).map (fun i => (i.zero, i.size, i.bytes)) = some (some (.agg #[.int .i64 0, .int .i64 0, .slice none 0 0, .slice none 0 0]), 4, 64) := by kernel_rfl
theorem i_47 : (Tryd.prog.info? 47).map (fun i => (i.zero, i.size, i.bytes)) = some (some (.slice none 0 0), 1, 24) := by kernel_rfl
theorem i_49 : (Tryd.prog.info? 49).map (fun i => (i.zero, i.size, i.bytes)) = some (some (.agg #[.slice none 0 0, .slice none 0 0, .slice none 0 0, .slice none 0 0, .slice none 0 0]), 5, 120) := by kernel_rfl
theorem i_5 : (Tryd.prog.info? 5).map (fun i => (i.zero, i.size, i.bytes)) = some (some (.int .u8 0), 1, 1) := by kernel_rfl
theorem i_60 : (Tryd.prog.info? 60).map (fun i => (i.zero, i.size, i.bytes)) = some (some (.agg #[.int .i64 0, .int .i64 0, .string ⟨#[]⟩, .int .i64 0, .slice none 0 0]), 5, 64) := by kernel_rfl
theorem i_64 : (Tryd.prog.info? 64).map (fun i => (i.zero, i.size, i.bytes)) = some (some (.agg #[.int .i64 0, .int .i64 0, .int .i64 0, .int .i64 0]), 4, 32) := by kernel_rfl
theorem i_9 : (Tryd.prog.info? 9).map (fun i => (i.zero, i.size, i.bytes)) = some (some (.string ⟨#[]⟩), 1, 16) := by kernel_rfl
theorem i_91 : (Tryd.prog.info? 91).map (fun i => (i.zero, i.size, i.bytes)) = some (some (.agg #[.int .i64 0, .int .i64 0]), 2, 16) := by kernel_rfl
theorem t0_122 : ZeroTy Tryd.prog 122 (.agg #[.string ⟨#[]⟩, .string ⟨#[]⟩]) := ZeroTy.of i_122
theorem t0_148 : ZeroTy Tryd.prog 148 (.agg #[.int .u8 0, .int .u8 0]) := ZeroTy.of i_148
theorem t0_32 : ZeroTy Tryd.prog 32 (.agg #[.int .i64 0, .int .i64 0, .slice none 0 0, .slice none 0 0]) := ZeroTy.of i_32
theorem t0_60 : ZeroTy Tryd.prog 60 (.agg #[.int .i64 0, .int .i64 0, .string ⟨#[]⟩, .int .i64 0, .slice none 0 0]) := ZeroTy.of i_60
theorem t0_64 : ZeroTy Tryd.prog 64 (.agg #[.int .i64 0, .int .i64 0, .int .i64 0, .int .i64 0]) := ZeroTy.of i_64
theorem t0_91 : ZeroTy Tryd.prog 91 (.agg #[.int .i64 0, .int .i64 0]) := ZeroTy.of i_91
theorem ta_122 : AggTy Tryd.prog 122 2 := AggTy.of Tryd.underlying122 rfl i_122
theorem ta_148 : AggTy Tryd.prog 148 2 := AggTy.of Tryd.underlying148 rfl i_148
theorem ta_32 : AggTy Tryd.prog 32 4 := AggTy.of Tryd.underlying32 rfl i_32
theorem ta_49 : AggTy Tryd.prog 49 5 := AggTy.of Tryd.underlying49 rfl i_49
theorem ta_60 : AggTy Tryd.prog 60 5 := AggTy.of Tryd.underlying60 rfl i_60
theorem ta_64 : AggTy Tryd.prog 64 4 := AggTy.of Tryd.underlying64 rfl i_64
theorem ta_91 : AggTy Tryd.prog 91 2 := AggTy.of Tryd.underlying91 rfl i_91
theorem tab_g0 : theTabs 0 = some (tabFirst.flatMap (rInt .u8)) := by kernel_rfl
theorem tab_g1 : theTabs 1 = some (tabAccept.flatMap Utf8_AcceptRange.row) := by kernel_rfl
theorem tb_113 : BuildArr Tryd.prog 113 [(0, 1), (1, 1)] [.slice none 0 0, .slice none 0 0] := BuildArr.of (n := 2) (e := 47) Tryd.underlying113 i_47 (placesB (by decide)) i_113
theorem tb_114 : BuildArr Tryd.prog 114 [(0, 1), (1, 1)] [.slice none 0 0, .slice none 0 0] := BuildArr.of (n := 2) (e := 30) Tryd.underlying114 i_30 (placesB (by decide)) i_114
theorem tb_32 : BuildTy Tryd.prog 32 [(0, 1), (1, 1), (2, 1), (3, 1)] [.int .i64 0, .int .i64 0, .slice none 0 0, .slice none 0 0] := BuildTy.of Tryd.underlying32 (fun w => by kernel_rfl) i_32
theorem tb_49 : BuildTy Tryd.prog 49 [(0, 1), (1, 1), (2, 1), (3, 1), (4, 1)] [.slice none 0 0, .slice none 0 0, .slice none 0 0, .slice none 0 0, .slice none 0 0] := BuildTy.of Tryd.underlying49 (fun w => by kernel_rfl) i_49
theorem tb_60 : BuildTy Tryd.prog 60 [(0, 1), (1, 1), (2, 1), (3, 1), (4, 1)] [.int .i64 0, .int .i64 0, .string ⟨#[]⟩, .int .i64 0, .slice none 0 0] := BuildTy.of Tryd.underlying60 (fun w => by kernel_rfl) i_60
theorem tb_64 : BuildTy Tryd.prog 64 [(0, 1), (1, 1), (2, 1), (3, 1)] [.int .i64 0, .int .i64 0, .int .i64 0, .int .i64 0] := BuildTy.of Tryd.underlying64 (fun w => by kernel_rfl) i_64
theorem tb_91 : BuildTy Tryd.prog 91 [(0, 1), (1, 1)] [.int .i64 0, .int .i64 0] := BuildTy.of Tryd.underlying91 (fun w => by kernel_rfl) i_91
theorem te_122 : EqTy Tryd.prog 122 [some .string, some .string] := EqTy.of Tryd.underlying122 (by kernel_rfl) (by kernel_rfl) (by exact ⟨rfl, rfl, Tryd.underlying9, rfl, rfl, Tryd.underlying9, trivial⟩)
theorem te_64 : EqTy Tryd.prog 64 [some (.int .i64), some (.int .i64), some (.int .i64), some (.int .i64)] := EqTy.of Tryd.underlying64 (by kernel_rfl) (by kernel_rfl) (by exact ⟨rfl, rfl, Tryd.underlying3, rfl, rfl, Tryd.underlying3, rfl, rfl, Tryd.underlying3, rfl, rfl, Tryd.underlying3, trivial⟩)
theorem tf_122_0 : FieldTy Tryd.prog 122 0 0 := FieldTy.of Tryd.underlying122 rfl rfl i_9 (by decide)
theorem tf_122_1 : FieldTy Tryd.prog 122 1 1 := FieldTy.of Tryd.underlying122 rfl rfl i_9 (by decide)
theorem tf_148_0 : FieldTy Tryd.prog 148 0 0 := FieldTy.of Tryd.underlying148 rfl rfl i_5 (by decide)
theorem tf_148_1 : FieldTy Tryd.prog 148 1 1 := FieldTy.of Tryd.underlying148 rfl rfl i_5 (by decide)
theorem tf_32_0 : FieldTy Tryd.prog 32 0 0 := FieldTy.of Tryd.underlying32 rfl rfl i_3 (by decide)
theorem tf_32_1 : FieldTy Tryd.prog 32 1 1 := FieldTy.of Tryd.underlying32 rfl rfl i_3 (by decide)
theorem tf_32_2 : FieldTy Tryd.prog 32 2 2 := FieldTy.of Tryd.underlying32 rfl rfl i_29 (by decide)
theorem tf_32_3 : FieldTy Tryd.prog 32 3 3 := FieldTy.of Tryd.underlying32 rfl rfl i_30 (by decide)
theorem tf_49_0 : FieldTy Tryd.prog 49 0 0 := FieldTy.of Tryd.underlying49 rfl rfl i_47 (by decide)
theorem tf_49_1 : FieldTy Tryd.prog 49 1 1 := FieldTy.of Tryd.underlying49 rfl rfl i_47 (by decide)
theorem tf_49_2 : FieldTy Tryd.prog 49 2 2 := FieldTy.of Tryd.underlying49 rfl rfl i_29 (by decide)
theorem tf_49_3 : FieldTy Tryd.prog 49 3 3 := FieldTy.of Tryd.underlying49 rfl rfl i_30 (by decide)
theorem tf_49_4 : FieldTy Tryd.prog 49 4 4 := FieldTy.of Tryd.underlying49 rfl rfl i_30 (by decide)
theorem tf_60_0 : FieldTy Tryd.prog 60 0 0 := FieldTy.of Tryd.underlying60 rfl rfl i_3 (by decide)
theorem tf_60_1 : FieldTy Tryd.prog 60 1 1 := FieldTy.of Tryd.underlying60 rfl rfl i_3 (by decide)
theorem tf_60_2 : FieldTy Tryd.prog 60 2 2 := FieldTy.of Tryd.underlying60 rfl rfl i_9 (by decide)
theorem tf_60_3 : FieldTy Tryd.prog 60 3 3 := FieldTy.of Tryd.underlying60 rfl rfl i_3 (by decide)
theorem tf_60_4 : FieldTy Tryd.prog 60 4 4 := FieldTy.of Tryd.underlying60 rfl rfl i_27 (by decide)
theorem tf_64_0 : FieldTy Tryd.prog 64 0 0 := FieldTy.of Tryd.underlying64 rfl rfl i_3 (by decide)
theorem tf_64_1 : FieldTy Tryd.prog 64 1 1 := FieldTy.of Tryd.underlying64 rfl rfl i_3 (by decide)
theorem tf_64_2 : FieldTy Tryd.prog 64 2 2 := FieldTy.of Tryd.underlying64 rfl rfl i_3 (by decide)
theorem tf_64_3 : FieldTy Tryd.prog 64 3 3 := FieldTy.of Tryd.underlying64 rfl rfl i_3 (by decide)
theorem tf_91_0 : FieldTy Tryd.prog 91 0 0 := FieldTy.of Tryd.underlying91 rfl rfl i_3 (by decide)
theorem tf_91_1 : FieldTy Tryd.prog 91 1 1 := FieldTy.of Tryd.underlying91 rfl rfl i_3 (by decide)
theorem tg_27 : GrowTy Tryd.prog 27 122 2 32 := GrowTy.of Tryd.underlying27 i_122 rfl rfl (by decide)
theorem tg_29 : GrowTy Tryd.prog 29 60 5 64 := GrowTy.of Tryd.underlying29 i_60 rfl rfl (by decide)
theorem tg_30 : GrowTy Tryd.prog 30 64 4 32 := GrowTy.of Tryd.underlying30 i_64 rfl rfl (by decide)
theorem tg_47 : GrowTy Tryd.prog 47 91 2 16 := GrowTy.of Tryd.underlying47 i_91 rfl rfl (by decide)
theorem tg_78 : GrowTy Tryd.prog 78 3 1 8 := GrowTy.of Tryd.underlying78 i_3 rfl rfl (by decide)
theorem tq_113 : ArrTy Tryd.prog 113 2 47 := ArrTy.of Tryd.underlying113 (ScalTy.of Tryd.underlying47 rfl i_47)
theorem tq_114 : ArrTy Tryd.prog 114 2 30 := ArrTy.of Tryd.underlying114 (ScalTy.of Tryd.underlying30 rfl i_30)
theorem ts_27 : ScalTy Tryd.prog 27 := ScalTy.of Tryd.underlying27 rfl i_27
theorem ts_29 : ScalTy Tryd.prog 29 := ScalTy.of Tryd.underlying29 rfl i_29
theorem ts_3 : ScalTy Tryd.prog 3 := ScalTy.of Tryd.underlying3 rfl i_3
theorem ts_30 : ScalTy Tryd.prog 30 := ScalTy.of Tryd.underlying30 rfl i_30
theorem ts_47 : ScalTy Tryd.prog 47 := ScalTy.of Tryd.underlying47 rfl i_47
theorem ts_5 : ScalTy Tryd.prog 5 := ScalTy.of Tryd.underlying5 rfl i_5
theorem ts_9 : ScalTy Tryd.prog 9 := ScalTy.of Tryd.underlying9 rfl i_9
theorem tt_146 : TabTy Tryd.prog 146 256 5 1 := ⟨Tryd.underlying146, size_of i_5⟩
theorem tt_149 : TabTy Tryd.prog 149 16 148 2 := ⟨Tryd.underlying149, size_of i_148⟩
theorem tz_122 : ∃ i, Tryd.prog.info? 122 = some i ∧ i.size = 2 := size_of i_122
theorem tz_148 : ∃ i, Tryd.prog.info? 148 = some i ∧ i.size = 2 := size_of i_148
theorem tz_27 : ∃ i, Tryd.prog.info? 27 = some i ∧ i.size = 1 := size_of i_27
theorem tz_3 : ∃ i, Tryd.prog.info? 3 = some i ∧ i.size = 1 := size_of i_3
theorem tz_30 : ∃ i, Tryd.prog.info? 30 = some i ∧ i.size = 1 := size_of i_30
theorem tz_32 : ∃ i, Tryd.prog.info? 32 = some i ∧ i.size = 4 := size_of i_32
theorem tz_60 : ∃ i, Tryd.prog.info? 60 = some i ∧ i.size = 5 := size_of i_60
theorem tz_64 : ∃ i, Tryd.prog.info? 64 = some i ∧ i.size = 4 := size_of i_64
theorem tz_91 : ∃ i, Tryd.prog.info? 91 = some i ∧ i.size = 2 := size_of i_91
set_option maxHeartbeats 4000000 in
set_option maxRecDepth 20000 in
theorem w_unicode_utf8_decodeRuneInStringSlow {s1 : List UInt8} {r : Int × Int} (h : unicode_utf8_decodeRuneInStringSlow s1 = some r) : ARO Tryd.prog 131 [.r (.str s1)] (.tup [.r (.int .i32 r.1), .r (.int .i64 r.2)]) := by
 unfold unicode_utf8_decodeRuneInStringSlow at h
 refine ARO.mkF Tryd.func131 rfl rfl Tryd.ntmps131 rfl (Nat.le_of_ble_eq_true rfl) fun n0 => ?_
 refine AW.seq_w fun K1 hK1 wK1 => ?_
 refine AW.region ?_
 refine sQ rfl (sp_assign rfl iL) ?_
 refine sQ rfl (sp_assign rfl iL) ?_
 refine AOps.nil (hK1 _ ?_)
 refine AW.seq_w fun K2 hK2 wK2 => ?_
 refine AW.region ?_
 refine sM rfl rfl ?_
 refine sQ rfl (sp_len_str rfl Tryd.underlying9 iL) ?_
 refine sQ rfl (sp_assign rfl iL) ?_
 refine AOps.nil (hK2 _ ?_)
 refine AW.seq_w fun K3 hK3 wK3 => ?_
 refine AW.seq_w fun K4 hK4 wK4 => ?_
 refine AW.region ?_
 refine sM rfl rfl ?_
 refine sQ rfl (sp_lss rfl iL iL) ?_
 refine AOps.nil (hK4 _ ?_)
 refine AW.cond rfl (fun hc1 => ?_) (fun hc1 => ?_)
 ·have h1 := ite_t hc1 h
  refine AW.seq_w fun K5 hK5 wK5 => ?_
  refine AW.region ?_
  refine sQ rfl (sp_assign rfl iL) ?_
  refine sQ rfl (sp_assign rfl iL) ?_
  refine AOps.nil (hK5 _ ?_)
  refine AW.ret ?_
  exact retf2 (P := Tryd.prog) (fun (r : Int × Int) => .r (.int .i32 r.1)) (fun (r : Int × Int) => .r (.int .i64 r.2)) h1 iL (.t (.d rfl)) (.t (.d rfl))
 ·have h1 := ite_f hc1 h
  refine AW.skip ?_
  refine hK3 _ ?_
  refine AW.seq_w fun K6 hK6 wK6 => ?_
  refine AW.region ?_
  refine sM rfl rfl ?_
  refine ob1k h1 fun s01 es01 h2 => ?_
  refine sQ rfl (ms_idx_str rfl Tryd.underlying9 iL iL (fun _ => es01)) ?_
  refine sQ rfl (sp_assign rfl iL) ?_
  refine AOps.nil (hK6 _ ?_)
  refine AW.seq_w fun K7 hK7 wK7 => ?_
  refine AW.region ?_
  refine sM rfl rfl ?_
  refine ob1k h2 fun x1 ex1 h3 => ?_
  refine sQ rfl (ms_idx_tab (f := (rInt .u8)) (l := tabFirst) rfl tt_146 tab_g0 (by kernel_rfl) iL (fun _ => rfl) (by decide) (fun _ => ex1)) ?_
  refine sQ rfl (ms_load (d := .int .u8 x1) rfl ts_5 iL rfl) ?_
  refine sQ rfl (sp_assign rfl iL) ?_
  refine AOps.nil (hK7 _ ?_)
  refine AW.seq_w fun K8 hK8 wK8 => ?_
  refine AW.seq_w fun K9 hK9 wK9 => ?_
  refine AW.weak (s' := ⟨[(0, .r (.str s1)), (4, .r (.int .i64 (s1.length : Int))), (5, .r (.int .u8 (s01.toNat : Int))), (6, .r (.int .u8 x1))], [], n0, 117⟩) (by exact Weak.cv ⟨jL, jL, jL, jL, trivial⟩ trivial nL) ?_
  refine AW.region ?_
  refine sM rfl rfl ?_
  refine sQ rfl (sp_geq rfl iL iL) ?_
  refine AOps.nil (hK9 _ ?_)
  refine AW.cond rfl (fun hc2 => ?_) (fun hc2 => ?_)
  ·have h4 := ite_t hc2 h3
   refine AW.seq_w fun K10 hK10 wK10 => ?_
   refine AW.region ?_
   refine sM rfl rfl ?_
   refine sQ rfl (sp_convert_int rfl Tryd.underlying5 Tryd.underlying21 iL) ?_
   refine sQ rfl (sp_shl (b := 31) rfl iL iL) ?_
   refine sQ rfl (sp_shr (b := 31) rfl iL iL) ?_
   refine sQ rfl (sp_assign rfl iL) ?_
   refine AOps.nil (hK10 _ ?_)
   refine AW.seq_w fun K11 hK11 wK11 => ?_
   refine AW.weak (s' := ⟨[(0, .r (.str s1)), (7, .r (.int .i32 (shrC .i32 (shlC .i32 (IntKind.i32.wrap x1) 31) 31)))], [], n0, 117⟩) (by exact Weak.cv ⟨jL, jL, trivial⟩ trivial nL) ?_
   refine AW.region ?_
   refine sM rfl rfl ?_
   refine sQ rfl (ms_idx_str rfl Tryd.underlying9 iL iL (fun _ => es01)) ?_
   refine sQ rfl (sp_convert_int rfl Tryd.underlying5 Tryd.underlying21 iL) ?_
   refine sM rfl rfl ?_
   refine sQ rfl (sp_bAndNot rfl iL iL) ?_
   refine sM rfl rfl ?_
   refine sQ rfl (sp_bAnd rfl iL iL) ?_
   refine sQ rfl (sp_bOr rfl iL iL) ?_
   refine sQ rfl (sp_assign rfl iL) ?_
   refine sQ rfl (sp_assign rfl iL) ?_
   refine AOps.nil (hK11 _ ?_)
   refine AW.ret ?_
   exact retf2 (P := Tryd.prog) (fun (r : Int × Int) => .r (.int .i32 r.1)) (fun (r : Int × Int) => .r (.int .i64 r.2)) h4 iL (.t (.d rfl)) (.t (.d rfl))
  ·have h4 := ite_f hc2 h3
   refine AW.skip ?_
   refine hK8 _ ?_
   refine AW.seq_w fun K12 hK12 wK12 => ?_
   refine AW.region ?_
   refine sM rfl rfl ?_
   refine sQ rfl (sp_bAnd rfl iL iL) ?_
   refine sQ rfl (sp_convert_int rfl Tryd.underlying5 Tryd.underlying3 iL) ?_
   refine sQ rfl (sp_assign rfl iL) ?_
   refine AOps.nil (hK12 _ ?_)
   refine AW.seq_w fun K13 hK13 wK13 => ?_
   refine AW.region ?_
   refine sM rfl rfl ?_
   refine sQ rfl (sp_shr (b := 4) rfl iL iL) ?_
   refine ob1k h4 fun x2 ex2 h5 => ?_
   refine sQ rfl (ms_idx_tab (f := Utf8_AcceptRange.row) (l := tabAccept) rfl tt_149 tab_g1 (by kernel_rfl) iL (fun _ => rfl) (by decide) (fun _ => ex2)) ?_
   refine sQ rfl (ms_loadA (cs := [.r (.int .u8 x2.lo), .r (.int .u8 x2.hi)]) rfl ta_148 iL rfl rfl) ?_
   refine AOps.step rfl rfl rfl (ms_alloc (cs := [.r (.int .u8 0), .r (.int .u8 0)]) 9 rfl t0_148 rfl rfl) ?_
   refine AOps.step0 rfl rfl (ms_store_box (ds := [.r (.int .u8 x2.lo), .r (.int .u8 x2.hi)]) rfl tz_148 iL rfl iL rfl rfl rfl rfl) ?_
   refine AOps.nil (hK13 _ ?_)
   refine AW.seq_w fun K14 hK14 wK14 => ?_
   refine AW.seq_w fun K15 hK15 wK15 => ?_
   refine AW.weak (s' := ⟨[(0, .r (.str s1)), (4, .r (.int .i64 (s1.length : Int))), (5, .r (.int .u8 (s01.toNat : Int))), (8, .r (.int .i64 (IntKind.i64.wrap (bAnd .u8 x1 7)))), (9, .ptr 9 n0 0 0)], [(9, some (.box n0 148 [.r (.int .u8 x2.lo), .r (.int .u8 x2.hi)]))], (n0 + 1), 117⟩) (by exact Weak.cv ⟨jL, jL, jL, jL, jL, trivial⟩ ⟨.inl rfl, trivial⟩ nL) ?_
   refine AW.region ?_
   refine sM rfl rfl ?_
   refine sM rfl rfl ?_
   refine sQ rfl (sp_lss rfl iL iL) ?_
   refine AOps.nil (hK15 _ ?_)
   refine AW.cond rfl (fun hc3 => ?_) (fun hc3 => ?_)
   ·have h6 := ite_t hc3 h5
    refine AW.seq_w fun K16 hK16 wK16 => ?_
    refine AW.region ?_
    refine sQ rfl (sp_assign rfl iL) ?_
    refine sQ rfl (sp_assign rfl iL) ?_
    refine AOps.nil (hK16 _ ?_)
    refine AW.ret ?_
    exact retf2 (P := Tryd.prog) (fun (r : Int × Int) => .r (.int .i32 r.1)) (fun (r : Int × Int) => .r (.int .i64 r.2)) h6 iL (.t (.d rfl)) (.t (.d rfl))
   ·have h6 := ite_f hc3 h5
    refine AW.skip ?_
    refine hK14 _ ?_
    refine AW.seq_w fun K17 hK17 wK17 => ?_
    refine AW.region ?_
    refine sM rfl rfl ?_
    refine ob1k h6 fun s11 es11 h7 => ?_
    refine sQ rfl (ms_idx_str rfl Tryd.underlying9 iL iL (fun _ => es11)) ?_
    refine sQ rfl (sp_assign rfl iL) ?_
    refine AOps.nil (hK17 _ ?_)
    refine AW.seq_w fun K18 hK18 wK18 => ?_
    refine AW.seq_w fun K19 hK19 wK19 => ?_
    refine AW.region ?_
    refine sM rfl rfl ?_
    refine sQ rfl (sp_fieldAddr_own (ob := .box _ _ _) rfl tf_148_0 iL fR rfl) ?_
    refine sQ rfl (ms_load_box (a := .r (.int .u8 x2.lo)) rfl ts_5 iL rfl rfl) ?_
    refine sQ rfl (sp_lss rfl iL iL) ?_
    refine sM rfl rfl ?_
    refine sV rfl rfl rfl (sp_fieldAddr_own (ob := .box _ _ _) rfl tf_148_1 iL fR rfl) ?_
    refine sV rfl rfl rfl (ms_load_box (a := .r (.int .u8 x2.hi)) rfl ts_5 (iR rfl) rfl rfl) ?_
    refine sV rfl rfl rfl (sp_move rfl iL) ?_
    refine sV rfl rfl rfl (sp_lss rfl (iR rfl) (iR rfl)) ?_
    refine sQ rfl (sp_or rfl iL (iR rfl)) ?_
    refine AOps.nil (hK19 _ ?_)
    refine AW.cond rfl (fun hc4 => ?_) (fun hc4 => ?_)
    ·have h8 := ite_t hc4 h7
     refine AW.seq_w fun K20 hK20 wK20 => ?_
     refine AW.weak (s' := ⟨[], [], (n0 + 1), 117⟩) (by exact Weak.cv trivial trivial nL) ?_
     refine AW.region ?_
     refine sQ rfl (sp_assign rfl iL) ?_
     refine sQ rfl (sp_assign rfl iL) ?_
     refine AOps.nil (hK20 _ ?_)
     refine AW.ret ?_
     exact retf2 (P := Tryd.prog) (fun (r : Int × Int) => .r (.int .i32 r.1)) (fun (r : Int × Int) => .r (.int .i64 r.2)) h8 iL (.t (.d rfl)) (.t (.d rfl))
    ·have h8 := ite_f hc4 h7
     refine AW.skip ?_
     refine hK18 _ ?_
     refine AW.seq_w fun K21 hK21 wK21 => ?_
     refine AW.seq_w fun K22 hK22 wK22 => ?_
     refine AW.weak (s' := ⟨[(0, .r (.str s1)), (5, .r (.int .u8 (s01.toNat : Int))), (8, .r (.int .i64 (IntKind.i64.wrap (bAnd .u8 x1 7)))), (10, .r (.int .u8 (s11.toNat : Int)))], [], (n0 + 1), 117⟩) (by exact Weak.cv ⟨jL, jL, jL, jL, trivial⟩ trivial nL) ?_
     refine AW.region ?_
     refine sM rfl rfl ?_
     refine sQ rfl (sp_leq rfl iL iL) ?_
     refine AOps.nil (hK22 _ ?_)
     refine AW.cond rfl (fun hc5 => ?_) (fun hc5 => ?_)
     ·have h9 := ite_t hc5 h8
      refine AW.seq_w fun K23 hK23 wK23 => ?_
      refine AW.region ?_
      refine sM rfl rfl ?_
      refine sQ rfl (sp_bAnd rfl iL iL) ?_
      refine sQ rfl (sp_convert_int rfl Tryd.underlying5 Tryd.underlying21 iL) ?_
      refine sQ rfl (sp_shl (b := 6) rfl iL iL) ?_
      refine sM rfl rfl ?_
      refine sQ rfl (sp_bAnd rfl iL iL) ?_
      refine sQ rfl (sp_convert_int rfl Tryd.underlying5 Tryd.underlying21 iL) ?_
      refine sQ rfl (sp_bOr rfl iL iL) ?_
      refine sQ rfl (sp_assign rfl iL) ?_
      refine sQ rfl (sp_assign rfl iL) ?_
      refine AOps.nil (hK23 _ ?_)
      refine AW.ret ?_
      exact retf2 (P := Tryd.prog) (fun (r : Int × Int) => .r (.int .i32 r.1)) (fun (r : Int × Int) => .r (.int .i64 r.2)) h9 iL (.t (.d rfl)) (.t (.d rfl))
     ·have h9 := ite_f hc5 h8
      refine AW.skip ?_
      refine hK21 _ ?_
      refine AW.seq_w fun K24 hK24 wK24 => ?_
      refine AW.region ?_
      refine sM rfl rfl ?_
      refine ob1k h9 fun s21 es21 h10 => ?_
      refine sQ rfl (ms_idx_str rfl Tryd.underlying9 iL iL (fun _ => es21)) ?_
      refine sQ rfl (sp_assign rfl iL) ?_
      refine AOps.nil (hK24 _ ?_)
      refine AW.seq_w fun K25 hK25 wK25 => ?_
      refine AW.seq_w fun K26 hK26 wK26 => ?_
      refine AW.region ?_
      refine sM rfl rfl ?_
      refine sQ rfl (sp_lss rfl iL iL) ?_
      refine sM rfl rfl ?_
      refine sV rfl rfl rfl (sp_move rfl iL) ?_
      refine sV rfl rfl rfl (sp_lss rfl iL (iR rfl)) ?_
      refine sQ rfl (sp_or rfl iL (iR rfl)) ?_
      refine AOps.nil (hK26 _ ?_)
      refine AW.cond rfl (fun hc6 => ?_) (fun hc6 => ?_)
      ·have h11 := ite_t hc6 h10
       refine AW.seq_w fun K27 hK27 wK27 => ?_
       refine AW.weak (s' := ⟨[], [], (n0 + 1), 117⟩) (by exact Weak.cv trivial trivial nL) ?_
       refine AW.region ?_
       refine sQ rfl (sp_assign rfl iL) ?_
       refine sQ rfl (sp_assign rfl iL) ?_
       refine AOps.nil (hK27 _ ?_)
       refine AW.ret ?_
       exact retf2 (P := Tryd.prog) (fun (r : Int × Int) => .r (.int .i32 r.1)) (fun (r : Int × Int) => .r (.int .i64 r.2)) h11 iL (.t (.d rfl)) (.t (.d rfl))
      ·have h11 := ite_f hc6 h10
       refine AW.skip ?_
       refine hK25 _ ?_
       refine AW.seq_w fun K28 hK28 wK28 => ?_
       refine AW.seq_w fun K29 hK29 wK29 => ?_
       refine AW.weak (s' := ⟨[(0, .r (.str s1)), (5, .r (.int .u8 (s01.toNat : Int))), (8, .r (.int .i64 (IntKind.i64.wrap (bAnd .u8 x1 7)))), (10, .r (.int .u8 (s11.toNat : Int))), (11, .r (.int .u8 (s21.toNat : Int)))], [], (n0 + 1), 117⟩) (by exact Weak.cv ⟨jL, jL, jL, jL, jL, trivial⟩ trivial nL) ?_
       refine AW.region ?_
       refine sM rfl rfl ?_
       refine sQ rfl (sp_leq rfl iL iL) ?_
       refine AOps.nil (hK29 _ ?_)
       refine AW.cond rfl (fun hc7 => ?_) (fun hc7 => ?_)
       ·have h12 := ite_t hc7 h11
        refine AW.seq_w fun K30 hK30 wK30 => ?_
        refine AW.region ?_
        refine sM rfl rfl ?_
        refine sQ rfl (sp_bAnd rfl iL iL) ?_
        refine sQ rfl (sp_convert_int rfl Tryd.underlying5 Tryd.underlying21 iL) ?_
        refine sQ rfl (sp_shl (b := 12) rfl iL iL) ?_
        refine sM rfl rfl ?_
        refine sQ rfl (sp_bAnd rfl iL iL) ?_
        refine sQ rfl (sp_convert_int rfl Tryd.underlying5 Tryd.underlying21 iL) ?_
        refine sQ rfl (sp_shl (b := 6) rfl iL iL) ?_
        refine sQ rfl (sp_bOr rfl iL iL) ?_
        refine sM rfl rfl ?_
        refine sQ rfl (sp_bAnd rfl iL iL) ?_
        refine sQ rfl (sp_convert_int rfl Tryd.underlying5 Tryd.underlying21 iL) ?_
        refine sQ rfl (sp_bOr rfl iL iL) ?_
        refine sQ rfl (sp_assign rfl iL) ?_
        refine sQ rfl (sp_assign rfl iL) ?_
        refine AOps.nil (hK30 _ ?_)
        refine AW.ret ?_
        exact retf2 (P := Tryd.prog) (fun (r : Int × Int) => .r (.int .i32 r.1)) (fun (r : Int × Int) => .r (.int .i64 r.2)) h12 iL (.t (.d rfl)) (.t (.d rfl))
       ·have h12 := ite_f hc7 h11
        refine AW.skip ?_
        refine hK28 _ ?_
        refine AW.seq_w fun K31 hK31 wK31 => ?_
        refine AW.region ?_
        refine sM rfl rfl ?_
        refine ob1k h12 fun s31 es31 h13 => ?_
        refine sQ rfl (ms_idx_str rfl Tryd.underlying9 iL iL (fun _ => es31)) ?_
        refine sQ rfl (sp_assign rfl iL) ?_
        refine AOps.nil (hK31 _ ?_)
        refine AW.seq_w fun K32 hK32 wK32 => ?_
        refine AW.seq_w fun K33 hK33 wK33 => ?_
        refine AW.region ?_
        refine sM rfl rfl ?_
        refine sQ rfl (sp_lss rfl iL iL) ?_
        refine sM rfl rfl ?_
        refine sV rfl rfl rfl (sp_move rfl iL) ?_
        refine sV rfl rfl rfl (sp_lss rfl iL (iR rfl)) ?_
        refine sQ rfl (sp_or rfl iL (iR rfl)) ?_
        refine AOps.nil (hK33 _ ?_)
        refine AW.cond rfl (fun hc8 => ?_) (fun hc8 => ?_)
        ·have h14 := ite_t hc8 h13
         refine AW.seq_w fun K34 hK34 wK34 => ?_
         refine AW.weak (s' := ⟨[], [], (n0 + 1), 117⟩) (by exact Weak.cv trivial trivial nL) ?_
         refine AW.region ?_
         refine sQ rfl (sp_assign rfl iL) ?_
         refine sQ rfl (sp_assign rfl iL) ?_
         refine AOps.nil (hK34 _ ?_)
         refine AW.ret ?_
         exact retf2 (P := Tryd.prog) (fun (r : Int × Int) => .r (.int .i32 r.1)) (fun (r : Int × Int) => .r (.int .i64 r.2)) h14 iL (.t (.d rfl)) (.t (.d rfl))
        ·have h14 := ite_f hc8 h13
         refine AW.skip ?_
         refine hK32 _ ?_
         refine AW.seq_w fun K35 hK35 wK35 => ?_
         refine AW.weak (s' := ⟨[(5, .r (.int .u8 (s01.toNat : Int))), (10, .r (.int .u8 (s11.toNat : Int))), (11, .r (.int .u8 (s21.toNat : Int))), (12, .r (.int .u8 (s31.toNat : Int)))], [], (n0 + 1), 117⟩) (by exact Weak.cv ⟨jL, jL, jL, jL, trivial⟩ trivial nL) ?_
         refine AW.region ?_
         refine sM rfl rfl ?_
         refine sQ rfl (sp_bAnd rfl iL iL) ?_
         refine sQ rfl (sp_convert_int rfl Tryd.underlying5 Tryd.underlying21 iL) ?_
         refine sQ rfl (sp_shl (b := 18) rfl iL iL) ?_
         refine sM rfl rfl ?_
         refine sQ rfl (sp_bAnd rfl iL iL) ?_
         refine sQ rfl (sp_convert_int rfl Tryd.underlying5 Tryd.underlying21 iL) ?_
         refine sQ rfl (sp_shl (b := 12) rfl iL iL) ?_
         refine sQ rfl (sp_bOr rfl iL iL) ?_
         refine sM rfl rfl ?_
         refine sQ rfl (sp_bAnd rfl iL iL) ?_
         refine sQ rfl (sp_convert_int rfl Tryd.underlying5 Tryd.underlying21 iL) ?_
         refine sQ rfl (sp_shl (b := 6) rfl iL iL) ?_
         refine sQ rfl (sp_bOr rfl iL iL) ?_
         refine sM rfl rfl ?_
         refine sQ rfl (sp_bAnd rfl iL iL) ?_
         refine sQ rfl (sp_convert_int rfl Tryd.underlying5 Tryd.underlying21 iL) ?_
         refine sQ rfl (sp_bOr rfl iL iL) ?_
         refine sQ rfl (sp_assign rfl iL) ?_
         refine sQ rfl (sp_assign rfl iL) ?_
         refine AOps.nil (hK35 _ ?_)
         refine AW.ret ?_
         exact retf2 (P := Tryd.prog) (fun (r : Int × Int) => .r (.int .i32 r.1)) (fun (r : Int × Int) => .r (.int .i64 r.2)) h14 iL (.t (.d rfl)) (.t (.d rfl))
set_option maxHeartbeats 4000000 in
set_option maxRecDepth 20000 in
theorem w_unicode_utf8_DecodeRuneInString {s1 : List UInt8} {r : Int × Int} (h : unicode_utf8_DecodeRuneInString s1 = some r) : ARO Tryd.prog 85 [.r (.str s1)] (.tup [.r (.int .i32 r.1), .r (.int .i64 r.2)]) := by
 unfold unicode_utf8_DecodeRuneInString at h
 refine ARO.mkF Tryd.func85 rfl rfl Tryd.ntmps85 rfl (Nat.le_of_ble_eq_true rfl) fun n0 => ?_
 refine AW.seq_w fun K1 hK1 wK1 => ?_
 refine AW.region ?_
 refine sQ rfl (sp_assign rfl iL) ?_
 refine sQ rfl (sp_assign rfl iL) ?_
 refine AOps.nil (hK1 _ ?_)
 refine AW.seq_w fun K2 hK2 wK2 => ?_
 refine AW.seq_w fun K3 hK3 wK3 => ?_
 refine AW.region ?_
 refine sM rfl rfl ?_
 refine sQ rfl (sp_sneq rfl iL iL) ?_
 refine sM rfl rfl ?_
 refine sV rfl rfl rfl (sp_move rfl iL) ?_
 refine ob1k h fun ch1 ech1 h1 => ?_
 refine sV rfl rfl rfl (ms_idx_str rfl Tryd.underlying9 (iR rfl) iL (gdt ech1)) ?_
 refine sV rfl rfl rfl (sp_lss rfl (iR rfl) iL) ?_
 refine sQ rfl (sp_and rfl iL (iR rfl)) ?_
 refine AOps.nil (hK3 _ ?_)
 refine AW.cond rfl (fun hc1 => ?_) (fun hc1 => ?_)
 ·have h2 := ite_t hc1 h1
  refine AW.seq_w fun K4 hK4 wK4 => ?_
  refine AW.weak (s' := ⟨[(0, .r (.str s1))], [], n0, 19⟩) (by exact Weak.cv ⟨jL, trivial⟩ trivial nL) ?_
  refine AW.region ?_
  refine sM rfl rfl ?_
  refine ob1k h2 fun ch2 ech2 h3 => ?_
  refine sQ rfl (ms_idx_str rfl Tryd.underlying9 iL iL (fun _ => ech2)) ?_
  refine sQ rfl (sp_convert_int rfl Tryd.underlying5 Tryd.underlying21 iL) ?_
  refine sQ rfl (sp_assign rfl iL) ?_
  refine sQ rfl (sp_assign rfl iL) ?_
  refine AOps.nil (hK4 _ ?_)
  refine AW.ret ?_
  exact retf2 (P := Tryd.prog) (fun (r : Int × Int) => .r (.int .i32 r.1)) (fun (r : Int × Int) => .r (.int .i64 r.2)) h3 iL (.t (.d rfl)) (.t (.d rfl))
 ·have h2 := ite_f hc1 h1
  refine AW.weak (s' := ⟨[(0, .r (.str s1))], [], n0, 19⟩) (by exact Weak.cv ⟨jL, trivial⟩ trivial nL) ?_
  refine AW.region ?_
  refine sM rfl rfl ?_
  refine ob2k h2 fun r1 r2 er1 h4 => ?_
  refine AOps.step rfl rfl rfl (sp_call (r := .tup [.r (.int .i32 r1), .r (.int .i64 r2)]) (caps := []) (bs := [.r (.str s1)]) rfl iL rfl ⟨⟨_, iL, .d rfl⟩, trivial⟩ (fun _ => w_unicode_utf8_decodeRuneInStringSlow (er1)) rfl) ?_
  refine sM rfl rfl ?_
  refine sQ rfl (sp_extract (a := .r (.int .i32 r1)) rfl iL rfl) ?_
  refine sQ rfl (sp_extract (a := .r (.int .i64 r2)) rfl iL rfl) ?_
  refine sQ rfl (sp_assign rfl iL) ?_
  refine sQ rfl (sp_assign rfl iL) ?_
  refine AOps.nil (hK2 _ ?_)
  refine AW.ret ?_
  exact retf2 (P := Tryd.prog) (fun (r : Int × Int) => .r (.int .i32 r.1)) (fun (r : Int × Int) => .r (.int .i64 r.2)) h4 iL (.t (.d rfl)) (.t (.d rfl))
set_option maxHeartbeats 4000000 in
set_option maxRecDepth 20000 in
theorem w_flow_Char {c1 : Int} {r : Bool} (h : flow_Char c1 = some r) : ARO Tryd.prog 86 [.r (.int .i64 c1)] (.r (.bool r)) := by
 unfold flow_Char at h
 refine ARO.mkF Tryd.func86 rfl rfl Tryd.ntmps86 rfl (Nat.le_of_ble_eq_true rfl) fun n0 => ?_
 refine AW.seq_w fun K1 hK1 wK1 => ?_
 refine AW.region ?_
 refine sQ rfl (sp_assign rfl iL) ?_
 refine AOps.nil (hK1 _ ?_)
 refine AW.seq_w fun K2 hK2 wK2 => ?_
 refine AW.region ?_
 refine sM rfl rfl ?_
 refine sQ rfl (sp_eql rfl iL iL) ?_
 refine sM rfl rfl ?_
 refine sV rfl rfl rfl (sp_move rfl iL) ?_
 refine sV rfl rfl rfl (sp_eql rfl (iR rfl) iL) ?_
 refine sQ rfl (sp_or rfl iL (iR rfl)) ?_
 refine sM rfl rfl ?_
 refine sV rfl rfl rfl (sp_move rfl iL) ?_
 refine sV rfl rfl rfl (sp_geq rfl (iR rfl) iL) ?_
 refine sV rfl rfl rfl (sp_move rfl (iR rfl)) ?_
 refine sW (.two rfl rfl rfl) rfl (sp_move rfl iL) ?_
 refine sW (.two rfl rfl rfl) rfl (sp_lss rfl (iR rfl) iL) ?_
 refine sV rfl rfl rfl (sp_and rfl (iR rfl) (iR rfl)) ?_
 refine sQ rfl (sp_or rfl iL (iR rfl)) ?_
 refine sM rfl rfl ?_
 refine sV rfl rfl rfl (sp_move rfl iL) ?_
 refine sV rfl rfl rfl (sp_geq rfl (iR rfl) iL) ?_
 refine sV rfl rfl rfl (sp_move rfl (iR rfl)) ?_
 refine sW (.two rfl rfl rfl) rfl (sp_move rfl iL) ?_
 refine sW (.two rfl rfl rfl) rfl (sp_lss rfl (iR rfl) iL) ?_
 refine sV rfl rfl rfl (sp_and rfl (iR rfl) (iR rfl)) ?_
 refine sQ rfl (sp_or rfl iL (iR rfl)) ?_
 refine sM rfl rfl ?_
 refine sV rfl rfl rfl (sp_move rfl iL) ?_
 refine sV rfl rfl rfl (sp_gtr rfl (iR rfl) iL) ?_
 refine sV rfl rfl rfl (sp_move rfl (iR rfl)) ?_
 refine sW (.two rfl rfl rfl) rfl (sp_move rfl iL) ?_
 refine sW (.two rfl rfl rfl) rfl (sp_leq rfl (iR rfl) iL) ?_
 refine sV rfl rfl rfl (sp_and rfl (iR rfl) (iR rfl)) ?_
 refine sQ rfl (sp_or rfl iL (iR rfl)) ?_
 refine sQ rfl (sp_assign rfl iL) ?_
 refine AOps.nil (hK2 _ ?_)
 refine AW.ret ?_
 exact retf1 (P := Tryd.prog) (fun (r : Bool) => .r (.bool r)) h iL (.t (.d rfl))
set_option maxHeartbeats 4000000 in
set_option maxRecDepth 20000 in
theorem w_grid_Text {s1 : List UInt8} {r : Bool} (h : grid_Text s1 = some r) : ARO Tryd.prog 29 [.r (.str s1)] (.r (.bool r)) := by
 unfold grid_Text at h
 refine ARO.mkF Tryd.func29 rfl rfl Tryd.ntmps29 rfl (Nat.le_of_ble_eq_true rfl) fun n0 => ?_
 refine AW.seq_w fun K1 hK1 wK1 => ?_
 refine AW.region ?_
 refine sQ rfl (sp_assign rfl iL) ?_
 refine AOps.nil (hK1 _ ?_)
 refine AW.seq_w fun K2 hK2 wK2 => ?_
 refine AW.block ?_
 refine jc1k h fun o1 hit1 hk1 he1 => ?_
 have J1 : ∀ (u2 : Unit) (i5 : Nat → Nat), o1 = .nrm u2 → K2 ⟨[], [], (i5 0), 31⟩ := by
  intro u2 i5 e
  have h1 := hk1 _ e
  refine hK2 _ ?_
  refine AW.seq_w fun K3 hK3 wK3 => ?_
  refine AW.region ?_
  refine sQ rfl (sp_assign rfl iL) ?_
  refine AOps.nil (hK3 _ ?_)
  refine AW.ret ?_
  exact retf1 (P := Tryd.prog) (fun (r : Bool) => .r (.bool r)) h1 iL (.t (.d rfl))
 refine AW.iter1 (fun (s3 : List UInt8) i3 => ⟨[(0, .r (.str s3))], [], (i3 0), 31⟩) (vec [n0]) hit1 ((by exact Weak.cv ⟨jL, trivial⟩ trivial nL)) ?_
 intro s3 i3 v1 hv1 hx1
 have h2 : grid_Text_L1 s3 = some v1 := hv1; unfold grid_Text_L1 at h2
 refine AW.seq_w fun K4 hK4 wK4 => ?_
 refine AW.seq_w fun K5 hK5 wK5 => ?_
 refine AW.region ?_
 refine sM rfl rfl ?_
 refine sQ rfl (sp_sneq rfl iL iL) ?_
 refine AOps.nil (hK5 _ ?_)
 refine AW.cond rfl (fun hc1 => ?_) (fun hc1 => ?_)
 ·have h3 := ite_t hc1 h2
  refine AW.skip ?_
  refine hK4 _ ?_
  refine AW.block ?_
  refine AW.seq_w fun K6 hK6 wK6 => ?_
  refine AW.region ?_
  refine sM rfl rfl ?_
  refine ob2k h3 fun r1 r2 er1 h4 => ?_
  refine AOps.step rfl rfl rfl (sp_call (r := .tup [.r (.int .i32 r1), .r (.int .i64 r2)]) (caps := []) (bs := [.r (.str s3)]) rfl iL rfl ⟨⟨_, iL, .d rfl⟩, trivial⟩ (fun _ => w_unicode_utf8_DecodeRuneInString (er1)) rfl) ?_
  refine sM rfl rfl ?_
  refine sQ rfl (sp_extract (a := .r (.int .i32 r1)) rfl iL rfl) ?_
  refine sQ rfl (sp_extract (a := .r (.int .i64 r2)) rfl iL rfl) ?_
  refine sQ rfl (sp_assign rfl iL) ?_
  refine sQ rfl (sp_assign rfl iL) ?_
  refine AOps.nil (hK6 _ ?_)
  refine AW.seq_w fun K7 hK7 wK7 => ?_
  refine AW.seq_w fun K8 hK8 wK8 => ?_
  refine AW.region ?_
  refine sM rfl rfl ?_
  refine sQ rfl (sp_eql rfl iL iL) ?_
  refine sM rfl rfl ?_
  refine sV rfl rfl rfl (sp_move rfl iL) ?_
  refine sV rfl rfl rfl (sp_eql rfl (iR rfl) iL) ?_
  refine sQ rfl (sp_and rfl iL (iR rfl)) ?_
  refine sM rfl rfl ?_
  refine sV rfl rfl rfl (sp_move rfl iL) ?_
  refine sV rfl rfl rfl (sp_eql rfl (iR rfl) iL) ?_
  refine sQ rfl (sp_or rfl iL (iR rfl)) ?_
  refine sM rfl rfl ?_
  refine sV rfl rfl rfl (sp_move rfl iL) ?_
  refine sV rfl rfl rfl (sp_convert_int rfl Tryd.underlying21 Tryd.underlying3 (iR rfl)) ?_
  refine ob1k h4 fun r3 er3 h5 => ?_
  refine AOps.stepW (.one rfl rfl rfl) rfl rfl (sp_call (r := .r (.bool r3)) (caps := []) (bs := [.r (.int .i64 (IntKind.i64.wrap r1))]) rfl iL rfl ⟨⟨_, (iR rfl), .d rfl⟩, trivial⟩ (fun hg => w_flow_Char (gdt er3 hg)) rfl) ?_
  refine sV rfl rfl rfl (sp_not rfl (iR rfl)) ?_
  refine sQ rfl (sp_or rfl iL (iR rfl)) ?_
  refine AOps.nil (hK8 _ ?_)
  refine AW.cond rfl (fun hc2 => ?_) (fun hc2 => ?_)
  ·have h6 := ite_t hc2 h5
   refine AW.seq_w fun K9 hK9 wK9 => ?_
   refine AW.weak (s' := ⟨[], [], (i3 0), 31⟩) (by exact Weak.cv trivial trivial nL) ?_
   refine AW.region ?_
   refine sQ rfl (sp_assign rfl iL) ?_
   refine AOps.nil (hK9 _ ?_)
   refine AW.ret ?_
   exact retf1 (P := Tryd.prog) (fun (r : Bool) => .r (.bool r)) (he1 _ (hx1 _ (Option.some.inj h6).symm)) iL (.t (.d rfl))
  ·have h6 := ite_f hc2 h5
   refine AW.skip ?_
   refine hK7 _ ?_
   refine AW.weak (s' := ⟨[(0, .r (.str s3)), (4, .r (.int .i64 r2))], [], (i3 0), 31⟩) (by exact Weak.cv ⟨jL, jL, trivial⟩ trivial nL) ?_
   refine AW.region ?_
   refine sM rfl rfl ?_
   refine sM rfl rfl ?_
   refine ob1k h6 fun s5 es5 h7 => ?_
   refine sQ rfl (ms_slice_str rfl Tryd.underlying9 iL (by exact ⟨_, iL⟩) (by exact rfl) (fun _ => es5)) ?_
   refine sQ rfl (sp_assign rfl iL) ?_
   refine AOps.nil ?_
   exact NextQ1.mk h7 (vec [(i3 0)]) ((by exact Weak.cv ⟨jL, trivial⟩ trivial nL))
 ·have h3 := ite_f hc1 h2
  refine AW.exit ?_
  exact wK2 _ _ ((by exact Weak.cv trivial trivial nL)) (J1 _ (vec [(i3 0)]) (hx1 _ (Option.some.inj h3).symm))
set_option maxHeartbeats 4000000 in
set_option maxRecDepth 20000 in
theorem w_attr_Name {s1 : List UInt8} {r : Bool} (h : attr_Name s1 = some r) : ARO Tryd.prog 139 [.r (.str s1)] (.r (.bool r)) := by
 unfold attr_Name at h
 refine ARO.mkF Tryd.func139 rfl rfl Tryd.ntmps139 rfl (Nat.le_of_ble_eq_true rfl) fun n0 => ?_
 refine AW.seq_w fun K1 hK1 wK1 => ?_
 refine AW.region ?_
 refine sQ rfl (sp_assign rfl iL) ?_
 refine AOps.nil (hK1 _ ?_)
 refine AW.seq_w fun K2 hK2 wK2 => ?_
 refine AW.seq_w fun K3 hK3 wK3 => ?_
 refine AW.region ?_
 refine sM rfl rfl ?_
 refine sQ rfl (sp_seql rfl iL iL) ?_
 refine sM rfl rfl ?_
 refine sV rfl rfl rfl (sp_move rfl iL) ?_
 refine sV rfl rfl rfl (sp_len_str rfl Tryd.underlying9 (iR rfl)) ?_
 refine sV rfl rfl rfl (sp_gtr rfl (iR rfl) iL) ?_
 refine sQ rfl (sp_or rfl iL (iR rfl)) ?_
 refine sM rfl rfl ?_
 refine sV rfl rfl rfl (sp_move rfl iL) ?_
 refine ob1k h fun ch1 ech1 h1 => ?_
 refine sV rfl rfl rfl (ms_idx_str rfl Tryd.underlying9 (iR rfl) iL (gdt ech1)) ?_
 refine sV rfl rfl rfl (sp_lss rfl (iR rfl) iL) ?_
 refine sQ rfl (sp_or rfl iL (iR rfl)) ?_
 refine sM rfl rfl ?_
 refine sV rfl rfl rfl (sp_move rfl iL) ?_
 refine ob1k h1 fun ch2 ech2 h2 => ?_
 refine sV rfl rfl rfl (ms_idx_str rfl Tryd.underlying9 (iR rfl) iL (gdt ech2)) ?_
 refine sV rfl rfl rfl (sp_gtr rfl (iR rfl) iL) ?_
 refine sQ rfl (sp_or rfl iL (iR rfl)) ?_
 refine AOps.nil (hK3 _ ?_)
 refine AW.cond rfl (fun hc1 => ?_) (fun hc1 => ?_)
 ·have h3 := ite_t hc1 h2
  refine AW.seq_w fun K4 hK4 wK4 => ?_
  refine AW.weak (s' := ⟨[], [], n0, 53⟩) (by exact Weak.cv trivial trivial nL) ?_
  refine AW.region ?_
  refine sQ rfl (sp_assign rfl iL) ?_
  refine AOps.nil (hK4 _ ?_)
  refine AW.ret ?_
  exact retf1 (P := Tryd.prog) (fun (r : Bool) => .r (.bool r)) h3 iL (.t (.d rfl))
 ·have h3 := ite_f hc1 h2
  refine AW.skip ?_
  refine hK2 _ ?_
  refine AW.seq_w fun K5 hK5 wK5 => ?_
  refine AW.seq_w fun K6 hK6 wK6 => ?_
  refine AW.weak (s' := ⟨[(0, .r (.str s1))], [], n0, 53⟩) (by exact Weak.cv ⟨jL, trivial⟩ trivial nL) ?_
  refine AW.region ?_
  refine sM rfl rfl ?_
  refine sQ rfl (sp_len_str rfl Tryd.underlying9 iL) ?_
  refine sM rfl rfl ?_
  refine AOps.nil (hK6 _ ?_)
  refine AW.block ?_
  refine jc1k h3 fun o1 hit1 hk1 he1 => ?_
  have J1 : ∀ (u2 : Unit) (i5 : Nat → Nat), o1 = .nrm u2 → K5 ⟨[], [], (i5 0), 53⟩ := by
   intro u2 i5 e
   have h4 := hk1 _ e
   refine hK5 _ ?_
   refine AW.seq_w fun K7 hK7 wK7 => ?_
   refine AW.region ?_
   refine sQ rfl (sp_assign rfl iL) ?_
   refine AOps.nil (hK7 _ ?_)
   refine AW.ret ?_
   exact retf1 (P := Tryd.prog) (fun (r : Bool) => .r (.bool r)) h4 iL (.t (.d rfl))
  refine AW.iter1 (fun (x2 : Int) i3 => ⟨[(0, .r (.str s1)), (23, .r (.int .i64 (s1.length : Int))), (24, .r (.int .i64 x2))], [], (i3 0), 53⟩) (vec [n0]) hit1 ((by exact Weak.cv ⟨jL, jL, jL, trivial⟩ trivial nL)) ?_
  intro x2 i3 v1 hv1 hx1
  have h5 : attr_Name_L1 s1 x2 = some v1 := hv1; unfold attr_Name_L1 at h5
  refine AW.seq_w fun K8 hK8 wK8 => ?_
  refine AW.region ?_
  refine sQ rfl (sp_lss rfl iL iL) ?_
  refine AOps.nil (hK8 _ ?_)
  refine AW.seq_w fun K9 hK9 wK9 => ?_
  refine AW.cond rfl (fun hc2 => ?_) (fun hc2 => ?_)
  ·have h6 := ite_t hc2 h5
   refine AW.skip ?_
   refine hK9 _ ?_
   refine AW.seq_w fun K10 hK10 wK10 => ?_
   refine AW.block ?_
   refine AW.seq_w fun K11 hK11 wK11 => ?_
   refine AW.region ?_
   refine sM rfl rfl ?_
   refine sQ rfl (sp_assign rfl iL) ?_
   refine AOps.nil (hK11 _ ?_)
   refine AW.seq_w fun K12 hK12 wK12 => ?_
   refine AW.region ?_
   refine sM rfl rfl ?_
   refine sM rfl rfl ?_
   refine ob1k h6 fun c1 ec1 h7 => ?_
   refine sQ rfl (ms_idx_str rfl Tryd.underlying9 iL iL (fun _ => ec1)) ?_
   refine sQ rfl (sp_assign rfl iL) ?_
   refine AOps.nil (hK12 _ ?_)
   refine AW.seq_w fun K13 hK13 wK13 => ?_
   refine AW.region ?_
   refine sM rfl rfl ?_
   refine sQ rfl (sp_lss rfl iL iL) ?_
   refine sM rfl rfl ?_
   refine sV rfl rfl rfl (sp_move rfl iL) ?_
   refine sV rfl rfl rfl (sp_gtr rfl (iR rfl) iL) ?_
   refine sQ rfl (sp_or rfl iL (iR rfl)) ?_
   refine sM rfl rfl ?_
   refine sV rfl rfl rfl (sp_move rfl iL) ?_
   refine sV rfl rfl rfl (sp_lss rfl (iR rfl) iL) ?_
   refine sV rfl rfl rfl (sp_move rfl (iR rfl)) ?_
   refine sW (.two rfl rfl rfl) rfl (sp_move rfl iL) ?_
   refine sW (.two rfl rfl rfl) rfl (sp_gtr rfl (iR rfl) iL) ?_
   refine sV rfl rfl rfl (sp_or rfl (iR rfl) (iR rfl)) ?_
   refine sQ rfl (sp_and rfl iL (iR rfl)) ?_
   refine sM rfl rfl ?_
   refine sV rfl rfl rfl (sp_move rfl iL) ?_
   refine sV rfl rfl rfl (sp_neq rfl (iR rfl) iL) ?_
   refine sQ rfl (sp_and rfl iL (iR rfl)) ?_
   refine sM rfl rfl ?_
   refine sV rfl rfl rfl (sp_move rfl iL) ?_
   refine sV rfl rfl rfl (sp_neq rfl (iR rfl) iL) ?_
   refine sQ rfl (sp_and rfl iL (iR rfl)) ?_
   refine AOps.nil (hK13 _ ?_)
   refine AW.cond rfl (fun hc3 => ?_) (fun hc3 => ?_)
   ·have h8 := ite_t hc3 h7
    refine AW.seq_w fun K14 hK14 wK14 => ?_
    refine AW.weak (s' := ⟨[], [], (i3 0), 53⟩) (by exact Weak.cv trivial trivial nL) ?_
    refine AW.region ?_
    refine sQ rfl (sp_assign rfl iL) ?_
    refine AOps.nil (hK14 _ ?_)
    refine AW.ret ?_
    exact retf1 (P := Tryd.prog) (fun (r : Bool) => .r (.bool r)) (he1 _ (hx1 _ (Option.some.inj h8).symm)) iL (.t (.d rfl))
   ·have h8 := ite_f hc3 h7
    refine AW.skip ?_
    refine hK10 _ ?_
    refine AW.weak (s' := ⟨[(0, .r (.str s1)), (23, .r (.int .i64 (s1.length : Int))), (24, .r (.int .i64 x2))], [], (i3 0), 53⟩) (by exact Weak.cv ⟨jL, jL, jL, trivial⟩ trivial nL) ?_
    refine AW.region ?_
    refine ob1k h8 fun x4 ex4 h9 => ?_
    refine sQ rfl (ms_add rfl iL iL (fun _ => ex4)) ?_
    refine sM rfl rfl ?_
    refine AOps.nil ?_
    exact NextQ1.mk h9 (vec [(i3 0)]) ((by exact Weak.cv ⟨jL, jL, jL, trivial⟩ trivial nL))
  ·have h6 := ite_f hc2 h5
   refine AW.exit ?_
   exact wK5 _ _ ((by exact Weak.cv trivial trivial nL)) (J1 _ (vec [(i3 0)]) (hx1 _ (Option.some.inj h6).symm))
set_option maxHeartbeats 4000000 in
set_option maxRecDepth 20000 in
theorem w_attr_Value {s1 : List UInt8} {r : Bool} (h : attr_Value s1 = some r) : ARO Tryd.prog 140 [.r (.str s1)] (.r (.bool r)) := by
 unfold attr_Value at h
 refine ARO.mkF Tryd.func140 rfl rfl Tryd.ntmps140 rfl (Nat.le_of_ble_eq_true rfl) fun n0 => ?_
 refine AW.seq_w fun K1 hK1 wK1 => ?_
 refine AW.region ?_
 refine sQ rfl (sp_assign rfl iL) ?_
 refine AOps.nil (hK1 _ ?_)
 refine AW.seq_w fun K2 hK2 wK2 => ?_
 refine AW.seq_w fun K3 hK3 wK3 => ?_
 refine AW.region ?_
 refine sM rfl rfl ?_
 refine sQ rfl (sp_seql rfl iL iL) ?_
 refine sM rfl rfl ?_
 refine sV rfl rfl rfl (sp_move rfl iL) ?_
 refine sV rfl rfl rfl (sp_len_str rfl Tryd.underlying9 (iR rfl)) ?_
 refine sV rfl rfl rfl (sp_gtr rfl (iR rfl) iL) ?_
 refine sQ rfl (sp_or rfl iL (iR rfl)) ?_
 refine AOps.nil (hK3 _ ?_)
 refine AW.cond rfl (fun hc1 => ?_) (fun hc1 => ?_)
 ·have h1 := ite_t hc1 h
  refine AW.seq_w fun K4 hK4 wK4 => ?_
  refine AW.weak (s' := ⟨[], [], n0, 27⟩) (by exact Weak.cv trivial trivial nL) ?_
  refine AW.region ?_
  refine sQ rfl (sp_assign rfl iL) ?_
  refine AOps.nil (hK4 _ ?_)
  refine AW.ret ?_
  exact retf1 (P := Tryd.prog) (fun (r : Bool) => .r (.bool r)) h1 iL (.t (.d rfl))
 ·have h1 := ite_f hc1 h
  refine AW.skip ?_
  refine hK2 _ ?_
  refine AW.seq_w fun K5 hK5 wK5 => ?_
  refine AW.seq_w fun K6 hK6 wK6 => ?_
  refine AW.region ?_
  refine sM rfl rfl ?_
  refine sQ rfl (sp_len_str rfl Tryd.underlying9 iL) ?_
  refine sM rfl rfl ?_
  refine AOps.nil (hK6 _ ?_)
  refine AW.block ?_
  refine jc1k h1 fun o1 hit1 hk1 he1 => ?_
  have J1 : ∀ (u2 : Unit) (i5 : Nat → Nat), o1 = .nrm u2 → K5 ⟨[], [], (i5 0), 27⟩ := by
   intro u2 i5 e
   have h2 := hk1 _ e
   refine hK5 _ ?_
   refine AW.seq_w fun K7 hK7 wK7 => ?_
   refine AW.region ?_
   refine sQ rfl (sp_assign rfl iL) ?_
   refine AOps.nil (hK7 _ ?_)
   refine AW.ret ?_
   exact retf1 (P := Tryd.prog) (fun (r : Bool) => .r (.bool r)) h2 iL (.t (.d rfl))
  refine AW.iter1 (fun (x2 : Int) i3 => ⟨[(0, .r (.str s1)), (12, .r (.int .i64 (s1.length : Int))), (13, .r (.int .i64 x2))], [], (i3 0), 27⟩) (vec [n0]) hit1 ((by exact Weak.cv ⟨jL, jL, jL, trivial⟩ trivial nL)) ?_
  intro x2 i3 v1 hv1 hx1
  have h3 : attr_Value_L1 s1 x2 = some v1 := hv1; unfold attr_Value_L1 at h3
  refine AW.seq_w fun K8 hK8 wK8 => ?_
  refine AW.region ?_
  refine sQ rfl (sp_lss rfl iL iL) ?_
  refine AOps.nil (hK8 _ ?_)
  refine AW.seq_w fun K9 hK9 wK9 => ?_
  refine AW.cond rfl (fun hc2 => ?_) (fun hc2 => ?_)
  ·have h4 := ite_t hc2 h3
   refine AW.skip ?_
   refine hK9 _ ?_
   refine AW.seq_w fun K10 hK10 wK10 => ?_
   refine AW.block ?_
   refine AW.seq_w fun K11 hK11 wK11 => ?_
   refine AW.region ?_
   refine sM rfl rfl ?_
   refine sQ rfl (sp_assign rfl iL) ?_
   refine AOps.nil (hK11 _ ?_)
   refine AW.seq_w fun K12 hK12 wK12 => ?_
   refine AW.region ?_
   refine sM rfl rfl ?_
   refine sM rfl rfl ?_
   refine ob1k h4 fun ch1 ech1 h5 => ?_
   refine sQ rfl (ms_idx_str rfl Tryd.underlying9 iL iL (fun _ => ech1)) ?_
   refine sQ rfl (sp_lss rfl iL iL) ?_
   refine sM rfl rfl ?_
   refine sV rfl rfl rfl (sp_move rfl iL) ?_
   refine sV rfl rfl rfl (sp_move rfl iL) ?_
   refine sV rfl rfl rfl (ms_idx_str rfl Tryd.underlying9 (iR rfl) (iR rfl) (fun _ => ech1)) ?_
   refine sV rfl rfl rfl (sp_gtr rfl (iR rfl) iL) ?_
   refine sQ rfl (sp_or rfl iL (iR rfl)) ?_
   refine AOps.nil (hK12 _ ?_)
   refine AW.cond rfl (fun hc3 => ?_) (fun hc3 => ?_)
   ·have h6 := ite_t hc3 h5
    refine AW.seq_w fun K13 hK13 wK13 => ?_
    refine AW.weak (s' := ⟨[], [], (i3 0), 27⟩) (by exact Weak.cv trivial trivial nL) ?_
    refine AW.region ?_
    refine sQ rfl (sp_assign rfl iL) ?_
    refine AOps.nil (hK13 _ ?_)
    refine AW.ret ?_
    exact retf1 (P := Tryd.prog) (fun (r : Bool) => .r (.bool r)) (he1 _ (hx1 _ (Option.some.inj h6).symm)) iL (.t (.d rfl))
   ·have h6 := ite_f hc3 h5
    refine AW.skip ?_
    refine hK10 _ ?_
    refine AW.weak (s' := ⟨[(0, .r (.str s1)), (12, .r (.int .i64 (s1.length : Int))), (13, .r (.int .i64 x2))], [], (i3 0), 27⟩) (by exact Weak.cv ⟨jL, jL, jL, trivial⟩ trivial nL) ?_
    refine AW.region ?_
    refine ob1k h6 fun x4 ex4 h7 => ?_
    refine sQ rfl (ms_add rfl iL iL (fun _ => ex4)) ?_
    refine sM rfl rfl ?_
    refine AOps.nil ?_
    exact NextQ1.mk h7 (vec [(i3 0)]) ((by exact Weak.cv ⟨jL, jL, jL, trivial⟩ trivial nL))
  ·have h4 := ite_f hc2 h3
   refine AW.exit ?_
   exact wK5 _ _ ((by exact Weak.cv trivial trivial nL)) (J1 _ (vec [(i3 0)]) (hx1 _ (Option.some.inj h4).symm))
set_option maxHeartbeats 4000000 in
set_option maxRecDepth 20000 in
theorem w_attr_check {l1 : List GAttr} {empty1 : Bool} {r : Int} (h : attr_check l1 empty1 = some r) : ARO Tryd.prog 106 [.r (.sl (l1.map GAttr.row)), .r (.bool empty1)] (.r (.int .i64 r)) := by
 unfold attr_check at h
 refine ARO.mkF Tryd.func106 rfl rfl Tryd.ntmps106 rfl (Nat.le_of_ble_eq_true rfl) fun n0 => ?_
 refine AW.seq_w fun K1 hK1 wK1 => ?_
 refine AW.region ?_
 refine sQ rfl (sp_assign rfl iL) ?_
 refine AOps.nil (hK1 _ ?_)
 refine AW.seq_w fun K2 hK2 wK2 => ?_
 refine AW.seq_w fun K3 hK3 wK3 => ?_
 refine AW.region ?_
 refine sM rfl rfl ?_
 refine sQ rfl (ms_len rfl tg_27.slice iL) ?_
 refine sM rfl rfl ?_
 refine AOps.nil (hK3 _ ?_)
 refine AW.block ?_
 refine jc1k h fun o1 hit1 hk1 he1 => ?_
 have J1 : ∀ (u2 : Unit) (i5 : Nat → Nat), o1 = .nrm u2 → K2 ⟨[], [], (i5 0), 48⟩ := by
  intro u2 i5 e
  have h1 := hk1 _ e
  refine hK2 _ ?_
  refine AW.seq_w fun K4 hK4 wK4 => ?_
  refine AW.region ?_
  refine sQ rfl (sp_assign rfl iL) ?_
  refine AOps.nil (hK4 _ ?_)
  refine AW.ret ?_
  exact retf1 (P := Tryd.prog) (fun (r : Int) => .r (.int .i64 r)) h1 iL (.t (.d rfl))
 refine AW.iter1 (fun (x2 : Int) i3 => ⟨[(0, .r (.sl (l1.map GAttr.row))), (1, .r (.bool empty1)), (7, .r (.sl (l1.map GAttr.row))), (8, .r (.int .i64 (l1.length : Int))), (9, .r (.int .i64 x2))], [], (i3 0), 48⟩) (vec [n0]) hit1 ((by exact Weak.cv ⟨jL, jL, jL, jL, jL, trivial⟩ trivial nL)) ?_
 intro x2 i3 v1 hv1 hx1
 have h2 : attr_check_L1 l1 empty1 x2 = some v1 := hv1; unfold attr_check_L1 at h2
 refine AW.seq_w fun K5 hK5 wK5 => ?_
 refine AW.region ?_
 refine sQ rfl (sp_lss rfl iL iL) ?_
 refine AOps.nil (hK5 _ ?_)
 refine AW.seq_w fun K6 hK6 wK6 => ?_
 refine AW.cond rfl (fun hc1 => ?_) (fun hc1 => ?_)
 ·have h3 := ite_t hc1 h2
  refine AW.skip ?_
  refine hK6 _ ?_
  refine AW.seq_w fun K7 hK7 wK7 => ?_
  refine AW.block ?_
  refine AW.seq_w fun K8 hK8 wK8 => ?_
  refine AW.region ?_
  refine sM rfl rfl ?_
  refine ob1k h3 fun x4 ex4 h4 => ?_
  refine sQ rfl (ms_idx rfl tg_27.slice iL iL (fun _ => rfl) (fun _ => ex4)) ?_
  refine sQ rfl (ms_loadA (cs := [.r (.str x4.Name), .r (.str x4.Value)]) rfl ta_122 iL rfl rfl) ?_
  refine AOps.step rfl rfl rfl (ms_alloc (cs := [.r (.str []), .r (.str [])]) 6 rfl t0_122 rfl rfl) ?_
  refine sQ rfl (sp_assign rfl iL) ?_
  refine AOps.step0 rfl rfl (ms_store_box (ds := [.r (.str x4.Name), .r (.str x4.Value)]) rfl tz_122 iL rfl iL rfl rfl rfl rfl) ?_
  refine AOps.nil (hK8 _ ?_)
  refine AW.block ?_
  refine AW.seq_w fun K9 hK9 wK9 => ?_
  refine AW.region ?_
  refine sQ rfl (sp_fieldAddr_own (ob := .box _ _ _) rfl tf_122_0 iL fR rfl) ?_
  refine sQ rfl (ms_load_box (a := .r (.str x4.Name)) rfl ts_9 iL rfl rfl) ?_
  refine ob1k h4 fun r1 er1 h5 => ?_
  refine AOps.step rfl rfl rfl (sp_call (r := .r (.bool r1)) (caps := []) (bs := [.r (.str x4.Name)]) rfl iL rfl ⟨⟨_, iL, .d rfl⟩, trivial⟩ (fun _ => w_attr_Name (er1)) rfl) ?_
  refine sQ rfl (sp_not rfl iL) ?_
  refine sQ rfl (sp_assign rfl iL) ?_
  refine AOps.nil (hK9 _ ?_)
  refine AW.cond rfl (fun hc2 => ?_) (fun hc2 => ?_)
  ·have h6 := ite_t hc2 h5
   refine AW.seq_w fun K10 hK10 wK10 => ?_
   refine AW.weak (s' := ⟨[], [], ((i3 0) + 1), 48⟩) (by exact Weak.cv trivial trivial nL) ?_
   refine AW.region ?_
   refine sQ rfl (sp_assign rfl iL) ?_
   refine AOps.nil (hK10 _ ?_)
   refine AW.ret ?_
   exact retf1 (P := Tryd.prog) (fun (r : Int) => .r (.int .i64 r)) (he1 _ (hx1 _ (Option.some.inj h6).symm)) iL (.t (.d rfl))
  ·have h6 := ite_f hc2 h5
   refine AW.seq_w fun K11 hK11 wK11 => ?_
   refine AW.weak (s' := ⟨[(0, .r (.sl (l1.map GAttr.row))), (1, .r (.bool empty1)), (5, .r (.int .i64 x2)), (6, .ptr 6 (i3 0) 0 0), (7, .r (.sl (l1.map GAttr.row))), (8, .r (.int .i64 (l1.length : Int))), (9, .r (.int .i64 x2))], [(6, some (.box (i3 0) 122 [.r (.str x4.Name), .r (.str x4.Value)]))], ((i3 0) + 1), 48⟩) (by exact Weak.cv ⟨jL, jL, jL, jL, jL, jL, jL, trivial⟩ ⟨.inl rfl, trivial⟩ nL) ?_
   refine AW.region ?_
   refine sQ rfl (sp_fieldAddr_own (ob := .box _ _ _) rfl tf_122_1 iL fR rfl) ?_
   refine sQ rfl (ms_load_box (a := .r (.str x4.Value)) rfl ts_9 iL rfl rfl) ?_
   refine ob1k h6 fun r2 er2 h7 => ?_
   refine AOps.step rfl rfl rfl (sp_call (r := .r (.bool r2)) (caps := []) (bs := [.r (.str x4.Value)]) rfl iL rfl ⟨⟨_, iL, .d rfl⟩, trivial⟩ (fun _ => w_attr_Value (er2)) rfl) ?_
   refine sQ rfl (sp_not rfl iL) ?_
   refine sM rfl rfl ?_
   refine sV rfl rfl rfl (sp_move rfl iL) ?_
   refine sV rfl rfl rfl (sp_move rfl (iR rfl)) ?_
   refine sW (.two rfl rfl rfl) rfl (sp_fieldAddr_own (ob := .box _ _ _) rfl tf_122_1 iL fR rfl) ?_
   refine sW (.two rfl rfl rfl) rfl (ms_load_box (a := .r (.str x4.Value)) rfl ts_9 (iR rfl) rfl rfl) ?_
   refine sW (.two rfl rfl rfl) rfl (sp_seql rfl (iR rfl) iL) ?_
   refine sV rfl rfl rfl (sp_and rfl (iR rfl) (iR rfl)) ?_
   refine sV rfl rfl rfl (sp_not rfl (iR rfl)) ?_
   refine sQ rfl (sp_and rfl iL (iR rfl)) ?_
   refine sQ rfl (sp_assign rfl iL) ?_
   refine AOps.nil (hK11 _ ?_)
   refine AW.cond rfl (fun hc3 => ?_) (fun hc3 => ?_)
   ·have h8 := ite_t hc3 h7
    refine AW.seq_w fun K12 hK12 wK12 => ?_
    refine AW.weak (s' := ⟨[], [], ((i3 0) + 1), 48⟩) (by exact Weak.cv trivial trivial nL) ?_
    refine AW.region ?_
    refine sQ rfl (sp_assign rfl iL) ?_
    refine AOps.nil (hK12 _ ?_)
    refine AW.ret ?_
    exact retf1 (P := Tryd.prog) (fun (r : Int) => .r (.int .i64 r)) (he1 _ (hx1 _ (Option.some.inj h8).symm)) iL (.t (.d rfl))
   ·have h8 := ite_f hc3 h7
    refine AW.seq_w fun K13 hK13 wK13 => ?_
    refine AW.regionQ hmix (by kernel_rfl) ?_
    refine AQ.step rfl rfl rfl (sp_move rfl iL) ?_
    refine AQ.step rfl rfl rfl (sp_gtr rfl iL iL) ?_
    refine AQ.step rfl rfl rfl (sp_move rfl iL) ?_
    refine AQ.stepW (.one rfl rfl rfl) rfl rfl (sp_fieldAddr_own (ob := .box _ _ _) rfl tf_122_0 iL fR rfl) ?_
    refine AQ.stepW (.one rfl rfl rfl) rfl rfl (ms_load_box (a := .r (.str x4.Name)) rfl ts_9 (iR rfl) rfl rfl) ?_
    refine AQ.stepW (.one rfl rfl rfl) rfl rfl (sp_move rfl iL) ?_
    refine AQ.stepW (.one rfl rfl rfl) rfl rfl (sp_move rfl iL) ?_
    refine ob1k h8 fun x5 ex5 h9 => ?_
    refine AQ.stepW (.one rfl rfl rfl) rfl rfl (ms_sub rfl (iR rfl) iL (gdt ex5)) ?_
    refine ob1k h9 fun x6 ex6 h10 => ?_
    refine AQ.stepW (.one rfl rfl rfl) rfl rfl (ms_idx rfl tg_27.slice (iR rfl) (iR rfl) (fun _ => rfl) (gdt ex6)) ?_
    refine AQ.stepW (.one rfl rfl rfl) rfl rfl (sp_fieldAddr_ro rfl tf_122_0 (iR rfl)) ?_
    refine AQ.stepW (.one rfl rfl rfl) rfl rfl (ms_load (d := .str x6.Name) rfl ts_9 (iR rfl) rfl) ?_
    refine AQ.stepW (.one rfl rfl rfl) rfl rfl (sp_sleq rfl (iR rfl) (iR rfl)) ?_
    refine AQ.step rfl rfl rfl (sp_and rfl iL (iR rfl)) ?_
    refine AQ.step rfl rfl rfl (sp_assign rfl iL) ?_
    refine AQ.nil ?_
    refine hK13 _ ?_
    refine AW.cond rfl (fun hc4 => ?_) (fun hc4 => ?_)
    ·have h11 := ite_t hc4 h10
     refine AW.seq_w fun K14 hK14 wK14 => ?_
     refine AW.weak (s' := ⟨[], [], ((i3 0) + 1), 48⟩) (by exact Weak.cv trivial trivial nL) ?_
     refine AW.region ?_
     refine sQ rfl (sp_assign rfl iL) ?_
     refine AOps.nil (hK14 _ ?_)
     refine AW.ret ?_
     exact retf1 (P := Tryd.prog) (fun (r : Int) => .r (.int .i64 r)) (he1 _ (hx1 _ (Option.some.inj h11).symm)) iL (.t (.d rfl))
    ·have h11 := ite_f hc4 h10
     refine AW.skip ?_
     refine hK7 _ ?_
     refine AW.weak (s' := ⟨[(0, .r (.sl (l1.map GAttr.row))), (1, .r (.bool empty1)), (7, .r (.sl (l1.map GAttr.row))), (8, .r (.int .i64 (l1.length : Int))), (9, .r (.int .i64 x2))], [], ((i3 0) + 1), 48⟩) (by exact Weak.cv ⟨jL, jL, jL, jL, jL, trivial⟩ trivial nL) ?_
     refine AW.region ?_
     refine ob1k h11 fun x7 ex7 h12 => ?_
     refine sQ rfl (ms_add rfl iL iL (fun _ => ex7)) ?_
     refine sM rfl rfl ?_
     refine AOps.nil ?_
     exact NextQ1.mk h12 (vec [((i3 0) + 1)]) ((by exact Weak.cv ⟨jL, jL, jL, jL, jL, trivial⟩ trivial nL))
 ·have h3 := ite_f hc1 h2
  refine AW.exit ?_
  exact wK2 _ _ ((by exact Weak.cv trivial trivial nL)) (J1 _ (vec [(i3 0)]) (hx1 _ (Option.some.inj h3).symm))
set_option maxHeartbeats 4000000 in
set_option maxRecDepth 20000 in
theorem w_attr_Check {l1 : List GAttr} {r : Int} (h : attr_Check l1 = some r) : ARO Tryd.prog 52 [.r (.sl (l1.map GAttr.row))] (.r (.int .i64 r)) := by
 unfold attr_Check at h
 refine ARO.mkF Tryd.func52 rfl rfl Tryd.ntmps52 rfl (Nat.le_of_ble_eq_true rfl) fun n0 => ?_
 refine AW.seq_w fun K1 hK1 wK1 => ?_
 refine AW.region ?_
 refine sQ rfl (sp_assign rfl iL) ?_
 refine AOps.nil (hK1 _ ?_)
 refine AW.seq_w fun K2 hK2 wK2 => ?_
 refine AW.region ?_
 refine sM rfl rfl ?_
 refine ob1k h fun r1 er1 h1 => ?_
 refine AOps.step rfl rfl rfl (sp_call (r := .r (.int .i64 r1)) (caps := []) (bs := [.r (.sl (l1.map GAttr.row)), .r (.bool false)]) rfl iL rfl ⟨⟨_, iL, .d rfl⟩, ⟨_, iL, .d rfl⟩, trivial⟩ (fun _ => w_attr_check (er1)) rfl) ?_
 refine sQ rfl (sp_assign rfl iL) ?_
 refine AOps.nil (hK2 _ ?_)
 refine AW.ret ?_
 exact retf1 (P := Tryd.prog) (fun (r : Int) => .r (.int .i64 r)) h1 iL (.t (.d rfl))
set_option maxHeartbeats 4000000 in
set_option maxRecDepth 20000 in
theorem w_grid_empty {c1 : GCell} {r : Bool} (h : grid_empty c1 = some r) : ARO Tryd.prog 133 [.agg [.r (.int .i64 c1.Row), .r (.int .i64 c1.Col), .r (.str c1.Text), .r (.int .i64 c1.Ref), .r (.sl (c1.Attrs.map GAttr.row))]] (.r (.bool r)) := by
 unfold grid_empty at h
 refine ARO.mkF Tryd.func133 rfl rfl Tryd.ntmps133 rfl (Nat.le_of_ble_eq_true rfl) fun n0 => ?_
 refine AW.seq_w fun K1 hK1 wK1 => ?_
 refine AW.region ?_
 refine AOps.step rfl rfl rfl (ms_box (cs := [.r (.int .i64 c1.Row), .r (.int .i64 c1.Col), .r (.str c1.Text), .r (.int .i64 c1.Ref), .r (.sl (c1.Attrs.map GAttr.row))]) 1 rfl iL rfl rfl) ?_
 refine sQ rfl (sp_assign rfl iL) ?_
 refine AOps.nil (hK1 _ ?_)
 refine AW.seq_w fun K2 hK2 wK2 => ?_
 refine AW.region ?_
 refine sQ rfl (sp_fieldAddr_own (ob := .box _ _ _) rfl tf_60_2 iL fR rfl) ?_
 refine sQ rfl (ms_load_box (a := .r (.str c1.Text)) rfl ts_9 iL rfl rfl) ?_
 refine sQ rfl (sp_seql rfl iL iL) ?_
 refine sM rfl rfl ?_
 refine sV rfl rfl rfl (sp_fieldAddr_own (ob := .box _ _ _) rfl tf_60_3 iL fR rfl) ?_
 refine sV rfl rfl rfl (ms_load_box (a := .r (.int .i64 c1.Ref)) rfl ts_3 (iR rfl) rfl rfl) ?_
 refine sV rfl rfl rfl (sp_eql rfl (iR rfl) iL) ?_
 refine sQ rfl (sp_and rfl iL (iR rfl)) ?_
 refine sM rfl rfl ?_
 refine sV rfl rfl rfl (sp_fieldAddr_own (ob := .box _ _ _) rfl tf_60_4 iL fR rfl) ?_
 refine sV rfl rfl rfl (ms_load_box (a := .r (.sl (c1.Attrs.map GAttr.row))) rfl ts_27 (iR rfl) rfl rfl) ?_
 refine sV rfl rfl rfl (ms_len rfl tg_27.slice (iR rfl)) ?_
 refine sV rfl rfl rfl (sp_eql rfl (iR rfl) iL) ?_
 refine sQ rfl (sp_and rfl iL (iR rfl)) ?_
 refine sQ rfl (sp_assign rfl iL) ?_
 refine AOps.nil (hK2 _ ?_)
 refine AW.ret ?_
 exact retf1 (P := Tryd.prog) (fun (r : Bool) => .r (.bool r)) h iL (.t (.d rfl))
set_option maxHeartbeats 4000000 in
set_option maxRecDepth 20000 in
theorem w_cmp_isNaN_int {x1 : Int} {r : Bool} (h : cmp_isNaN_int x1 = some r) : ARO Tryd.prog 148 [.r (.int .i64 x1)] (.r (.bool r)) := by
 unfold cmp_isNaN_int at h
 refine ARO.mkF Tryd.func148 rfl rfl Tryd.ntmps148 rfl (Nat.le_of_ble_eq_true rfl) fun n0 => ?_
 refine AW.seq_w fun K1 hK1 wK1 => ?_
 refine AW.region ?_
 refine sQ rfl (sp_assign rfl iL) ?_
 refine AOps.nil (hK1 _ ?_)
 refine AW.seq_w fun K2 hK2 wK2 => ?_
 refine AW.region ?_
 refine sM rfl rfl ?_
 refine sM rfl rfl ?_
 refine sQ rfl (sp_neq rfl iL iL) ?_
 refine sQ rfl (sp_assign rfl iL) ?_
 refine AOps.nil (hK2 _ ?_)
 refine AW.ret ?_
 exact retf1 (P := Tryd.prog) (fun (r : Bool) => .r (.bool r)) h iL (.t (.d rfl))
set_option maxHeartbeats 4000000 in
set_option maxRecDepth 20000 in
theorem w_cmp_Compare_int {x1 : Int} {y1 : Int} {r : Int} (h : cmp_Compare_int x1 y1 = some r) : ARO Tryd.prog 128 [.r (.int .i64 x1), .r (.int .i64 y1)] (.r (.int .i64 r)) := by
 unfold cmp_Compare_int at h
 refine ARO.mkF Tryd.func128 rfl rfl Tryd.ntmps128 rfl (Nat.le_of_ble_eq_true rfl) fun n0 => ?_
 refine AW.seq_w fun K1 hK1 wK1 => ?_
 refine AW.region ?_
 refine sQ rfl (sp_assign rfl iL) ?_
 refine AOps.nil (hK1 _ ?_)
 refine AW.seq_w fun K2 hK2 wK2 => ?_
 refine AW.region ?_
 refine sM rfl rfl ?_
 refine ob1k h fun xNaN1 exNaN1 h1 => ?_
 refine AOps.step rfl rfl rfl (sp_call (r := .r (.bool xNaN1)) (caps := []) (bs := [.r (.int .i64 x1)]) rfl iL rfl ⟨⟨_, iL, .d rfl⟩, trivial⟩ (fun _ => w_cmp_isNaN_int (exNaN1)) rfl) ?_
 refine sQ rfl (sp_assign rfl iL) ?_
 refine AOps.nil (hK2 _ ?_)
 refine AW.seq_w fun K3 hK3 wK3 => ?_
 refine AW.region ?_
 refine sM rfl rfl ?_
 refine ob1k h1 fun yNaN1 eyNaN1 h2 => ?_
 refine AOps.step rfl rfl rfl (sp_call (r := .r (.bool yNaN1)) (caps := []) (bs := [.r (.int .i64 y1)]) rfl iL rfl ⟨⟨_, iL, .d rfl⟩, trivial⟩ (fun _ => w_cmp_isNaN_int (eyNaN1)) rfl) ?_
 refine sQ rfl (sp_assign rfl iL) ?_
 refine AOps.nil (hK3 _ ?_)
 refine AW.seq_w fun K4 hK4 wK4 => ?_
 refine AW.seq_w fun K5 hK5 wK5 => ?_
 refine AW.region ?_
 refine sM rfl rfl ?_
 refine AOps.nil (hK5 _ ?_)
 refine AW.cond rfl (fun hc1 => ?_) (fun hc1 => ?_)
 ·have h3 := ite_t hc1 h2
  refine AW.seq_w fun K6 hK6 wK6 => ?_
  refine AW.seq_w fun K7 hK7 wK7 => ?_
  refine AW.weak (s' := ⟨[(6, .r (.bool yNaN1))], [], n0, 20⟩) (by exact Weak.cv ⟨jL, trivial⟩ trivial nL) ?_
  refine AW.region ?_
  refine sM rfl rfl ?_
  refine AOps.nil (hK7 _ ?_)
  refine AW.cond rfl (fun hc2 => ?_) (fun hc2 => ?_)
  ·have h4 := ite_t hc2 h3
   refine AW.seq_w fun K8 hK8 wK8 => ?_
   refine AW.region ?_
   refine sQ rfl (sp_assign rfl iL) ?_
   refine AOps.nil (hK8 _ ?_)
   refine AW.ret ?_
   exact retf1 (P := Tryd.prog) (fun (r : Int) => .r (.int .i64 r)) h4 iL (.t (.d rfl))
  ·have h4 := ite_f hc2 h3
   refine AW.skip ?_
   refine hK6 _ ?_
   refine AW.seq_w fun K9 hK9 wK9 => ?_
   refine AW.region ?_
   refine sQ rfl (sp_assign rfl iL) ?_
   refine AOps.nil (hK9 _ ?_)
   refine AW.ret ?_
   exact retf1 (P := Tryd.prog) (fun (r : Int) => .r (.int .i64 r)) h4 iL (.t (.d rfl))
 ·have h3 := ite_f hc1 h2
  refine AW.skip ?_
  refine hK4 _ ?_
  refine AW.seq_w fun K10 hK10 wK10 => ?_
  refine AW.seq_w fun K11 hK11 wK11 => ?_
  refine AW.region ?_
  refine sM rfl rfl ?_
  refine AOps.nil (hK11 _ ?_)
  refine AW.cond rfl (fun hc3 => ?_) (fun hc3 => ?_)
  ·have h5 := ite_t hc3 h3
   refine AW.seq_w fun K12 hK12 wK12 => ?_
   refine AW.weak (s' := ⟨[], [], n0, 20⟩) (by exact Weak.cv trivial trivial nL) ?_
   refine AW.region ?_
   refine sQ rfl (sp_assign rfl iL) ?_
   refine AOps.nil (hK12 _ ?_)
   refine AW.ret ?_
   exact retf1 (P := Tryd.prog) (fun (r : Int) => .r (.int .i64 r)) h5 iL (.t (.d rfl))
  ·have h5 := ite_f hc3 h3
   refine AW.skip ?_
   refine hK10 _ ?_
   refine AW.seq_w fun K13 hK13 wK13 => ?_
   refine AW.seq_w fun K14 hK14 wK14 => ?_
   refine AW.weak (s' := ⟨[(0, .r (.int .i64 x1)), (1, .r (.int .i64 y1))], [], n0, 20⟩) (by exact Weak.cv ⟨jL, jL, trivial⟩ trivial nL) ?_
   refine AW.region ?_
   refine sM rfl rfl ?_
   refine sM rfl rfl ?_
   refine sQ rfl (sp_lss rfl iL iL) ?_
   refine AOps.nil (hK14 _ ?_)
   refine AW.cond rfl (fun hc4 => ?_) (fun hc4 => ?_)
   ·have h6 := ite_t hc4 h5
    refine AW.seq_w fun K15 hK15 wK15 => ?_
    refine AW.region ?_
    refine sQ rfl (sp_assign rfl iL) ?_
    refine AOps.nil (hK15 _ ?_)
    refine AW.ret ?_
    exact retf1 (P := Tryd.prog) (fun (r : Int) => .r (.int .i64 r)) h6 iL (.t (.d rfl))
   ·have h6 := ite_f hc4 h5
    refine AW.skip ?_
    refine hK13 _ ?_
    refine AW.seq_w fun K16 hK16 wK16 => ?_
    refine AW.seq_w fun K17 hK17 wK17 => ?_
    refine AW.region ?_
    refine sM rfl rfl ?_
    refine sM rfl rfl ?_
    refine sQ rfl (sp_gtr rfl iL iL) ?_
    refine AOps.nil (hK17 _ ?_)
    refine AW.cond rfl (fun hc5 => ?_) (fun hc5 => ?_)
    ·have h7 := ite_t hc5 h6
     refine AW.seq_w fun K18 hK18 wK18 => ?_
     refine AW.region ?_
     refine sQ rfl (sp_assign rfl iL) ?_
     refine AOps.nil (hK18 _ ?_)
     refine AW.ret ?_
     exact retf1 (P := Tryd.prog) (fun (r : Int) => .r (.int .i64 r)) h7 iL (.t (.d rfl))
    ·have h7 := ite_f hc5 h6
     refine AW.skip ?_
     refine hK16 _ ?_
     refine AW.seq_w fun K19 hK19 wK19 => ?_
     refine AW.region ?_
     refine sQ rfl (sp_assign rfl iL) ?_
     refine AOps.nil (hK19 _ ?_)
     refine AW.ret ?_
     exact retf1 (P := Tryd.prog) (fun (r : Int) => .r (.int .i64 r)) h7 iL (.t (.d rfl))
set_option maxHeartbeats 4000000 in
set_option maxRecDepth 20000 in
theorem w_cmp_Or_int {vals1 : List Int} {r : Int} (h : cmp_Or_int vals1 = some r) : ARO Tryd.prog 127 [.r (.sl (vals1.map (rInt .i64)))] (.r (.int .i64 r)) := by
 unfold cmp_Or_int at h
 refine ARO.mkF Tryd.func127 rfl rfl Tryd.ntmps127 rfl (Nat.le_of_ble_eq_true rfl) fun n0 => ?_
 refine AW.seq_w fun K1 hK1 wK1 => ?_
 refine AW.region ?_
 refine sQ rfl (sp_assign rfl iL) ?_
 refine AOps.nil (hK1 _ ?_)
 refine AW.seq_w fun K2 hK2 wK2 => ?_
 refine AW.region ?_
 refine sQ rfl (sp_assign rfl iL) ?_
 refine AOps.nil (hK2 _ ?_)
 refine AW.seq_w fun K3 hK3 wK3 => ?_
 refine AW.seq_w fun K4 hK4 wK4 => ?_
 refine AW.region ?_
 refine sM rfl rfl ?_
 refine sQ rfl (ms_len rfl tg_78.slice iL) ?_
 refine sM rfl rfl ?_
 refine AOps.nil (hK4 _ ?_)
 refine AW.block ?_
 refine jc1k h fun o1 hit1 hk1 he1 => ?_
 have J1 : ∀ (u2 : Unit) (i5 : Nat → Nat), o1 = .nrm u2 → K3 ⟨[(3, .r (.int .i64 0))], [], (i5 0), 18⟩ := by
  intro u2 i5 e
  have h1 := hk1 _ e
  refine hK3 _ ?_
  refine AW.seq_w fun K5 hK5 wK5 => ?_
  refine AW.region ?_
  refine sM rfl rfl ?_
  refine sQ rfl (sp_assign rfl iL) ?_
  refine AOps.nil (hK5 _ ?_)
  refine AW.ret ?_
  exact retf1 (P := Tryd.prog) (fun (r : Int) => .r (.int .i64 r)) h1 iL (.t (.d rfl))
 refine AW.iter1 (fun (x2 : Int) i3 => ⟨[(3, .r (.int .i64 0)), (6, .r (.sl (vals1.map (rInt .i64)))), (7, .r (.int .i64 (vals1.length : Int))), (8, .r (.int .i64 x2))], [], (i3 0), 18⟩) (vec [n0]) hit1 ((by exact Weak.cv ⟨jL, jL, jL, jL, trivial⟩ trivial nL)) ?_
 intro x2 i3 v1 hv1 hx1
 have h2 : cmp_Or_int_L1 vals1 x2 = some v1 := hv1; unfold cmp_Or_int_L1 at h2
 refine AW.seq_w fun K6 hK6 wK6 => ?_
 refine AW.region ?_
 refine sQ rfl (sp_lss rfl iL iL) ?_
 refine AOps.nil (hK6 _ ?_)
 refine AW.seq_w fun K7 hK7 wK7 => ?_
 refine AW.cond rfl (fun hc1 => ?_) (fun hc1 => ?_)
 ·have h3 := ite_t hc1 h2
  refine AW.skip ?_
  refine hK7 _ ?_
  refine AW.seq_w fun K8 hK8 wK8 => ?_
  refine AW.block ?_
  refine AW.seq_w fun K9 hK9 wK9 => ?_
  refine AW.region ?_
  refine ob1k h3 fun x4 ex4 h4 => ?_
  refine sQ rfl (ms_idx rfl tg_78.slice iL iL (fun _ => rfl) (fun _ => ex4)) ?_
  refine sQ rfl (ms_load (d := .int .i64 x4) rfl ts_3 iL rfl) ?_
  refine sQ rfl (sp_assign rfl iL) ?_
  refine AOps.nil (hK9 _ ?_)
  refine AW.seq_w fun K10 hK10 wK10 => ?_
  refine AW.region ?_
  refine sM rfl rfl ?_
  refine sM rfl rfl ?_
  refine sQ rfl (sp_neq rfl iL iL) ?_
  refine AOps.nil (hK10 _ ?_)
  refine AW.cond rfl (fun hc2 => ?_) (fun hc2 => ?_)
  ·have h5 := ite_t hc2 h4
   refine AW.seq_w fun K11 hK11 wK11 => ?_
   refine AW.weak (s' := ⟨[(5, .r (.int .i64 x4))], [], (i3 0), 18⟩) (by exact Weak.cv ⟨jL, trivial⟩ trivial nL) ?_
   refine AW.region ?_
   refine sM rfl rfl ?_
   refine sQ rfl (sp_assign rfl iL) ?_
   refine AOps.nil (hK11 _ ?_)
   refine AW.ret ?_
   exact retf1 (P := Tryd.prog) (fun (r : Int) => .r (.int .i64 r)) (he1 _ (hx1 _ (Option.some.inj h5).symm)) iL (.t (.d rfl))
  ·have h5 := ite_f hc2 h4
   refine AW.skip ?_
   refine hK8 _ ?_
   refine AW.region ?_
   refine ob1k h5 fun x5 ex5 h6 => ?_
   refine sQ rfl (ms_add rfl iL iL (fun _ => ex5)) ?_
   refine sM rfl rfl ?_
   refine AOps.nil ?_
   exact NextQ1.mk h6 (vec [(i3 0)]) ((by exact Weak.cv ⟨jL, jL, jL, jL, trivial⟩ trivial nL))
 ·have h3 := ite_f hc1 h2
  refine AW.exit ?_
  exact wK3 _ _ ((by exact Weak.cv ⟨jL, trivial⟩ trivial nL)) (J1 _ (vec [(i3 0)]) (hx1 _ (Option.some.inj h3).symm))
set_option maxHeartbeats 4000000 in
set_option maxRecDepth 20000 in
theorem w_grid_order {a1 : GCell} {b1 : GCell} {r : Int} (h : grid_order a1 b1 = some r) : ARO Tryd.prog 134 [.agg [.r (.int .i64 a1.Row), .r (.int .i64 a1.Col), .r (.str a1.Text), .r (.int .i64 a1.Ref), .r (.sl (a1.Attrs.map GAttr.row))], .agg [.r (.int .i64 b1.Row), .r (.int .i64 b1.Col), .r (.str b1.Text), .r (.int .i64 b1.Ref), .r (.sl (b1.Attrs.map GAttr.row))]] (.r (.int .i64 r)) := by
 unfold grid_order at h
 refine ARO.mkF Tryd.func134 rfl rfl Tryd.ntmps134 rfl (Nat.le_of_ble_eq_true rfl) fun n0 => ?_
 refine AW.seq_w fun K1 hK1 wK1 => ?_
 refine AW.region ?_
 refine AOps.step rfl rfl rfl (ms_box (cs := [.r (.int .i64 a1.Row), .r (.int .i64 a1.Col), .r (.str a1.Text), .r (.int .i64 a1.Ref), .r (.sl (a1.Attrs.map GAttr.row))]) 2 rfl iL rfl rfl) ?_
 refine AOps.step rfl rfl rfl (ms_box (cs := [.r (.int .i64 b1.Row), .r (.int .i64 b1.Col), .r (.str b1.Text), .r (.int .i64 b1.Ref), .r (.sl (b1.Attrs.map GAttr.row))]) 3 rfl iL rfl rfl) ?_
 refine sQ rfl (sp_assign rfl iL) ?_
 refine AOps.nil (hK1 _ ?_)
 refine AW.seq_w fun K2 hK2 wK2 => ?_
 refine ob1k h fun r1 er1 h1 => ?_
 refine AW.regionP 9 [⟨some 5, (fun _ => .ptr 2 n0 0 0), none, []⟩, ⟨some 6, (fun _ => .r (.int .i64 a1.Row)), none, []⟩, ⟨some 7, (fun _ => .ptr 3 (n0 + 1) 0 0), none, []⟩, ⟨some 8, (fun _ => .r (.int .i64 b1.Row)), none, []⟩, ⟨some 9, (fun _ => .r (.int .i64 r1)), none, []⟩, ⟨some 10, (fun _ => .ptr 2 n0 0 1), none, []⟩, ⟨some 11, (fun _ => .r (.int .i64 a1.Col)), none, []⟩, ⟨some 12, (fun _ => .ptr 3 (n0 + 1) 0 1), none, []⟩, ⟨some 13, (fun _ => .r (.int .i64 b1.Col)), none, []⟩] hmix (by kernel_rfl) (by exact ⟨fun _ _ h => ⟨rfl, fun _ _ e => by cases e⟩, fun _ _ h => ⟨rfl, fun _ _ e => by cases e⟩, fun _ _ h => ⟨rfl, fun _ _ e => by cases e⟩, fun _ _ h => ⟨rfl, fun _ _ e => by cases e⟩, fun _ _ h => ⟨rfl, fun _ _ e => by cases e⟩, fun _ _ h => ⟨rfl, fun _ _ e => by cases e⟩, fun _ _ h => ⟨rfl, fun _ _ e => by cases e⟩, fun _ _ h => ⟨rfl, fun _ _ e => by cases e⟩, fun _ _ h => ⟨rfl, fun _ _ e => by cases e⟩, trivial⟩) rfl (by exact ⟨Ob.quiet (n1 := fun n => n) rfl rfl (by intro d h; cases h; rfl) rfl (fun _ => [(2, .ptr 2 n0 0 0)]) (fun _ => [(2, some (.box n0 60 [.r (.int .i64 a1.Row), .r (.int .i64 a1.Col), .r (.str a1.Text), .r (.int .i64 a1.Ref), .r (.sl (a1.Attrs.map GAttr.row))]))]) (fun D G1 hr => ⟨inE_base rfl rfl, trivial⟩) (fun D G1 hr => ⟨inH_base rfl rfl, trivial⟩) (fun _ _ => rfl) (fun G1 e h' n => OpQ.spec (v := .ptr 2 n0 0 0) (sp_fieldAddr_own (ob := .box _ _ _) rfl tf_60_0 (.inl rfl) (fun _ => rfl) rfl) _),
   Ob.quiet (n1 := fun n => n) rfl rfl (by intro d h; cases h; rfl) rfl (fun _ => [(5, .ptr 2 n0 0 0)]) (fun _ => [(2, some (.box n0 60 [.r (.int .i64 a1.Row), .r (.int .i64 a1.Col), .r (.str a1.Text), .r (.int .i64 a1.Ref), .r (.sl (a1.Attrs.map GAttr.row))]))]) (fun D G1 hr => ⟨inE_op hr 0 rfl rfl (by kernel_rfl) rfl rfl, trivial⟩) (fun D G1 hr => ⟨inH_base rfl rfl, trivial⟩) (fun _ _ => rfl) (fun G1 e h' n => OpQ.spec (v := .r (.int .i64 a1.Row)) (ms_load_box (a := .r (.int .i64 a1.Row)) rfl ts_3 (.inl rfl) rfl rfl) _),
   Ob.quiet (n1 := fun n => n) rfl rfl (by intro d h; cases h; rfl) rfl (fun _ => [(3, .ptr 3 (n0 + 1) 0 0)]) (fun _ => [(3, some (.box (n0 + 1) 60 [.r (.int .i64 b1.Row), .r (.int .i64 b1.Col), .r (.str b1.Text), .r (.int .i64 b1.Ref), .r (.sl (b1.Attrs.map GAttr.row))]))]) (fun D G1 hr => ⟨inE_base rfl rfl, trivial⟩) (fun D G1 hr => ⟨inH_base rfl rfl, trivial⟩) (fun _ _ => rfl) (fun G1 e h' n => OpQ.spec (v := .ptr 3 (n0 + 1) 0 0) (sp_fieldAddr_own (ob := .box _ _ _) rfl tf_60_0 (.inl rfl) (fun _ => rfl) rfl) _),
   Ob.quiet (n1 := fun n => n) rfl rfl (by intro d h; cases h; rfl) rfl (fun _ => [(7, .ptr 3 (n0 + 1) 0 0)]) (fun _ => [(3, some (.box (n0 + 1) 60 [.r (.int .i64 b1.Row), .r (.int .i64 b1.Col), .r (.str b1.Text), .r (.int .i64 b1.Ref), .r (.sl (b1.Attrs.map GAttr.row))]))]) (fun D G1 hr => ⟨inE_op hr 2 rfl rfl (by kernel_rfl) rfl rfl, trivial⟩) (fun D G1 hr => ⟨inH_base rfl rfl, trivial⟩) (fun _ _ => rfl) (fun G1 e h' n => OpQ.spec (v := .r (.int .i64 b1.Row)) (ms_load_box (a := .r (.int .i64 b1.Row)) rfl ts_3 (.inl rfl) rfl rfl) _),
   Ob.quiet (n1 := fun n => n) rfl rfl (by intro d h; cases h; rfl) rfl (fun _ => [(6, .r (.int .i64 a1.Row)), (8, .r (.int .i64 b1.Row))]) (fun _ => []) (fun D G1 hr => ⟨inE_op hr 1 rfl rfl (by kernel_rfl) rfl rfl, inE_op hr 3 rfl rfl (by kernel_rfl) rfl rfl, trivial⟩) (fun D G1 hr => trivial) (fun _ _ => rfl) (fun G1 e h' n => sp_call (r := .r (.int .i64 r1)) (caps := []) (bs := [.r (.int .i64 a1.Row), .r (.int .i64 b1.Row)]) rfl (.inl rfl) rfl ⟨⟨_, (.inl rfl), .d rfl⟩, ⟨_, (.inl rfl), .d rfl⟩, trivial⟩ (fun _ => w_cmp_Compare_int (er1)) rfl),
   Ob.quiet (n1 := fun n => n) rfl rfl (by intro d h; cases h; rfl) rfl (fun _ => [(2, .ptr 2 n0 0 0)]) (fun _ => [(2, some (.box n0 60 [.r (.int .i64 a1.Row), .r (.int .i64 a1.Col), .r (.str a1.Text), .r (.int .i64 a1.Ref), .r (.sl (a1.Attrs.map GAttr.row))]))]) (fun D G1 hr => ⟨inE_base rfl rfl, trivial⟩) (fun D G1 hr => ⟨inH_base rfl rfl, trivial⟩) (fun _ _ => rfl) (fun G1 e h' n => OpQ.spec (v := .ptr 2 n0 0 1) (sp_fieldAddr_own (ob := .box _ _ _) rfl tf_60_1 (.inl rfl) (fun _ => rfl) rfl) _),
   Ob.quiet (n1 := fun n => n) rfl rfl (by intro d h; cases h; rfl) rfl (fun _ => [(10, .ptr 2 n0 0 1)]) (fun _ => [(2, some (.box n0 60 [.r (.int .i64 a1.Row), .r (.int .i64 a1.Col), .r (.str a1.Text), .r (.int .i64 a1.Ref), .r (.sl (a1.Attrs.map GAttr.row))]))]) (fun D G1 hr => ⟨inE_op hr 5 rfl rfl (by kernel_rfl) rfl rfl, trivial⟩) (fun D G1 hr => ⟨inH_base rfl rfl, trivial⟩) (fun _ _ => rfl) (fun G1 e h' n => OpQ.spec (v := .r (.int .i64 a1.Col)) (ms_load_box (a := .r (.int .i64 a1.Col)) rfl ts_3 (.inl rfl) rfl rfl) _),
   Ob.quiet (n1 := fun n => n) rfl rfl (by intro d h; cases h; rfl) rfl (fun _ => [(3, .ptr 3 (n0 + 1) 0 0)]) (fun _ => [(3, some (.box (n0 + 1) 60 [.r (.int .i64 b1.Row), .r (.int .i64 b1.Col), .r (.str b1.Text), .r (.int .i64 b1.Ref), .r (.sl (b1.Attrs.map GAttr.row))]))]) (fun D G1 hr => ⟨inE_base rfl rfl, trivial⟩) (fun D G1 hr => ⟨inH_base rfl rfl, trivial⟩) (fun _ _ => rfl) (fun G1 e h' n => OpQ.spec (v := .ptr 3 (n0 + 1) 0 1) (sp_fieldAddr_own (ob := .box _ _ _) rfl tf_60_1 (.inl rfl) (fun _ => rfl) rfl) _),
   Ob.quiet (n1 := fun n => n) rfl rfl (by intro d h; cases h; rfl) rfl (fun _ => [(12, .ptr 3 (n0 + 1) 0 1)]) (fun _ => [(3, some (.box (n0 + 1) 60 [.r (.int .i64 b1.Row), .r (.int .i64 b1.Col), .r (.str b1.Text), .r (.int .i64 b1.Ref), .r (.sl (b1.Attrs.map GAttr.row))]))]) (fun D G1 hr => ⟨inE_op hr 7 rfl rfl (by kernel_rfl) rfl rfl, trivial⟩) (fun D G1 hr => ⟨inH_base rfl rfl, trivial⟩) (fun _ _ => rfl) (fun G1 e h' n => OpQ.spec (v := .r (.int .i64 b1.Col)) (ms_load_box (a := .r (.int .i64 b1.Col)) rfl ts_3 (.inl rfl) rfl rfl) _),
   trivial⟩) fun G1 n1 => ?_
 refine AOps.weak (s' := ⟨[(0, .agg [.r (.int .i64 a1.Row), .r (.int .i64 a1.Col), .r (.str a1.Text), .r (.int .i64 a1.Ref), .r (.sl (a1.Attrs.map GAttr.row))]), (1, .agg [.r (.int .i64 b1.Row), .r (.int .i64 b1.Col), .r (.str b1.Text), .r (.int .i64 b1.Ref), .r (.sl (b1.Attrs.map GAttr.row))]), (2, .ptr 2 n0 0 0), (3, .ptr 3 (n0 + 1) 0 0), (4, .r (.int .i64 0)), (5, .ptr 2 n0 0 0), (6, .r (.int .i64 a1.Row)), (7, .ptr 3 (n0 + 1) 0 0), (8, .r (.int .i64 b1.Row)), (9, .r (.int .i64 r1)), (10, .ptr 2 n0 0 1), (11, .r (.int .i64 a1.Col)), (12, .ptr 3 (n0 + 1) 0 1), (13, .r (.int .i64 b1.Col))], [(2, some (.box n0 60 [.r (.int .i64 a1.Row), .r (.int .i64 a1.Col), .r (.str a1.Text), .r (.int .i64 a1.Ref), .r (.sl (a1.Attrs.map GAttr.row))])), (3, some (.box (n0 + 1) 60 [.r (.int .i64 b1.Row), .r (.int .i64 b1.Col), .r (.str b1.Text), .r (.int .i64 b1.Ref), .r (.sl (b1.Attrs.map GAttr.row))]))], n1, 17⟩) (by exact Weak.cv ⟨jL, jL, jL, jL, jL, jL, jL, jL, jL, jL, jL, jL, jL, jL, trivial⟩ ⟨.inl rfl, .inl rfl, trivial⟩ nL) ?_
 refine ob1k h1 fun r2 er2 h2 => ?_
 refine AOps.step rfl rfl rfl (sp_call (r := .r (.int .i64 r2)) (caps := []) (bs := [.r (.int .i64 a1.Col), .r (.int .i64 b1.Col)]) rfl iL rfl ⟨⟨_, iL, .d rfl⟩, ⟨_, iL, .d rfl⟩, trivial⟩ (fun _ => w_cmp_Compare_int (er2)) rfl) ?_
 refine AOps.step rfl rfl rfl (ms_lit 15 rfl tg_78 (f := (rInt .i64)) (l := ([r1, r2] : List Int)) ⟨rfl, ⟨_, iL, rfl⟩, rfl, ⟨_, iL, rfl⟩, trivial⟩ rfl (fun _ => rfl) rfl) ?_
 refine ob1k h2 fun r3 er3 h3 => ?_
 refine AOps.step rfl rfl rfl (sp_call (r := .r (.int .i64 r3)) (caps := []) (bs := [.r (.sl ([r1, r2].map (rInt .i64)))]) rfl iL rfl ⟨⟨_, iL, .one (.own rfl)⟩, trivial⟩ (fun _ => w_cmp_Or_int (er3)) rfl) ?_
 refine sQ rfl (sp_assign rfl iL) ?_
 refine AOps.nil (hK2 _ ?_)
 refine AW.ret ?_
 exact retf1 (P := Tryd.prog) (fun (r : Int) => .r (.int .i64 r)) h3 iL (.t (.d rfl))
set_option maxHeartbeats 4000000 in
set_option maxRecDepth 20000 in
theorem w_grid_cells {l1 : List GCell} {rows1 : Int} {cols1 : Int} {none1 : Bool} {r : Int} (h : grid_cells l1 rows1 cols1 none1 = some r) : ARO Tryd.prog 89 [.r (.sl (l1.map GCell.row)), .r (.int .i64 rows1), .r (.int .i64 cols1), .r (.bool none1)] (.r (.int .i64 r)) := by
 unfold grid_cells at h
 refine ARO.mkF Tryd.func89 rfl rfl Tryd.ntmps89 rfl (Nat.le_of_ble_eq_true rfl) fun n0 => ?_
 refine AW.seq_w fun K1 hK1 wK1 => ?_
 refine AW.region ?_
 refine sQ rfl (sp_assign rfl iL) ?_
 refine AOps.nil (hK1 _ ?_)
 refine AW.seq_w fun K2 hK2 wK2 => ?_
 refine AW.seq_w fun K3 hK3 wK3 => ?_
 refine AW.region ?_
 refine sM rfl rfl ?_
 refine sQ rfl (ms_len rfl tg_29.slice iL) ?_
 refine sM rfl rfl ?_
 refine AOps.nil (hK3 _ ?_)
 refine AW.block ?_
 refine jc1k h fun o1 hit1 hk1 he1 => ?_
 have J1 : ∀ (u2 : Unit) (i5 : Nat → Nat), o1 = .nrm u2 → K2 ⟨[], [], (i5 0), 79⟩ := by
  intro u2 i5 e
  have h1 := hk1 _ e
  refine hK2 _ ?_
  refine AW.seq_w fun K4 hK4 wK4 => ?_
  refine AW.region ?_
  refine sQ rfl (sp_assign rfl iL) ?_
  refine AOps.nil (hK4 _ ?_)
  refine AW.ret ?_
  exact retf1 (P := Tryd.prog) (fun (r : Int) => .r (.int .i64 r)) h1 iL (.t (.d rfl))
 refine AW.iter1 (fun (x2 : Int) i3 => ⟨[(0, .r (.sl (l1.map GCell.row))), (1, .r (.int .i64 rows1)), (2, .r (.int .i64 cols1)), (3, .r (.bool none1)), (12, .r (.sl (l1.map GCell.row))), (13, .r (.int .i64 (l1.length : Int))), (14, .r (.int .i64 x2))], [], (i3 0), 79⟩) (vec [n0]) hit1 ((by exact Weak.cv ⟨jL, jL, jL, jL, jL, jL, jL, trivial⟩ trivial nL)) ?_
 intro x2 i3 v1 hv1 hx1
 have h2 : grid_cells_L1 l1 rows1 cols1 none1 x2 = some v1 := hv1; unfold grid_cells_L1 at h2
 refine AW.seq_w fun K5 hK5 wK5 => ?_
 refine AW.region ?_
 refine sQ rfl (sp_lss rfl iL iL) ?_
 refine AOps.nil (hK5 _ ?_)
 refine AW.seq_w fun K6 hK6 wK6 => ?_
 refine AW.cond rfl (fun hc1 => ?_) (fun hc1 => ?_)
 ·have h3 := ite_t hc1 h2
  refine AW.skip ?_
  refine hK6 _ ?_
  refine AW.seq_w fun K7 hK7 wK7 => ?_
  refine AW.block ?_
  refine AW.seq_w fun K8 hK8 wK8 => ?_
  refine AW.region ?_
  refine sM rfl rfl ?_
  refine ob1k h3 fun x4 ex4 h4 => ?_
  refine sQ rfl (ms_idx rfl tg_29.slice iL iL (fun _ => rfl) (fun _ => ex4)) ?_
  refine sQ rfl (ms_loadA (cs := [.r (.int .i64 x4.Row), .r (.int .i64 x4.Col), .r (.str x4.Text), .r (.int .i64 x4.Ref), .r (.sl (x4.Attrs.map GAttr.row))]) rfl ta_60 iL rfl rfl) ?_
  refine AOps.step rfl rfl rfl (ms_alloc (cs := [.r (.int .i64 0), .r (.int .i64 0), .r (.str []), .r (.int .i64 0), .cst (.slice none 0 0)]) 10 rfl t0_60 rfl rfl) ?_
  refine sQ rfl (sp_assign rfl iL) ?_
  refine AOps.step0 rfl rfl (ms_store_box (ds := [.r (.int .i64 x4.Row), .r (.int .i64 x4.Col), .r (.str x4.Text), .r (.int .i64 x4.Ref), .r (.sl (x4.Attrs.map GAttr.row))]) rfl tz_60 iL rfl iL rfl rfl rfl rfl) ?_
  refine AOps.nil (hK8 _ ?_)
  refine AW.seq_w fun K9 hK9 wK9 => ?_
  refine AW.block ?_
  refine AW.seq_w fun K10 hK10 wK10 => ?_
  refine AW.region ?_
  refine sQ rfl (sp_fieldAddr_own (ob := .box _ _ _) rfl tf_60_0 iL fR rfl) ?_
  refine sQ rfl (ms_load_box (a := .r (.int .i64 x4.Row)) rfl ts_3 iL rfl rfl) ?_
  refine sQ rfl (sp_lss rfl iL iL) ?_
  refine sM rfl rfl ?_
  refine sV rfl rfl rfl (sp_fieldAddr_own (ob := .box _ _ _) rfl tf_60_0 iL fR rfl) ?_
  refine sV rfl rfl rfl (ms_load_box (a := .r (.int .i64 x4.Row)) rfl ts_3 (iR rfl) rfl rfl) ?_
  refine sV rfl rfl rfl (sp_move rfl iL) ?_
  refine sV rfl rfl rfl (sp_geq rfl (iR rfl) (iR rfl)) ?_
  refine sQ rfl (sp_or rfl iL (iR rfl)) ?_
  refine sM rfl rfl ?_
  refine sV rfl rfl rfl (sp_fieldAddr_own (ob := .box _ _ _) rfl tf_60_1 iL fR rfl) ?_
  refine sV rfl rfl rfl (ms_load_box (a := .r (.int .i64 x4.Col)) rfl ts_3 (iR rfl) rfl rfl) ?_
  refine sV rfl rfl rfl (sp_lss rfl (iR rfl) iL) ?_
  refine sQ rfl (sp_or rfl iL (iR rfl)) ?_
  refine sM rfl rfl ?_
  refine sV rfl rfl rfl (sp_fieldAddr_own (ob := .box _ _ _) rfl tf_60_1 iL fR rfl) ?_
  refine sV rfl rfl rfl (ms_load_box (a := .r (.int .i64 x4.Col)) rfl ts_3 (iR rfl) rfl rfl) ?_
  refine sV rfl rfl rfl (sp_move rfl iL) ?_
  refine sV rfl rfl rfl (sp_geq rfl (iR rfl) (iR rfl)) ?_
  refine sQ rfl (sp_or rfl iL (iR rfl)) ?_
  refine sQ rfl (sp_assign rfl iL) ?_
  refine AOps.nil (hK10 _ ?_)
  refine AW.cond rfl (fun hc2 => ?_) (fun hc2 => ?_)
  ·have h5 := ite_t hc2 h4
   refine AW.seq_w fun K11 hK11 wK11 => ?_
   refine AW.weak (s' := ⟨[], [], ((i3 0) + 1), 79⟩) (by exact Weak.cv trivial trivial nL) ?_
   refine AW.region ?_
   refine sQ rfl (sp_assign rfl iL) ?_
   refine AOps.nil (hK11 _ ?_)
   refine AW.ret ?_
   exact retf1 (P := Tryd.prog) (fun (r : Int) => .r (.int .i64 r)) (he1 _ (hx1 _ (Option.some.inj h5).symm)) iL (.t (.d rfl))
  ·have h5 := ite_f hc2 h4
   refine AW.seq_w fun K12 hK12 wK12 => ?_
   refine AW.weak (s' := ⟨[(0, .r (.sl (l1.map GCell.row))), (1, .r (.int .i64 rows1)), (2, .r (.int .i64 cols1)), (3, .r (.bool none1)), (9, .r (.int .i64 x2)), (10, .ptr 10 (i3 0) 0 0), (12, .r (.sl (l1.map GCell.row))), (13, .r (.int .i64 (l1.length : Int))), (14, .r (.int .i64 x2))], [(10, some (.box (i3 0) 60 [.r (.int .i64 x4.Row), .r (.int .i64 x4.Col), .r (.str x4.Text), .r (.int .i64 x4.Ref), .r (.sl (x4.Attrs.map GAttr.row))]))], ((i3 0) + 1), 79⟩) (by exact Weak.cv ⟨jL, jL, jL, jL, jL, jL, jL, jL, jL, trivial⟩ ⟨.inl rfl, trivial⟩ nL) ?_
   refine AW.region ?_
   refine sQ rfl (sp_fieldAddr_own (ob := .box _ _ _) rfl tf_60_3 iL fR rfl) ?_
   refine sQ rfl (ms_load_box (a := .r (.int .i64 x4.Ref)) rfl ts_3 iL rfl rfl) ?_
   refine sQ rfl (sp_lss rfl iL iL) ?_
   refine sM rfl rfl ?_
   refine sV rfl rfl rfl (sp_fieldAddr_own (ob := .box _ _ _) rfl tf_60_3 iL fR rfl) ?_
   refine sV rfl rfl rfl (ms_load_box (a := .r (.int .i64 x4.Ref)) rfl ts_3 (iR rfl) rfl rfl) ?_
   refine sV rfl rfl rfl (sp_gtr rfl (iR rfl) iL) ?_
   refine sQ rfl (sp_or rfl iL (iR rfl)) ?_
   refine sQ rfl (sp_assign rfl iL) ?_
   refine AOps.nil (hK12 _ ?_)
   refine AW.cond rfl (fun hc3 => ?_) (fun hc3 => ?_)
   ·have h6 := ite_t hc3 h5
    refine AW.seq_w fun K13 hK13 wK13 => ?_
    refine AW.weak (s' := ⟨[], [], ((i3 0) + 1), 79⟩) (by exact Weak.cv trivial trivial nL) ?_
    refine AW.region ?_
    refine sQ rfl (sp_assign rfl iL) ?_
    refine AOps.nil (hK13 _ ?_)
    refine AW.ret ?_
    exact retf1 (P := Tryd.prog) (fun (r : Int) => .r (.int .i64 r)) (he1 _ (hx1 _ (Option.some.inj h6).symm)) iL (.t (.d rfl))
   ·have h6 := ite_f hc3 h5
    refine AW.seq_w fun K14 hK14 wK14 => ?_
    refine AW.region ?_
    refine sQ rfl (sp_fieldAddr_own (ob := .box _ _ _) rfl tf_60_2 iL fR rfl) ?_
    refine sQ rfl (ms_load_box (a := .r (.str x4.Text)) rfl ts_9 iL rfl rfl) ?_
    refine ob1k h6 fun r1 er1 h7 => ?_
    refine AOps.step rfl rfl rfl (sp_call (r := .r (.bool r1)) (caps := []) (bs := [.r (.str x4.Text)]) rfl iL rfl ⟨⟨_, iL, .d rfl⟩, trivial⟩ (fun _ => w_grid_Text (er1)) rfl) ?_
    refine sQ rfl (sp_not rfl iL) ?_
    refine sQ rfl (sp_assign rfl iL) ?_
    refine AOps.nil (hK14 _ ?_)
    refine AW.cond rfl (fun hc4 => ?_) (fun hc4 => ?_)
    ·have h8 := ite_t hc4 h7
     refine AW.seq_w fun K15 hK15 wK15 => ?_
     refine AW.weak (s' := ⟨[], [], ((i3 0) + 1), 79⟩) (by exact Weak.cv trivial trivial nL) ?_
     refine AW.region ?_
     refine sQ rfl (sp_assign rfl iL) ?_
     refine AOps.nil (hK15 _ ?_)
     refine AW.ret ?_
     exact retf1 (P := Tryd.prog) (fun (r : Int) => .r (.int .i64 r)) (he1 _ (hx1 _ (Option.some.inj h8).symm)) iL (.t (.d rfl))
    ·have h8 := ite_f hc4 h7
     refine AW.skip ?_
     refine hK9 _ ?_
     refine AW.seq_w fun K16 hK16 wK16 => ?_
     refine AW.seq_w fun K17 hK17 wK17 => ?_
     refine AW.weak (s' := ⟨[(0, .r (.sl (l1.map GCell.row))), (1, .r (.int .i64 rows1)), (2, .r (.int .i64 cols1)), (3, .r (.bool none1)), (9, .r (.int .i64 x2)), (10, .ptr 10 (i3 0) 0 0), (12, .r (.sl (l1.map GCell.row))), (13, .r (.int .i64 (l1.length : Int))), (14, .r (.int .i64 x2))], [(10, some (.box (i3 0) 60 [.r (.int .i64 x4.Row), .r (.int .i64 x4.Col), .r (.str x4.Text), .r (.int .i64 x4.Ref), .r (.sl (x4.Attrs.map GAttr.row))]))], ((i3 0) + 1), 79⟩) (by exact Weak.cv ⟨jL, jL, jL, jL, jL, jL, jL, jL, jL, trivial⟩ ⟨.inl rfl, trivial⟩ nL) ?_
     refine AW.region ?_
     refine sQ rfl (sp_fieldAddr_own (ob := .box _ _ _) rfl tf_60_4 iL fR rfl) ?_
     refine sQ rfl (ms_load_box (a := .r (.sl (x4.Attrs.map GAttr.row))) rfl ts_27 iL rfl rfl) ?_
     refine ob1k h8 fun e1 ee1 h9 => ?_
     refine AOps.step rfl rfl rfl (sp_call (r := .r (.int .i64 e1)) (caps := []) (bs := [.r (.sl (x4.Attrs.map GAttr.row))]) rfl iL rfl ⟨⟨_, iL, .d rfl⟩, trivial⟩ (fun _ => w_attr_Check (ee1)) rfl) ?_
     refine sQ rfl (sp_assign rfl iL) ?_
     refine AOps.nil (hK17 _ ?_)
     refine AW.seq_w fun K18 hK18 wK18 => ?_
     refine AW.region ?_
     refine sM rfl rfl ?_
     refine sQ rfl (sp_neq rfl iL iL) ?_
     refine AOps.nil (hK18 _ ?_)
     refine AW.cond rfl (fun hc5 => ?_) (fun hc5 => ?_)
     ·have h10 := ite_t hc5 h9
      refine AW.seq_w fun K19 hK19 wK19 => ?_
      refine AW.weak (s' := ⟨[(11, .r (.int .i64 e1))], [], ((i3 0) + 1), 79⟩) (by exact Weak.cv ⟨jL, trivial⟩ trivial nL) ?_
      refine AW.region ?_
      refine sM rfl rfl ?_
      refine sQ rfl (sp_assign rfl iL) ?_
      refine AOps.nil (hK19 _ ?_)
      refine AW.ret ?_
      exact retf1 (P := Tryd.prog) (fun (r : Int) => .r (.int .i64 r)) (he1 _ (hx1 _ (Option.some.inj h10).symm)) iL (.t (.d rfl))
     ·have h10 := ite_f hc5 h9
      refine AW.skip ?_
      refine hK16 _ ?_
      refine AW.seq_w fun K20 hK20 wK20 => ?_
      refine AW.seq_w fun K21 hK21 wK21 => ?_
      refine AW.region ?_
      refine sQ rfl (ms_loadA_box rfl ta_60 iL rfl rfl) ?_
      refine ob1k h10 fun r2 er2 h11 => ?_
      refine AOps.step rfl rfl rfl (sp_call (r := .r (.bool r2)) (caps := []) (bs := [.agg [.r (.int .i64 x4.Row), .r (.int .i64 x4.Col), .r (.str x4.Text), .r (.int .i64 x4.Ref), .r (.sl (x4.Attrs.map GAttr.row))]]) rfl iL rfl ⟨⟨_, iL, .g (cs := [.int .i64 x4.Row, .int .i64 x4.Col, .str x4.Text, .int .i64 x4.Ref, .sl (x4.Attrs.map GAttr.row)]) rfl rfl⟩, trivial⟩ (fun _ => w_grid_empty (er2)) rfl) ?_
      refine sM rfl rfl ?_
      refine sV rfl rfl rfl (sp_move rfl iL) ?_
      refine sV rfl rfl rfl (sp_not rfl (iR rfl)) ?_
      refine sQ rfl (sp_and rfl iL (iR rfl)) ?_
      refine AOps.nil (hK21 _ ?_)
      refine AW.cond rfl (fun hc6 => ?_) (fun hc6 => ?_)
      ·have h12 := ite_t hc6 h11
       refine AW.seq_w fun K22 hK22 wK22 => ?_
       refine AW.weak (s' := ⟨[], [], ((i3 0) + 1), 79⟩) (by exact Weak.cv trivial trivial nL) ?_
       refine AW.region ?_
       refine sQ rfl (sp_assign rfl iL) ?_
       refine AOps.nil (hK22 _ ?_)
       refine AW.ret ?_
       exact retf1 (P := Tryd.prog) (fun (r : Int) => .r (.int .i64 r)) (he1 _ (hx1 _ (Option.some.inj h12).symm)) iL (.t (.d rfl))
      ·have h12 := ite_f hc6 h11
       refine AW.skip ?_
       refine hK20 _ ?_
       refine AW.seq_w fun K23 hK23 wK23 => ?_
       refine AW.weak (s' := ⟨[(0, .r (.sl (l1.map GCell.row))), (1, .r (.int .i64 rows1)), (2, .r (.int .i64 cols1)), (3, .r (.bool none1)), (9, .r (.int .i64 x2)), (10, .ptr 10 (i3 0) 0 0), (12, .r (.sl (l1.map GCell.row))), (13, .r (.int .i64 (l1.length : Int))), (14, .r (.int .i64 x2))], [(10, some (.box (i3 0) 60 [.r (.int .i64 x4.Row), .r (.int .i64 x4.Col), .r (.str x4.Text), .r (.int .i64 x4.Ref), .r (.sl (x4.Attrs.map GAttr.row))]))], ((i3 0) + 1), 79⟩) (by exact Weak.cv ⟨jL, jL, jL, jL, jL, jL, jL, jL, jL, trivial⟩ ⟨.inl rfl, trivial⟩ nL) ?_
       refine AW.regionQ hmix (by kernel_rfl) ?_
       refine AQ.step rfl rfl rfl (sp_move rfl iL) ?_
       refine AQ.step rfl rfl rfl (sp_gtr rfl iL iL) ?_
       refine AQ.step rfl rfl rfl (sp_move rfl iL) ?_
       refine AQ.stepW (.one rfl rfl rfl) rfl rfl (sp_move rfl iL) ?_
       refine AQ.stepW (.one rfl rfl rfl) rfl rfl (sp_move rfl iL) ?_
       refine ob1k h12 fun x5 ex5 h13 => ?_
       refine AQ.stepW (.one rfl rfl rfl) rfl rfl (ms_sub rfl (iR rfl) iL (gdt ex5)) ?_
       refine ob1k h13 fun x6 ex6 h14 => ?_
       refine AQ.stepW (.one rfl rfl rfl) rfl rfl (ms_idx rfl tg_29.slice (iR rfl) (iR rfl) (fun _ => rfl) (gdt ex6)) ?_
       refine AQ.stepW (.one rfl rfl rfl) rfl rfl (ms_loadA (cs := [.r (.int .i64 x6.Row), .r (.int .i64 x6.Col), .r (.str x6.Text), .r (.int .i64 x6.Ref), .r (.sl (x6.Attrs.map GAttr.row))]) rfl ta_60 (iR rfl) rfl rfl) ?_
       refine AQ.stepW (.one rfl rfl rfl) rfl rfl (ms_loadA_box rfl ta_60 iL rfl rfl) ?_
       refine ob1k h14 fun r3 er3 h15 => ?_
       refine AQ.stepWC (.one rfl rfl rfl) rfl rfl (r := .r (.int .i64 r3)) (caps := []) (bs := [.agg [.r (.int .i64 x6.Row), .r (.int .i64 x6.Col), .r (.str x6.Text), .r (.int .i64 x6.Ref), .r (.sl (x6.Attrs.map GAttr.row))], .agg [.r (.int .i64 x4.Row), .r (.int .i64 x4.Col), .r (.str x4.Text), .r (.int .i64 x4.Ref), .r (.sl (x4.Attrs.map GAttr.row))]]) rfl iL rfl ⟨⟨_, (iR rfl), .g (cs := [.int .i64 x6.Row, .int .i64 x6.Col, .str x6.Text, .int .i64 x6.Ref, .sl (x6.Attrs.map GAttr.row)]) rfl rfl⟩, ⟨_, (iR rfl), .g (cs := [.int .i64 x4.Row, .int .i64 x4.Col, .str x4.Text, .int .i64 x4.Ref, .sl (x4.Attrs.map GAttr.row)]) rfl rfl⟩, trivial⟩ (fun hg => w_grid_order (gdt er3 hg)) rfl ?_
       refine AQ.stepW (.one rfl rfl rfl) rfl rfl (sp_geq rfl (iR rfl) iL) ?_
       refine AQ.step rfl rfl rfl (sp_and rfl iL (iR rfl)) ?_
       refine AQ.nil ?_
       refine hK23 _ ?_
       refine AW.cond rfl (fun hc7 => ?_) (fun hc7 => ?_)
       ·have h16 := ite_t hc7 h15
        refine AW.seq_w fun K24 hK24 wK24 => ?_
        refine AW.weak (s' := ⟨[], [], ((i3 0) + 1), 79⟩) (by exact Weak.cv trivial trivial nL) ?_
        refine AW.region ?_
        refine sQ rfl (sp_assign rfl iL) ?_
        refine AOps.nil (hK24 _ ?_)
        refine AW.ret ?_
        exact retf1 (P := Tryd.prog) (fun (r : Int) => .r (.int .i64 r)) (he1 _ (hx1 _ (Option.some.inj h16).symm)) iL (.t (.d rfl))
       ·have h16 := ite_f hc7 h15
        refine AW.skip ?_
        refine hK7 _ ?_
        refine AW.region ?_
        refine ob1k h16 fun x7 ex7 h17 => ?_
        refine sQ rfl (ms_add rfl iL iL (fun _ => ex7)) ?_
        refine sM rfl rfl ?_
        refine AOps.nil ?_
        exact NextQ1.mk h17 (vec [((i3 0) + 1)]) ((by exact Weak.cv ⟨jL, jL, jL, jL, jL, jL, jL, trivial⟩ trivial nL))
 ·have h3 := ite_f hc1 h2
  refine AW.exit ?_
  exact wK2 _ _ ((by exact Weak.cv trivial trivial nL)) (J1 _ (vec [(i3 0)]) (hx1 _ (Option.some.inj h3).symm))
set_option maxHeartbeats 4000000 in
set_option maxRecDepth 20000 in
theorem w_grid_inside {r1 : GRect} {rows1 : Int} {cols1 : Int} {r : Bool} (h : grid_inside r1 rows1 cols1 = some r) : ARO Tryd.prog 90 [.agg [.r (.int .i64 r1.Row), .r (.int .i64 r1.Col), .r (.int .i64 r1.H), .r (.int .i64 r1.W)], .r (.int .i64 rows1), .r (.int .i64 cols1)] (.r (.bool r)) := by
 unfold grid_inside at h
 refine ARO.mkF Tryd.func90 rfl rfl Tryd.ntmps90 rfl (Nat.le_of_ble_eq_true rfl) fun n0 => ?_
 refine AW.seq_w fun K1 hK1 wK1 => ?_
 refine AW.region ?_
 refine AOps.step rfl rfl rfl (ms_box (cs := [.r (.int .i64 r1.Row), .r (.int .i64 r1.Col), .r (.int .i64 r1.H), .r (.int .i64 r1.W)]) 3 rfl iL rfl rfl) ?_
 refine sQ rfl (sp_assign rfl iL) ?_
 refine AOps.nil (hK1 _ ?_)
 refine AW.seq_w fun K2 hK2 wK2 => ?_
 refine AW.region ?_
 refine sQ rfl (sp_fieldAddr_own (ob := .box _ _ _) rfl tf_64_0 iL fR rfl) ?_
 refine sQ rfl (ms_load_box (a := .r (.int .i64 r1.Row)) rfl ts_3 iL rfl rfl) ?_
 refine sQ rfl (sp_geq rfl iL iL) ?_
 refine sM rfl rfl ?_
 refine sV rfl rfl rfl (sp_fieldAddr_own (ob := .box _ _ _) rfl tf_64_1 iL fR rfl) ?_
 refine sV rfl rfl rfl (ms_load_box (a := .r (.int .i64 r1.Col)) rfl ts_3 (iR rfl) rfl rfl) ?_
 refine sV rfl rfl rfl (sp_geq rfl (iR rfl) iL) ?_
 refine sQ rfl (sp_and rfl iL (iR rfl)) ?_
 refine sM rfl rfl ?_
 refine sV rfl rfl rfl (sp_fieldAddr_own (ob := .box _ _ _) rfl tf_64_2 iL fR rfl) ?_
 refine sV rfl rfl rfl (ms_load_box (a := .r (.int .i64 r1.H)) rfl ts_3 (iR rfl) rfl rfl) ?_
 refine sV rfl rfl rfl (sp_geq rfl (iR rfl) iL) ?_
 refine sQ rfl (sp_and rfl iL (iR rfl)) ?_
 refine sM rfl rfl ?_
 refine sV rfl rfl rfl (sp_fieldAddr_own (ob := .box _ _ _) rfl tf_64_3 iL fR rfl) ?_
 refine sV rfl rfl rfl (ms_load_box (a := .r (.int .i64 r1.W)) rfl ts_3 (iR rfl) rfl rfl) ?_
 refine sV rfl rfl rfl (sp_geq rfl (iR rfl) iL) ?_
 refine sQ rfl (sp_and rfl iL (iR rfl)) ?_
 refine sM rfl rfl ?_
 refine sV rfl rfl rfl (sp_fieldAddr_own (ob := .box _ _ _) rfl tf_64_0 iL fR rfl) ?_
 refine sV rfl rfl rfl (ms_load_box (a := .r (.int .i64 r1.Row)) rfl ts_3 (iR rfl) rfl rfl) ?_
 refine sV rfl rfl rfl (sp_move rfl iL) ?_
 refine sV rfl rfl rfl (sp_lss rfl (iR rfl) (iR rfl)) ?_
 refine sQ rfl (sp_and rfl iL (iR rfl)) ?_
 refine sM rfl rfl ?_
 refine sV rfl rfl rfl (sp_fieldAddr_own (ob := .box _ _ _) rfl tf_64_1 iL fR rfl) ?_
 refine sV rfl rfl rfl (ms_load_box (a := .r (.int .i64 r1.Col)) rfl ts_3 (iR rfl) rfl rfl) ?_
 refine sV rfl rfl rfl (sp_move rfl iL) ?_
 refine sV rfl rfl rfl (sp_lss rfl (iR rfl) (iR rfl)) ?_
 refine sQ rfl (sp_and rfl iL (iR rfl)) ?_
 refine sM rfl rfl ?_
 refine sV rfl rfl rfl (sp_fieldAddr_own (ob := .box _ _ _) rfl tf_64_2 iL fR rfl) ?_
 refine sV rfl rfl rfl (ms_load_box (a := .r (.int .i64 r1.H)) rfl ts_3 (iR rfl) rfl rfl) ?_
 refine sV rfl rfl rfl (sp_move rfl iL) ?_
 refine sV rfl rfl rfl (sp_fieldAddr_own (ob := .box _ _ _) rfl tf_64_0 iL fR rfl) ?_
 refine sV rfl rfl rfl (ms_load_box (a := .r (.int .i64 r1.Row)) rfl ts_3 (iR rfl) rfl rfl) ?_
 refine ob1k h fun x1 ex1 h1 => ?_
 refine sV rfl rfl rfl (ms_sub rfl (iR rfl) (iR rfl) (gdt ex1)) ?_
 refine sV rfl rfl rfl (sp_leq rfl (iR rfl) (iR rfl)) ?_
 refine sQ rfl (sp_and rfl iL (iR rfl)) ?_
 refine sM rfl rfl ?_
 refine sV rfl rfl rfl (sp_fieldAddr_own (ob := .box _ _ _) rfl tf_64_3 iL fR rfl) ?_
 refine sV rfl rfl rfl (ms_load_box (a := .r (.int .i64 r1.W)) rfl ts_3 (iR rfl) rfl rfl) ?_
 refine sV rfl rfl rfl (sp_move rfl iL) ?_
 refine sV rfl rfl rfl (sp_fieldAddr_own (ob := .box _ _ _) rfl tf_64_1 iL fR rfl) ?_
 refine sV rfl rfl rfl (ms_load_box (a := .r (.int .i64 r1.Col)) rfl ts_3 (iR rfl) rfl rfl) ?_
 refine ob1k h1 fun x2 ex2 h2 => ?_
 refine sV rfl rfl rfl (ms_sub rfl (iR rfl) (iR rfl) (gdt ex2)) ?_
 refine sV rfl rfl rfl (sp_leq rfl (iR rfl) (iR rfl)) ?_
 refine sQ rfl (sp_and rfl iL (iR rfl)) ?_
 refine sQ rfl (sp_assign rfl iL) ?_
 refine AOps.nil (hK2 _ ?_)
 refine AW.ret ?_
 exact retf1 (P := Tryd.prog) (fun (r : Bool) => .r (.bool r)) h2 iL (.t (.d rfl))
set_option maxHeartbeats 4000000 in
set_option maxRecDepth 20000 in
theorem w_grid_before {a1 : GRect} {b1 : GRect} {r : Bool} (h : grid_before a1 b1 = some r) : ARO Tryd.prog 91 [.agg [.r (.int .i64 a1.Row), .r (.int .i64 a1.Col), .r (.int .i64 a1.H), .r (.int .i64 a1.W)], .agg [.r (.int .i64 b1.Row), .r (.int .i64 b1.Col), .r (.int .i64 b1.H), .r (.int .i64 b1.W)]] (.r (.bool r)) := by
 unfold grid_before at h
 refine ARO.mkF Tryd.func91 rfl rfl Tryd.ntmps91 rfl (Nat.le_of_ble_eq_true rfl) fun n0 => ?_
 refine AW.seq_w fun K1 hK1 wK1 => ?_
 refine AW.region ?_
 refine AOps.step rfl rfl rfl (ms_box (cs := [.r (.int .i64 a1.Row), .r (.int .i64 a1.Col), .r (.int .i64 a1.H), .r (.int .i64 a1.W)]) 2 rfl iL rfl rfl) ?_
 refine AOps.step rfl rfl rfl (ms_box (cs := [.r (.int .i64 b1.Row), .r (.int .i64 b1.Col), .r (.int .i64 b1.H), .r (.int .i64 b1.W)]) 3 rfl iL rfl rfl) ?_
 refine sQ rfl (sp_assign rfl iL) ?_
 refine AOps.nil (hK1 _ ?_)
 refine AW.seq_w fun K2 hK2 wK2 => ?_
 refine AW.region ?_
 refine sQ rfl (sp_fieldAddr_own (ob := .box _ _ _) rfl tf_64_0 iL fR rfl) ?_
 refine sQ rfl (ms_load_box (a := .r (.int .i64 a1.Row)) rfl ts_3 iL rfl rfl) ?_
 refine sQ rfl (sp_fieldAddr_own (ob := .box _ _ _) rfl tf_64_0 iL fR rfl) ?_
 refine sQ rfl (ms_load_box (a := .r (.int .i64 b1.Row)) rfl ts_3 iL rfl rfl) ?_
 refine sQ rfl (sp_lss rfl iL iL) ?_
 refine sM rfl rfl ?_
 refine sV rfl rfl rfl (sp_fieldAddr_own (ob := .box _ _ _) rfl tf_64_0 iL fR rfl) ?_
 refine sV rfl rfl rfl (ms_load_box (a := .r (.int .i64 a1.Row)) rfl ts_3 (iR rfl) rfl rfl) ?_
 refine sV rfl rfl rfl (sp_fieldAddr_own (ob := .box _ _ _) rfl tf_64_0 iL fR rfl) ?_
 refine sV rfl rfl rfl (ms_load_box (a := .r (.int .i64 b1.Row)) rfl ts_3 (iR rfl) rfl rfl) ?_
 refine sV rfl rfl rfl (sp_eql rfl (iR rfl) (iR rfl)) ?_
 refine sV rfl rfl rfl (sp_move rfl (iR rfl)) ?_
 refine sW (.two rfl rfl rfl) rfl (sp_fieldAddr_own (ob := .box _ _ _) rfl tf_64_1 iL fR rfl) ?_
 refine sW (.two rfl rfl rfl) rfl (ms_load_box (a := .r (.int .i64 a1.Col)) rfl ts_3 (iR rfl) rfl rfl) ?_
 refine sW (.two rfl rfl rfl) rfl (sp_fieldAddr_own (ob := .box _ _ _) rfl tf_64_1 iL fR rfl) ?_
 refine sW (.two rfl rfl rfl) rfl (ms_load_box (a := .r (.int .i64 b1.Col)) rfl ts_3 (iR rfl) rfl rfl) ?_
 refine sW (.two rfl rfl rfl) rfl (sp_lss rfl (iR rfl) (iR rfl)) ?_
 refine sV rfl rfl rfl (sp_and rfl (iR rfl) (iR rfl)) ?_
 refine sQ rfl (sp_or rfl iL (iR rfl)) ?_
 refine sQ rfl (sp_assign rfl iL) ?_
 refine AOps.nil (hK2 _ ?_)
 refine AW.ret ?_
 exact retf1 (P := Tryd.prog) (fun (r : Bool) => .r (.bool r)) h iL (.t (.d rfl))
set_option maxHeartbeats 4000000 in
set_option maxRecDepth 20000 in
theorem w_grid_meets {a1 : GRect} {b1 : GRect} {r : Bool} (h : grid_meets a1 b1 = some r) : ARO Tryd.prog 94 [.agg [.r (.int .i64 a1.Row), .r (.int .i64 a1.Col), .r (.int .i64 a1.H), .r (.int .i64 a1.W)], .agg [.r (.int .i64 b1.Row), .r (.int .i64 b1.Col), .r (.int .i64 b1.H), .r (.int .i64 b1.W)]] (.r (.bool r)) := by
 unfold grid_meets at h
 refine ARO.mkF Tryd.func94 rfl rfl Tryd.ntmps94 rfl (Nat.le_of_ble_eq_true rfl) fun n0 => ?_
 refine AW.seq_w fun K1 hK1 wK1 => ?_
 refine AW.region ?_
 refine AOps.step rfl rfl rfl (ms_box (cs := [.r (.int .i64 a1.Row), .r (.int .i64 a1.Col), .r (.int .i64 a1.H), .r (.int .i64 a1.W)]) 2 rfl iL rfl rfl) ?_
 refine AOps.step rfl rfl rfl (ms_box (cs := [.r (.int .i64 b1.Row), .r (.int .i64 b1.Col), .r (.int .i64 b1.H), .r (.int .i64 b1.W)]) 3 rfl iL rfl rfl) ?_
 refine sQ rfl (sp_assign rfl iL) ?_
 refine AOps.nil (hK1 _ ?_)
 refine AW.seq_w fun K2 hK2 wK2 => ?_
 refine AW.region ?_
 refine sQ rfl (sp_fieldAddr_own (ob := .box _ _ _) rfl tf_64_0 iL fR rfl) ?_
 refine sQ rfl (ms_load_box (a := .r (.int .i64 a1.Row)) rfl ts_3 iL rfl rfl) ?_
 refine sQ rfl (sp_fieldAddr_own (ob := .box _ _ _) rfl tf_64_0 iL fR rfl) ?_
 refine sQ rfl (ms_load_box (a := .r (.int .i64 b1.Row)) rfl ts_3 iL rfl rfl) ?_
 refine sQ rfl (sp_fieldAddr_own (ob := .box _ _ _) rfl tf_64_2 iL fR rfl) ?_
 refine sQ rfl (ms_load_box (a := .r (.int .i64 b1.H)) rfl ts_3 iL rfl rfl) ?_
 refine ob1k h fun x1 ex1 h1 => ?_
 refine sQ rfl (ms_add rfl iL iL (fun _ => ex1)) ?_
 refine sQ rfl (sp_lss rfl iL iL) ?_
 refine sM rfl rfl ?_
 refine sV rfl rfl rfl (sp_fieldAddr_own (ob := .box _ _ _) rfl tf_64_0 iL fR rfl) ?_
 refine sV rfl rfl rfl (ms_load_box (a := .r (.int .i64 b1.Row)) rfl ts_3 (iR rfl) rfl rfl) ?_
 refine sV rfl rfl rfl (sp_fieldAddr_own (ob := .box _ _ _) rfl tf_64_0 iL fR rfl) ?_
 refine sV rfl rfl rfl (ms_load_box (a := .r (.int .i64 a1.Row)) rfl ts_3 (iR rfl) rfl rfl) ?_
 refine sV rfl rfl rfl (sp_fieldAddr_own (ob := .box _ _ _) rfl tf_64_2 iL fR rfl) ?_
 refine sV rfl rfl rfl (ms_load_box (a := .r (.int .i64 a1.H)) rfl ts_3 (iR rfl) rfl rfl) ?_
 refine ob1k h1 fun x2 ex2 h2 => ?_
 refine sV rfl rfl rfl (ms_add rfl (iR rfl) (iR rfl) (gdt ex2)) ?_
 refine sV rfl rfl rfl (sp_lss rfl (iR rfl) (iR rfl)) ?_
 refine sQ rfl (sp_and rfl iL (iR rfl)) ?_
 refine sM rfl rfl ?_
 refine sV rfl rfl rfl (sp_fieldAddr_own (ob := .box _ _ _) rfl tf_64_1 iL fR rfl) ?_
 refine sV rfl rfl rfl (ms_load_box (a := .r (.int .i64 a1.Col)) rfl ts_3 (iR rfl) rfl rfl) ?_
 refine sV rfl rfl rfl (sp_fieldAddr_own (ob := .box _ _ _) rfl tf_64_1 iL fR rfl) ?_
 refine sV rfl rfl rfl (ms_load_box (a := .r (.int .i64 b1.Col)) rfl ts_3 (iR rfl) rfl rfl) ?_
 refine sV rfl rfl rfl (sp_fieldAddr_own (ob := .box _ _ _) rfl tf_64_3 iL fR rfl) ?_
 refine sV rfl rfl rfl (ms_load_box (a := .r (.int .i64 b1.W)) rfl ts_3 (iR rfl) rfl rfl) ?_
 refine ob1k h2 fun x3 ex3 h3 => ?_
 refine sV rfl rfl rfl (ms_add rfl (iR rfl) (iR rfl) (gdt ex3)) ?_
 refine sV rfl rfl rfl (sp_lss rfl (iR rfl) (iR rfl)) ?_
 refine sQ rfl (sp_and rfl iL (iR rfl)) ?_
 refine sM rfl rfl ?_
 refine sV rfl rfl rfl (sp_fieldAddr_own (ob := .box _ _ _) rfl tf_64_1 iL fR rfl) ?_
 refine sV rfl rfl rfl (ms_load_box (a := .r (.int .i64 b1.Col)) rfl ts_3 (iR rfl) rfl rfl) ?_
 refine sV rfl rfl rfl (sp_fieldAddr_own (ob := .box _ _ _) rfl tf_64_1 iL fR rfl) ?_
 refine sV rfl rfl rfl (ms_load_box (a := .r (.int .i64 a1.Col)) rfl ts_3 (iR rfl) rfl rfl) ?_
 refine sV rfl rfl rfl (sp_fieldAddr_own (ob := .box _ _ _) rfl tf_64_3 iL fR rfl) ?_
 refine sV rfl rfl rfl (ms_load_box (a := .r (.int .i64 a1.W)) rfl ts_3 (iR rfl) rfl rfl) ?_
 refine ob1k h3 fun x4 ex4 h4 => ?_
 refine sV rfl rfl rfl (ms_add rfl (iR rfl) (iR rfl) (gdt ex4)) ?_
 refine sV rfl rfl rfl (sp_lss rfl (iR rfl) (iR rfl)) ?_
 refine sQ rfl (sp_and rfl iL (iR rfl)) ?_
 refine sQ rfl (sp_assign rfl iL) ?_
 refine AOps.nil (hK2 _ ?_)
 refine AW.ret ?_
 exact retf1 (P := Tryd.prog) (fun (r : Bool) => .r (.bool r)) h4 iL (.t (.d rfl))
set_option maxHeartbeats 4000000 in
set_option maxRecDepth 20000 in
theorem w_grid_Check_f1 {w1 : GRect} {q1 : GRect} {r : Bool} {gb1000 : Nat} (h : grid_Check_f1 w1 q1 = some r) : AHC Tryd.prog 93 1 [.agg [.r (.int .i64 q1.Row), .r (.int .i64 q1.Col), .r (.int .i64 q1.H), .r (.int .i64 q1.W)], .ptr 1000 gb1000 0 0] [(1000, some (.box gb1000 64 [.r (.int .i64 w1.Row), .r (.int .i64 w1.Col), .r (.int .i64 w1.H), .r (.int .i64 w1.W)]))] (fun rr h' => ∃ (i : Nat → Nat), rr = .r (.bool r) ∧ h' = [(1000, some (.box gb1000 64 [.r (.int .i64 w1.Row), .r (.int .i64 w1.Col), .r (.int .i64 w1.H), .r (.int .i64 w1.W)]))]) := by
 unfold grid_Check_f1 at h
 refine AHC.mkw Tryd.func93 rfl rfl Tryd.ntmps93 (Nat.le_of_ble_eq_true rfl) fun n0 => ?_
 refine AW.seq_w fun K1 hK1 wK1 => ?_
 refine AW.region ?_
 refine AOps.step rfl rfl rfl (ms_box (cs := [.r (.int .i64 q1.Row), .r (.int .i64 q1.Col), .r (.int .i64 q1.H), .r (.int .i64 q1.W)]) 2 rfl iL rfl rfl) ?_
 refine sQ rfl (sp_assign rfl iL) ?_
 refine AOps.nil (hK1 _ ?_)
 refine AW.seq_w fun K2 hK2 wK2 => ?_
 refine AW.region ?_
 refine sQ rfl (ms_loadA_box rfl ta_64 iL rfl rfl) ?_
 refine sQ rfl (ms_loadA_box rfl ta_64 iL rfl rfl) ?_
 refine ob1k h fun r1 er1 h1 => ?_
 refine AOps.step rfl rfl rfl (sp_call (r := .r (.bool r1)) (caps := []) (bs := [.agg [.r (.int .i64 q1.Row), .r (.int .i64 q1.Col), .r (.int .i64 q1.H), .r (.int .i64 q1.W)], .agg [.r (.int .i64 w1.Row), .r (.int .i64 w1.Col), .r (.int .i64 w1.H), .r (.int .i64 w1.W)]]) rfl iL rfl ⟨⟨_, iL, .g (cs := [.int .i64 q1.Row, .int .i64 q1.Col, .int .i64 q1.H, .int .i64 q1.W]) rfl rfl⟩, ⟨_, iL, .g (cs := [.int .i64 w1.Row, .int .i64 w1.Col, .int .i64 w1.H, .int .i64 w1.W]) rfl rfl⟩, trivial⟩ (fun _ => w_grid_meets (er1)) rfl) ?_
 refine sQ rfl (sp_assign rfl iL) ?_
 refine AOps.nil (hK2 _ ?_)
 refine AW.ret ?_
 exact RetW.mk (s' := ⟨[(3, .r (.bool r1))], [(1000, some (.box gb1000 64 [.r (.int .i64 w1.Row), .r (.int .i64 w1.Col), .r (.int .i64 w1.H), .r (.int .i64 w1.W)]))], (n0 + 1), 7⟩) ((by exact Weak.cv ⟨jL, trivial⟩ ⟨.inl rfl, trivial⟩ nL)) (reth_cast (fun (r : Bool) rr h' => ∃ (i : Nat → Nat), rr = .r (.bool r) ∧ h' = [(1000, some (.box gb1000 64 [.r (.int .i64 w1.Row), .r (.int .i64 w1.Col), .r (.int .i64 w1.H), .r (.int .i64 w1.W)]))]) h1 (by exact ⟨.r (.bool r1), [(1000, some (.box gb1000 64 [.r (.int .i64 w1.Row), .r (.int .i64 w1.Col), .r (.int .i64 w1.H), .r (.int .i64 w1.W)]))], rfl, ⟨.inr rfl, trivial⟩, rfl, rfl, vec [], rfl, rfl⟩))
set_option maxHeartbeats 4000000 in
set_option maxRecDepth 20000 in
theorem w_slices_IndexFunc_api_Rect_api_Rect__Check_f1 {w1 : GRect} {s1 : List GRect} {r : Int} {gb1000 : Nat} (h : slices_IndexFunc_api_Rect_api_Rect__Check_f1 w1 s1 = some r) : AHC Tryd.prog 135 1 [.r (.sl (s1.map GRect.row)), .fn 93 [.ptr 1000 gb1000 0 0]] [(1000, some (.box gb1000 64 [.r (.int .i64 w1.Row), .r (.int .i64 w1.Col), .r (.int .i64 w1.H), .r (.int .i64 w1.W)]))] (fun rr h' => ∃ (i : Nat → Nat), rr = .r (.int .i64 r) ∧ h' = [(1000, some (.box gb1000 64 [.r (.int .i64 w1.Row), .r (.int .i64 w1.Col), .r (.int .i64 w1.H), .r (.int .i64 w1.W)]))]) := by
 unfold slices_IndexFunc_api_Rect_api_Rect__Check_f1 at h
 refine AHC.mkw Tryd.func135 rfl rfl Tryd.ntmps135 (Nat.le_of_ble_eq_true rfl) fun n0 => ?_
 refine AW.seq_w fun K1 hK1 wK1 => ?_
 refine AW.region ?_
 refine sQ rfl (sp_assign rfl iL) ?_
 refine AOps.nil (hK1 _ ?_)
 refine AW.seq_w fun K2 hK2 wK2 => ?_
 refine AW.seq_w fun K3 hK3 wK3 => ?_
 refine AW.region ?_
 refine sM rfl rfl ?_
 refine sQ rfl (ms_len rfl tg_30.slice iL) ?_
 refine sM rfl rfl ?_
 refine AOps.nil (hK3 _ ?_)
 refine AW.block ?_
 refine jc1k h fun o1 hit1 hk1 he1 => ?_
 have J1 : ∀ (u2 : Unit) (i5 : Nat → Nat), o1 = .nrm u2 → K2 ⟨[], [(1000, some (.box gb1000 64 [.r (.int .i64 w1.Row), .r (.int .i64 w1.Col), .r (.int .i64 w1.H), .r (.int .i64 w1.W)]))], (i5 0), 19⟩ := by
  intro u2 i5 e
  have h1 := hk1 _ e
  refine hK2 _ ?_
  refine AW.seq_w fun K4 hK4 wK4 => ?_
  refine AW.region ?_
  refine sQ rfl (sp_assign rfl iL) ?_
  refine AOps.nil (hK4 _ ?_)
  refine AW.ret ?_
  exact RetW.mk (s' := ⟨[(4, .r (.int .i64 (-1)))], [(1000, some (.box gb1000 64 [.r (.int .i64 w1.Row), .r (.int .i64 w1.Col), .r (.int .i64 w1.H), .r (.int .i64 w1.W)]))], (i5 0), 19⟩) ((by exact Weak.cv ⟨jL, trivial⟩ ⟨.inl rfl, trivial⟩ nL)) (reth_cast (fun (r : Int) rr h' => ∃ (i : Nat → Nat), rr = .r (.int .i64 r) ∧ h' = [(1000, some (.box gb1000 64 [.r (.int .i64 w1.Row), .r (.int .i64 w1.Col), .r (.int .i64 w1.H), .r (.int .i64 w1.W)]))]) h1 (by exact ⟨.r (.int .i64 (-1)), [(1000, some (.box gb1000 64 [.r (.int .i64 w1.Row), .r (.int .i64 w1.Col), .r (.int .i64 w1.H), .r (.int .i64 w1.W)]))], rfl, ⟨.inr rfl, trivial⟩, rfl, rfl, vec [], rfl, rfl⟩))
 refine AW.iter1 (fun (x2 : Int) i3 => ⟨[(0, .r (.sl (s1.map GRect.row))), (1, .fn 93 [.ptr 1000 gb1000 0 0]), (7, .r (.int .i64 (s1.length : Int))), (8, .r (.int .i64 x2))], [(1000, some (.box gb1000 64 [.r (.int .i64 w1.Row), .r (.int .i64 w1.Col), .r (.int .i64 w1.H), .r (.int .i64 w1.W)]))], (i3 0), 19⟩) (vec [n0]) hit1 ((by exact Weak.cv ⟨jL, jL, jL, jL, trivial⟩ ⟨.inl rfl, trivial⟩ nL)) ?_
 intro x2 i3 v1 hv1 hx1
 have h2 : slices_IndexFunc_api_Rect_api_Rect__Check_f1_L1 w1 s1 x2 = some v1 := hv1; unfold slices_IndexFunc_api_Rect_api_Rect__Check_f1_L1 at h2
 refine AW.seq_w fun K5 hK5 wK5 => ?_
 refine AW.region ?_
 refine sQ rfl (sp_lss rfl iL iL) ?_
 refine AOps.nil (hK5 _ ?_)
 refine AW.seq_w fun K6 hK6 wK6 => ?_
 refine AW.cond rfl (fun hc1 => ?_) (fun hc1 => ?_)
 ·have h3 := ite_t hc1 h2
  refine AW.skip ?_
  refine hK6 _ ?_
  refine AW.seq_w fun K7 hK7 wK7 => ?_
  refine AW.block ?_
  refine AW.seq_w fun K8 hK8 wK8 => ?_
  refine AW.region ?_
  refine sM rfl rfl ?_
  refine sQ rfl (sp_assign rfl iL) ?_
  refine AOps.nil (hK8 _ ?_)
  refine AW.seq_w fun K9 hK9 wK9 => ?_
  refine AW.region ?_
  refine sM rfl rfl ?_
  refine sM rfl rfl ?_
  refine sM rfl rfl ?_
  refine ob1k h3 fun x4 ex4 h4 => ?_
  refine sQ rfl (ms_idx rfl tg_30.slice iL iL (fun _ => rfl) (fun _ => ex4)) ?_
  refine sQ rfl (ms_loadA (cs := [.r (.int .i64 x4.Row), .r (.int .i64 x4.Col), .r (.int .i64 x4.H), .r (.int .i64 x4.W)]) rfl ta_64 iL rfl rfl) ?_
  refine ob1k h4 fun r1 er1 h5 => ?_
  refine AOps.stepHI [1000] (hc := [(1000, some (.box gb1000 64 [.r (.int .i64 w1.Row), .r (.int .i64 w1.Col), .r (.int .i64 w1.H), .r (.int .i64 w1.W)]))]) (bs := [.agg [.r (.int .i64 x4.Row), .r (.int .i64 x4.Col), .r (.int .i64 x4.H), .r (.int .i64 x4.W)]]) (caps := [.ptr 1000 gb1000 0 0]) rfl rfl rfl rfl iL rfl ⟨.inl ⟨iL, rfl⟩, trivial⟩ ⟨rfl, rfl, rfl, trivial⟩ (by decide) (w_grid_Check_f1 er1) ?_
  intro i6 n1
  refine AOps.weak (s' := ⟨[(0, .r (.sl (s1.map GRect.row))), (1, .fn 93 [.ptr 1000 gb1000 0 0]), (5, .r (.int .i64 x2)), (7, .r (.int .i64 (s1.length : Int))), (8, .r (.int .i64 x2)), (9, .r (.bool (decide (x2 < (s1.length : Int))))), (10, .r (.int .i64 x2)), (11, .fn 93 [.ptr 1000 gb1000 0 0]), (12, .r (.sl (s1.map GRect.row))), (13, .r (.int .i64 x2)), (14, .rop (GRect.row x4) 0), (15, .agg [.r (.int .i64 x4.Row), .r (.int .i64 x4.Col), .r (.int .i64 x4.H), .r (.int .i64 x4.W)]), (16, .r (.bool r1))], [(1000, some (.box gb1000 64 [.r (.int .i64 w1.Row), .r (.int .i64 w1.Col), .r (.int .i64 w1.H), .r (.int .i64 w1.W)]))], n1, 19⟩) (by exact Weak.cv ⟨jL, jL, jL, jL, jL, jL, jL, jL, jL, jL, jL, jL, jL, trivial⟩ ⟨.inl rfl, trivial⟩ nL) ?_
  refine AOps.nil (hK9 _ ?_)
  refine AW.cond rfl (fun hc2 => ?_) (fun hc2 => ?_)
  ·have h6 := ite_t hc2 h5
   refine AW.seq_w fun K10 hK10 wK10 => ?_
   refine AW.weak (s' := ⟨[(5, .r (.int .i64 x2))], [(1000, some (.box gb1000 64 [.r (.int .i64 w1.Row), .r (.int .i64 w1.Col), .r (.int .i64 w1.H), .r (.int .i64 w1.W)]))], n1, 19⟩) (by exact Weak.cv ⟨jL, trivial⟩ ⟨.inl rfl, trivial⟩ nL) ?_
   refine AW.region ?_
   refine sM rfl rfl ?_
   refine sQ rfl (sp_assign rfl iL) ?_
   refine AOps.nil (hK10 _ ?_)
   refine AW.ret ?_
   exact RetW.mk (s' := ⟨[(4, .r (.int .i64 x2))], [(1000, some (.box gb1000 64 [.r (.int .i64 w1.Row), .r (.int .i64 w1.Col), .r (.int .i64 w1.H), .r (.int .i64 w1.W)]))], n1, 19⟩) ((by exact Weak.cv ⟨jL, trivial⟩ ⟨.inl rfl, trivial⟩ nL)) (reth_cast (fun (r : Int) rr h' => ∃ (i : Nat → Nat), rr = .r (.int .i64 r) ∧ h' = [(1000, some (.box gb1000 64 [.r (.int .i64 w1.Row), .r (.int .i64 w1.Col), .r (.int .i64 w1.H), .r (.int .i64 w1.W)]))]) (he1 _ (hx1 _ (Option.some.inj h6).symm)) (by exact ⟨.r (.int .i64 x2), [(1000, some (.box gb1000 64 [.r (.int .i64 w1.Row), .r (.int .i64 w1.Col), .r (.int .i64 w1.H), .r (.int .i64 w1.W)]))], rfl, ⟨.inr rfl, trivial⟩, rfl, rfl, vec [], rfl, rfl⟩))
  ·have h6 := ite_f hc2 h5
   refine AW.skip ?_
   refine hK7 _ ?_
   refine AW.weak (s' := ⟨[(0, .r (.sl (s1.map GRect.row))), (1, .fn 93 [.ptr 1000 gb1000 0 0]), (7, .r (.int .i64 (s1.length : Int))), (8, .r (.int .i64 x2))], [(1000, some (.box gb1000 64 [.r (.int .i64 w1.Row), .r (.int .i64 w1.Col), .r (.int .i64 w1.H), .r (.int .i64 w1.W)]))], n1, 19⟩) (by exact Weak.cv ⟨jL, jL, jL, jL, trivial⟩ ⟨.inl rfl, trivial⟩ nL) ?_
   refine AW.region ?_
   refine ob1k h6 fun x5 ex5 h7 => ?_
   refine sQ rfl (ms_add rfl iL iL (fun _ => ex5)) ?_
   refine sM rfl rfl ?_
   refine AOps.nil ?_
   exact NextQ1.mk h7 (vec [n1]) ((by exact Weak.cv ⟨jL, jL, jL, jL, trivial⟩ ⟨.inl rfl, trivial⟩ nL))
 ·have h3 := ite_f hc1 h2
  refine AW.exit ?_
  exact wK2 _ _ ((by exact Weak.cv trivial ⟨.inl rfl, trivial⟩ nL)) (J1 _ (vec [(i3 0)]) (hx1 _ (Option.some.inj h3).symm))
set_option maxHeartbeats 4000000 in
set_option maxRecDepth 20000 in
theorem w_slices_ContainsFunc_api_Rect_api_Rect__Check_f1 {w1 : GRect} {s1 : List GRect} {r : Bool} {gb1000 : Nat} (h : slices_ContainsFunc_api_Rect_api_Rect__Check_f1 w1 s1 = some r) : AHC Tryd.prog 92 1 [.r (.sl (s1.map GRect.row)), .fn 93 [.ptr 1000 gb1000 0 0]] [(1000, some (.box gb1000 64 [.r (.int .i64 w1.Row), .r (.int .i64 w1.Col), .r (.int .i64 w1.H), .r (.int .i64 w1.W)]))] (fun rr h' => ∃ (i : Nat → Nat), rr = .r (.bool r) ∧ h' = [(1000, some (.box gb1000 64 [.r (.int .i64 w1.Row), .r (.int .i64 w1.Col), .r (.int .i64 w1.H), .r (.int .i64 w1.W)]))]) := by
 unfold slices_ContainsFunc_api_Rect_api_Rect__Check_f1 at h
 refine AHC.mkw Tryd.func92 rfl rfl Tryd.ntmps92 (Nat.le_of_ble_eq_true rfl) fun n0 => ?_
 refine AW.seq_w fun K1 hK1 wK1 => ?_
 refine AW.region ?_
 refine sQ rfl (sp_assign rfl iL) ?_
 refine AOps.nil (hK1 _ ?_)
 refine AW.seq_w fun K2 hK2 wK2 => ?_
 refine AW.region ?_
 refine sM rfl rfl ?_
 refine sM rfl rfl ?_
 refine ob1k h fun r1 er1 h1 => ?_
 refine AOps.stepHI [1000] (hc := [(1000, some (.box gb1000 64 [.r (.int .i64 w1.Row), .r (.int .i64 w1.Col), .r (.int .i64 w1.H), .r (.int .i64 w1.W)]))]) (bs := [.r (.sl (s1.map GRect.row)), .fn 93 [.ptr 1000 gb1000 0 0]]) (caps := []) rfl rfl rfl rfl iL rfl ⟨.inl ⟨iL, rfl⟩, .inl ⟨iL, rfl⟩, trivial⟩ ⟨rfl, rfl, rfl, trivial⟩ (by decide) (w_slices_IndexFunc_api_Rect_api_Rect__Check_f1 er1) ?_
 intro i1 n1
 refine AOps.weak (s' := ⟨[(0, .r (.sl (s1.map GRect.row))), (1, .fn 93 [.ptr 1000 gb1000 0 0]), (4, .r (.bool false)), (5, .r (.sl (s1.map GRect.row))), (6, .fn 93 [.ptr 1000 gb1000 0 0]), (7, .r (.int .i64 r1))], [(1000, some (.box gb1000 64 [.r (.int .i64 w1.Row), .r (.int .i64 w1.Col), .r (.int .i64 w1.H), .r (.int .i64 w1.W)]))], n1, 9⟩) (by exact Weak.cv ⟨jL, jL, jL, jL, jL, jL, trivial⟩ ⟨.inl rfl, trivial⟩ nL) ?_
 refine sQ rfl (sp_geq rfl iL iL) ?_
 refine sQ rfl (sp_assign rfl iL) ?_
 refine AOps.nil (hK2 _ ?_)
 refine AW.ret ?_
 exact RetW.mk (s' := ⟨[(4, .r (.bool (decide (0 ≤ r1))))], [(1000, some (.box gb1000 64 [.r (.int .i64 w1.Row), .r (.int .i64 w1.Col), .r (.int .i64 w1.H), .r (.int .i64 w1.W)]))], n1, 9⟩) ((by exact Weak.cv ⟨jL, trivial⟩ ⟨.inl rfl, trivial⟩ nL)) (reth_cast (fun (r : Bool) rr h' => ∃ (i : Nat → Nat), rr = .r (.bool r) ∧ h' = [(1000, some (.box gb1000 64 [.r (.int .i64 w1.Row), .r (.int .i64 w1.Col), .r (.int .i64 w1.H), .r (.int .i64 w1.W)]))]) h1 (by exact ⟨.r (.bool (decide (0 ≤ r1))), [(1000, some (.box gb1000 64 [.r (.int .i64 w1.Row), .r (.int .i64 w1.Col), .r (.int .i64 w1.H), .r (.int .i64 w1.W)]))], rfl, ⟨.inr rfl, trivial⟩, rfl, rfl, vec [], rfl, rfl⟩))
set_option maxHeartbeats 4000000 in
set_option maxRecDepth 20000 in
theorem w_grid_Check {g1 : GGrid} {r : Int} (h : grid_Check g1 = some r) : ARO Tryd.prog 31 [.agg [.r (.int .i64 g1.Rows), .r (.int .i64 g1.Cols), .r (.sl (g1.Cells.map GCell.row)), .r (.sl (g1.Merges.map GRect.row))]] (.r (.int .i64 r)) := by
 unfold grid_Check at h
 refine ARO.mkF Tryd.func31 rfl rfl Tryd.ntmps31 rfl (Nat.le_of_ble_eq_true rfl) fun n0 => ?_
 refine AW.seq_w fun K1 hK1 wK1 => ?_
 refine AW.region ?_
 refine AOps.step rfl rfl rfl (ms_box (cs := [.r (.int .i64 g1.Rows), .r (.int .i64 g1.Cols), .r (.sl (g1.Cells.map GCell.row)), .r (.sl (g1.Merges.map GRect.row))]) 1 rfl iL rfl rfl) ?_
 refine sQ rfl (sp_assign rfl iL) ?_
 refine AOps.nil (hK1 _ ?_)
 refine AW.seq_w fun K2 hK2 wK2 => ?_
 refine AW.seq_w fun K3 hK3 wK3 => ?_
 refine AW.region ?_
 refine sQ rfl (sp_fieldAddr_own (ob := .box _ _ _) rfl tf_32_0 iL fR rfl) ?_
 refine sQ rfl (ms_load_box (a := .r (.int .i64 g1.Rows)) rfl ts_3 iL rfl rfl) ?_
 refine sQ rfl (sp_lss rfl iL iL) ?_
 refine sM rfl rfl ?_
 refine sV rfl rfl rfl (sp_fieldAddr_own (ob := .box _ _ _) rfl tf_32_0 iL fR rfl) ?_
 refine sV rfl rfl rfl (ms_load_box (a := .r (.int .i64 g1.Rows)) rfl ts_3 (iR rfl) rfl rfl) ?_
 refine sV rfl rfl rfl (sp_gtr rfl (iR rfl) iL) ?_
 refine sQ rfl (sp_or rfl iL (iR rfl)) ?_
 refine sM rfl rfl ?_
 refine sV rfl rfl rfl (sp_fieldAddr_own (ob := .box _ _ _) rfl tf_32_1 iL fR rfl) ?_
 refine sV rfl rfl rfl (ms_load_box (a := .r (.int .i64 g1.Cols)) rfl ts_3 (iR rfl) rfl rfl) ?_
 refine sV rfl rfl rfl (sp_lss rfl (iR rfl) iL) ?_
 refine sQ rfl (sp_or rfl iL (iR rfl)) ?_
 refine sM rfl rfl ?_
 refine sV rfl rfl rfl (sp_fieldAddr_own (ob := .box _ _ _) rfl tf_32_1 iL fR rfl) ?_
 refine sV rfl rfl rfl (ms_load_box (a := .r (.int .i64 g1.Cols)) rfl ts_3 (iR rfl) rfl rfl) ?_
 refine sV rfl rfl rfl (sp_gtr rfl (iR rfl) iL) ?_
 refine sQ rfl (sp_or rfl iL (iR rfl)) ?_
 refine AOps.nil (hK3 _ ?_)
 refine AW.cond rfl (fun hc1 => ?_) (fun hc1 => ?_)
 ·have h1 := ite_t hc1 h
  refine AW.seq_w fun K4 hK4 wK4 => ?_
  refine AW.weak (s' := ⟨[], [], (n0 + 1), 81⟩) (by exact Weak.cv trivial trivial nL) ?_
  refine AW.region ?_
  refine sQ rfl (sp_assign rfl iL) ?_
  refine AOps.nil (hK4 _ ?_)
  refine AW.ret ?_
  exact retf1 (P := Tryd.prog) (fun (r : Int) => .r (.int .i64 r)) h1 iL (.t (.d rfl))
 ·have h1 := ite_f hc1 h
  refine AW.skip ?_
  refine hK2 _ ?_
  refine AW.seq_w fun K5 hK5 wK5 => ?_
  refine AW.seq_w fun K6 hK6 wK6 => ?_
  refine AW.weak (s' := ⟨[(1, .ptr 1 n0 0 0)], [(1, some (.box n0 32 [.r (.int .i64 g1.Rows), .r (.int .i64 g1.Cols), .r (.sl (g1.Cells.map GCell.row)), .r (.sl (g1.Merges.map GRect.row))]))], (n0 + 1), 81⟩) (by exact Weak.cv ⟨jL, trivial⟩ ⟨.inl rfl, trivial⟩ nL) ?_
  refine AW.region ?_
  refine sQ rfl (sp_fieldAddr_own (ob := .box _ _ _) rfl tf_32_2 iL fR rfl) ?_
  refine sQ rfl (ms_load_box (a := .r (.sl (g1.Cells.map GCell.row))) rfl ts_29 iL rfl rfl) ?_
  refine sQ rfl (sp_fieldAddr_own (ob := .box _ _ _) rfl tf_32_0 iL fR rfl) ?_
  refine sQ rfl (ms_load_box (a := .r (.int .i64 g1.Rows)) rfl ts_3 iL rfl rfl) ?_
  refine sQ rfl (sp_fieldAddr_own (ob := .box _ _ _) rfl tf_32_1 iL fR rfl) ?_
  refine sQ rfl (ms_load_box (a := .r (.int .i64 g1.Cols)) rfl ts_3 iL rfl rfl) ?_
  refine ob1k h1 fun e1 ee1 h2 => ?_
  refine AOps.step rfl rfl rfl (sp_call (r := .r (.int .i64 e1)) (caps := []) (bs := [.r (.sl (g1.Cells.map GCell.row)), .r (.int .i64 g1.Rows), .r (.int .i64 g1.Cols), .r (.bool false)]) rfl iL rfl ⟨⟨_, iL, .d rfl⟩, ⟨_, iL, .d rfl⟩, ⟨_, iL, .d rfl⟩, ⟨_, iL, .d rfl⟩, trivial⟩ (fun _ => w_grid_cells (ee1)) rfl) ?_
  refine sQ rfl (sp_assign rfl iL) ?_
  refine AOps.nil (hK6 _ ?_)
  refine AW.seq_w fun K7 hK7 wK7 => ?_
  refine AW.region ?_
  refine sM rfl rfl ?_
  refine sQ rfl (sp_neq rfl iL iL) ?_
  refine AOps.nil (hK7 _ ?_)
  refine AW.cond rfl (fun hc2 => ?_) (fun hc2 => ?_)
  ·have h3 := ite_t hc2 h2
   refine AW.seq_w fun K8 hK8 wK8 => ?_
   refine AW.weak (s' := ⟨[(3, .r (.int .i64 e1))], [], (n0 + 1), 81⟩) (by exact Weak.cv ⟨jL, trivial⟩ trivial nL) ?_
   refine AW.region ?_
   refine sM rfl rfl ?_
   refine sQ rfl (sp_assign rfl iL) ?_
   refine AOps.nil (hK8 _ ?_)
   refine AW.ret ?_
   exact retf1 (P := Tryd.prog) (fun (r : Int) => .r (.int .i64 r)) h3 iL (.t (.d rfl))
  ·have h3 := ite_f hc2 h2
   refine AW.skip ?_
   refine hK5 _ ?_
   refine AW.seq_w fun K9 hK9 wK9 => ?_
   refine AW.seq_w fun K10 hK10 wK10 => ?_
   refine AW.weak (s' := ⟨[(1, .ptr 1 n0 0 0)], [(1, some (.box n0 32 [.r (.int .i64 g1.Rows), .r (.int .i64 g1.Cols), .r (.sl (g1.Cells.map GCell.row)), .r (.sl (g1.Merges.map GRect.row))]))], (n0 + 1), 81⟩) (by exact Weak.cv ⟨jL, trivial⟩ ⟨.inl rfl, trivial⟩ nL) ?_
   refine AW.region ?_
   refine sQ rfl (sp_fieldAddr_own (ob := .box _ _ _) rfl tf_32_3 iL fR rfl) ?_
   refine sQ rfl (ms_load_box (a := .r (.sl (g1.Merges.map GRect.row))) rfl ts_30 iL rfl rfl) ?_
   refine sQ rfl (ms_len rfl tg_30.slice iL) ?_
   refine sM rfl rfl ?_
   refine AOps.nil (hK10 _ ?_)
   refine AW.block ?_
   refine jc1k h3 fun o1 hit1 hk1 he1 => ?_
   have J1 : ∀ (u2 : Unit) (i5 : Nat → Nat), o1 = .nrm u2 → K9 ⟨[], [], (i5 0), 81⟩ := by
    intro u2 i5 e
    have h4 := hk1 _ e
    refine hK9 _ ?_
    refine AW.seq_w fun K11 hK11 wK11 => ?_
    refine AW.region ?_
    refine sQ rfl (sp_assign rfl iL) ?_
    refine AOps.nil (hK11 _ ?_)
    refine AW.ret ?_
    exact retf1 (P := Tryd.prog) (fun (r : Int) => .r (.int .i64 r)) h4 iL (.t (.d rfl))
   refine AW.iter1 (fun (x2 : Int) i3 => ⟨[(1, .ptr 1 n0 0 0), (35, .r (.sl (g1.Merges.map GRect.row))), (36, .r (.int .i64 (g1.Merges.length : Int))), (37, .r (.int .i64 x2))], [(1, some (.box n0 32 [.r (.int .i64 g1.Rows), .r (.int .i64 g1.Cols), .r (.sl (g1.Cells.map GCell.row)), .r (.sl (g1.Merges.map GRect.row))]))], (i3 0), 81⟩) (vec [(n0 + 1)]) hit1 ((by exact Weak.cv ⟨jL, jL, jL, jL, trivial⟩ ⟨.inl rfl, trivial⟩ nL)) ?_
   intro x2 i3 v1 hv1 hx1
   have h5 : grid_Check_L1 g1 x2 = some v1 := hv1; unfold grid_Check_L1 at h5
   refine AW.seq_w fun K12 hK12 wK12 => ?_
   refine AW.region ?_
   refine sQ rfl (sp_lss rfl iL iL) ?_
   refine AOps.nil (hK12 _ ?_)
   refine AW.seq_w fun K13 hK13 wK13 => ?_
   refine AW.cond rfl (fun hc3 => ?_) (fun hc3 => ?_)
   ·have h6 := ite_t hc3 h5
    refine AW.skip ?_
    refine hK13 _ ?_
    refine AW.seq_w fun K14 hK14 wK14 => ?_
    refine AW.block ?_
    refine AW.seq_w fun K15 hK15 wK15 => ?_
    refine AW.region ?_
    refine sM rfl rfl ?_
    refine ob1k h6 fun x4 ex4 h7 => ?_
    refine sQ rfl (ms_idx rfl tg_30.slice iL iL (fun _ => rfl) (fun _ => ex4)) ?_
    refine sQ rfl (ms_loadA (cs := [.r (.int .i64 x4.Row), .r (.int .i64 x4.Col), .r (.int .i64 x4.H), .r (.int .i64 x4.W)]) rfl ta_64 iL rfl rfl) ?_
    refine AOps.step rfl rfl rfl (ms_alloc (cs := [.r (.int .i64 0), .r (.int .i64 0), .r (.int .i64 0), .r (.int .i64 0)]) 5 rfl t0_64 rfl rfl) ?_
    refine sQ rfl (sp_assign rfl iL) ?_
    refine AOps.step0 rfl rfl (ms_store_box (ds := [.r (.int .i64 x4.Row), .r (.int .i64 x4.Col), .r (.int .i64 x4.H), .r (.int .i64 x4.W)]) rfl tz_64 iL rfl iL rfl rfl rfl rfl) ?_
    refine AOps.nil (hK15 _ ?_)
    refine AW.block ?_
    refine AW.seq_w fun K16 hK16 wK16 => ?_
    refine AW.region ?_
    refine sQ rfl (ms_loadA_box rfl ta_64 iL rfl rfl) ?_
    refine sQ rfl (sp_fieldAddr_own (ob := .box _ _ _) rfl tf_32_0 iL fR rfl) ?_
    refine sQ rfl (ms_load_box (a := .r (.int .i64 g1.Rows)) rfl ts_3 iL rfl rfl) ?_
    refine sQ rfl (sp_fieldAddr_own (ob := .box _ _ _) rfl tf_32_1 iL fR rfl) ?_
    refine sQ rfl (ms_load_box (a := .r (.int .i64 g1.Cols)) rfl ts_3 iL rfl rfl) ?_
    refine ob1k h7 fun r1 er1 h8 => ?_
    refine AOps.step rfl rfl rfl (sp_call (r := .r (.bool r1)) (caps := []) (bs := [.agg [.r (.int .i64 x4.Row), .r (.int .i64 x4.Col), .r (.int .i64 x4.H), .r (.int .i64 x4.W)], .r (.int .i64 g1.Rows), .r (.int .i64 g1.Cols)]) rfl iL rfl ⟨⟨_, iL, .g (cs := [.int .i64 x4.Row, .int .i64 x4.Col, .int .i64 x4.H, .int .i64 x4.W]) rfl rfl⟩, ⟨_, iL, .d rfl⟩, ⟨_, iL, .d rfl⟩, trivial⟩ (fun _ => w_grid_inside (er1)) rfl) ?_
    refine sQ rfl (sp_not rfl iL) ?_
    refine sQ rfl (sp_assign rfl iL) ?_
    refine AOps.nil (hK16 _ ?_)
    refine AW.cond rfl (fun hc4 => ?_) (fun hc4 => ?_)
    ·have h9 := ite_t hc4 h8
     refine AW.seq_w fun K17 hK17 wK17 => ?_
     refine AW.weak (s' := ⟨[], [], ((i3 0) + 1), 81⟩) (by exact Weak.cv trivial trivial nL) ?_
     refine AW.region ?_
     refine sQ rfl (sp_assign rfl iL) ?_
     refine AOps.nil (hK17 _ ?_)
     refine AW.ret ?_
     exact retf1 (P := Tryd.prog) (fun (r : Int) => .r (.int .i64 r)) (he1 _ (hx1 _ (Option.some.inj h9).symm)) iL (.t (.d rfl))
    ·have h9 := ite_f hc4 h8
     refine AW.seq_w fun K18 hK18 wK18 => ?_
     refine AW.weak (s' := ⟨[(1, .ptr 1 n0 0 0), (4, .r (.int .i64 x2)), (5, .ptr 5 (i3 0) 0 0), (35, .r (.sl (g1.Merges.map GRect.row))), (36, .r (.int .i64 (g1.Merges.length : Int))), (37, .r (.int .i64 x2))], [(1, some (.box n0 32 [.r (.int .i64 g1.Rows), .r (.int .i64 g1.Cols), .r (.sl (g1.Cells.map GCell.row)), .r (.sl (g1.Merges.map GRect.row))])), (5, some (.box (i3 0) 64 [.r (.int .i64 x4.Row), .r (.int .i64 x4.Col), .r (.int .i64 x4.H), .r (.int .i64 x4.W)]))], ((i3 0) + 1), 81⟩) (by exact Weak.cv ⟨jL, jL, jL, jL, jL, jL, trivial⟩ ⟨.inl rfl, .inl rfl, trivial⟩ nL) ?_
     refine AW.region ?_
     refine sQ rfl (sp_fieldAddr_own (ob := .box _ _ _) rfl tf_64_2 iL fR rfl) ?_
     refine sQ rfl (ms_load_box (a := .r (.int .i64 x4.H)) rfl ts_3 iL rfl rfl) ?_
     refine sQ rfl (sp_eql rfl iL iL) ?_
     refine sM rfl rfl ?_
     refine sV rfl rfl rfl (sp_fieldAddr_own (ob := .box _ _ _) rfl tf_64_3 iL fR rfl) ?_
     refine sV rfl rfl rfl (ms_load_box (a := .r (.int .i64 x4.W)) rfl ts_3 (iR rfl) rfl rfl) ?_
     refine sV rfl rfl rfl (sp_eql rfl (iR rfl) iL) ?_
     refine sQ rfl (sp_and rfl iL (iR rfl)) ?_
     refine sQ rfl (sp_assign rfl iL) ?_
     refine AOps.nil (hK18 _ ?_)
     refine AW.cond rfl (fun hc5 => ?_) (fun hc5 => ?_)
     ·have h10 := ite_t hc5 h9
      refine AW.seq_w fun K19 hK19 wK19 => ?_
      refine AW.weak (s' := ⟨[], [], ((i3 0) + 1), 81⟩) (by exact Weak.cv trivial trivial nL) ?_
      refine AW.region ?_
      refine sQ rfl (sp_assign rfl iL) ?_
      refine AOps.nil (hK19 _ ?_)
      refine AW.ret ?_
      exact retf1 (P := Tryd.prog) (fun (r : Int) => .r (.int .i64 r)) (he1 _ (hx1 _ (Option.some.inj h10).symm)) iL (.t (.d rfl))
     ·have h10 := ite_f hc5 h9
      refine AW.seq_w fun K20 hK20 wK20 => ?_
      refine AW.regionQ hmix (by kernel_rfl) ?_
      refine AQ.step rfl rfl rfl (sp_move rfl iL) ?_
      refine AQ.step rfl rfl rfl (sp_gtr rfl iL iL) ?_
      refine AQ.step rfl rfl rfl (sp_move rfl iL) ?_
      refine AQ.stepW (.one rfl rfl rfl) rfl rfl (sp_fieldAddr_own (ob := .box _ _ _) rfl tf_32_3 iL fR rfl) ?_
      refine AQ.stepW (.one rfl rfl rfl) rfl rfl (ms_load_box (a := .r (.sl (g1.Merges.map GRect.row))) rfl ts_30 (iR rfl) rfl rfl) ?_
      refine AQ.stepW (.one rfl rfl rfl) rfl rfl (sp_move rfl iL) ?_
      refine ob1k h10 fun x5 ex5 h11 => ?_
      refine AQ.stepW (.one rfl rfl rfl) rfl rfl (ms_sub rfl (iR rfl) iL (gdt ex5)) ?_
      refine ob1k h11 fun x6 ex6 h12 => ?_
      refine AQ.stepW (.one rfl rfl rfl) rfl rfl (ms_idx rfl tg_30.slice (iR rfl) (iR rfl) (fun _ => rfl) (gdt ex6)) ?_
      refine AQ.stepW (.one rfl rfl rfl) rfl rfl (ms_loadA (cs := [.r (.int .i64 x6.Row), .r (.int .i64 x6.Col), .r (.int .i64 x6.H), .r (.int .i64 x6.W)]) rfl ta_64 (iR rfl) rfl rfl) ?_
      refine AQ.stepW (.one rfl rfl rfl) rfl rfl (ms_loadA_box rfl ta_64 iL rfl rfl) ?_
      refine ob1k h12 fun r2 er2 h13 => ?_
      refine AQ.stepWC (.one rfl rfl rfl) rfl rfl (r := .r (.bool r2)) (caps := []) (bs := [.agg [.r (.int .i64 x6.Row), .r (.int .i64 x6.Col), .r (.int .i64 x6.H), .r (.int .i64 x6.W)], .agg [.r (.int .i64 x4.Row), .r (.int .i64 x4.Col), .r (.int .i64 x4.H), .r (.int .i64 x4.W)]]) rfl iL rfl ⟨⟨_, (iR rfl), .g (cs := [.int .i64 x6.Row, .int .i64 x6.Col, .int .i64 x6.H, .int .i64 x6.W]) rfl rfl⟩, ⟨_, (iR rfl), .g (cs := [.int .i64 x4.Row, .int .i64 x4.Col, .int .i64 x4.H, .int .i64 x4.W]) rfl rfl⟩, trivial⟩ (fun hg => w_grid_before (gdt er2 hg)) rfl ?_
      refine AQ.stepW (.one rfl rfl rfl) rfl rfl (sp_not rfl (iR rfl)) ?_
      refine AQ.step rfl rfl rfl (sp_and rfl iL (iR rfl)) ?_
      refine AQ.step rfl rfl rfl (sp_assign rfl iL) ?_
      refine AQ.nil ?_
      refine hK20 _ ?_
      refine AW.cond rfl (fun hc6 => ?_) (fun hc6 => ?_)
      ·have h14 := ite_t hc6 h13
       refine AW.seq_w fun K21 hK21 wK21 => ?_
       refine AW.weak (s' := ⟨[], [], ((i3 0) + 1), 81⟩) (by exact Weak.cv trivial trivial nL) ?_
       refine AW.region ?_
       refine sQ rfl (sp_assign rfl iL) ?_
       refine AOps.nil (hK21 _ ?_)
       refine AW.ret ?_
       exact retf1 (P := Tryd.prog) (fun (r : Int) => .r (.int .i64 r)) (he1 _ (hx1 _ (Option.some.inj h14).symm)) iL (.t (.d rfl))
      ·have h14 := ite_f hc6 h13
       refine AW.seq_w fun K22 hK22 wK22 => ?_
       refine AW.weak (s' := ⟨[(1, .ptr 1 n0 0 0), (4, .r (.int .i64 x2)), (5, .ptr 5 (i3 0) 0 0), (35, .r (.sl (g1.Merges.map GRect.row))), (36, .r (.int .i64 (g1.Merges.length : Int))), (37, .r (.int .i64 x2))], [(1, some (.box n0 32 [.r (.int .i64 g1.Rows), .r (.int .i64 g1.Cols), .r (.sl (g1.Cells.map GCell.row)), .r (.sl (g1.Merges.map GRect.row))])), (5, some (.box (i3 0) 64 [.r (.int .i64 x4.Row), .r (.int .i64 x4.Col), .r (.int .i64 x4.H), .r (.int .i64 x4.W)]))], ((i3 0) + 1), 81⟩) (by exact Weak.cv ⟨jL, jL, jL, jL, jL, jL, trivial⟩ ⟨.inl rfl, .inl rfl, trivial⟩ nL) ?_
       refine AW.region ?_
       refine sQ rfl (sp_fieldAddr_own (ob := .box _ _ _) rfl tf_32_3 iL fR rfl) ?_
       refine sQ rfl (ms_load_box (a := .r (.sl (g1.Merges.map GRect.row))) rfl ts_30 iL rfl rfl) ?_
       refine sM rfl rfl ?_
       refine ob1k h14 fun l1 el1 h15 => ?_
       refine sQ rfl (ms_slice rfl tg_30.slice iL (by exact rfl) (by exact ⟨_, iL⟩) (fun _ => rfl) (fun _ => el1)) ?_
       refine sQ rfl (sp_makeFunc (bs := [.ptr 5 (i3 0) 0 0]) rfl (by exact ⟨iL, trivial⟩)) ?_
       refine ob1k h15 fun r3 er3 h16 => ?_
       refine AOps.stepHI [5] (hc := [(1000, some (.box (i3 0) 64 [.r (.int .i64 x4.Row), .r (.int .i64 x4.Col), .r (.int .i64 x4.H), .r (.int .i64 x4.W)]))]) (bs := [.r (.sl (l1.map GRect.row)), .fn 93 [.ptr 1000 (i3 0) 0 0]]) (caps := []) rfl rfl rfl rfl iL rfl ⟨.inl ⟨iL, rfl⟩, .inl ⟨iL, rfl⟩, trivial⟩ ⟨rfl, rfl, rfl, trivial⟩ (by decide) (w_slices_ContainsFunc_api_Rect_api_Rect__Check_f1 er3) ?_
       intro i6 n1
       refine AOps.weak (s' := ⟨[(1, .ptr 1 n0 0 0), (4, .r (.int .i64 x2)), (5, .ptr 5 (i3 0) 0 0), (35, .r (.sl (g1.Merges.map GRect.row))), (36, .r (.int .i64 (g1.Merges.length : Int))), (37, .r (.int .i64 x2)), (74, .ptr 1 n0 0 3), (75, .r (.sl (g1.Merges.map GRect.row))), (76, .r (.int .i64 x2)), (77, .r (.sl (l1.map GRect.row))), (78, .fn 93 [.ptr 5 (i3 0) 0 0]), (79, .r (.bool r3))], [(1, some (.box n0 32 [.r (.int .i64 g1.Rows), .r (.int .i64 g1.Cols), .r (.sl (g1.Cells.map GCell.row)), .r (.sl (g1.Merges.map GRect.row))])), (5, some (.box (i3 0) 64 [.r (.int .i64 x4.Row), .r (.int .i64 x4.Col), .r (.int .i64 x4.H), .r (.int .i64 x4.W)]))], n1, 81⟩) (by exact Weak.cv ⟨jL, jL, jL, jL, jL, jL, jL, jL, jL, jL, jL, jL, trivial⟩ ⟨.inl rfl, .inl rfl, trivial⟩ nL) ?_
       refine sQ rfl (sp_assign rfl iL) ?_
       refine AOps.nil (hK22 _ ?_)
       refine AW.cond rfl (fun hc7 => ?_) (fun hc7 => ?_)
       ·have h17 := ite_t hc7 h16
        refine AW.seq_w fun K23 hK23 wK23 => ?_
        refine AW.weak (s' := ⟨[], [], n1, 81⟩) (by exact Weak.cv trivial trivial nL) ?_
        refine AW.region ?_
        refine sQ rfl (sp_assign rfl iL) ?_
        refine AOps.nil (hK23 _ ?_)
        refine AW.ret ?_
        exact retf1 (P := Tryd.prog) (fun (r : Int) => .r (.int .i64 r)) (he1 _ (hx1 _ (Option.some.inj h17).symm)) iL (.t (.d rfl))
       ·have h17 := ite_f hc7 h16
        refine AW.skip ?_
        refine hK14 _ ?_
        refine AW.weak (s' := ⟨[(1, .ptr 1 n0 0 0), (35, .r (.sl (g1.Merges.map GRect.row))), (36, .r (.int .i64 (g1.Merges.length : Int))), (37, .r (.int .i64 x2))], [(1, some (.box n0 32 [.r (.int .i64 g1.Rows), .r (.int .i64 g1.Cols), .r (.sl (g1.Cells.map GCell.row)), .r (.sl (g1.Merges.map GRect.row))]))], n1, 81⟩) (by exact Weak.cv ⟨jL, jL, jL, jL, trivial⟩ ⟨.inl rfl, trivial⟩ nL) ?_
        refine AW.region ?_
        refine ob1k h17 fun x7 ex7 h18 => ?_
        refine sQ rfl (ms_add rfl iL iL (fun _ => ex7)) ?_
        refine sM rfl rfl ?_
        refine AOps.nil ?_
        exact NextQ1.mk h18 (vec [n1]) ((by exact Weak.cv ⟨jL, jL, jL, jL, trivial⟩ ⟨.inl rfl, trivial⟩ nL))
   ·have h6 := ite_f hc3 h5
    refine AW.exit ?_
    exact wK9 _ _ ((by exact Weak.cv trivial trivial nL)) (J1 _ (vec [(i3 0)]) (hx1 _ (Option.some.inj h6).symm))
set_option maxHeartbeats 4000000 in
set_option maxRecDepth 20000 in
theorem w_axis_Check {a1 : List GAxisStep} {r : Int} (h : axis_Check a1 = some r) : ARO Tryd.prog 95 [.r (.sl (a1.map GAxisStep.row))] (.r (.int .i64 r)) := by
 unfold axis_Check at h
 refine ARO.mkF Tryd.func95 rfl rfl Tryd.ntmps95 rfl (Nat.le_of_ble_eq_true rfl) fun n0 => ?_
 refine AW.seq_w fun K1 hK1 wK1 => ?_
 refine AW.region ?_
 refine sQ rfl (sp_assign rfl iL) ?_
 refine AOps.nil (hK1 _ ?_)
 refine AW.seq_w fun K2 hK2 wK2 => ?_
 refine AW.region ?_
 refine sQ rfl (sp_assign rfl iL) ?_
 refine sQ rfl (sp_assign rfl iL) ?_
 refine AOps.nil (hK2 _ ?_)
 refine AW.seq_w fun K3 hK3 wK3 => ?_
 refine AW.seq_w fun K4 hK4 wK4 => ?_
 refine AW.region ?_
 refine sM rfl rfl ?_
 refine sQ rfl (ms_len rfl tg_47.slice iL) ?_
 refine sM rfl rfl ?_
 refine AOps.nil (hK4 _ ?_)
 refine AW.block ?_
 refine jc2k h fun o1 hit1 hk1 he1 => ?_
 have J1 : ∀ (before4 : Int) (after4 : Int) (i5 : Nat → Nat), o1 = .nrm (before4, after4) → K3 ⟨[(3, .r (.int .i64 before4)), (4, .r (.int .i64 after4))], [], (i5 0), 83⟩ := by
  intro before4 after4 i5 e
  have h1 := hk1 _ _ e
  refine hK3 _ ?_
  refine AW.seq_w fun K5 hK5 wK5 => ?_
  refine AW.seq_w fun K6 hK6 wK6 => ?_
  refine AW.region ?_
  refine sM rfl rfl ?_
  refine sQ rfl (sp_gtr rfl iL iL) ?_
  refine sM rfl rfl ?_
  refine sV rfl rfl rfl (sp_move rfl iL) ?_
  refine sV rfl rfl rfl (sp_gtr rfl (iR rfl) iL) ?_
  refine sQ rfl (sp_or rfl iL (iR rfl)) ?_
  refine AOps.nil (hK6 _ ?_)
  refine AW.cond rfl (fun hc1 => ?_) (fun hc1 => ?_)
  ·have h2 := ite_t hc1 h1
   refine AW.seq_w fun K7 hK7 wK7 => ?_
   refine AW.region ?_
   refine sQ rfl (sp_assign rfl iL) ?_
   refine AOps.nil (hK7 _ ?_)
   refine AW.ret ?_
   exact retf1 (P := Tryd.prog) (fun (r : Int) => .r (.int .i64 r)) h2 iL (.t (.d rfl))
  ·have h2 := ite_f hc1 h1
   refine AW.skip ?_
   refine hK5 _ ?_
   refine AW.seq_w fun K8 hK8 wK8 => ?_
   refine AW.region ?_
   refine sQ rfl (sp_assign rfl iL) ?_
   refine AOps.nil (hK8 _ ?_)
   refine AW.ret ?_
   exact retf1 (P := Tryd.prog) (fun (r : Int) => .r (.int .i64 r)) h2 iL (.t (.d rfl))
 refine AW.iter3 (fun (before2 : Int) (after2 : Int) (x2 : Int) i3 => ⟨[(0, .r (.sl (a1.map GAxisStep.row))), (3, .r (.int .i64 before2)), (4, .r (.int .i64 after2)), (7, .r (.sl (a1.map GAxisStep.row))), (8, .r (.int .i64 (a1.length : Int))), (9, .r (.int .i64 x2))], [], (i3 0), 83⟩) (vec [n0]) hit1 ((by exact Weak.cv ⟨jL, jL, jL, jL, jL, jL, trivial⟩ trivial nL)) ?_
 intro before2 after2 x2 i3 v1 hv1 hx1
 have h3 : axis_Check_L1 a1 before2 after2 x2 = some v1 := hv1; unfold axis_Check_L1 at h3
 refine AW.seq_w fun K9 hK9 wK9 => ?_
 refine AW.region ?_
 refine sQ rfl (sp_lss rfl iL iL) ?_
 refine AOps.nil (hK9 _ ?_)
 refine AW.seq_w fun K10 hK10 wK10 => ?_
 refine AW.cond rfl (fun hc2 => ?_) (fun hc2 => ?_)
 ·have h4 := ite_t hc2 h3
  refine AW.skip ?_
  refine hK10 _ ?_
  refine AW.seq_w fun K11 hK11 wK11 => ?_
  refine AW.block ?_
  refine jc2k h4 fun p1 hp1 hk2 he2 => ?_
  have J2 : ∀ (before5 : Int) (after5 : Int) (i6 : Nat → Nat), p1 = .nrm (before5, after5) → K11 ⟨[(0, .r (.sl (a1.map GAxisStep.row))), (3, .r (.int .i64 before5)), (4, .r (.int .i64 after5)), (7, .r (.sl (a1.map GAxisStep.row))), (8, .r (.int .i64 (a1.length : Int))), (9, .r (.int .i64 x2))], [], (i6 0), 83⟩ := by
   intro before5 after5 i6 e
   have h5 := hk2 _ _ e
   refine hK11 _ ?_
   refine AW.region ?_
   refine ob1k h5 fun x4 ex4 h6 => ?_
   refine sQ rfl (ms_add rfl iL iL (fun _ => ex4)) ?_
   refine sM rfl rfl ?_
   refine AOps.nil ?_
   exact NextQ3.mk h6 (vec [(i6 0)]) ((by exact Weak.cv ⟨jL, jL, jL, jL, jL, jL, trivial⟩ trivial nL))
  refine AW.seq_w fun K12 hK12 wK12 => ?_
  refine AW.region ?_
  refine sM rfl rfl ?_
  refine ob1k hp1 fun x5 ex5 h7 => ?_
  refine sQ rfl (ms_idx rfl tg_47.slice iL iL (fun _ => rfl) (fun _ => ex5)) ?_
  refine sQ rfl (ms_loadA (cs := [.r (.int .i64 x5.Kind), .r (.int .i64 x5.N)]) rfl ta_91 iL rfl rfl) ?_
  refine AOps.step rfl rfl rfl (ms_alloc (cs := [.r (.int .i64 0), .r (.int .i64 0)]) 6 rfl t0_91 rfl rfl) ?_
  refine sQ rfl (sp_assign rfl iL) ?_
  refine AOps.step0 rfl rfl (ms_store_box (ds := [.r (.int .i64 x5.Kind), .r (.int .i64 x5.N)]) rfl tz_91 iL rfl iL rfl rfl rfl rfl) ?_
  refine AOps.nil (hK12 _ ?_)
  refine AW.seq_w fun K13 hK13 wK13 => ?_
  refine AW.block ?_
  refine AW.seq_w fun K14 hK14 wK14 => ?_
  refine AW.region ?_
  refine sQ rfl (sp_fieldAddr_own (ob := .box _ _ _) rfl tf_91_0 iL fR rfl) ?_
  refine sQ rfl (ms_load_box (a := .r (.int .i64 x5.Kind)) rfl ts_3 iL rfl rfl) ?_
  refine sQ rfl (sp_lss rfl iL iL) ?_
  refine sM rfl rfl ?_
  refine sV rfl rfl rfl (sp_fieldAddr_own (ob := .box _ _ _) rfl tf_91_0 iL fR rfl) ?_
  refine sV rfl rfl rfl (ms_load_box (a := .r (.int .i64 x5.Kind)) rfl ts_3 (iR rfl) rfl rfl) ?_
  refine sV rfl rfl rfl (sp_gtr rfl (iR rfl) iL) ?_
  refine sQ rfl (sp_or rfl iL (iR rfl)) ?_
  refine sQ rfl (sp_assign rfl iL) ?_
  refine AOps.nil (hK14 _ ?_)
  refine AW.cond rfl (fun hc3 => ?_) (fun hc3 => ?_)
  ·have h8 := ite_t hc3 h7
   refine AW.seq_w fun K15 hK15 wK15 => ?_
   refine AW.weak (s' := ⟨[], [], ((i3 0) + 1), 83⟩) (by exact Weak.cv trivial trivial nL) ?_
   refine AW.region ?_
   refine sQ rfl (sp_assign rfl iL) ?_
   refine AOps.nil (hK15 _ ?_)
   refine AW.ret ?_
   exact retf1 (P := Tryd.prog) (fun (r : Int) => .r (.int .i64 r)) (he1 _ (hx1 _ (Option.some.inj (he2 _ (Option.some.inj h8).symm)).symm)) iL (.t (.d rfl))
  ·have h8 := ite_f hc3 h7
   refine AW.seq_w fun K16 hK16 wK16 => ?_
   refine AW.weak (s' := ⟨[(0, .r (.sl (a1.map GAxisStep.row))), (3, .r (.int .i64 before2)), (4, .r (.int .i64 after2)), (5, .r (.int .i64 x2)), (6, .ptr 6 (i3 0) 0 0), (7, .r (.sl (a1.map GAxisStep.row))), (8, .r (.int .i64 (a1.length : Int))), (9, .r (.int .i64 x2))], [(6, some (.box (i3 0) 91 [.r (.int .i64 x5.Kind), .r (.int .i64 x5.N)]))], ((i3 0) + 1), 83⟩) (by exact Weak.cv ⟨jL, jL, jL, jL, jL, jL, jL, jL, trivial⟩ ⟨.inl rfl, trivial⟩ nL) ?_
   refine AW.region ?_
   refine sQ rfl (sp_fieldAddr_own (ob := .box _ _ _) rfl tf_91_1 iL fR rfl) ?_
   refine sQ rfl (ms_load_box (a := .r (.int .i64 x5.N)) rfl ts_3 iL rfl rfl) ?_
   refine sQ rfl (sp_lss rfl iL iL) ?_
   refine sM rfl rfl ?_
   refine sV rfl rfl rfl (sp_fieldAddr_own (ob := .box _ _ _) rfl tf_91_1 iL fR rfl) ?_
   refine sV rfl rfl rfl (ms_load_box (a := .r (.int .i64 x5.N)) rfl ts_3 (iR rfl) rfl rfl) ?_
   refine sV rfl rfl rfl (sp_gtr rfl (iR rfl) iL) ?_
   refine sQ rfl (sp_or rfl iL (iR rfl)) ?_
   refine sQ rfl (sp_assign rfl iL) ?_
   refine AOps.nil (hK16 _ ?_)
   refine AW.cond rfl (fun hc4 => ?_) (fun hc4 => ?_)
   ·have h9 := ite_t hc4 h8
    refine AW.seq_w fun K17 hK17 wK17 => ?_
    refine AW.weak (s' := ⟨[], [], ((i3 0) + 1), 83⟩) (by exact Weak.cv trivial trivial nL) ?_
    refine AW.region ?_
    refine sQ rfl (sp_assign rfl iL) ?_
    refine AOps.nil (hK17 _ ?_)
    refine AW.ret ?_
    exact retf1 (P := Tryd.prog) (fun (r : Int) => .r (.int .i64 r)) (he1 _ (hx1 _ (Option.some.inj (he2 _ (Option.some.inj h9).symm)).symm)) iL (.t (.d rfl))
   ·have h9 := ite_f hc4 h8
    refine AW.seq_w fun K18 hK18 wK18 => ?_
    refine AW.regionQ hmix (by kernel_rfl) ?_
    refine AQ.step rfl rfl rfl (sp_move rfl iL) ?_
    refine AQ.step rfl rfl rfl (sp_gtr rfl iL iL) ?_
    refine AQ.step rfl rfl rfl (sp_move rfl iL) ?_
    refine AQ.stepW (.one rfl rfl rfl) rfl rfl (sp_move rfl iL) ?_
    refine AQ.stepW (.one rfl rfl rfl) rfl rfl (sp_move rfl iL) ?_
    refine ob1k h9 fun x6 ex6 h10 => ?_
    refine AQ.stepW (.one rfl rfl rfl) rfl rfl (ms_sub rfl (iR rfl) iL (gdt ex6)) ?_
    refine ob1k h10 fun x7 ex7 h11 => ?_
    refine AQ.stepW (.one rfl rfl rfl) rfl rfl (ms_idx rfl tg_47.slice (iR rfl) (iR rfl) (fun _ => rfl) (gdt ex7)) ?_
    refine AQ.stepW (.one rfl rfl rfl) rfl rfl (sp_fieldAddr_ro rfl tf_91_0 (iR rfl)) ?_
    refine AQ.stepW (.one rfl rfl rfl) rfl rfl (ms_load (d := .int .i64 x7.Kind) rfl ts_3 (iR rfl) rfl) ?_
    refine AQ.stepW (.one rfl rfl rfl) rfl rfl (sp_fieldAddr_own (ob := .box _ _ _) rfl tf_91_0 iL fR rfl) ?_
    refine AQ.stepW (.one rfl rfl rfl) rfl rfl (ms_load_box (a := .r (.int .i64 x5.Kind)) rfl ts_3 (iR rfl) rfl rfl) ?_
    refine AQ.stepW (.one rfl rfl rfl) rfl rfl (sp_eql rfl (iR rfl) (iR rfl)) ?_
    refine AQ.stepW (.one rfl rfl rfl) rfl rfl (sp_move rfl (iR rfl)) ?_
    refine AQ.stepW (.two rfl rfl rfl) rfl rfl (sp_move rfl iL) ?_
    refine AQ.stepW (.two rfl rfl rfl) rfl rfl (sp_move rfl iL) ?_
    refine AQ.stepW (.two rfl rfl rfl) rfl rfl (ms_sub rfl (iR rfl) iL (fun h => gdt ex6 (Bool.and_eq_true_iff.1 h).1)) ?_
    refine AQ.stepW (.two rfl rfl rfl) rfl rfl (ms_idx rfl tg_47.slice (iR rfl) (iR rfl) (fun _ => rfl) (fun h => gdt ex7 (Bool.and_eq_true_iff.1 h).1)) ?_
    refine AQ.stepW (.two rfl rfl rfl) rfl rfl (sp_fieldAddr_ro rfl tf_91_0 (iR rfl)) ?_
    refine AQ.stepW (.two rfl rfl rfl) rfl rfl (ms_load (d := .int .i64 x7.Kind) rfl ts_3 (iR rfl) rfl) ?_
    refine AQ.stepW (.two rfl rfl rfl) rfl rfl (sp_eql rfl (iR rfl) iL) ?_
    refine AQ.stepW (.two rfl rfl rfl) rfl rfl (sp_move rfl (iR rfl)) ?_
    refine AQ.stepW (.two rfl rfl rfl) rfl rfl (sp_fieldAddr_own (ob := .box _ _ _) rfl tf_91_0 iL fR rfl) ?_
    refine AQ.stepW (.two rfl rfl rfl) rfl rfl (ms_load_box (a := .r (.int .i64 x5.Kind)) rfl ts_3 (iR rfl) rfl rfl) ?_
    refine AQ.stepW (.two rfl rfl rfl) rfl rfl (sp_eql rfl (iR rfl) iL) ?_
    refine AQ.stepW (.two rfl rfl rfl) rfl rfl (sp_and rfl (iR rfl) (iR rfl)) ?_
    refine AQ.stepW (.one rfl rfl rfl) rfl rfl (sp_or rfl (iR rfl) (iR rfl)) ?_
    refine AQ.step rfl rfl rfl (sp_and rfl iL (iR rfl)) ?_
    refine AQ.step rfl rfl rfl (sp_assign rfl iL) ?_
    refine AQ.nil ?_
    refine hK18 _ ?_
    refine AW.cond rfl (fun hc5 => ?_) (fun hc5 => ?_)
    ·have h12 := ite_t hc5 h11
     refine AW.seq_w fun K19 hK19 wK19 => ?_
     refine AW.weak (s' := ⟨[], [], ((i3 0) + 1), 83⟩) (by exact Weak.cv trivial trivial nL) ?_
     refine AW.region ?_
     refine sQ rfl (sp_assign rfl iL) ?_
     refine AOps.nil (hK19 _ ?_)
     refine AW.ret ?_
     exact retf1 (P := Tryd.prog) (fun (r : Int) => .r (.int .i64 r)) (he1 _ (hx1 _ (Option.some.inj (he2 _ (Option.some.inj h12).symm)).symm)) iL (.t (.d rfl))
    ·have h12 := ite_f hc5 h11
     refine AW.skip ?_
     refine hK13 _ ?_
     refine AW.seq_w fun K20 hK20 wK20 => ?_
     refine AW.seq_w fun K21 hK21 wK21 => ?_
     refine AW.weak (s' := ⟨[(0, .r (.sl (a1.map GAxisStep.row))), (3, .r (.int .i64 before2)), (4, .r (.int .i64 after2)), (6, .ptr 6 (i3 0) 0 0), (7, .r (.sl (a1.map GAxisStep.row))), (8, .r (.int .i64 (a1.length : Int))), (9, .r (.int .i64 x2))], [(6, some (.box (i3 0) 91 [.r (.int .i64 x5.Kind), .r (.int .i64 x5.N)]))], ((i3 0) + 1), 83⟩) (by exact Weak.cv ⟨jL, jL, jL, jL, jL, jL, jL, trivial⟩ ⟨.inl rfl, trivial⟩ nL) ?_
     refine AW.region ?_
     refine sQ rfl (sp_fieldAddr_own (ob := .box _ _ _) rfl tf_91_0 iL fR rfl) ?_
     refine sQ rfl (ms_load_box (a := .r (.int .i64 x5.Kind)) rfl ts_3 iL rfl rfl) ?_
     refine sQ rfl (sp_neq rfl iL iL) ?_
     refine AOps.nil (hK21 _ ?_)
     refine jb1k h12 fun p2 hp2 hk3 => ?_
     have J3 : ∀ (before6 : Int) (i7 : Nat → Nat), p2 = before6 → K20 ⟨[(0, .r (.sl (a1.map GAxisStep.row))), (3, .r (.int .i64 before6)), (4, .r (.int .i64 after2)), (6, .ptr 6 (i3 0) 0 0), (7, .r (.sl (a1.map GAxisStep.row))), (8, .r (.int .i64 (a1.length : Int))), (9, .r (.int .i64 x2))], [(6, some (.box (i3 0) 91 [.r (.int .i64 x5.Kind), .r (.int .i64 x5.N)]))], (i7 0), 83⟩ := by
      intro before6 i7 e
      have h13 := hk3 _ e
      refine hK20 _ ?_
      refine AW.seq_w fun K22 hK22 wK22 => ?_
      refine AW.region ?_
      refine sQ rfl (sp_fieldAddr_own (ob := .box _ _ _) rfl tf_91_0 iL fR rfl) ?_
      refine sQ rfl (ms_load_box (a := .r (.int .i64 x5.Kind)) rfl ts_3 iL rfl rfl) ?_
      refine sQ rfl (sp_neq rfl iL iL) ?_
      refine AOps.nil (hK22 _ ?_)
      refine AW.cond rfl (fun hc6 => ?_) (fun hc6 => ?_)
      ·have h14 := ite_t hc6 h13
       refine AW.region ?_
       refine sM rfl rfl ?_
       refine sQ rfl (sp_fieldAddr_own (ob := .box _ _ _) rfl tf_91_1 iL fR rfl) ?_
       refine sQ rfl (ms_load_box (a := .r (.int .i64 x5.N)) rfl ts_3 iL rfl rfl) ?_
       refine ob1k h14 fun x8 ex8 h15 => ?_
       refine sQ rfl (ms_add rfl iL iL (fun _ => ex8)) ?_
       refine sQ rfl (sp_min rfl iL iL) ?_
       refine sQ rfl (sp_assign rfl iL) ?_
       refine AOps.nil ?_
       exact wK11 _ _ ((by exact Weak.cv ⟨jL, jL, jL, jL, jL, jL, trivial⟩ trivial nL)) (J2 _ _ (vec [(i7 0)]) (Option.some.inj h15).symm)
      ·have h14 := ite_f hc6 h13
       refine AW.skip ?_
       exact wK11 _ _ ((by exact Weak.cv ⟨jL, jL, jL, jL, jL, jL, trivial⟩ trivial nL)) (J2 _ _ (vec [(i7 0)]) (Option.some.inj h14).symm)
     refine AW.cond rfl (fun hc7 => ?_) (fun hc7 => ?_)
     ·have h16 := ite_t hc7 hp2
      refine AW.region ?_
      refine sM rfl rfl ?_
      refine sQ rfl (sp_fieldAddr_own (ob := .box _ _ _) rfl tf_91_1 iL fR rfl) ?_
      refine sQ rfl (ms_load_box (a := .r (.int .i64 x5.N)) rfl ts_3 iL rfl rfl) ?_
      refine ob1k h16 fun x9 ex9 h17 => ?_
      refine sQ rfl (ms_add rfl iL iL (fun _ => ex9)) ?_
      refine sQ rfl (sp_min rfl iL iL) ?_
      refine sQ rfl (sp_assign rfl iL) ?_
      refine AOps.nil ?_
      exact wK20 _ _ ((by exact Weak.cv ⟨jL, jL, jL, jL, jL, jL, jL, trivial⟩ ⟨.inl rfl, trivial⟩ nL)) (J3 _ (vec [((i3 0) + 1)]) (Option.some.inj h17).symm)
     ·have h16 := ite_f hc7 hp2
      refine AW.skip ?_
      exact wK20 _ _ ((by exact Weak.cv ⟨jL, jL, jL, jL, jL, jL, jL, trivial⟩ ⟨.inl rfl, trivial⟩ nL)) (J3 _ (vec [((i3 0) + 1)]) (Option.some.inj h16).symm)
 ·have h4 := ite_f hc2 h3
  refine AW.exit ?_
  exact wK3 _ _ ((by exact Weak.cv ⟨jL, jL, trivial⟩ trivial nL)) (J1 _ _ (vec [(i3 0)]) (hx1 _ (Option.some.inj h4).symm))
set_option maxHeartbeats 4000000 in
set_option maxRecDepth 20000 in
theorem w_grid_CheckEdit {e1 : GGridEdit} {r : Int} (h : grid_CheckEdit e1 = some r) : ARO Tryd.prog 32 [.agg [.r (.sl (e1.Rows.map GAxisStep.row)), .r (.sl (e1.Cols.map GAxisStep.row)), .r (.sl (e1.Cells.map GCell.row)), .r (.sl (e1.Split.map GRect.row)), .r (.sl (e1.Merge.map GRect.row))]] (.r (.int .i64 r)) := by
 unfold grid_CheckEdit at h
 refine ARO.mkF Tryd.func32 rfl rfl Tryd.ntmps32 rfl (Nat.le_of_ble_eq_true rfl) fun n0 => ?_
 refine AW.seq_w fun K1 hK1 wK1 => ?_
 refine AW.region ?_
 refine AOps.step rfl rfl rfl (ms_box (cs := [.r (.sl (e1.Rows.map GAxisStep.row)), .r (.sl (e1.Cols.map GAxisStep.row)), .r (.sl (e1.Cells.map GCell.row)), .r (.sl (e1.Split.map GRect.row)), .r (.sl (e1.Merge.map GRect.row))]) 1 rfl iL rfl rfl) ?_
 refine sQ rfl (sp_assign rfl iL) ?_
 refine AOps.nil (hK1 _ ?_)
 refine AW.seq_w fun K2 hK2 wK2 => ?_
 refine AW.seq_w fun K3 hK3 wK3 => ?_
 refine AW.region ?_
 refine sQ rfl (sp_fieldAddr_own (ob := .box _ _ _) rfl tf_49_0 iL fR rfl) ?_
 refine sQ rfl (ms_load_box (a := .r (.sl (e1.Rows.map GAxisStep.row))) rfl ts_47 iL rfl rfl) ?_
 refine sQ rfl (sp_fieldAddr_own (ob := .box _ _ _) rfl tf_49_1 iL fR rfl) ?_
 refine sQ rfl (ms_load_box (a := .r (.sl (e1.Cols.map GAxisStep.row))) rfl ts_47 iL rfl rfl) ?_
 refine sQ rfl (sp_buildArr rfl tb_113 (q := [(0, _), (1, _)]) (by exact ⟨rfl, rfl, rfl, iL, rfl, rfl, rfl, iL, trivial⟩) (cs := [.r (.sl (e1.Rows.map GAxisStep.row)), .r (.sl (e1.Cols.map GAxisStep.row))]) (by rfl)) ?_
 refine sM rfl rfl ?_
 refine AOps.nil (hK3 _ ?_)
 refine AW.block ?_
 refine jc1k h fun o1 hit1 hk1 he1 => ?_
 have J1 : ∀ (u2 : Unit) (i5 : Nat → Nat), o1 = .nrm u2 → K2 ⟨[(1, .ptr 1 n0 0 0)], [(1, some (.box n0 49 [.r (.sl (e1.Rows.map GAxisStep.row)), .r (.sl (e1.Cols.map GAxisStep.row)), .r (.sl (e1.Cells.map GCell.row)), .r (.sl (e1.Split.map GRect.row)), .r (.sl (e1.Merge.map GRect.row))]))], (i5 0), 63⟩ := by
  intro u2 i5 e
  have h1 := hk1 _ e
  refine hK2 _ ?_
  refine AW.seq_w fun K4 hK4 wK4 => ?_
  refine AW.seq_w fun K5 hK5 wK5 => ?_
  refine AW.region ?_
  refine sQ rfl (sp_fieldAddr_own (ob := .box _ _ _) rfl tf_49_2 iL fR rfl) ?_
  refine sQ rfl (ms_load_box (a := .r (.sl (e1.Cells.map GCell.row))) rfl ts_29 iL rfl rfl) ?_
  refine ob1k h1 fun f1 ef1 h2 => ?_
  refine AOps.step rfl rfl rfl (sp_call (r := .r (.int .i64 f1)) (caps := []) (bs := [.r (.sl (e1.Cells.map GCell.row)), .r (.int .i64 2147483647), .r (.int .i64 2147483647), .r (.bool true)]) rfl iL rfl ⟨⟨_, iL, .d rfl⟩, ⟨_, iL, .d rfl⟩, ⟨_, iL, .d rfl⟩, ⟨_, iL, .d rfl⟩, trivial⟩ (fun _ => w_grid_cells (ef1)) rfl) ?_
  refine sQ rfl (sp_assign rfl iL) ?_
  refine AOps.nil (hK5 _ ?_)
  refine AW.seq_w fun K6 hK6 wK6 => ?_
  refine AW.region ?_
  refine sM rfl rfl ?_
  refine sQ rfl (sp_neq rfl iL iL) ?_
  refine AOps.nil (hK6 _ ?_)
  refine AW.cond rfl (fun hc1 => ?_) (fun hc1 => ?_)
  ·have h3 := ite_t hc1 h2
   refine AW.seq_w fun K7 hK7 wK7 => ?_
   refine AW.region ?_
   refine sM rfl rfl ?_
   refine sQ rfl (sp_assign rfl iL) ?_
   refine AOps.nil (hK7 _ ?_)
   refine AW.ret ?_
   exact retf1 (P := Tryd.prog) (fun (r : Int) => .r (.int .i64 r)) h3 iL (.t (.d rfl))
  ·have h3 := ite_f hc1 h2
   refine AW.skip ?_
   refine hK4 _ ?_
   refine AW.seq_w fun K8 hK8 wK8 => ?_
   refine AW.seq_w fun K9 hK9 wK9 => ?_
   refine AW.region ?_
   refine sQ rfl (sp_fieldAddr_own (ob := .box _ _ _) rfl tf_49_3 iL fR rfl) ?_
   refine sQ rfl (ms_load_box (a := .r (.sl (e1.Split.map GRect.row))) rfl ts_30 iL rfl rfl) ?_
   refine sQ rfl (sp_fieldAddr_own (ob := .box _ _ _) rfl tf_49_4 iL fR rfl) ?_
   refine sQ rfl (ms_load_box (a := .r (.sl (e1.Merge.map GRect.row))) rfl ts_30 iL rfl rfl) ?_
   refine sQ rfl (sp_buildArr rfl tb_114 (q := [(0, _), (1, _)]) (by exact ⟨rfl, rfl, rfl, iL, rfl, rfl, rfl, iL, trivial⟩) (cs := [.r (.sl (e1.Split.map GRect.row)), .r (.sl (e1.Merge.map GRect.row))]) (by rfl)) ?_
   refine sM rfl rfl ?_
   refine AOps.nil (hK9 _ ?_)
   refine AW.block ?_
   refine jc1k h3 fun o2 hit2 hk2 he2 => ?_
   have J2 : ∀ (u4 : Unit) (i10 : Nat → Nat), o2 = .nrm u4 → K8 ⟨[], [], (i10 0), 63⟩ := by
    intro u4 i10 e
    have h4 := hk2 _ e
    refine hK8 _ ?_
    refine AW.seq_w fun K10 hK10 wK10 => ?_
    refine AW.region ?_
    refine sQ rfl (sp_assign rfl iL) ?_
    refine AOps.nil (hK10 _ ?_)
    refine AW.ret ?_
    exact retf1 (P := Tryd.prog) (fun (r : Int) => .r (.int .i64 r)) h4 iL (.t (.d rfl))
   refine AW.iter1 (fun (x5 : Int) i8 => ⟨[(35, .agg [.r (.sl (e1.Split.map GRect.row)), .r (.sl (e1.Merge.map GRect.row))]), (36, .r (.int .i64 x5))], [], (i8 0), 63⟩) (vec [(i5 0)]) hit2 ((by exact Weak.cv ⟨jL, jL, trivial⟩ trivial nL)) ?_
   intro x5 i8 v1 hv1 hx2
   have h5 : grid_CheckEdit_L2 e1 x5 = some v1 := hv1; unfold grid_CheckEdit_L2 at h5
   refine AW.seq_w fun K11 hK11 wK11 => ?_
   refine AW.region ?_
   refine sQ rfl (sp_lss rfl iL iL) ?_
   refine AOps.nil (hK11 _ ?_)
   refine AW.seq_w fun K12 hK12 wK12 => ?_
   refine AW.cond rfl (fun hc2 => ?_) (fun hc2 => ?_)
   ·have h6 := ite_t hc2 h5
    refine AW.skip ?_
    refine hK12 _ ?_
    refine AW.seq_w fun K13 hK13 wK13 => ?_
    refine AW.block ?_
    refine AW.seq_w fun K14 hK14 wK14 => ?_
    refine AW.region ?_
    refine sM rfl rfl ?_
    refine ob1k h6 fun l1 el1 h7 => ?_
    refine sQ rfl (ms_idx_arr (f := fun a => .r (.sl (a.map GRect.row))) (l := [e1.Split, e1.Merge]) rfl tq_114 (.inl rfl) (.inl rfl) rfl (fun _ => el1)) ?_
    refine sQ rfl (sp_assign rfl iL) ?_
    refine sQ rfl (sp_assign rfl iL) ?_
    refine AOps.nil (hK14 _ ?_)
    refine AW.seq_w fun K15 hK15 wK15 => ?_
    refine AW.region ?_
    refine sM rfl rfl ?_
    refine sQ rfl (ms_len rfl tg_30.slice iL) ?_
    refine sM rfl rfl ?_
    refine AOps.nil (hK15 _ ?_)
    refine AW.block ?_
    refine jc1k h7 fun o3 hit3 hk3 he3 => ?_
    have J3 : ∀ (u6 : Unit) (i15 : Nat → Nat), o3 = .nrm u6 → K13 ⟨[(35, .agg [.r (.sl (e1.Split.map GRect.row)), .r (.sl (e1.Merge.map GRect.row))]), (36, .r (.int .i64 x5))], [], (i15 0), 63⟩ := by
     intro u6 i15 e
     have h8 := hk3 _ e
     refine hK13 _ ?_
     refine AW.region ?_
     refine ob1k h8 fun x10 ex10 h9 => ?_
     refine sQ rfl (ms_add rfl iL iL (fun _ => ex10)) ?_
     refine sM rfl rfl ?_
     refine AOps.nil ?_
     exact NextQ1.mk h9 (vec [(i15 0)]) ((by exact Weak.cv ⟨jL, jL, trivial⟩ trivial nL))
    refine AW.iter1 (fun (x8 : Int) i13 => ⟨[(7, .r (.int .i64 x5)), (35, .agg [.r (.sl (e1.Split.map GRect.row)), .r (.sl (e1.Merge.map GRect.row))]), (36, .r (.int .i64 x5)), (40, .r (.sl (l1.map GRect.row))), (41, .r (.int .i64 (l1.length : Int))), (42, .r (.int .i64 x8))], [], (i13 0), 63⟩) (vec [(i8 0)]) hit3 ((by exact Weak.cv ⟨jL, jL, jL, jL, jL, jL, trivial⟩ trivial nL)) ?_
    intro x8 i13 v2 hv2 hx3
    have h10 : grid_CheckEdit_L3 x5 l1 x8 = some v2 := hv2; unfold grid_CheckEdit_L3 at h10
    refine AW.seq_w fun K16 hK16 wK16 => ?_
    refine AW.region ?_
    refine sQ rfl (sp_lss rfl iL iL) ?_
    refine AOps.nil (hK16 _ ?_)
    refine AW.seq_w fun K17 hK17 wK17 => ?_
    refine AW.cond rfl (fun hc3 => ?_) (fun hc3 => ?_)
    ·have h11 := ite_t hc3 h10
     refine AW.skip ?_
     refine hK17 _ ?_
     refine AW.seq_w fun K18 hK18 wK18 => ?_
     refine AW.block ?_
     refine AW.seq_w fun K19 hK19 wK19 => ?_
     refine AW.region ?_
     refine ob1k h11 fun x11 ex11 h12 => ?_
     refine sQ rfl (ms_idx rfl tg_30.slice iL iL (fun _ => rfl) (fun _ => ex11)) ?_
     refine sQ rfl (ms_loadA (cs := [.r (.int .i64 x11.Row), .r (.int .i64 x11.Col), .r (.int .i64 x11.H), .r (.int .i64 x11.W)]) rfl ta_64 iL rfl rfl) ?_
     refine AOps.step rfl rfl rfl (ms_alloc (cs := [.r (.int .i64 0), .r (.int .i64 0), .r (.int .i64 0), .r (.int .i64 0)]) 10 rfl t0_64 rfl rfl) ?_
     refine AOps.step0 rfl rfl (ms_store_box (ds := [.r (.int .i64 x11.Row), .r (.int .i64 x11.Col), .r (.int .i64 x11.H), .r (.int .i64 x11.W)]) rfl tz_64 iL rfl iL rfl rfl rfl rfl) ?_
     refine AOps.nil (hK19 _ ?_)
     refine AW.seq_w fun K20 hK20 wK20 => ?_
     refine AW.seq_w fun K21 hK21 wK21 => ?_
     refine AW.region ?_
     refine sQ rfl (ms_loadA_box rfl ta_64 iL rfl rfl) ?_
     refine ob1k h12 fun r1 er1 h13 => ?_
     refine AOps.step rfl rfl rfl (sp_call (r := .r (.bool r1)) (caps := []) (bs := [.agg [.r (.int .i64 x11.Row), .r (.int .i64 x11.Col), .r (.int .i64 x11.H), .r (.int .i64 x11.W)], .r (.int .i64 2147483647), .r (.int .i64 2147483647)]) rfl iL rfl ⟨⟨_, iL, .g (cs := [.int .i64 x11.Row, .int .i64 x11.Col, .int .i64 x11.H, .int .i64 x11.W]) rfl rfl⟩, ⟨_, iL, .d rfl⟩, ⟨_, iL, .d rfl⟩, trivial⟩ (fun _ => w_grid_inside (er1)) rfl) ?_
     refine sQ rfl (sp_not rfl iL) ?_
     refine AOps.nil (hK21 _ ?_)
     refine AW.cond rfl (fun hc4 => ?_) (fun hc4 => ?_)
     ·have h14 := ite_t hc4 h13
      refine AW.seq_w fun K22 hK22 wK22 => ?_
      refine AW.weak (s' := ⟨[], [], ((i13 0) + 1), 63⟩) (by exact Weak.cv trivial trivial nL) ?_
      refine AW.region ?_
      refine sQ rfl (sp_assign rfl iL) ?_
      refine AOps.nil (hK22 _ ?_)
      refine AW.ret ?_
      exact retf1 (P := Tryd.prog) (fun (r : Int) => .r (.int .i64 r)) (he2 _ (hx2 _ (Option.some.inj (he3 _ (hx3 _ (Option.some.inj h14).symm))).symm)) iL (.t (.d rfl))
     ·have h14 := ite_f hc4 h13
      refine AW.skip ?_
      refine hK20 _ ?_
      refine AW.seq_w fun K23 hK23 wK23 => ?_
      refine AW.region ?_
      refine sM rfl rfl ?_
      refine sQ rfl (sp_eql rfl iL iL) ?_
      refine sM rfl rfl ?_
      refine sV rfl rfl rfl (sp_fieldAddr_own (ob := .box _ _ _) rfl tf_64_2 iL fR rfl) ?_
      refine sV rfl rfl rfl (ms_load_box (a := .r (.int .i64 x11.H)) rfl ts_3 (iR rfl) rfl rfl) ?_
      refine sV rfl rfl rfl (sp_eql rfl (iR rfl) iL) ?_
      refine sQ rfl (sp_and rfl iL (iR rfl)) ?_
      refine sM rfl rfl ?_
      refine sV rfl rfl rfl (sp_fieldAddr_own (ob := .box _ _ _) rfl tf_64_3 iL fR rfl) ?_
      refine sV rfl rfl rfl (ms_load_box (a := .r (.int .i64 x11.W)) rfl ts_3 (iR rfl) rfl rfl) ?_
      refine sV rfl rfl rfl (sp_eql rfl (iR rfl) iL) ?_
      refine sQ rfl (sp_and rfl iL (iR rfl)) ?_
      refine AOps.nil (hK23 _ ?_)
      refine AW.cond rfl (fun hc5 => ?_) (fun hc5 => ?_)
      ·have h15 := ite_t hc5 h14
       refine AW.seq_w fun K24 hK24 wK24 => ?_
       refine AW.weak (s' := ⟨[], [], ((i13 0) + 1), 63⟩) (by exact Weak.cv trivial trivial nL) ?_
       refine AW.region ?_
       refine sQ rfl (sp_assign rfl iL) ?_
       refine AOps.nil (hK24 _ ?_)
       refine AW.ret ?_
       exact retf1 (P := Tryd.prog) (fun (r : Int) => .r (.int .i64 r)) (he2 _ (hx2 _ (Option.some.inj (he3 _ (hx3 _ (Option.some.inj h15).symm))).symm)) iL (.t (.d rfl))
      ·have h15 := ite_f hc5 h14
       refine AW.skip ?_
       refine hK18 _ ?_
       refine AW.weak (s' := ⟨[(7, .r (.int .i64 x5)), (35, .agg [.r (.sl (e1.Split.map GRect.row)), .r (.sl (e1.Merge.map GRect.row))]), (36, .r (.int .i64 x5)), (40, .r (.sl (l1.map GRect.row))), (41, .r (.int .i64 (l1.length : Int))), (42, .r (.int .i64 x8))], [], ((i13 0) + 1), 63⟩) (by exact Weak.cv ⟨jL, jL, jL, jL, jL, jL, trivial⟩ trivial nL) ?_
       refine AW.region ?_
       refine ob1k h15 fun x12 ex12 h16 => ?_
       refine sQ rfl (ms_add rfl iL iL (fun _ => ex12)) ?_
       refine sM rfl rfl ?_
       refine AOps.nil ?_
       exact NextQ1.mk h16 (vec [((i13 0) + 1)]) ((by exact Weak.cv ⟨jL, jL, jL, jL, jL, jL, trivial⟩ trivial nL))
    ·have h11 := ite_f hc3 h10
     refine AW.exit ?_
     exact wK13 _ _ ((by exact Weak.cv ⟨jL, jL, trivial⟩ trivial nL)) (J3 _ (vec [(i13 0)]) (hx3 _ (Option.some.inj h11).symm))
   ·have h6 := ite_f hc2 h5
    refine AW.exit ?_
    exact wK8 _ _ ((by exact Weak.cv trivial trivial nL)) (J2 _ (vec [(i8 0)]) (hx2 _ (Option.some.inj h6).symm))
 refine AW.iter1 (fun (x2 : Int) i3 => ⟨[(1, .ptr 1 n0 0 0), (15, .agg [.r (.sl (e1.Rows.map GAxisStep.row)), .r (.sl (e1.Cols.map GAxisStep.row))]), (16, .r (.int .i64 x2))], [(1, some (.box n0 49 [.r (.sl (e1.Rows.map GAxisStep.row)), .r (.sl (e1.Cols.map GAxisStep.row)), .r (.sl (e1.Cells.map GCell.row)), .r (.sl (e1.Split.map GRect.row)), .r (.sl (e1.Merge.map GRect.row))]))], (i3 0), 63⟩) (vec [(n0 + 1)]) hit1 ((by exact Weak.cv ⟨jL, jL, jL, trivial⟩ ⟨.inl rfl, trivial⟩ nL)) ?_
 intro x2 i3 v3 hv3 hx1
 have h17 : grid_CheckEdit_L1 e1 x2 = some v3 := hv3; unfold grid_CheckEdit_L1 at h17
 refine AW.seq_w fun K25 hK25 wK25 => ?_
 refine AW.region ?_
 refine sQ rfl (sp_lss rfl iL iL) ?_
 refine AOps.nil (hK25 _ ?_)
 refine AW.seq_w fun K26 hK26 wK26 => ?_
 refine AW.cond rfl (fun hc6 => ?_) (fun hc6 => ?_)
 ·have h18 := ite_t hc6 h17
  refine AW.skip ?_
  refine hK26 _ ?_
  refine AW.seq_w fun K27 hK27 wK27 => ?_
  refine AW.block ?_
  refine AW.seq_w fun K28 hK28 wK28 => ?_
  refine AW.region ?_
  refine ob1k h18 fun a1 ea1 h19 => ?_
  refine sQ rfl (ms_idx_arr (f := fun a => .r (.sl (a.map GAxisStep.row))) (l := [e1.Rows, e1.Cols]) rfl tq_113 (.inl rfl) (.inl rfl) rfl (fun _ => ea1)) ?_
  refine sQ rfl (sp_assign rfl iL) ?_
  refine AOps.nil (hK28 _ ?_)
  refine AW.seq_w fun K29 hK29 wK29 => ?_
  refine AW.region ?_
  refine sM rfl rfl ?_
  refine ob1k h19 fun f2 ef2 h20 => ?_
  refine AOps.step rfl rfl rfl (sp_call (r := .r (.int .i64 f2)) (caps := []) (bs := [.r (.sl (a1.map GAxisStep.row))]) rfl iL rfl ⟨⟨_, iL, .d rfl⟩, trivial⟩ (fun _ => w_axis_Check (ef2)) rfl) ?_
  refine sQ rfl (sp_assign rfl iL) ?_
  refine AOps.nil (hK29 _ ?_)
  refine AW.seq_w fun K30 hK30 wK30 => ?_
  refine AW.region ?_
  refine sM rfl rfl ?_
  refine sQ rfl (sp_neq rfl iL iL) ?_
  refine AOps.nil (hK30 _ ?_)
  refine AW.cond rfl (fun hc7 => ?_) (fun hc7 => ?_)
  ·have h21 := ite_t hc7 h20
   refine AW.seq_w fun K31 hK31 wK31 => ?_
   refine AW.weak (s' := ⟨[(5, .r (.int .i64 f2))], [], (i3 0), 63⟩) (by exact Weak.cv ⟨jL, trivial⟩ trivial nL) ?_
   refine AW.region ?_
   refine sM rfl rfl ?_
   refine sQ rfl (sp_assign rfl iL) ?_
   refine AOps.nil (hK31 _ ?_)
   refine AW.ret ?_
   exact retf1 (P := Tryd.prog) (fun (r : Int) => .r (.int .i64 r)) (he1 _ (hx1 _ (Option.some.inj h21).symm)) iL (.t (.d rfl))
  ·have h21 := ite_f hc7 h20
   refine AW.skip ?_
   refine hK27 _ ?_
   refine AW.region ?_
   refine ob1k h21 fun x13 ex13 h22 => ?_
   refine sQ rfl (ms_add rfl iL iL (fun _ => ex13)) ?_
   refine sM rfl rfl ?_
   refine AOps.nil ?_
   exact NextQ1.mk h22 (vec [(i3 0)]) ((by exact Weak.cv ⟨jL, jL, jL, trivial⟩ ⟨.inl rfl, trivial⟩ nL))
 ·have h18 := ite_f hc6 h17
  refine AW.exit ?_
  exact wK2 _ _ ((by exact Weak.cv ⟨jL, trivial⟩ ⟨.inl rfl, trivial⟩ nL)) (J1 _ (vec [(i3 0)]) (hx1 _ (Option.some.inj h18).symm))
set_option maxHeartbeats 4000000 in
set_option maxRecDepth 20000 in
theorem w_axis_lengths {a1 : List GAxisStep} {r : Int × Int} (h : axis_lengths a1 = some r) : ARO Tryd.prog 150 [.r (.sl (a1.map GAxisStep.row))] (.tup [.r (.int .i64 r.1), .r (.int .i64 r.2)]) := by
 unfold axis_lengths at h
 refine ARO.mkF Tryd.func150 rfl rfl Tryd.ntmps150 rfl (Nat.le_of_ble_eq_true rfl) fun n0 => ?_
 refine AW.seq_w fun K1 hK1 wK1 => ?_
 refine AW.region ?_
 refine sQ rfl (sp_assign rfl iL) ?_
 refine sQ rfl (sp_assign rfl iL) ?_
 refine AOps.nil (hK1 _ ?_)
 refine AW.seq_w fun K2 hK2 wK2 => ?_
 refine AW.region ?_
 refine sQ rfl (sp_assign rfl iL) ?_
 refine sQ rfl (sp_assign rfl iL) ?_
 refine AOps.nil (hK2 _ ?_)
 refine AW.seq_w fun K3 hK3 wK3 => ?_
 refine AW.seq_w fun K4 hK4 wK4 => ?_
 refine AW.region ?_
 refine sM rfl rfl ?_
 refine sQ rfl (ms_len rfl tg_47.slice iL) ?_
 refine sM rfl rfl ?_
 refine AOps.nil (hK4 _ ?_)
 refine AW.block ?_
 refine jb2k h fun o1 hit1 hk1 => ?_
 have J1 : ∀ (before4 : Int) (after4 : Int) (i5 : Nat → Nat), o1 = (before4, after4) → K3 ⟨[(4, .r (.int .i64 before4)), (5, .r (.int .i64 after4))], [], (i5 0), 31⟩ := by
  intro before4 after4 i5 e
  have h1 := hk1 _ _ e
  refine hK3 _ ?_
  refine AW.seq_w fun K5 hK5 wK5 => ?_
  refine AW.region ?_
  refine sM rfl rfl ?_
  refine sM rfl rfl ?_
  refine sQ rfl (sp_assign rfl iL) ?_
  refine sQ rfl (sp_assign rfl iL) ?_
  refine AOps.nil (hK5 _ ?_)
  refine AW.ret ?_
  exact retf2 (P := Tryd.prog) (fun (r : Int × Int) => .r (.int .i64 r.1)) (fun (r : Int × Int) => .r (.int .i64 r.2)) h1 iL (.t (.d rfl)) (.t (.d rfl))
 refine AW.iter3 (fun (before2 : Int) (after2 : Int) (x2 : Int) i3 => ⟨[(4, .r (.int .i64 before2)), (5, .r (.int .i64 after2)), (8, .r (.sl (a1.map GAxisStep.row))), (9, .r (.int .i64 (a1.length : Int))), (10, .r (.int .i64 x2))], [], (i3 0), 31⟩) (vec [n0]) hit1 ((by exact Weak.cv ⟨jL, jL, jL, jL, jL, trivial⟩ trivial nL)) ?_
 intro before2 after2 x2 i3 v1 hv1 hx1
 have h2 : axis_lengths_L1 a1 before2 after2 x2 = some v1 := hv1; unfold axis_lengths_L1 at h2
 refine AW.seq_w fun K6 hK6 wK6 => ?_
 refine AW.region ?_
 refine sQ rfl (sp_lss rfl iL iL) ?_
 refine AOps.nil (hK6 _ ?_)
 refine AW.seq_w fun K7 hK7 wK7 => ?_
 refine AW.cond rfl (fun hc1 => ?_) (fun hc1 => ?_)
 ·have h3 := ite_t hc1 h2
  refine AW.skip ?_
  refine hK7 _ ?_
  refine AW.seq_w fun K8 hK8 wK8 => ?_
  refine AW.block ?_
  refine jb2k h3 fun p1 hp1 hk2 => ?_
  have J2 : ∀ (before5 : Int) (after5 : Int) (i6 : Nat → Nat), p1 = (before5, after5) → K8 ⟨[(4, .r (.int .i64 before5)), (5, .r (.int .i64 after5)), (8, .r (.sl (a1.map GAxisStep.row))), (9, .r (.int .i64 (a1.length : Int))), (10, .r (.int .i64 x2))], [], (i6 0), 31⟩ := by
   intro before5 after5 i6 e
   have h4 := hk2 _ _ e
   refine hK8 _ ?_
   refine AW.region ?_
   refine ob1k h4 fun x4 ex4 h5 => ?_
   refine sQ rfl (ms_add rfl iL iL (fun _ => ex4)) ?_
   refine sM rfl rfl ?_
   refine AOps.nil ?_
   exact NextQ3.mk h5 (vec [(i6 0)]) ((by exact Weak.cv ⟨jL, jL, jL, jL, jL, trivial⟩ trivial nL))
  refine AW.seq_w fun K9 hK9 wK9 => ?_
  refine AW.region ?_
  refine ob1k hp1 fun x5 ex5 h6 => ?_
  refine sQ rfl (ms_idx rfl tg_47.slice iL iL (fun _ => rfl) (fun _ => ex5)) ?_
  refine sQ rfl (ms_loadA (cs := [.r (.int .i64 x5.Kind), .r (.int .i64 x5.N)]) rfl ta_91 iL rfl rfl) ?_
  refine AOps.step rfl rfl rfl (ms_alloc (cs := [.r (.int .i64 0), .r (.int .i64 0)]) 7 rfl t0_91 rfl rfl) ?_
  refine AOps.step0 rfl rfl (ms_store_box (ds := [.r (.int .i64 x5.Kind), .r (.int .i64 x5.N)]) rfl tz_91 iL rfl iL rfl rfl rfl rfl) ?_
  refine AOps.nil (hK9 _ ?_)
  refine AW.seq_w fun K10 hK10 wK10 => ?_
  refine AW.seq_w fun K11 hK11 wK11 => ?_
  refine AW.region ?_
  refine sQ rfl (sp_fieldAddr_own (ob := .box _ _ _) rfl tf_91_0 iL fR rfl) ?_
  refine sQ rfl (ms_load_box (a := .r (.int .i64 x5.Kind)) rfl ts_3 iL rfl rfl) ?_
  refine sQ rfl (sp_neq rfl iL iL) ?_
  refine AOps.nil (hK11 _ ?_)
  refine jb1k h6 fun p2 hp2 hk3 => ?_
  have J3 : ∀ (before6 : Int) (i7 : Nat → Nat), p2 = before6 → K10 ⟨[(4, .r (.int .i64 before6)), (5, .r (.int .i64 after2)), (7, .ptr 7 (i3 0) 0 0), (8, .r (.sl (a1.map GAxisStep.row))), (9, .r (.int .i64 (a1.length : Int))), (10, .r (.int .i64 x2))], [(7, some (.box (i3 0) 91 [.r (.int .i64 x5.Kind), .r (.int .i64 x5.N)]))], (i7 0), 31⟩ := by
   intro before6 i7 e
   have h7 := hk3 _ e
   refine hK10 _ ?_
   refine AW.seq_w fun K12 hK12 wK12 => ?_
   refine AW.region ?_
   refine sQ rfl (sp_fieldAddr_own (ob := .box _ _ _) rfl tf_91_0 iL fR rfl) ?_
   refine sQ rfl (ms_load_box (a := .r (.int .i64 x5.Kind)) rfl ts_3 iL rfl rfl) ?_
   refine sQ rfl (sp_neq rfl iL iL) ?_
   refine AOps.nil (hK12 _ ?_)
   refine AW.cond rfl (fun hc2 => ?_) (fun hc2 => ?_)
   ·have h8 := ite_t hc2 h7
    refine AW.region ?_
    refine sM rfl rfl ?_
    refine sQ rfl (sp_fieldAddr_own (ob := .box _ _ _) rfl tf_91_1 iL fR rfl) ?_
    refine sQ rfl (ms_load_box (a := .r (.int .i64 x5.N)) rfl ts_3 iL rfl rfl) ?_
    refine ob1k h8 fun after6 eafter6 h9 => ?_
    refine sQ rfl (ms_add rfl iL iL (fun _ => eafter6)) ?_
    refine sQ rfl (sp_assign rfl iL) ?_
    refine AOps.nil ?_
    exact wK8 _ _ ((by exact Weak.cv ⟨jL, jL, jL, jL, jL, trivial⟩ trivial nL)) (J2 _ _ (vec [(i7 0)]) (Option.some.inj h9).symm)
   ·have h8 := ite_f hc2 h7
    refine AW.skip ?_
    exact wK8 _ _ ((by exact Weak.cv ⟨jL, jL, jL, jL, jL, trivial⟩ trivial nL)) (J2 _ _ (vec [(i7 0)]) (Option.some.inj h8).symm)
  refine AW.cond rfl (fun hc3 => ?_) (fun hc3 => ?_)
  ·have h10 := ite_t hc3 hp2
   refine AW.region ?_
   refine sM rfl rfl ?_
   refine sQ rfl (sp_fieldAddr_own (ob := .box _ _ _) rfl tf_91_1 iL fR rfl) ?_
   refine sQ rfl (ms_load_box (a := .r (.int .i64 x5.N)) rfl ts_3 iL rfl rfl) ?_
   refine ob1k h10 fun before7 ebefore7 h11 => ?_
   refine sQ rfl (ms_add rfl iL iL (fun _ => ebefore7)) ?_
   refine sQ rfl (sp_assign rfl iL) ?_
   refine AOps.nil ?_
   exact wK10 _ _ ((by exact Weak.cv ⟨jL, jL, jL, jL, jL, jL, trivial⟩ ⟨.inl rfl, trivial⟩ nL)) (J3 _ (vec [((i3 0) + 1)]) (Option.some.inj h11).symm)
  ·have h10 := ite_f hc3 hp2
   refine AW.skip ?_
   exact wK10 _ _ ((by exact Weak.cv ⟨jL, jL, jL, jL, jL, jL, trivial⟩ ⟨.inl rfl, trivial⟩ nL)) (J3 _ (vec [((i3 0) + 1)]) (Option.some.inj h10).symm)
 ·have h3 := ite_f hc1 h2
  refine AW.exit ?_
  exact wK3 _ _ ((by exact Weak.cv ⟨jL, jL, trivial⟩ trivial nL)) (J1 _ _ (vec [(i3 0)]) (hx1 _ (Option.some.inj h3).symm))
set_option maxHeartbeats 4000000 in
set_option maxRecDepth 20000 in
theorem w_axis_Lengths {a1 : List GAxisStep} {r : Int × Int × Int} (h : axis_Lengths a1 = some r) : ARO Tryd.prog 142 [.r (.sl (a1.map GAxisStep.row))] (.tup [.r (.int .i64 r.1), .r (.int .i64 r.2.1), .r (.int .i64 r.2.2)]) := by
 unfold axis_Lengths at h
 refine ARO.mkF Tryd.func142 rfl rfl Tryd.ntmps142 rfl (Nat.le_of_ble_eq_true rfl) fun n0 => ?_
 refine AW.seq_w fun K1 hK1 wK1 => ?_
 refine AW.region ?_
 refine sQ rfl (sp_assign rfl iL) ?_
 refine sQ rfl (sp_assign rfl iL) ?_
 refine sQ rfl (sp_assign rfl iL) ?_
 refine AOps.nil (hK1 _ ?_)
 refine AW.seq_w fun K2 hK2 wK2 => ?_
 refine AW.seq_w fun K3 hK3 wK3 => ?_
 refine AW.region ?_
 refine sM rfl rfl ?_
 refine ob1k h fun e1 ee1 h1 => ?_
 refine AOps.step rfl rfl rfl (sp_call (r := .r (.int .i64 e1)) (caps := []) (bs := [.r (.sl (a1.map GAxisStep.row))]) rfl iL rfl ⟨⟨_, iL, .d rfl⟩, trivial⟩ (fun _ => w_axis_Check (ee1)) rfl) ?_
 refine sQ rfl (sp_assign rfl iL) ?_
 refine AOps.nil (hK3 _ ?_)
 refine AW.seq_w fun K4 hK4 wK4 => ?_
 refine AW.region ?_
 refine sM rfl rfl ?_
 refine sQ rfl (sp_neq rfl iL iL) ?_
 refine AOps.nil (hK4 _ ?_)
 refine AW.cond rfl (fun hc1 => ?_) (fun hc1 => ?_)
 ·have h2 := ite_t hc1 h1
  refine AW.seq_w fun K5 hK5 wK5 => ?_
  refine AW.region ?_
  refine sM rfl rfl ?_
  refine sQ rfl (sp_assign rfl iL) ?_
  refine sQ rfl (sp_assign rfl iL) ?_
  refine sQ rfl (sp_assign rfl iL) ?_
  refine AOps.nil (hK5 _ ?_)
  refine AW.ret ?_
  exact retf3 (P := Tryd.prog) (fun (r : Int × Int × Int) => .r (.int .i64 r.1)) (fun (r : Int × Int × Int) => .r (.int .i64 r.2.1)) (fun (r : Int × Int × Int) => .r (.int .i64 r.2.2)) h2 iL (.t (.d rfl)) (.t (.d rfl)) (.t (.d rfl))
 ·have h2 := ite_f hc1 h1
  refine AW.skip ?_
  refine hK2 _ ?_
  refine AW.seq_w fun K6 hK6 wK6 => ?_
  refine AW.region ?_
  refine sM rfl rfl ?_
  refine ob2k h2 fun r1 r2 er1 h3 => ?_
  refine AOps.step rfl rfl rfl (sp_call (r := .tup [.r (.int .i64 r1), .r (.int .i64 r2)]) (caps := []) (bs := [.r (.sl (a1.map GAxisStep.row))]) rfl iL rfl ⟨⟨_, iL, .d rfl⟩, trivial⟩ (fun _ => w_axis_lengths (er1)) rfl) ?_
  refine sM rfl rfl ?_
  refine sQ rfl (sp_extract (a := .r (.int .i64 r1)) rfl iL rfl) ?_
  refine sQ rfl (sp_extract (a := .r (.int .i64 r2)) rfl iL rfl) ?_
  refine sQ rfl (sp_assign rfl iL) ?_
  refine sQ rfl (sp_assign rfl iL) ?_
  refine AOps.nil (hK6 _ ?_)
  refine AW.seq_w fun K7 hK7 wK7 => ?_
  refine AW.weak (s' := ⟨[(6, .r (.int .i64 r1)), (7, .r (.int .i64 r2))], [], n0, 20⟩) (by exact Weak.cv ⟨jL, jL, trivial⟩ trivial nL) ?_
  refine AW.region ?_
  refine sM rfl rfl ?_
  refine sM rfl rfl ?_
  refine sQ rfl (sp_assign rfl iL) ?_
  refine sQ rfl (sp_assign rfl iL) ?_
  refine sQ rfl (sp_assign rfl iL) ?_
  refine AOps.nil (hK7 _ ?_)
  refine AW.ret ?_
  exact retf3 (P := Tryd.prog) (fun (r : Int × Int × Int) => .r (.int .i64 r.1)) (fun (r : Int × Int × Int) => .r (.int .i64 r.2.1)) (fun (r : Int × Int × Int) => .r (.int .i64 r.2.2)) h3 iL (.t (.d rfl)) (.t (.d rfl)) (.t (.d rfl))
set_option maxHeartbeats 4000000 in
set_option maxRecDepth 20000 in
theorem w_grid_size {n1 : Int} {a1 : List GAxisStep} {r : Int × Bool} (h : grid_size n1 a1 = some r) : ARO Tryd.prog 118 [.r (.int .i64 n1), .r (.sl (a1.map GAxisStep.row))] (.tup [.r (.int .i64 r.1), .r (.bool r.2)]) := by
 unfold grid_size at h
 refine ARO.mkF Tryd.func118 rfl rfl Tryd.ntmps118 rfl (Nat.le_of_ble_eq_true rfl) fun n0 => ?_
 refine AW.seq_w fun K1 hK1 wK1 => ?_
 refine AW.region ?_
 refine sQ rfl (sp_assign rfl iL) ?_
 refine sQ rfl (sp_assign rfl iL) ?_
 refine AOps.nil (hK1 _ ?_)
 refine AW.seq_w fun K2 hK2 wK2 => ?_
 refine AW.seq_w fun K3 hK3 wK3 => ?_
 refine AW.region ?_
 refine sM rfl rfl ?_
 refine sQ rfl (ms_len rfl tg_47.slice iL) ?_
 refine sQ rfl (sp_eql rfl iL iL) ?_
 refine AOps.nil (hK3 _ ?_)
 refine AW.cond rfl (fun hc1 => ?_) (fun hc1 => ?_)
 ·have h1 := ite_t hc1 h
  refine AW.seq_w fun K4 hK4 wK4 => ?_
  refine AW.region ?_
  refine sM rfl rfl ?_
  refine sQ rfl (sp_assign rfl iL) ?_
  refine sQ rfl (sp_assign rfl iL) ?_
  refine AOps.nil (hK4 _ ?_)
  refine AW.ret ?_
  exact retf2 (P := Tryd.prog) (fun (r : Int × Bool) => .r (.int .i64 r.1)) (fun (r : Int × Bool) => .r (.bool r.2)) h1 iL (.t (.d rfl)) (.t (.d rfl))
 ·have h1 := ite_f hc1 h
  refine AW.skip ?_
  refine hK2 _ ?_
  refine AW.seq_w fun K5 hK5 wK5 => ?_
  refine AW.region ?_
  refine sM rfl rfl ?_
  refine ob3k h1 fun r1 r2 r3 er1 h2 => ?_
  refine AOps.step rfl rfl rfl (sp_call (r := .tup [.r (.int .i64 r1), .r (.int .i64 r2), .r (.int .i64 r3)]) (caps := []) (bs := [.r (.sl (a1.map GAxisStep.row))]) rfl iL rfl ⟨⟨_, iL, .d rfl⟩, trivial⟩ (fun _ => w_axis_Lengths (er1)) rfl) ?_
  refine sM rfl rfl ?_
  refine sQ rfl (sp_extract (a := .r (.int .i64 r1)) rfl iL rfl) ?_
  refine sQ rfl (sp_extract (a := .r (.int .i64 r2)) rfl iL rfl) ?_
  refine sQ rfl (sp_extract (a := .r (.int .i64 r3)) rfl iL rfl) ?_
  refine sQ rfl (sp_assign rfl iL) ?_
  refine sQ rfl (sp_assign rfl iL) ?_
  refine sQ rfl (sp_assign rfl iL) ?_
  refine AOps.nil (hK5 _ ?_)
  refine AW.seq_w fun K6 hK6 wK6 => ?_
  refine AW.weak (s' := ⟨[(0, .r (.int .i64 n1)), (6, .r (.int .i64 r1)), (7, .r (.int .i64 r2))], [], n0, 23⟩) (by exact Weak.cv ⟨jL, jL, jL, trivial⟩ trivial nL) ?_
  refine AW.region ?_
  refine sM rfl rfl ?_
  refine sM rfl rfl ?_
  refine sM rfl rfl ?_
  refine sQ rfl (sp_eql rfl iL iL) ?_
  refine sQ rfl (sp_assign rfl iL) ?_
  refine sQ rfl (sp_assign rfl iL) ?_
  refine AOps.nil (hK6 _ ?_)
  refine AW.ret ?_
  exact retf2 (P := Tryd.prog) (fun (r : Int × Bool) => .r (.int .i64 r.1)) (fun (r : Int × Bool) => .r (.bool r.2)) h2 iL (.t (.d rfl)) (.t (.d rfl))
set_option maxHeartbeats 4000000 in
set_option maxRecDepth 20000 in
theorem w_grid_fits {g1 : GGrid} {e1 : GGridEdit} {r : Int × Int × Int} (h : grid_fits g1 e1 = some r) : ARO Tryd.prog 70 [.agg [.r (.int .i64 g1.Rows), .r (.int .i64 g1.Cols), .r (.sl (g1.Cells.map GCell.row)), .r (.sl (g1.Merges.map GRect.row))], .agg [.r (.sl (e1.Rows.map GAxisStep.row)), .r (.sl (e1.Cols.map GAxisStep.row)), .r (.sl (e1.Cells.map GCell.row)), .r (.sl (e1.Split.map GRect.row)), .r (.sl (e1.Merge.map GRect.row))]] (.tup [.r (.int .i64 r.1), .r (.int .i64 r.2.1), .r (.int .i64 r.2.2)]) := by
 unfold grid_fits at h
 refine ARO.mkF Tryd.func70 rfl rfl Tryd.ntmps70 rfl (Nat.le_of_ble_eq_true rfl) fun n0 => ?_
 refine AW.seq_w fun K1 hK1 wK1 => ?_
 refine AW.region ?_
 refine AOps.step rfl rfl rfl (ms_box (cs := [.r (.int .i64 g1.Rows), .r (.int .i64 g1.Cols), .r (.sl (g1.Cells.map GCell.row)), .r (.sl (g1.Merges.map GRect.row))]) 2 rfl iL rfl rfl) ?_
 refine AOps.step rfl rfl rfl (ms_box (cs := [.r (.sl (e1.Rows.map GAxisStep.row)), .r (.sl (e1.Cols.map GAxisStep.row)), .r (.sl (e1.Cells.map GCell.row)), .r (.sl (e1.Split.map GRect.row)), .r (.sl (e1.Merge.map GRect.row))]) 3 rfl iL rfl rfl) ?_
 refine sQ rfl (sp_assign rfl iL) ?_
 refine sQ rfl (sp_assign rfl iL) ?_
 refine sQ rfl (sp_assign rfl iL) ?_
 refine AOps.nil (hK1 _ ?_)
 refine AW.seq_w fun K2 hK2 wK2 => ?_
 refine AW.seq_w fun K3 hK3 wK3 => ?_
 refine AW.region ?_
 refine sQ rfl (ms_loadA_box rfl ta_32 iL rfl rfl) ?_
 refine ob1k h fun f1 ef1 h1 => ?_
 refine AOps.step rfl rfl rfl (sp_call (r := .r (.int .i64 f1)) (caps := []) (bs := [.agg [.r (.int .i64 g1.Rows), .r (.int .i64 g1.Cols), .r (.sl (g1.Cells.map GCell.row)), .r (.sl (g1.Merges.map GRect.row))]]) rfl iL rfl ⟨⟨_, iL, .g (cs := [.int .i64 g1.Rows, .int .i64 g1.Cols, .sl (g1.Cells.map GCell.row), .sl (g1.Merges.map GRect.row)]) rfl rfl⟩, trivial⟩ (fun _ => w_grid_Check (ef1)) rfl) ?_
 refine sQ rfl (sp_assign rfl iL) ?_
 refine AOps.nil (hK3 _ ?_)
 refine AW.seq_w fun K4 hK4 wK4 => ?_
 refine AW.region ?_
 refine sM rfl rfl ?_
 refine sQ rfl (sp_neq rfl iL iL) ?_
 refine AOps.nil (hK4 _ ?_)
 refine AW.cond rfl (fun hc1 => ?_) (fun hc1 => ?_)
 ·have h2 := ite_t hc1 h1
  refine AW.seq_w fun K5 hK5 wK5 => ?_
  refine AW.weak (s' := ⟨[(7, .r (.int .i64 f1))], [], (n0 + 2), 92⟩) (by exact Weak.cv ⟨jL, trivial⟩ trivial nL) ?_
  refine AW.region ?_
  refine sM rfl rfl ?_
  refine sQ rfl (sp_assign rfl iL) ?_
  refine sQ rfl (sp_assign rfl iL) ?_
  refine sQ rfl (sp_assign rfl iL) ?_
  refine AOps.nil (hK5 _ ?_)
  refine AW.ret ?_
  exact retf3 (P := Tryd.prog) (fun (r : Int × Int × Int) => .r (.int .i64 r.1)) (fun (r : Int × Int × Int) => .r (.int .i64 r.2.1)) (fun (r : Int × Int × Int) => .r (.int .i64 r.2.2)) h2 iL (.t (.d rfl)) (.t (.d rfl)) (.t (.d rfl))
 ·have h2 := ite_f hc1 h1
  refine AW.skip ?_
  refine hK2 _ ?_
  refine AW.seq_w fun K6 hK6 wK6 => ?_
  refine AW.seq_w fun K7 hK7 wK7 => ?_
  refine AW.weak (s' := ⟨[(2, .ptr 2 n0 0 0), (3, .ptr 3 (n0 + 1) 0 0)], [(2, some (.box n0 32 [.r (.int .i64 g1.Rows), .r (.int .i64 g1.Cols), .r (.sl (g1.Cells.map GCell.row)), .r (.sl (g1.Merges.map GRect.row))])), (3, some (.box (n0 + 1) 49 [.r (.sl (e1.Rows.map GAxisStep.row)), .r (.sl (e1.Cols.map GAxisStep.row)), .r (.sl (e1.Cells.map GCell.row)), .r (.sl (e1.Split.map GRect.row)), .r (.sl (e1.Merge.map GRect.row))]))], (n0 + 2), 92⟩) (by exact Weak.cv ⟨jL, jL, trivial⟩ ⟨.inl rfl, .inl rfl, trivial⟩ nL) ?_
  refine AW.region ?_
  refine sQ rfl (ms_loadA_box rfl ta_49 iL rfl rfl) ?_
  refine ob1k h2 fun f2 ef2 h3 => ?_
  refine AOps.step rfl rfl rfl (sp_call (r := .r (.int .i64 f2)) (caps := []) (bs := [.agg [.r (.sl (e1.Rows.map GAxisStep.row)), .r (.sl (e1.Cols.map GAxisStep.row)), .r (.sl (e1.Cells.map GCell.row)), .r (.sl (e1.Split.map GRect.row)), .r (.sl (e1.Merge.map GRect.row))]]) rfl iL rfl ⟨⟨_, iL, .g (cs := [.sl (e1.Rows.map GAxisStep.row), .sl (e1.Cols.map GAxisStep.row), .sl (e1.Cells.map GCell.row), .sl (e1.Split.map GRect.row), .sl (e1.Merge.map GRect.row)]) rfl rfl⟩, trivial⟩ (fun _ => w_grid_CheckEdit (ef2)) rfl) ?_
  refine sQ rfl (sp_assign rfl iL) ?_
  refine AOps.nil (hK7 _ ?_)
  refine AW.seq_w fun K8 hK8 wK8 => ?_
  refine AW.region ?_
  refine sM rfl rfl ?_
  refine sQ rfl (sp_neq rfl iL iL) ?_
  refine AOps.nil (hK8 _ ?_)
  refine AW.cond rfl (fun hc2 => ?_) (fun hc2 => ?_)
  ·have h4 := ite_t hc2 h3
   refine AW.seq_w fun K9 hK9 wK9 => ?_
   refine AW.region ?_
   refine sM rfl rfl ?_
   refine sQ rfl (sp_assign rfl iL) ?_
   refine sQ rfl (sp_assign rfl iL) ?_
   refine sQ rfl (sp_assign rfl iL) ?_
   refine AOps.nil (hK9 _ ?_)
   refine AW.ret ?_
   exact retf3 (P := Tryd.prog) (fun (r : Int × Int × Int) => .r (.int .i64 r.1)) (fun (r : Int × Int × Int) => .r (.int .i64 r.2.1)) (fun (r : Int × Int × Int) => .r (.int .i64 r.2.2)) h4 iL (.t (.d rfl)) (.t (.d rfl)) (.t (.d rfl))
  ·have h4 := ite_f hc2 h3
   refine AW.skip ?_
   refine hK6 _ ?_
   refine AW.seq_w fun K10 hK10 wK10 => ?_
   refine AW.region ?_
   refine sQ rfl (sp_fieldAddr_own (ob := .box _ _ _) rfl tf_32_0 iL fR rfl) ?_
   refine sQ rfl (ms_load_box (a := .r (.int .i64 g1.Rows)) rfl ts_3 iL rfl rfl) ?_
   refine sQ rfl (sp_fieldAddr_own (ob := .box _ _ _) rfl tf_49_0 iL fR rfl) ?_
   refine sQ rfl (ms_load_box (a := .r (.sl (e1.Rows.map GAxisStep.row))) rfl ts_47 iL rfl rfl) ?_
   refine ob2k h4 fun r1 r2 er1 h5 => ?_
   refine AOps.step rfl rfl rfl (sp_call (r := .tup [.r (.int .i64 r1), .r (.bool r2)]) (caps := []) (bs := [.r (.int .i64 g1.Rows), .r (.sl (e1.Rows.map GAxisStep.row))]) rfl iL rfl ⟨⟨_, iL, .d rfl⟩, ⟨_, iL, .d rfl⟩, trivial⟩ (fun _ => w_grid_size (er1)) rfl) ?_
   refine sM rfl rfl ?_
   refine sQ rfl (sp_extract (a := .r (.int .i64 r1)) rfl iL rfl) ?_
   refine sQ rfl (sp_extract (a := .r (.bool r2)) rfl iL rfl) ?_
   refine sQ rfl (sp_assign rfl iL) ?_
   refine sQ rfl (sp_assign rfl iL) ?_
   refine AOps.nil (hK10 _ ?_)
   refine AW.seq_w fun K11 hK11 wK11 => ?_
   refine AW.weak (s' := ⟨[(2, .ptr 2 n0 0 0), (3, .ptr 3 (n0 + 1) 0 0), (9, .r (.int .i64 r1)), (10, .r (.bool r2))], [(2, some (.box n0 32 [.r (.int .i64 g1.Rows), .r (.int .i64 g1.Cols), .r (.sl (g1.Cells.map GCell.row)), .r (.sl (g1.Merges.map GRect.row))])), (3, some (.box (n0 + 1) 49 [.r (.sl (e1.Rows.map GAxisStep.row)), .r (.sl (e1.Cols.map GAxisStep.row)), .r (.sl (e1.Cells.map GCell.row)), .r (.sl (e1.Split.map GRect.row)), .r (.sl (e1.Merge.map GRect.row))]))], (n0 + 2), 92⟩) (by exact Weak.cv ⟨jL, jL, jL, jL, trivial⟩ ⟨.inl rfl, .inl rfl, trivial⟩ nL) ?_
   refine AW.region ?_
   refine sQ rfl (sp_fieldAddr_own (ob := .box _ _ _) rfl tf_32_1 iL fR rfl) ?_
   refine sQ rfl (ms_load_box (a := .r (.int .i64 g1.Cols)) rfl ts_3 iL rfl rfl) ?_
   refine sQ rfl (sp_fieldAddr_own (ob := .box _ _ _) rfl tf_49_1 iL fR rfl) ?_
   refine sQ rfl (ms_load_box (a := .r (.sl (e1.Cols.map GAxisStep.row))) rfl ts_47 iL rfl rfl) ?_
   refine ob2k h5 fun r3 r4 er3 h6 => ?_
   refine AOps.step rfl rfl rfl (sp_call (r := .tup [.r (.int .i64 r3), .r (.bool r4)]) (caps := []) (bs := [.r (.int .i64 g1.Cols), .r (.sl (e1.Cols.map GAxisStep.row))]) rfl iL rfl ⟨⟨_, iL, .d rfl⟩, ⟨_, iL, .d rfl⟩, trivial⟩ (fun _ => w_grid_size (er3)) rfl) ?_
   refine sM rfl rfl ?_
   refine sQ rfl (sp_extract (a := .r (.int .i64 r3)) rfl iL rfl) ?_
   refine sQ rfl (sp_extract (a := .r (.bool r4)) rfl iL rfl) ?_
   refine sQ rfl (sp_assign rfl iL) ?_
   refine sQ rfl (sp_assign rfl iL) ?_
   refine AOps.nil (hK11 _ ?_)
   refine AW.seq_w fun K12 hK12 wK12 => ?_
   refine AW.seq_w fun K13 hK13 wK13 => ?_
   refine AW.weak (s' := ⟨[(3, .ptr 3 (n0 + 1) 0 0), (9, .r (.int .i64 r1)), (10, .r (.bool r2)), (11, .r (.int .i64 r3)), (12, .r (.bool r4))], [(3, some (.box (n0 + 1) 49 [.r (.sl (e1.Rows.map GAxisStep.row)), .r (.sl (e1.Cols.map GAxisStep.row)), .r (.sl (e1.Cells.map GCell.row)), .r (.sl (e1.Split.map GRect.row)), .r (.sl (e1.Merge.map GRect.row))]))], (n0 + 2), 92⟩) (by exact Weak.cv ⟨jL, jL, jL, jL, jL, trivial⟩ ⟨.inl rfl, trivial⟩ nL) ?_
   refine AW.region ?_
   refine sM rfl rfl ?_
   refine sQ rfl (sp_not rfl iL) ?_
   refine sM rfl rfl ?_
   refine sV rfl rfl rfl (sp_move rfl iL) ?_
   refine sV rfl rfl rfl (sp_not rfl (iR rfl)) ?_
   refine sQ rfl (sp_or rfl iL (iR rfl)) ?_
   refine AOps.nil (hK13 _ ?_)
   refine AW.cond rfl (fun hc3 => ?_) (fun hc3 => ?_)
   ·have h7 := ite_t hc3 h6
    refine AW.seq_w fun K14 hK14 wK14 => ?_
    refine AW.weak (s' := ⟨[], [], (n0 + 2), 92⟩) (by exact Weak.cv trivial trivial nL) ?_
    refine AW.region ?_
    refine sQ rfl (sp_assign rfl iL) ?_
    refine sQ rfl (sp_assign rfl iL) ?_
    refine sQ rfl (sp_assign rfl iL) ?_
    refine AOps.nil (hK14 _ ?_)
    refine AW.ret ?_
    exact retf3 (P := Tryd.prog) (fun (r : Int × Int × Int) => .r (.int .i64 r.1)) (fun (r : Int × Int × Int) => .r (.int .i64 r.2.1)) (fun (r : Int × Int × Int) => .r (.int .i64 r.2.2)) h7 iL (.t (.d rfl)) (.t (.d rfl)) (.t (.d rfl))
   ·have h7 := ite_f hc3 h6
    refine AW.skip ?_
    refine hK12 _ ?_
    refine AW.seq_w fun K15 hK15 wK15 => ?_
    refine AW.seq_w fun K16 hK16 wK16 => ?_
    refine AW.region ?_
    refine sQ rfl (sp_fieldAddr_own (ob := .box _ _ _) rfl tf_49_2 iL fR rfl) ?_
    refine sQ rfl (ms_load_box (a := .r (.sl (e1.Cells.map GCell.row))) rfl ts_29 iL rfl rfl) ?_
    refine sQ rfl (ms_len rfl tg_29.slice iL) ?_
    refine sM rfl rfl ?_
    refine AOps.nil (hK16 _ ?_)
    refine AW.block ?_
    refine jc1k h7 fun o1 hit1 hk1 he1 => ?_
    have J1 : ∀ (u2 : Unit) (i5 : Nat → Nat), o1 = .nrm u2 → K15 ⟨[(3, .ptr 3 (n0 + 1) 0 0), (9, .r (.int .i64 r1)), (11, .r (.int .i64 r3))], [(3, some (.box (n0 + 1) 49 [.r (.sl (e1.Rows.map GAxisStep.row)), .r (.sl (e1.Cols.map GAxisStep.row)), .r (.sl (e1.Cells.map GCell.row)), .r (.sl (e1.Split.map GRect.row)), .r (.sl (e1.Merge.map GRect.row))]))], (i5 0), 92⟩ := by
     intro u2 i5 e
     have h8 := hk1 _ e
     refine hK15 _ ?_
     refine AW.seq_w fun K17 hK17 wK17 => ?_
     refine AW.seq_w fun K18 hK18 wK18 => ?_
     refine AW.region ?_
     refine sQ rfl (sp_fieldAddr_own (ob := .box _ _ _) rfl tf_49_3 iL fR rfl) ?_
     refine sQ rfl (ms_load_box (a := .r (.sl (e1.Split.map GRect.row))) rfl ts_30 iL rfl rfl) ?_
     refine sQ rfl (sp_fieldAddr_own (ob := .box _ _ _) rfl tf_49_4 iL fR rfl) ?_
     refine sQ rfl (ms_load_box (a := .r (.sl (e1.Merge.map GRect.row))) rfl ts_30 iL rfl rfl) ?_
     refine sQ rfl (sp_buildArr rfl tb_114 (q := [(0, _), (1, _)]) (by exact ⟨rfl, rfl, rfl, iL, rfl, rfl, rfl, iL, trivial⟩) (cs := [.r (.sl (e1.Split.map GRect.row)), .r (.sl (e1.Merge.map GRect.row))]) (by rfl)) ?_
     refine sM rfl rfl ?_
     refine AOps.nil (hK18 _ ?_)
     refine AW.block ?_
     refine jc1k h8 fun o2 hit2 hk2 he2 => ?_
     have J2 : ∀ (u4 : Unit) (i10 : Nat → Nat), o2 = .nrm u4 → K17 ⟨[(9, .r (.int .i64 r1)), (11, .r (.int .i64 r3))], [], (i10 0), 92⟩ := by
      intro u4 i10 e
      have h9 := hk2 _ e
      refine hK17 _ ?_
      refine AW.seq_w fun K19 hK19 wK19 => ?_
      refine AW.region ?_
      refine sM rfl rfl ?_
      refine sM rfl rfl ?_
      refine sQ rfl (sp_assign rfl iL) ?_
      refine sQ rfl (sp_assign rfl iL) ?_
      refine sQ rfl (sp_assign rfl iL) ?_
      refine AOps.nil (hK19 _ ?_)
      refine AW.ret ?_
      exact retf3 (P := Tryd.prog) (fun (r : Int × Int × Int) => .r (.int .i64 r.1)) (fun (r : Int × Int × Int) => .r (.int .i64 r.2.1)) (fun (r : Int × Int × Int) => .r (.int .i64 r.2.2)) h9 iL (.t (.d rfl)) (.t (.d rfl)) (.t (.d rfl))
     refine AW.iter1 (fun (x5 : Int) i8 => ⟨[(9, .r (.int .i64 r1)), (11, .r (.int .i64 r3)), (73, .agg [.r (.sl (e1.Split.map GRect.row)), .r (.sl (e1.Merge.map GRect.row))]), (74, .r (.int .i64 x5))], [], (i8 0), 92⟩) (vec [(i5 0)]) hit2 ((by exact Weak.cv ⟨jL, jL, jL, jL, trivial⟩ trivial nL)) ?_
     intro x5 i8 v1 hv1 hx2
     have h10 : grid_fits_L2 e1 r1 r3 x5 = some v1 := hv1; unfold grid_fits_L2 at h10
     refine AW.seq_w fun K20 hK20 wK20 => ?_
     refine AW.region ?_
     refine sQ rfl (sp_lss rfl iL iL) ?_
     refine AOps.nil (hK20 _ ?_)
     refine AW.seq_w fun K21 hK21 wK21 => ?_
     refine AW.cond rfl (fun hc4 => ?_) (fun hc4 => ?_)
     ·have h11 := ite_t hc4 h10
      refine AW.skip ?_
      refine hK21 _ ?_
      refine AW.seq_w fun K22 hK22 wK22 => ?_
      refine AW.block ?_
      refine AW.seq_w fun K23 hK23 wK23 => ?_
      refine AW.region ?_
      refine ob1k h11 fun l1 el1 h12 => ?_
      refine sQ rfl (ms_idx_arr (f := fun a => .r (.sl (a.map GRect.row))) (l := [e1.Split, e1.Merge]) rfl tq_114 (.inl rfl) (.inl rfl) rfl (fun _ => el1)) ?_
      refine sQ rfl (sp_assign rfl iL) ?_
      refine AOps.nil (hK23 _ ?_)
      refine AW.seq_w fun K24 hK24 wK24 => ?_
      refine AW.region ?_
      refine sM rfl rfl ?_
      refine sQ rfl (ms_len rfl tg_30.slice iL) ?_
      refine sM rfl rfl ?_
      refine AOps.nil (hK24 _ ?_)
      refine AW.block ?_
      refine jc1k h12 fun o3 hit3 hk3 he3 => ?_
      have J3 : ∀ (u6 : Unit) (i15 : Nat → Nat), o3 = .nrm u6 → K22 ⟨[(9, .r (.int .i64 r1)), (11, .r (.int .i64 r3)), (73, .agg [.r (.sl (e1.Split.map GRect.row)), .r (.sl (e1.Merge.map GRect.row))]), (74, .r (.int .i64 x5))], [], (i15 0), 92⟩ := by
       intro u6 i15 e
       have h13 := hk3 _ e
       refine hK22 _ ?_
       refine AW.region ?_
       refine ob1k h13 fun x10 ex10 h14 => ?_
       refine sQ rfl (ms_add rfl iL iL (fun _ => ex10)) ?_
       refine sM rfl rfl ?_
       refine AOps.nil ?_
       exact NextQ1.mk h14 (vec [(i15 0)]) ((by exact Weak.cv ⟨jL, jL, jL, jL, trivial⟩ trivial nL))
      refine AW.iter1 (fun (x8 : Int) i13 => ⟨[(9, .r (.int .i64 r1)), (11, .r (.int .i64 r3)), (73, .agg [.r (.sl (e1.Split.map GRect.row)), .r (.sl (e1.Merge.map GRect.row))]), (74, .r (.int .i64 x5)), (77, .r (.sl (l1.map GRect.row))), (78, .r (.int .i64 (l1.length : Int))), (79, .r (.int .i64 x8))], [], (i13 0), 92⟩) (vec [(i8 0)]) hit3 ((by exact Weak.cv ⟨jL, jL, jL, jL, jL, jL, jL, trivial⟩ trivial nL)) ?_
      intro x8 i13 v2 hv2 hx3
      have h15 : grid_fits_L3 r1 r3 l1 x8 = some v2 := hv2; unfold grid_fits_L3 at h15
      refine AW.seq_w fun K25 hK25 wK25 => ?_
      refine AW.region ?_
      refine sQ rfl (sp_lss rfl iL iL) ?_
      refine AOps.nil (hK25 _ ?_)
      refine AW.seq_w fun K26 hK26 wK26 => ?_
      refine AW.cond rfl (fun hc5 => ?_) (fun hc5 => ?_)
      ·have h16 := ite_t hc5 h15
       refine AW.skip ?_
       refine hK26 _ ?_
       refine AW.seq_w fun K27 hK27 wK27 => ?_
       refine AW.block ?_
       refine AW.seq_w fun K28 hK28 wK28 => ?_
       refine AW.region ?_
       refine ob1k h16 fun x11 ex11 h17 => ?_
       refine sQ rfl (ms_idx rfl tg_30.slice iL iL (fun _ => rfl) (fun _ => ex11)) ?_
       refine sQ rfl (ms_loadA (cs := [.r (.int .i64 x11.Row), .r (.int .i64 x11.Col), .r (.int .i64 x11.H), .r (.int .i64 x11.W)]) rfl ta_64 iL rfl rfl) ?_
       refine AOps.step rfl rfl rfl (ms_alloc (cs := [.r (.int .i64 0), .r (.int .i64 0), .r (.int .i64 0), .r (.int .i64 0)]) 18 rfl t0_64 rfl rfl) ?_
       refine AOps.step0 rfl rfl (ms_store_box (ds := [.r (.int .i64 x11.Row), .r (.int .i64 x11.Col), .r (.int .i64 x11.H), .r (.int .i64 x11.W)]) rfl tz_64 iL rfl iL rfl rfl rfl rfl) ?_
       refine AOps.nil (hK28 _ ?_)
       refine AW.seq_w fun K29 hK29 wK29 => ?_
       refine AW.region ?_
       refine sQ rfl (ms_loadA_box rfl ta_64 iL rfl rfl) ?_
       refine sM rfl rfl ?_
       refine sM rfl rfl ?_
       refine ob1k h17 fun r5 er5 h18 => ?_
       refine AOps.step rfl rfl rfl (sp_call (r := .r (.bool r5)) (caps := []) (bs := [.agg [.r (.int .i64 x11.Row), .r (.int .i64 x11.Col), .r (.int .i64 x11.H), .r (.int .i64 x11.W)], .r (.int .i64 r1), .r (.int .i64 r3)]) rfl iL rfl ⟨⟨_, iL, .g (cs := [.int .i64 x11.Row, .int .i64 x11.Col, .int .i64 x11.H, .int .i64 x11.W]) rfl rfl⟩, ⟨_, iL, .d rfl⟩, ⟨_, iL, .d rfl⟩, trivial⟩ (fun _ => w_grid_inside (er5)) rfl) ?_
       refine sQ rfl (sp_not rfl iL) ?_
       refine AOps.nil (hK29 _ ?_)
       refine AW.cond rfl (fun hc6 => ?_) (fun hc6 => ?_)
       ·have h19 := ite_t hc6 h18
        refine AW.seq_w fun K30 hK30 wK30 => ?_
        refine AW.weak (s' := ⟨[], [], ((i13 0) + 1), 92⟩) (by exact Weak.cv trivial trivial nL) ?_
        refine AW.region ?_
        refine sQ rfl (sp_assign rfl iL) ?_
        refine sQ rfl (sp_assign rfl iL) ?_
        refine sQ rfl (sp_assign rfl iL) ?_
        refine AOps.nil (hK30 _ ?_)
        refine AW.ret ?_
        exact retf3 (P := Tryd.prog) (fun (r : Int × Int × Int) => .r (.int .i64 r.1)) (fun (r : Int × Int × Int) => .r (.int .i64 r.2.1)) (fun (r : Int × Int × Int) => .r (.int .i64 r.2.2)) (he2 _ (hx2 _ (Option.some.inj (he3 _ (hx3 _ (Option.some.inj h19).symm))).symm)) iL (.t (.d rfl)) (.t (.d rfl)) (.t (.d rfl))
       ·have h19 := ite_f hc6 h18
        refine AW.skip ?_
        refine hK27 _ ?_
        refine AW.weak (s' := ⟨[(9, .r (.int .i64 r1)), (11, .r (.int .i64 r3)), (73, .agg [.r (.sl (e1.Split.map GRect.row)), .r (.sl (e1.Merge.map GRect.row))]), (74, .r (.int .i64 x5)), (77, .r (.sl (l1.map GRect.row))), (78, .r (.int .i64 (l1.length : Int))), (79, .r (.int .i64 x8))], [], ((i13 0) + 1), 92⟩) (by exact Weak.cv ⟨jL, jL, jL, jL, jL, jL, jL, trivial⟩ trivial nL) ?_
        refine AW.region ?_
        refine ob1k h19 fun x12 ex12 h20 => ?_
        refine sQ rfl (ms_add rfl iL iL (fun _ => ex12)) ?_
        refine sM rfl rfl ?_
        refine AOps.nil ?_
        exact NextQ1.mk h20 (vec [((i13 0) + 1)]) ((by exact Weak.cv ⟨jL, jL, jL, jL, jL, jL, jL, trivial⟩ trivial nL))
      ·have h16 := ite_f hc5 h15
       refine AW.exit ?_
       exact wK22 _ _ ((by exact Weak.cv ⟨jL, jL, jL, jL, trivial⟩ trivial nL)) (J3 _ (vec [(i13 0)]) (hx3 _ (Option.some.inj h16).symm))
     ·have h11 := ite_f hc4 h10
      refine AW.exit ?_
      exact wK17 _ _ ((by exact Weak.cv ⟨jL, jL, trivial⟩ trivial nL)) (J2 _ (vec [(i8 0)]) (hx2 _ (Option.some.inj h11).symm))
    refine AW.iter1 (fun (x2 : Int) i3 => ⟨[(3, .ptr 3 (n0 + 1) 0 0), (9, .r (.int .i64 r1)), (11, .r (.int .i64 r3)), (52, .r (.sl (e1.Cells.map GCell.row))), (53, .r (.int .i64 (e1.Cells.length : Int))), (54, .r (.int .i64 x2))], [(3, some (.box (n0 + 1) 49 [.r (.sl (e1.Rows.map GAxisStep.row)), .r (.sl (e1.Cols.map GAxisStep.row)), .r (.sl (e1.Cells.map GCell.row)), .r (.sl (e1.Split.map GRect.row)), .r (.sl (e1.Merge.map GRect.row))]))], (i3 0), 92⟩) (vec [(n0 + 2)]) hit1 ((by exact Weak.cv ⟨jL, jL, jL, jL, jL, jL, trivial⟩ ⟨.inl rfl, trivial⟩ nL)) ?_
    intro x2 i3 v3 hv3 hx1
    have h21 : grid_fits_L1 e1 r1 r3 x2 = some v3 := hv3; unfold grid_fits_L1 at h21
    refine AW.seq_w fun K31 hK31 wK31 => ?_
    refine AW.region ?_
    refine sQ rfl (sp_lss rfl iL iL) ?_
    refine AOps.nil (hK31 _ ?_)
    refine AW.seq_w fun K32 hK32 wK32 => ?_
    refine AW.cond rfl (fun hc7 => ?_) (fun hc7 => ?_)
    ·have h22 := ite_t hc7 h21
     refine AW.skip ?_
     refine hK32 _ ?_
     refine AW.seq_w fun K33 hK33 wK33 => ?_
     refine AW.block ?_
     refine AW.seq_w fun K34 hK34 wK34 => ?_
     refine AW.region ?_
     refine ob1k h22 fun x13 ex13 h23 => ?_
     refine sQ rfl (ms_idx rfl tg_29.slice iL iL (fun _ => rfl) (fun _ => ex13)) ?_
     refine sQ rfl (ms_loadA (cs := [.r (.int .i64 x13.Row), .r (.int .i64 x13.Col), .r (.str x13.Text), .r (.int .i64 x13.Ref), .r (.sl (x13.Attrs.map GAttr.row))]) rfl ta_60 iL rfl rfl) ?_
     refine AOps.step rfl rfl rfl (ms_alloc (cs := [.r (.int .i64 0), .r (.int .i64 0), .r (.str []), .r (.int .i64 0), .cst (.slice none 0 0)]) 14 rfl t0_60 rfl rfl) ?_
     refine AOps.step0 rfl rfl (ms_store_box (ds := [.r (.int .i64 x13.Row), .r (.int .i64 x13.Col), .r (.str x13.Text), .r (.int .i64 x13.Ref), .r (.sl (x13.Attrs.map GAttr.row))]) rfl tz_60 iL rfl iL rfl rfl rfl rfl) ?_
     refine AOps.nil (hK34 _ ?_)
     refine AW.seq_w fun K35 hK35 wK35 => ?_
     refine AW.region ?_
     refine sQ rfl (sp_fieldAddr_own (ob := .box _ _ _) rfl tf_60_0 iL fR rfl) ?_
     refine sQ rfl (ms_load_box (a := .r (.int .i64 x13.Row)) rfl ts_3 iL rfl rfl) ?_
     refine sM rfl rfl ?_
     refine sQ rfl (sp_geq rfl iL iL) ?_
     refine sM rfl rfl ?_
     refine sV rfl rfl rfl (sp_fieldAddr_own (ob := .box _ _ _) rfl tf_60_1 iL fR rfl) ?_
     refine sV rfl rfl rfl (ms_load_box (a := .r (.int .i64 x13.Col)) rfl ts_3 (iR rfl) rfl rfl) ?_
     refine sV rfl rfl rfl (sp_move rfl iL) ?_
     refine sV rfl rfl rfl (sp_geq rfl (iR rfl) (iR rfl)) ?_
     refine sQ rfl (sp_or rfl iL (iR rfl)) ?_
     refine AOps.nil (hK35 _ ?_)
     refine AW.cond rfl (fun hc8 => ?_) (fun hc8 => ?_)
     ·have h24 := ite_t hc8 h23
      refine AW.seq_w fun K36 hK36 wK36 => ?_
      refine AW.weak (s' := ⟨[], [], ((i3 0) + 1), 92⟩) (by exact Weak.cv trivial trivial nL) ?_
      refine AW.region ?_
      refine sQ rfl (sp_assign rfl iL) ?_
      refine sQ rfl (sp_assign rfl iL) ?_
      refine sQ rfl (sp_assign rfl iL) ?_
      refine AOps.nil (hK36 _ ?_)
      refine AW.ret ?_
      exact retf3 (P := Tryd.prog) (fun (r : Int × Int × Int) => .r (.int .i64 r.1)) (fun (r : Int × Int × Int) => .r (.int .i64 r.2.1)) (fun (r : Int × Int × Int) => .r (.int .i64 r.2.2)) (he1 _ (hx1 _ (Option.some.inj h24).symm)) iL (.t (.d rfl)) (.t (.d rfl)) (.t (.d rfl))
     ·have h24 := ite_f hc8 h23
      refine AW.skip ?_
      refine hK33 _ ?_
      refine AW.weak (s' := ⟨[(3, .ptr 3 (n0 + 1) 0 0), (9, .r (.int .i64 r1)), (11, .r (.int .i64 r3)), (52, .r (.sl (e1.Cells.map GCell.row))), (53, .r (.int .i64 (e1.Cells.length : Int))), (54, .r (.int .i64 x2))], [(3, some (.box (n0 + 1) 49 [.r (.sl (e1.Rows.map GAxisStep.row)), .r (.sl (e1.Cols.map GAxisStep.row)), .r (.sl (e1.Cells.map GCell.row)), .r (.sl (e1.Split.map GRect.row)), .r (.sl (e1.Merge.map GRect.row))]))], ((i3 0) + 1), 92⟩) (by exact Weak.cv ⟨jL, jL, jL, jL, jL, jL, trivial⟩ ⟨.inl rfl, trivial⟩ nL) ?_
      refine AW.region ?_
      refine ob1k h24 fun x14 ex14 h25 => ?_
      refine sQ rfl (ms_add rfl iL iL (fun _ => ex14)) ?_
      refine sM rfl rfl ?_
      refine AOps.nil ?_
      exact NextQ1.mk h25 (vec [((i3 0) + 1)]) ((by exact Weak.cv ⟨jL, jL, jL, jL, jL, jL, trivial⟩ ⟨.inl rfl, trivial⟩ nL))
    ·have h22 := ite_f hc7 h21
     refine AW.exit ?_
     exact wK15 _ _ ((by exact Weak.cv ⟨jL, jL, jL, trivial⟩ ⟨.inl rfl, trivial⟩ nL)) (J1 _ (vec [(i3 0)]) (hx1 _ (Option.some.inj h22).symm))
set_option maxHeartbeats 4000000 in
set_option maxRecDepth 20000 in
theorem w_grid_clone {c1 : GCell} {r : GCell} (h : grid_clone c1 = some r) : ARO Tryd.prog 97 [.agg [.r (.int .i64 c1.Row), .r (.int .i64 c1.Col), .r (.str c1.Text), .r (.int .i64 c1.Ref), .r (.sl (c1.Attrs.map GAttr.row))]] (.agg [.r (.int .i64 r.Row), .r (.int .i64 r.Col), .r (.str r.Text), .r (.int .i64 r.Ref), .r (.sl (r.Attrs.map GAttr.row))]) := by
 unfold grid_clone at h
 refine ARO.mkF Tryd.func97 rfl rfl Tryd.ntmps97 rfl (Nat.le_of_ble_eq_true rfl) fun n0 => ?_
 refine AW.seq_w fun K1 hK1 wK1 => ?_
 refine AW.region ?_
 refine AOps.step rfl rfl rfl (ms_box (cs := [.r (.int .i64 c1.Row), .r (.int .i64 c1.Col), .r (.str c1.Text), .r (.int .i64 c1.Ref), .r (.sl (c1.Attrs.map GAttr.row))]) 1 rfl iL rfl rfl) ?_
 refine AOps.step rfl rfl rfl (ms_alloc (cs := [.r (.int .i64 0), .r (.int .i64 0), .r (.str []), .r (.int .i64 0), .cst (.slice none 0 0)]) 2 rfl t0_60 rfl rfl) ?_
 refine AOps.nil (hK1 _ ?_)
 refine AW.seq_w fun K2 hK2 wK2 => ?_
 refine AW.region ?_
 refine sQ rfl (sp_fieldAddr_own (ob := .box _ _ _) rfl tf_60_4 iL fR rfl) ?_
 refine sQ rfl (ms_load_box (a := .r (.sl (c1.Attrs.map GAttr.row))) rfl ts_27 iL rfl rfl) ?_
 refine ob1k h fun l1 el1 h1 => ?_
 refine AOps.step rfl rfl rfl (ms_app_nil 5 (f := GAttr.row) rfl tg_27 iL (.inl ⟨iL, fun _ => rfl⟩) el1) ?_
 refine sQ rfl (sp_fieldAddr_own (ob := .box _ _ _) rfl tf_60_4 iL fR rfl) ?_
 refine AOps.step0 rfl rfl (ms_store_box (ds := [.r (.int .i64 c1.Row), .r (.int .i64 c1.Col), .r (.str c1.Text), .r (.int .i64 c1.Ref), .own 5 (n0 + 2)]) rfl tz_27 iL rfl iL rfl rfl rfl rfl) ?_
 refine AOps.nil (hK2 _ ?_)
 refine AW.seq_w fun K3 hK3 wK3 => ?_
 refine AW.region ?_
 refine sQ rfl (ms_loadA_box rfl ta_60 iL rfl rfl) ?_
 refine AOps.step0 rfl rfl (ms_store_box (ds := [.r (.int .i64 c1.Row), .r (.int .i64 c1.Col), .r (.str c1.Text), .r (.int .i64 c1.Ref), .own 5 (n0 + 2)]) rfl tz_60 iL rfl iL rfl rfl rfl rfl) ?_
 refine AOps.nil (hK3 _ ?_)
 refine AW.ret ?_
 exact retf1 (P := Tryd.prog) (fun (r : GCell) => .agg [.r (.int .i64 r.Row), .r (.int .i64 r.Col), .r (.str r.Text), .r (.int .i64 r.Ref), .r (.sl (r.Attrs.map GAttr.row))]) h1 iL (.a ta_60 rfl rfl rfl (.agg (by exact ⟨.closed _ rfl, .closed _ rfl, .closed _ rfl, .closed _ rfl, .own rfl, trivial⟩)))
set_option maxHeartbeats 4000000 in
set_option maxRecDepth 20000 in
theorem w_axis_place {a1 : List GAxisStep} {p1 : Int} {r : Int} (h : axis_place a1 p1 = some r) : ARO Tryd.prog 151 [.r (.sl (a1.map GAxisStep.row)), .r (.int .i64 p1)] (.r (.int .i64 r)) := by
 unfold axis_place at h
 refine ARO.mkF Tryd.func151 rfl rfl Tryd.ntmps151 rfl (Nat.le_of_ble_eq_true rfl) fun n0 => ?_
 refine AW.seq_w fun K1 hK1 wK1 => ?_
 refine AW.region ?_
 refine sQ rfl (sp_assign rfl iL) ?_
 refine AOps.nil (hK1 _ ?_)
 refine AW.seq_w fun K2 hK2 wK2 => ?_
 refine AW.region ?_
 refine sQ rfl (sp_assign rfl iL) ?_
 refine sQ rfl (sp_assign rfl iL) ?_
 refine AOps.nil (hK2 _ ?_)
 refine AW.seq_w fun K3 hK3 wK3 => ?_
 refine AW.seq_w fun K4 hK4 wK4 => ?_
 refine AW.region ?_
 refine sM rfl rfl ?_
 refine sQ rfl (ms_len rfl tg_47.slice iL) ?_
 refine sM rfl rfl ?_
 refine AOps.nil (hK4 _ ?_)
 refine AW.block ?_
 refine jc1k h fun o1 hit1 hk1 he1 => ?_
 have J1 : ∀ (u2 : Unit) (i5 : Nat → Nat), o1 = .nrm u2 → K3 ⟨[], [], (i5 0), 51⟩ := by
  intro u2 i5 e
  have h1 := hk1 _ e
  refine hK3 _ ?_
  refine AW.seq_w fun K5 hK5 wK5 => ?_
  refine AW.region ?_
  refine sQ rfl (sp_assign rfl iL) ?_
  refine AOps.nil (hK5 _ ?_)
  refine AW.ret ?_
  exact retf1 (P := Tryd.prog) (fun (r : Int) => .r (.int .i64 r)) h1 iL (.t (.d rfl))
 refine AW.iter3 (fun (from2 : Int) (to2 : Int) (x2 : Int) i3 => ⟨[(1, .r (.int .i64 p1)), (5, .r (.int .i64 from2)), (6, .r (.int .i64 to2)), (9, .r (.sl (a1.map GAxisStep.row))), (10, .r (.int .i64 (a1.length : Int))), (11, .r (.int .i64 x2))], [], (i3 0), 51⟩) (vec [n0]) hit1 ((by exact Weak.cv ⟨jL, jL, jL, jL, jL, jL, trivial⟩ trivial nL)) ?_
 intro from2 to2 x2 i3 v1 hv1 hx1
 have h2 : axis_place_L1 a1 p1 from2 to2 x2 = some v1 := hv1; unfold axis_place_L1 at h2
 refine AW.seq_w fun K6 hK6 wK6 => ?_
 refine AW.region ?_
 refine sQ rfl (sp_lss rfl iL iL) ?_
 refine AOps.nil (hK6 _ ?_)
 refine AW.seq_w fun K7 hK7 wK7 => ?_
 refine AW.cond rfl (fun hc1 => ?_) (fun hc1 => ?_)
 ·have h3 := ite_t hc1 h2
  refine AW.skip ?_
  refine hK7 _ ?_
  refine AW.seq_w fun K8 hK8 wK8 => ?_
  refine AW.block ?_
  refine jc2k h3 fun p2 hp1 hk2 he2 => ?_
  have J2 : ∀ (from4 : Int) (to4 : Int) (i6 : Nat → Nat), p2 = .nrm (from4, to4) → K8 ⟨[(1, .r (.int .i64 p1)), (5, .r (.int .i64 from4)), (6, .r (.int .i64 to4)), (9, .r (.sl (a1.map GAxisStep.row))), (10, .r (.int .i64 (a1.length : Int))), (11, .r (.int .i64 x2))], [], (i6 0), 51⟩ := by
   intro from4 to4 i6 e
   have h4 := hk2 _ _ e
   refine hK8 _ ?_
   refine AW.region ?_
   refine ob1k h4 fun x4 ex4 h5 => ?_
   refine sQ rfl (ms_add rfl iL iL (fun _ => ex4)) ?_
   refine sM rfl rfl ?_
   refine AOps.nil ?_
   exact NextQ3.mk h5 (vec [(i6 0)]) ((by exact Weak.cv ⟨jL, jL, jL, jL, jL, jL, trivial⟩ trivial nL))
  refine AW.seq_w fun K9 hK9 wK9 => ?_
  refine AW.region ?_
  refine ob1k hp1 fun x5 ex5 h6 => ?_
  refine sQ rfl (ms_idx rfl tg_47.slice iL iL (fun _ => rfl) (fun _ => ex5)) ?_
  refine sQ rfl (ms_loadA (cs := [.r (.int .i64 x5.Kind), .r (.int .i64 x5.N)]) rfl ta_91 iL rfl rfl) ?_
  refine AOps.step rfl rfl rfl (ms_alloc (cs := [.r (.int .i64 0), .r (.int .i64 0)]) 8 rfl t0_91 rfl rfl) ?_
  refine AOps.step0 rfl rfl (ms_store_box (ds := [.r (.int .i64 x5.Kind), .r (.int .i64 x5.N)]) rfl tz_91 iL rfl iL rfl rfl rfl rfl) ?_
  refine AOps.nil (hK9 _ ?_)
  refine AW.seq_w fun K10 hK10 wK10 => ?_
  refine AW.seq_w fun K11 hK11 wK11 => ?_
  refine AW.region ?_
  refine sQ rfl (sp_fieldAddr_own (ob := .box _ _ _) rfl tf_91_0 iL fR rfl) ?_
  refine sQ rfl (ms_load_box (a := .r (.int .i64 x5.Kind)) rfl ts_3 iL rfl rfl) ?_
  refine AOps.nil (hK11 _ ?_)
  refine AW.block ?_
  refine jc1k h6 fun p3 hp2 hk3 he3 => ?_
  have J3 : ∀ (to5 : Int) (i7 : Nat → Nat), p3 = .nrm to5 → K10 ⟨[(1, .r (.int .i64 p1)), (5, .r (.int .i64 from2)), (6, .r (.int .i64 to5)), (8, .ptr 8 (i3 0) 0 0), (9, .r (.sl (a1.map GAxisStep.row))), (10, .r (.int .i64 (a1.length : Int))), (11, .r (.int .i64 x2))], [(8, some (.box (i3 0) 91 [.r (.int .i64 x5.Kind), .r (.int .i64 x5.N)]))], (i7 0), 51⟩ := by
   intro to5 i7 e
   have h7 := hk3 _ e
   refine hK10 _ ?_
   refine AW.region ?_
   refine sM rfl rfl ?_
   refine sQ rfl (sp_fieldAddr_own (ob := .box _ _ _) rfl tf_91_1 iL fR rfl) ?_
   refine sQ rfl (ms_load_box (a := .r (.int .i64 x5.N)) rfl ts_3 iL rfl rfl) ?_
   refine ob1k h7 fun from5 efrom5 h8 => ?_
   refine sQ rfl (ms_add rfl iL iL (fun _ => efrom5)) ?_
   refine sQ rfl (sp_assign rfl iL) ?_
   refine AOps.nil ?_
   exact wK8 _ _ ((by exact Weak.cv ⟨jL, jL, jL, jL, jL, jL, trivial⟩ trivial nL)) (J2 _ _ (vec [(i7 0)]) (Option.some.inj h8).symm)
  refine AW.seq_w fun K12 hK12 wK12 => ?_
  refine AW.region ?_
  refine sQ rfl (sp_eql rfl iL iL) ?_
  refine sQ rfl (sp_assign rfl iL) ?_
  refine AOps.nil (hK12 _ ?_)
  refine AW.cond rfl (fun hc2 => ?_) (fun hc2 => ?_)
  ·have h9 := ite_t hc2 hp2
   refine AW.seq_w fun K13 hK13 wK13 => ?_
   refine AW.region ?_
   refine sM rfl rfl ?_
   refine sQ rfl (sp_fieldAddr_own (ob := .box _ _ _) rfl tf_91_1 iL fR rfl) ?_
   refine sQ rfl (ms_load_box (a := .r (.int .i64 x5.N)) rfl ts_3 iL rfl rfl) ?_
   refine ob1k h9 fun to6 eto6 h10 => ?_
   refine sQ rfl (ms_add rfl iL iL (fun _ => eto6)) ?_
   refine sQ rfl (sp_assign rfl iL) ?_
   refine AOps.nil (hK13 _ ?_)
   refine AW.exit ?_
   exact wK8 _ _ ((by exact Weak.cv ⟨jL, jL, jL, jL, jL, jL, trivial⟩ trivial nL)) (J2 _ _ (vec [((i3 0) + 1)]) (Option.some.inj (he3 _ (Option.some.inj h10).symm)).symm)
  ·have h9 := ite_f hc2 hp2
   refine AW.seq_w fun K14 hK14 wK14 => ?_
   refine AW.region ?_
   refine sQ rfl (sp_eql rfl iL iL) ?_
   refine sQ rfl (sp_assign rfl iL) ?_
   refine AOps.nil (hK14 _ ?_)
   refine AW.cond rfl (fun hc3 => ?_) (fun hc3 => ?_)
   ·have h11 := ite_t hc3 h9
    refine AW.seq_w fun K15 hK15 wK15 => ?_
    refine AW.seq_w fun K16 hK16 wK16 => ?_
    refine AW.weak (s' := ⟨[(1, .r (.int .i64 p1)), (5, .r (.int .i64 from2)), (6, .r (.int .i64 to2)), (8, .ptr 8 (i3 0) 0 0), (9, .r (.sl (a1.map GAxisStep.row))), (10, .r (.int .i64 (a1.length : Int))), (11, .r (.int .i64 x2))], [(8, some (.box (i3 0) 91 [.r (.int .i64 x5.Kind), .r (.int .i64 x5.N)]))], ((i3 0) + 1), 51⟩) (by exact Weak.cv ⟨jL, jL, jL, jL, jL, jL, jL, trivial⟩ ⟨.inl rfl, trivial⟩ nL) ?_
    refine AW.region ?_
    refine sM rfl rfl ?_
    refine sM rfl rfl ?_
    refine sQ rfl (sp_fieldAddr_own (ob := .box _ _ _) rfl tf_91_1 iL fR rfl) ?_
    refine sQ rfl (ms_load_box (a := .r (.int .i64 x5.N)) rfl ts_3 iL rfl rfl) ?_
    refine ob1k h11 fun x6 ex6 h12 => ?_
    refine sQ rfl (ms_add rfl iL iL (fun _ => ex6)) ?_
    refine sQ rfl (sp_lss rfl iL iL) ?_
    refine AOps.nil (hK16 _ ?_)
    refine AW.cond rfl (fun hc4 => ?_) (fun hc4 => ?_)
    ·have h13 := ite_t hc4 h12
     refine AW.seq_w fun K17 hK17 wK17 => ?_
     refine AW.weak (s' := ⟨[(1, .r (.int .i64 p1)), (5, .r (.int .i64 from2)), (6, .r (.int .i64 to2))], [], ((i3 0) + 1), 51⟩) (by exact Weak.cv ⟨jL, jL, jL, trivial⟩ trivial nL) ?_
     refine AW.region ?_
     refine sM rfl rfl ?_
     refine sM rfl rfl ?_
     refine ob1k h13 fun x7 ex7 h14 => ?_
     refine sQ rfl (ms_add rfl iL iL (fun _ => ex7)) ?_
     refine sM rfl rfl ?_
     refine ob1k h14 fun x8 ex8 h15 => ?_
     refine sQ rfl (ms_sub rfl iL iL (fun _ => ex8)) ?_
     refine sQ rfl (sp_assign rfl iL) ?_
     refine AOps.nil (hK17 _ ?_)
     refine AW.ret ?_
     exact retf1 (P := Tryd.prog) (fun (r : Int) => .r (.int .i64 r)) (he1 _ (hx1 _ (Option.some.inj (he2 _ (Option.some.inj (he3 _ (Option.some.inj h15).symm)).symm)).symm)) iL (.t (.d rfl))
    ·have h13 := ite_f hc4 h12
     refine AW.skip ?_
     refine hK15 _ ?_
     refine AW.region ?_
     refine sM rfl rfl ?_
     refine sQ rfl (sp_fieldAddr_own (ob := .box _ _ _) rfl tf_91_1 iL fR rfl) ?_
     refine sQ rfl (ms_load_box (a := .r (.int .i64 x5.N)) rfl ts_3 iL rfl rfl) ?_
     refine ob1k h13 fun to7 eto7 h16 => ?_
     refine sQ rfl (ms_add rfl iL iL (fun _ => eto7)) ?_
     refine sQ rfl (sp_assign rfl iL) ?_
     refine AOps.nil ?_
     exact wK10 _ _ ((by exact Weak.cv ⟨jL, jL, jL, jL, jL, jL, jL, trivial⟩ ⟨.inl rfl, trivial⟩ nL)) (J3 _ (vec [((i3 0) + 1)]) (Option.some.inj h16).symm)
   ·have h11 := ite_f hc3 h9
    refine AW.seq_w fun K18 hK18 wK18 => ?_
    refine AW.weak (s' := ⟨[(1, .r (.int .i64 p1)), (5, .r (.int .i64 from2)), (6, .r (.int .i64 to2)), (8, .ptr 8 (i3 0) 0 0), (9, .r (.sl (a1.map GAxisStep.row))), (10, .r (.int .i64 (a1.length : Int))), (11, .r (.int .i64 x2))], [(8, some (.box (i3 0) 91 [.r (.int .i64 x5.Kind), .r (.int .i64 x5.N)]))], ((i3 0) + 1), 51⟩) (by exact Weak.cv ⟨jL, jL, jL, jL, jL, jL, jL, trivial⟩ ⟨.inl rfl, trivial⟩ nL) ?_
    refine AW.region ?_
    refine sM rfl rfl ?_
    refine sM rfl rfl ?_
    refine sQ rfl (sp_fieldAddr_own (ob := .box _ _ _) rfl tf_91_1 iL fR rfl) ?_
    refine sQ rfl (ms_load_box (a := .r (.int .i64 x5.N)) rfl ts_3 iL rfl rfl) ?_
    refine ob1k h11 fun x9 ex9 h17 => ?_
    refine sQ rfl (ms_add rfl iL iL (fun _ => ex9)) ?_
    refine sQ rfl (sp_lss rfl iL iL) ?_
    refine AOps.nil (hK18 _ ?_)
    refine AW.cond rfl (fun hc5 => ?_) (fun hc5 => ?_)
    ·have h18 := ite_t hc5 h17
     refine AW.seq_w fun K19 hK19 wK19 => ?_
     refine AW.weak (s' := ⟨[], [], ((i3 0) + 1), 51⟩) (by exact Weak.cv trivial trivial nL) ?_
     refine AW.region ?_
     refine sQ rfl (sp_assign rfl iL) ?_
     refine AOps.nil (hK19 _ ?_)
     refine AW.ret ?_
     exact retf1 (P := Tryd.prog) (fun (r : Int) => .r (.int .i64 r)) (he1 _ (hx1 _ (Option.some.inj (he2 _ (Option.some.inj (he3 _ (Option.some.inj h18).symm)).symm)).symm)) iL (.t (.d rfl))
    ·have h18 := ite_f hc5 h17
     refine AW.skip ?_
     exact wK10 _ _ ((by exact Weak.cv ⟨jL, jL, jL, jL, jL, jL, jL, trivial⟩ ⟨.inl rfl, trivial⟩ nL)) (J3 _ (vec [((i3 0) + 1)]) (Option.some.inj h18).symm)
 ·have h3 := ite_f hc1 h2
  refine AW.exit ?_
  exact wK3 _ _ ((by exact Weak.cv trivial trivial nL)) (J1 _ (vec [(i3 0)]) (hx1 _ (Option.some.inj h3).symm))
set_option maxHeartbeats 4000000 in
set_option maxRecDepth 20000 in
theorem w_axis_Apply {a1 : List GAxisStep} {places1 : List Int} {r : (List Int) × Int} (h : axis_Apply a1 places1 = some r) : ARO Tryd.prog 143 [.r (.sl (a1.map GAxisStep.row)), .r (.sl (places1.map (rInt .i64)))] (.tup [.r (.sl (r.1.map (rInt .i64))), .r (.int .i64 r.2)]) := by
 unfold axis_Apply at h
 refine ARO.mkF Tryd.func143 rfl rfl Tryd.ntmps143 rfl (Nat.le_of_ble_eq_true rfl) fun n0 => ?_
 refine AW.seq_w fun K1 hK1 wK1 => ?_
 refine AW.region ?_
 refine sQ rfl (sp_assign rfl iL) ?_
 refine sQ rfl (sp_assign rfl iL) ?_
 refine AOps.nil (hK1 _ ?_)
 refine AW.seq_w fun K2 hK2 wK2 => ?_
 refine AW.seq_w fun K3 hK3 wK3 => ?_
 refine AW.region ?_
 refine sM rfl rfl ?_
 refine ob1k h fun e1 ee1 h1 => ?_
 refine AOps.step rfl rfl rfl (sp_call (r := .r (.int .i64 e1)) (caps := []) (bs := [.r (.sl (a1.map GAxisStep.row))]) rfl iL rfl ⟨⟨_, iL, .d rfl⟩, trivial⟩ (fun _ => w_axis_Check (ee1)) rfl) ?_
 refine sQ rfl (sp_assign rfl iL) ?_
 refine AOps.nil (hK3 _ ?_)
 refine AW.seq_w fun K4 hK4 wK4 => ?_
 refine AW.region ?_
 refine sM rfl rfl ?_
 refine sQ rfl (sp_neq rfl iL iL) ?_
 refine AOps.nil (hK4 _ ?_)
 refine AW.cond rfl (fun hc1 => ?_) (fun hc1 => ?_)
 ·have h2 := ite_t hc1 h1
  refine AW.seq_w fun K5 hK5 wK5 => ?_
  refine AW.region ?_
  refine sM rfl rfl ?_
  refine sQ rfl (sp_assign rfl iL) ?_
  refine sQ rfl (sp_assign rfl iL) ?_
  refine AOps.nil (hK5 _ ?_)
  refine AW.ret ?_
  exact retf2 (P := Tryd.prog) (fun (r : (List Int) × Int) => .r (.sl (r.1.map (rInt .i64)))) (fun (r : (List Int) × Int) => .r (.int .i64 r.2)) h2 iL (.t (.one (.nil))) (.t (.d rfl))
 ·have h2 := ite_f hc1 h1
  refine AW.skip ?_
  refine hK2 _ ?_
  refine AW.seq_w fun K6 hK6 wK6 => ?_
  refine AW.region ?_
  refine sM rfl rfl ?_
  refine ob2k h2 fun r1 r2 er1 h3 => ?_
  refine AOps.step rfl rfl rfl (sp_call (r := .tup [.r (.int .i64 r1), .r (.int .i64 r2)]) (caps := []) (bs := [.r (.sl (a1.map GAxisStep.row))]) rfl iL rfl ⟨⟨_, iL, .d rfl⟩, trivial⟩ (fun _ => w_axis_lengths (er1)) rfl) ?_
  refine sM rfl rfl ?_
  refine sQ rfl (sp_extract (a := .r (.int .i64 r1)) rfl iL rfl) ?_
  refine sQ rfl (sp_extract (a := .r (.int .i64 r2)) rfl iL rfl) ?_
  refine sQ rfl (sp_assign rfl iL) ?_
  refine sQ rfl (sp_assign rfl iL) ?_
  refine AOps.nil (hK6 _ ?_)
  refine AW.seq_w fun K7 hK7 wK7 => ?_
  refine AW.weak (s' := ⟨[(0, .r (.sl (a1.map GAxisStep.row))), (1, .r (.sl (places1.map (rInt .i64)))), (7, .r (.int .i64 r1))], [], n0, 43⟩) (by exact Weak.cv ⟨jL, jL, jL, trivial⟩ trivial nL) ?_
  refine AW.region ?_
  refine sQ rfl (sp_assign rfl iL) ?_
  refine AOps.nil (hK7 _ ?_)
  refine AW.seq_w fun K8 hK8 wK8 => ?_
  refine AW.seq_w fun K9 hK9 wK9 => ?_
  refine AW.region ?_
  refine sM rfl rfl ?_
  refine sQ rfl (ms_len rfl tg_78.slice iL) ?_
  refine sM rfl rfl ?_
  refine AOps.nil (hK9 _ ?_)
  refine AW.block ?_
  refine jc1k h3 fun o1 hit1 hk1 he1 => ?_
  have J1 : ∀ (out4 : List Int) (i5 : Nat → Nat), o1 = .nrm out4 → K8 ⟨[(9, .own 5009 (i5 0))], [(5009, some (.arr (i5 0) 3 1 (out4.map (rInt .i64))))], (i5 1), 43⟩ := by
   intro out4 i5 e
   have h4 := hk1 _ e
   refine hK8 _ ?_
   refine AW.seq_w fun K10 hK10 wK10 => ?_
   refine AW.region ?_
   refine sM rfl rfl ?_
   refine sQ rfl (sp_assign rfl iL) ?_
   refine sQ rfl (sp_assign rfl iL) ?_
   refine AOps.nil (hK10 _ ?_)
   refine AW.ret ?_
   exact retf2 (P := Tryd.prog) (fun (r : (List Int) × Int) => .r (.sl (r.1.map (rInt .i64)))) (fun (r : (List Int) × Int) => .r (.int .i64 r.2)) h4 iL (.t (.one (.own rfl))) (.t (.d rfl))
  refine AW.iter2 (fun (x2 : Int) (out2 : List Int) i3 => ⟨[(0, .r (.sl (a1.map GAxisStep.row))), (7, .r (.int .i64 r1)), (9, .own 5009 (i3 0)), (22, .r (.sl (places1.map (rInt .i64)))), (23, .r (.int .i64 (places1.length : Int))), (24, .r (.int .i64 x2))], [(5009, some (.arr (i3 0) 3 1 (out2.map (rInt .i64))))], (i3 1), 43⟩) (vec [n0, (n0 + 1)]) hit1 (Weak.trans (Weak.trans (Weak.adopt 9 5009 3 1 (by decide) rfl) (by exact Weak.cv (e' := [(0, .r (.sl (a1.map GAxisStep.row))), (1, .r (.sl (places1.map (rInt .i64)))), (7, .r (.int .i64 r1)), (9, .own 5009 n0), (22, .r (.sl (places1.map (rInt .i64)))), (23, .r (.int .i64 (places1.length : Int))), (24, .r (.int .i64 0))]) (h' := [(5009, some (.arr n0 3 1 (([] : List Int).map (rInt .i64))))]) ⟨jL, jL, jL, jL, jL, jL, jL, trivial⟩ ⟨.inl rfl, trivial⟩ nL)) (by exact Weak.cv ⟨jL, jL, jL, jL, jL, jL, trivial⟩ ⟨.inl rfl, trivial⟩ nL)) ?_
  intro x2 out2 i3 v1 hv1 hx1
  have h5 : axis_Apply_L1 a1 places1 r1 x2 out2 = some v1 := hv1; unfold axis_Apply_L1 at h5
  refine AW.seq_w fun K11 hK11 wK11 => ?_
  refine AW.region ?_
  refine sQ rfl (sp_lss rfl iL iL) ?_
  refine AOps.nil (hK11 _ ?_)
  refine AW.seq_w fun K12 hK12 wK12 => ?_
  refine AW.cond rfl (fun hc2 => ?_) (fun hc2 => ?_)
  ·have h6 := ite_t hc2 h5
   refine AW.skip ?_
   refine hK12 _ ?_
   refine AW.seq_w fun K13 hK13 wK13 => ?_
   refine AW.block ?_
   refine AW.seq_w fun K14 hK14 wK14 => ?_
   refine AW.region ?_
   refine ob1k h6 fun x4 ex4 h7 => ?_
   refine sQ rfl (ms_idx rfl tg_78.slice iL iL (fun _ => rfl) (fun _ => ex4)) ?_
   refine sQ rfl (ms_load (d := .int .i64 x4) rfl ts_3 iL rfl) ?_
   refine sQ rfl (sp_assign rfl iL) ?_
   refine AOps.nil (hK14 _ ?_)
   refine AW.seq_w fun K15 hK15 wK15 => ?_
   refine AW.seq_w fun K16 hK16 wK16 => ?_
   refine AW.region ?_
   refine sM rfl rfl ?_
   refine sQ rfl (sp_lss rfl iL iL) ?_
   refine sM rfl rfl ?_
   refine sV rfl rfl rfl (sp_move rfl iL) ?_
   refine sV rfl rfl rfl (sp_move rfl iL) ?_
   refine sV rfl rfl rfl (sp_geq rfl (iR rfl) (iR rfl)) ?_
   refine sQ rfl (sp_or rfl iL (iR rfl)) ?_
   refine AOps.nil (hK16 _ ?_)
   refine AW.cond rfl (fun hc3 => ?_) (fun hc3 => ?_)
   ·have h8 := ite_t hc3 h7
    refine AW.seq_w fun K17 hK17 wK17 => ?_
    refine AW.weak (s' := ⟨[], [], (i3 1), 43⟩) (by exact Weak.cv trivial trivial nL) ?_
    refine AW.region ?_
    refine sQ rfl (sp_assign rfl iL) ?_
    refine sQ rfl (sp_assign rfl iL) ?_
    refine AOps.nil (hK17 _ ?_)
    refine AW.ret ?_
    exact retf2 (P := Tryd.prog) (fun (r : (List Int) × Int) => .r (.sl (r.1.map (rInt .i64)))) (fun (r : (List Int) × Int) => .r (.int .i64 r.2)) (he1 _ (hx1 _ (Option.some.inj h8).symm)) iL (.t (.one (.nil))) (.t (.d rfl))
   ·have h8 := ite_f hc3 h7
    refine AW.skip ?_
    refine hK15 _ ?_
    refine AW.region ?_
    refine sM rfl rfl ?_
    refine sM rfl rfl ?_
    refine sM rfl rfl ?_
    refine ob1k h8 fun r3 er3 h9 => ?_
    refine AOps.step rfl rfl rfl (sp_call (r := .r (.int .i64 r3)) (caps := []) (bs := [.r (.sl (a1.map GAxisStep.row)), .r (.int .i64 x4)]) rfl iL rfl ⟨⟨_, iL, .d rfl⟩, ⟨_, iL, .d rfl⟩, trivial⟩ (fun _ => w_axis_place (er3)) rfl) ?_
    refine AOps.step rfl rfl rfl (ms_lit 39 rfl tg_78 (f := (rInt .i64)) (l := ([r3] : List Int)) ⟨rfl, ⟨_, iL, rfl⟩, trivial⟩ rfl (fun _ => rfl) rfl) ?_
    refine ob1k h9 fun out5 eout5 h10 => ?_
    refine AOps.step rfl rfl rfl (ms_app rfl tg_78 iL rfl (.inr (.inl ⟨_, _, iL, rfl⟩)) eout5) ?_
    refine sQ rfl (sp_assign rfl iL) ?_
    refine AOps.nil (hK13 _ ?_)
    refine AW.weak (s' := ⟨[(0, .r (.sl (a1.map GAxisStep.row))), (7, .r (.int .i64 r1)), (9, .own 5009 ((i3 1) + 1)), (22, .r (.sl (places1.map (rInt .i64)))), (23, .r (.int .i64 (places1.length : Int))), (24, .r (.int .i64 x2))], [(5009, some (.arr ((i3 1) + 1) 3 1 (out5.map (rInt .i64))))], ((i3 1) + 2), 43⟩) (by exact Weak.cv ⟨jL, jL, jL, jL, jL, jL, trivial⟩ ⟨.inl rfl, trivial⟩ nL) ?_
    refine AW.region ?_
    refine ob1k h10 fun x5 ex5 h11 => ?_
    refine sQ rfl (ms_add rfl iL iL (fun _ => ex5)) ?_
    refine sM rfl rfl ?_
    refine AOps.nil ?_
    exact NextQ2.mk h11 (vec [((i3 1) + 1), ((i3 1) + 2)]) ((by exact Weak.cv ⟨jL, jL, jL, jL, jL, jL, trivial⟩ ⟨.inl rfl, trivial⟩ nL))
  ·have h6 := ite_f hc2 h5
   refine AW.exit ?_
   exact wK8 _ _ ((by exact Weak.cv ⟨jL, trivial⟩ ⟨.inl rfl, trivial⟩ nL)) (J1 _ (vec [(i3 0), (i3 1)]) (hx1 _ (Option.some.inj h6).symm))
set_option maxHeartbeats 4000000 in
set_option maxRecDepth 20000 in
theorem w_grid_Moved {l1 : List GCell} {rows1 : List GAxisStep} {cols1 : List GAxisStep} {r : (List GCell)} (h : grid_Moved l1 rows1 cols1 = some r) : ARO Tryd.prog 120 [.r (.sl (l1.map GCell.row)), .r (.sl (rows1.map GAxisStep.row)), .r (.sl (cols1.map GAxisStep.row))] (.r (.sl (r.map GCell.row))) := by
 unfold grid_Moved at h
 refine ARO.mkF Tryd.func120 rfl rfl Tryd.ntmps120 rfl (Nat.le_of_ble_eq_true rfl) fun n0 => ?_
 refine AW.seq_w fun K1 hK1 wK1 => ?_
 refine AW.region ?_
 refine sQ rfl (sp_assign rfl iL) ?_
 refine AOps.nil (hK1 _ ?_)
 refine AW.seq_w fun K2 hK2 wK2 => ?_
 refine AW.region ?_
 refine sQ rfl (sp_assign rfl iL) ?_
 refine AOps.nil (hK2 _ ?_)
 refine AW.seq_w fun K3 hK3 wK3 => ?_
 refine AW.seq_w fun K4 hK4 wK4 => ?_
 refine AW.region ?_
 refine sM rfl rfl ?_
 refine sQ rfl (ms_len rfl tg_29.slice iL) ?_
 refine sM rfl rfl ?_
 refine AOps.nil (hK4 _ ?_)
 refine AW.block ?_
 refine jb1k h fun o1 hit1 hk1 => ?_
 have J1 : ∀ (out4 : List GCell) (i5 : Nat → Nat), o1 = out4 → K3 ⟨[(7, .own 5007 (i5 0))], [(5007, some (.arr (i5 0) 60 5 (out4.map GCell.row)))], (i5 1), 74⟩ := by
  intro out4 i5 e
  have h1 := hk1 _ e
  refine hK3 _ ?_
  refine AW.seq_w fun K5 hK5 wK5 => ?_
  refine AW.region ?_
  refine sM rfl rfl ?_
  refine sQ rfl (sp_assign rfl iL) ?_
  refine AOps.nil (hK5 _ ?_)
  refine AW.ret ?_
  exact retf1 (P := Tryd.prog) (fun (r : (List GCell)) => .r (.sl (r.map GCell.row))) h1 iL (.t (.one (.own rfl)))
 refine AW.iter2 (fun (x2 : Int) (out2 : List GCell) i3 => ⟨[(1, .r (.sl (rows1.map GAxisStep.row))), (2, .r (.sl (cols1.map GAxisStep.row))), (7, .own 5007 (i3 0)), (14, .r (.sl (l1.map GCell.row))), (15, .r (.int .i64 (l1.length : Int))), (16, .r (.int .i64 x2))], [(5007, some (.arr (i3 0) 60 5 (out2.map GCell.row)))], (i3 1), 74⟩) (vec [n0, (n0 + 1)]) hit1 (Weak.trans (Weak.trans (Weak.adopt 7 5007 60 5 (by decide) rfl) (by exact Weak.cv (e' := [(0, .r (.sl (l1.map GCell.row))), (1, .r (.sl (rows1.map GAxisStep.row))), (2, .r (.sl (cols1.map GAxisStep.row))), (6, .cst (.slice none 0 0)), (7, .own 5007 n0), (14, .r (.sl (l1.map GCell.row))), (15, .r (.int .i64 (l1.length : Int))), (16, .r (.int .i64 0))]) (h' := [(5007, some (.arr n0 60 5 (([] : List GCell).map GCell.row)))]) ⟨jL, jL, jL, jL, jL, jL, jL, jL, trivial⟩ ⟨.inl rfl, trivial⟩ nL)) (by exact Weak.cv ⟨jL, jL, jL, jL, jL, jL, trivial⟩ ⟨.inl rfl, trivial⟩ nL)) ?_
 intro x2 out2 i3 v1 hv1 hx1
 have h2 : grid_Moved_L1 l1 rows1 cols1 x2 out2 = some v1 := hv1; unfold grid_Moved_L1 at h2
 refine AW.seq_w fun K6 hK6 wK6 => ?_
 refine AW.region ?_
 refine sQ rfl (sp_lss rfl iL iL) ?_
 refine AOps.nil (hK6 _ ?_)
 refine AW.seq_w fun K7 hK7 wK7 => ?_
 refine AW.cond rfl (fun hc1 => ?_) (fun hc1 => ?_)
 ·have h3 := ite_t hc1 h2
  refine AW.skip ?_
  refine hK7 _ ?_
  refine AW.seq_w fun K8 hK8 wK8 => ?_
  refine AW.block ?_
  refine jb1k h3 fun p1 hp1 hk2 => ?_
  have J2 : ∀ (out5 : List GCell) (i6 : Nat → Nat), p1 = out5 → K8 ⟨[(1, .r (.sl (rows1.map GAxisStep.row))), (2, .r (.sl (cols1.map GAxisStep.row))), (7, .own 5007 (i6 0)), (14, .r (.sl (l1.map GCell.row))), (15, .r (.int .i64 (l1.length : Int))), (16, .r (.int .i64 x2))], [(5007, some (.arr (i6 0) 60 5 (out5.map GCell.row)))], (i6 1), 74⟩ := by
   intro out5 i6 e
   have h4 := hk2 _ e
   refine hK8 _ ?_
   refine AW.region ?_
   refine ob1k h4 fun x4 ex4 h5 => ?_
   refine sQ rfl (ms_add rfl iL iL (fun _ => ex4)) ?_
   refine sM rfl rfl ?_
   refine AOps.nil ?_
   exact NextQ2.mk h5 (vec [(i6 0), (i6 1)]) ((by exact Weak.cv ⟨jL, jL, jL, jL, jL, jL, trivial⟩ ⟨.inl rfl, trivial⟩ nL))
  refine AW.seq_w fun K9 hK9 wK9 => ?_
  refine AW.region ?_
  refine ob1k hp1 fun x5 ex5 h6 => ?_
  refine sQ rfl (ms_idx rfl tg_29.slice iL iL (fun _ => rfl) (fun _ => ex5)) ?_
  refine sQ rfl (ms_loadA (cs := [.r (.int .i64 x5.Row), .r (.int .i64 x5.Col), .r (.str x5.Text), .r (.int .i64 x5.Ref), .r (.sl (x5.Attrs.map GAttr.row))]) rfl ta_60 iL rfl rfl) ?_
  refine AOps.step rfl rfl rfl (ms_alloc (cs := [.r (.int .i64 0), .r (.int .i64 0), .r (.str []), .r (.int .i64 0), .cst (.slice none 0 0)]) 9 rfl t0_60 rfl rfl) ?_
  refine AOps.step0 rfl rfl (ms_store_box (ds := [.r (.int .i64 x5.Row), .r (.int .i64 x5.Col), .r (.str x5.Text), .r (.int .i64 x5.Ref), .r (.sl (x5.Attrs.map GAttr.row))]) rfl tz_60 iL rfl iL rfl rfl rfl rfl) ?_
  refine AOps.nil (hK9 _ ?_)
  refine AW.seq_w fun K10 hK10 wK10 => ?_
  refine AW.region ?_
  refine sQ rfl (ms_loadA_box rfl ta_60 iL rfl rfl) ?_
  refine ob1k h6 fun r1 er1 h7 => ?_
  refine AOps.step rfl rfl rfl (sp_callS (r := .agg [.r (.int .i64 r1.Row), .r (.int .i64 r1.Col), .r (.str r1.Text), .r (.int .i64 r1.Ref), .r (.sl (r1.Attrs.map GAttr.row))]) (caps := []) (bs := [.agg [.r (.int .i64 x5.Row), .r (.int .i64 x5.Col), .r (.str x5.Text), .r (.int .i64 x5.Ref), .r (.sl (x5.Attrs.map GAttr.row))]]) rfl iL rfl ⟨.inl ⟨iL, rfl⟩, trivial⟩ (fun _ => w_grid_clone (er1))) ?_
  refine AOps.step0 rfl rfl (ms_store_box (ds := [.r (.int .i64 r1.Row), .r (.int .i64 r1.Col), .r (.str r1.Text), .r (.int .i64 r1.Ref), .r (.sl (r1.Attrs.map GAttr.row))]) rfl tz_60 iL rfl iL rfl rfl rfl rfl) ?_
  refine AOps.nil (hK10 _ ?_)
  refine AW.seq_w fun K11 hK11 wK11 => ?_
  refine AW.seq_w fun K12 hK12 wK12 => ?_
  refine AW.region ?_
  refine sM rfl rfl ?_
  refine sQ rfl (ms_len rfl tg_47.slice iL) ?_
  refine sQ rfl (sp_gtr rfl iL iL) ?_
  refine AOps.nil (hK12 _ ?_)
  refine jc1k h7 fun p2 hp2 hk3 he3 => ?_
  have J3 : ∀ (c1 : GCell) (i7 : Nat → Nat), p2 = .nrm c1 → K11 ⟨[(1, .r (.sl (rows1.map GAxisStep.row))), (2, .r (.sl (cols1.map GAxisStep.row))), (7, .own 5007 (i3 0)), (9, .ptr 9 (i3 1) 0 0), (14, .r (.sl (l1.map GCell.row))), (15, .r (.int .i64 (l1.length : Int))), (16, .r (.int .i64 x2))], [(9, some (.box (i3 1) 60 [.r (.int .i64 c1.Row), .r (.int .i64 c1.Col), .r (.str c1.Text), .r (.int .i64 c1.Ref), .r (.sl (c1.Attrs.map GAttr.row))])), (5007, some (.arr (i3 0) 60 5 (out2.map GCell.row)))], (i7 0), 74⟩ := by
   intro c1 i7 e
   have h8 := hk3 _ e
   refine hK11 _ ?_
   refine AW.seq_w fun K13 hK13 wK13 => ?_
   refine AW.seq_w fun K14 hK14 wK14 => ?_
   refine AW.region ?_
   refine sM rfl rfl ?_
   refine sQ rfl (ms_len rfl tg_47.slice iL) ?_
   refine sQ rfl (sp_gtr rfl iL iL) ?_
   refine AOps.nil (hK14 _ ?_)
   refine jc1k h8 fun p3 hp3 hk4 he4 => ?_
   have J4 : ∀ (c2 : GCell) (i8 : Nat → Nat), p3 = .nrm c2 → K13 ⟨[(1, .r (.sl (rows1.map GAxisStep.row))), (2, .r (.sl (cols1.map GAxisStep.row))), (7, .own 5007 (i3 0)), (9, .ptr 9 (i3 1) 0 0), (14, .r (.sl (l1.map GCell.row))), (15, .r (.int .i64 (l1.length : Int))), (16, .r (.int .i64 x2))], [(9, some (.box (i3 1) 60 [.r (.int .i64 c2.Row), .r (.int .i64 c2.Col), .r (.str c2.Text), .r (.int .i64 c2.Ref), .r (.sl (c2.Attrs.map GAttr.row))])), (5007, some (.arr (i3 0) 60 5 (out2.map GCell.row)))], (i8 0), 74⟩ := by
    intro c2 i8 e
    have h9 := hk4 _ e
    refine hK13 _ ?_
    refine AW.region ?_
    refine sM rfl rfl ?_
    refine sQ rfl (ms_loadA_box rfl ta_60 iL rfl rfl) ?_
    refine AOps.step rfl rfl rfl (ms_lit 70 rfl tg_29 (f := GCell.row) (l := ([c2] : List GCell)) ⟨rfl, ⟨_, iL, rfl⟩, trivial⟩ rfl (fun _ => rfl) rfl) ?_
    refine ob1k h9 fun out6 eout6 h10 => ?_
    refine AOps.step rfl rfl rfl (ms_app rfl tg_29 iL rfl (.inr (.inl ⟨_, _, iL, rfl⟩)) eout6) ?_
    refine sQ rfl (sp_assign rfl iL) ?_
    refine AOps.nil ?_
    exact wK8 _ _ ((by exact Weak.cv ⟨jL, jL, jL, jL, jL, jL, trivial⟩ ⟨.inl rfl, trivial⟩ nL)) (J2 _ (vec [((i8 0) + 1), ((i8 0) + 2)]) (Option.some.inj h10).symm)
   refine AW.cond rfl (fun hc2 => ?_) (fun hc2 => ?_)
   ·have h11 := ite_t hc2 hp3
    refine AW.seq_w fun K15 hK15 wK15 => ?_
    refine AW.region ?_
    refine sM rfl rfl ?_
    refine sQ rfl (sp_fieldAddr_own (ob := .box _ _ _) rfl tf_60_1 iL fR rfl) ?_
    refine sQ rfl (ms_load_box (a := .r (.int .i64 c1.Col)) rfl ts_3 iL rfl rfl) ?_
    refine AOps.step rfl rfl rfl (ms_lit 52 rfl tg_78 (f := (rInt .i64)) (l := ([c1.Col] : List Int)) ⟨rfl, ⟨_, iL, rfl⟩, trivial⟩ rfl (fun _ => rfl) rfl) ?_
    refine AOps.weak (by exact Weak.frz (e' := [(1, .r (.sl (rows1.map GAxisStep.row))), (2, .r (.sl (cols1.map GAxisStep.row))), (7, .own 5007 (i3 0)), (9, .ptr 9 (i3 1) 0 0), (14, .r (.sl (l1.map GCell.row))), (15, .r (.int .i64 (l1.length : Int))), (16, .r (.int .i64 x2)), (45, .r (.sl (cols1.map GAxisStep.row))), (46, .r (.int .i64 (cols1.length : Int))), (47, .r (.bool (decide (0 < (cols1.length : Int))))), (49, .r (.sl (cols1.map GAxisStep.row))), (50, .ptr 9 (i3 1) 0 1), (51, .r (.int .i64 c1.Col)), (52, .r (.sl ([c1.Col].map (rInt .i64))))]) (h' := [(9, some (.box (i3 1) 60 [.r (.int .i64 c1.Row), .r (.int .i64 c1.Col), .r (.str c1.Text), .r (.int .i64 c1.Ref), .r (.sl (c1.Attrs.map GAttr.row))])), (5007, some (.arr (i3 0) 60 5 (out2.map GCell.row)))]) 52 rfl ⟨jL, jL, jL, jL, jL, jL, jL, jL, jL, jL, jL, jL, jL, .inl (.inr (.inr ⟨rfl, rfl⟩)), trivial⟩ ⟨rfl, .inl rfl, rfl, .inl rfl, trivial⟩) ?_
    refine ob2k h11 fun r2 r3 er2 h12 => ?_
    refine AOps.step rfl rfl rfl (sp_callS (r := .tup [.r (.sl (r2.map (rInt .i64))), .r (.int .i64 r3)]) (caps := []) (bs := [.r (.sl (cols1.map GAxisStep.row)), .r (.sl ([c1.Col].map (rInt .i64)))]) rfl iL rfl ⟨.inl ⟨iL, rfl⟩, .inl ⟨iL, rfl⟩, trivial⟩ (fun _ => w_axis_Apply (er2))) ?_
    refine sM rfl rfl ?_
    refine sQ rfl (sp_extract (a := .r (.sl (r2.map (rInt .i64)))) rfl iL rfl) ?_
    refine sQ rfl (sp_extract (a := .r (.int .i64 r3)) rfl iL rfl) ?_
    refine sQ rfl (sp_assign rfl iL) ?_
    refine sQ rfl (sp_assign rfl iL) ?_
    refine AOps.nil (hK15 _ ?_)
    refine AW.seq_w fun K16 hK16 wK16 => ?_
    refine AW.seq_w fun K17 hK17 wK17 => ?_
    refine AW.weak (s' := ⟨[(1, .r (.sl (rows1.map GAxisStep.row))), (2, .r (.sl (cols1.map GAxisStep.row))), (7, .own 5007 (i3 0)), (9, .ptr 9 (i3 1) 0 0), (12, .r (.sl (r2.map (rInt .i64)))), (13, .r (.int .i64 r3)), (14, .r (.sl (l1.map GCell.row))), (15, .r (.int .i64 (l1.length : Int))), (16, .r (.int .i64 x2))], [(9, some (.box (i3 1) 60 [.r (.int .i64 c1.Row), .r (.int .i64 c1.Col), .r (.str c1.Text), .r (.int .i64 c1.Ref), .r (.sl (c1.Attrs.map GAttr.row))])), (5007, some (.arr (i3 0) 60 5 (out2.map GCell.row)))], ((i7 0) + 1), 74⟩) (by exact Weak.cv ⟨jL, jL, jL, jL, jL, jL, jL, jL, jL, trivial⟩ ⟨.inl rfl, .inl rfl, trivial⟩ nL) ?_
    refine AW.region ?_
    refine sM rfl rfl ?_
    refine sQ rfl (sp_neq rfl iL iL) ?_
    refine sM rfl rfl ?_
    refine sV rfl rfl rfl (sp_move rfl iL) ?_
    refine ob1k h12 fun x6 ex6 h13 => ?_
    refine sV rfl rfl rfl (ms_idx rfl tg_78.slice (iR rfl) iL (fun _ => rfl) (gdt ex6)) ?_
    refine sV rfl rfl rfl (ms_load (d := .int .i64 x6) rfl ts_3 (iR rfl) rfl) ?_
    refine sV rfl rfl rfl (sp_lss rfl (iR rfl) iL) ?_
    refine sQ rfl (sp_or rfl iL (iR rfl)) ?_
    refine AOps.nil (hK17 _ ?_)
    refine AW.cond rfl (fun hc3 => ?_) (fun hc3 => ?_)
    ·have h14 := ite_t hc3 h13
     refine AW.exit ?_
     exact wK8 _ _ ((by exact Weak.cv ⟨jL, jL, jL, jL, jL, jL, trivial⟩ ⟨.inl rfl, trivial⟩ nL)) (J2 _ (vec [(i3 0), ((i7 0) + 1)]) (Option.some.inj (he4 _ (Option.some.inj h14).symm)).symm)
    ·have h14 := ite_f hc3 h13
     refine AW.skip ?_
     refine hK16 _ ?_
     refine AW.region ?_
     refine sM rfl rfl ?_
     refine ob1k h14 fun x7 ex7 h15 => ?_
     refine sQ rfl (ms_idx rfl tg_78.slice iL iL (fun _ => rfl) (fun _ => ex7)) ?_
     refine sQ rfl (ms_load (d := .int .i64 x7) rfl ts_3 iL rfl) ?_
     refine sQ rfl (sp_fieldAddr_own (ob := .box _ _ _) rfl tf_60_1 iL fR rfl) ?_
     refine AOps.step0 rfl rfl (ms_store_box (ds := [.r (.int .i64 c1.Row), .r (.int .i64 x7), .r (.str c1.Text), .r (.int .i64 c1.Ref), .r (.sl (c1.Attrs.map GAttr.row))]) rfl tz_3 iL rfl iL rfl rfl rfl rfl) ?_
     refine AOps.nil ?_
     exact wK13 _ _ ((by exact Weak.cv ⟨jL, jL, jL, jL, jL, jL, jL, trivial⟩ ⟨.inl rfl, .inl rfl, trivial⟩ nL)) (J4 _ (vec [((i7 0) + 1)]) (Option.some.inj h15).symm)
   ·have h11 := ite_f hc2 hp3
    refine AW.skip ?_
    exact wK13 _ _ ((by exact Weak.cv ⟨jL, jL, jL, jL, jL, jL, jL, trivial⟩ ⟨.inl rfl, .inl rfl, trivial⟩ nL)) (J4 _ (vec [(i7 0)]) (Option.some.inj h11).symm)
  refine AW.cond rfl (fun hc4 => ?_) (fun hc4 => ?_)
  ·have h16 := ite_t hc4 hp2
   refine AW.seq_w fun K18 hK18 wK18 => ?_
   refine AW.region ?_
   refine sM rfl rfl ?_
   refine sQ rfl (sp_fieldAddr_own (ob := .box _ _ _) rfl tf_60_0 iL fR rfl) ?_
   refine sQ rfl (ms_load_box (a := .r (.int .i64 r1.Row)) rfl ts_3 iL rfl rfl) ?_
   refine AOps.step rfl rfl rfl (ms_lit 29 rfl tg_78 (f := (rInt .i64)) (l := ([r1.Row] : List Int)) ⟨rfl, ⟨_, iL, rfl⟩, trivial⟩ rfl (fun _ => rfl) rfl) ?_
   refine AOps.weak (by exact Weak.frz (e' := [(1, .r (.sl (rows1.map GAxisStep.row))), (2, .r (.sl (cols1.map GAxisStep.row))), (7, .own 5007 (i3 0)), (9, .ptr 9 (i3 1) 0 0), (14, .r (.sl (l1.map GCell.row))), (15, .r (.int .i64 (l1.length : Int))), (16, .r (.int .i64 x2)), (17, .r (.bool (decide (x2 < (l1.length : Int))))), (18, .rop (GCell.row x5) 0), (19, .agg [.r (.int .i64 x5.Row), .r (.int .i64 x5.Col), .r (.str x5.Text), .r (.int .i64 x5.Ref), .r (.sl (x5.Attrs.map GAttr.row))]), (20, .agg [.r (.int .i64 x5.Row), .r (.int .i64 x5.Col), .r (.str x5.Text), .r (.int .i64 x5.Ref), .r (.sl (x5.Attrs.map GAttr.row))]), (21, .agg [.r (.int .i64 r1.Row), .r (.int .i64 r1.Col), .r (.str r1.Text), .r (.int .i64 r1.Ref), .r (.sl (r1.Attrs.map GAttr.row))]), (22, .r (.sl (rows1.map GAxisStep.row))), (23, .r (.int .i64 (rows1.length : Int))), (24, .r (.bool (decide (0 < (rows1.length : Int))))), (26, .r (.sl (rows1.map GAxisStep.row))), (27, .ptr 9 (i3 1) 0 0), (28, .r (.int .i64 r1.Row)), (29, .r (.sl ([r1.Row].map (rInt .i64))))]) (h' := [(9, some (.box (i3 1) 60 [.r (.int .i64 r1.Row), .r (.int .i64 r1.Col), .r (.str r1.Text), .r (.int .i64 r1.Ref), .r (.sl (r1.Attrs.map GAttr.row))])), (5007, some (.arr (i3 0) 60 5 (out2.map GCell.row)))]) 29 rfl ⟨jL, jL, jL, jL, jL, jL, jL, jL, jL, jL, jL, jL, jL, jL, jL, jL, jL, jL, .inl (.inr (.inr ⟨rfl, rfl⟩)), trivial⟩ ⟨rfl, .inl rfl, rfl, .inl rfl, trivial⟩) ?_
   refine ob2k h16 fun r4 r5 er4 h17 => ?_
   refine AOps.step rfl rfl rfl (sp_callS (r := .tup [.r (.sl (r4.map (rInt .i64))), .r (.int .i64 r5)]) (caps := []) (bs := [.r (.sl (rows1.map GAxisStep.row)), .r (.sl ([r1.Row].map (rInt .i64)))]) rfl iL rfl ⟨.inl ⟨iL, rfl⟩, .inl ⟨iL, rfl⟩, trivial⟩ (fun _ => w_axis_Apply (er4))) ?_
   refine sM rfl rfl ?_
   refine sQ rfl (sp_extract (a := .r (.sl (r4.map (rInt .i64)))) rfl iL rfl) ?_
   refine sQ rfl (sp_extract (a := .r (.int .i64 r5)) rfl iL rfl) ?_
   refine sQ rfl (sp_assign rfl iL) ?_
   refine sQ rfl (sp_assign rfl iL) ?_
   refine AOps.nil (hK18 _ ?_)
   refine AW.seq_w fun K19 hK19 wK19 => ?_
   refine AW.seq_w fun K20 hK20 wK20 => ?_
   refine AW.weak (s' := ⟨[(1, .r (.sl (rows1.map GAxisStep.row))), (2, .r (.sl (cols1.map GAxisStep.row))), (7, .own 5007 (i3 0)), (9, .ptr 9 (i3 1) 0 0), (10, .r (.sl (r4.map (rInt .i64)))), (11, .r (.int .i64 r5)), (14, .r (.sl (l1.map GCell.row))), (15, .r (.int .i64 (l1.length : Int))), (16, .r (.int .i64 x2))], [(9, some (.box (i3 1) 60 [.r (.int .i64 r1.Row), .r (.int .i64 r1.Col), .r (.str r1.Text), .r (.int .i64 r1.Ref), .r (.sl (r1.Attrs.map GAttr.row))])), (5007, some (.arr (i3 0) 60 5 (out2.map GCell.row)))], ((i3 1) + 2), 74⟩) (by exact Weak.cv ⟨jL, jL, jL, jL, jL, jL, jL, jL, jL, trivial⟩ ⟨.inl rfl, .inl rfl, trivial⟩ nL) ?_
   refine AW.region ?_
   refine sM rfl rfl ?_
   refine sQ rfl (sp_neq rfl iL iL) ?_
   refine sM rfl rfl ?_
   refine sV rfl rfl rfl (sp_move rfl iL) ?_
   refine ob1k h17 fun x8 ex8 h18 => ?_
   refine sV rfl rfl rfl (ms_idx rfl tg_78.slice (iR rfl) iL (fun _ => rfl) (gdt ex8)) ?_
   refine sV rfl rfl rfl (ms_load (d := .int .i64 x8) rfl ts_3 (iR rfl) rfl) ?_
   refine sV rfl rfl rfl (sp_lss rfl (iR rfl) iL) ?_
   refine sQ rfl (sp_or rfl iL (iR rfl)) ?_
   refine AOps.nil (hK20 _ ?_)
   refine AW.cond rfl (fun hc5 => ?_) (fun hc5 => ?_)
   ·have h19 := ite_t hc5 h18
    refine AW.exit ?_
    exact wK8 _ _ ((by exact Weak.cv ⟨jL, jL, jL, jL, jL, jL, trivial⟩ ⟨.inl rfl, trivial⟩ nL)) (J2 _ (vec [(i3 0), ((i3 1) + 2)]) (Option.some.inj (he3 _ (Option.some.inj h19).symm)).symm)
   ·have h19 := ite_f hc5 h18
    refine AW.skip ?_
    refine hK19 _ ?_
    refine AW.region ?_
    refine sM rfl rfl ?_
    refine ob1k h19 fun x9 ex9 h20 => ?_
    refine sQ rfl (ms_idx rfl tg_78.slice iL iL (fun _ => rfl) (fun _ => ex9)) ?_
    refine sQ rfl (ms_load (d := .int .i64 x9) rfl ts_3 iL rfl) ?_
    refine sQ rfl (sp_fieldAddr_own (ob := .box _ _ _) rfl tf_60_0 iL fR rfl) ?_
    refine AOps.step0 rfl rfl (ms_store_box (ds := [.r (.int .i64 x9), .r (.int .i64 r1.Col), .r (.str r1.Text), .r (.int .i64 r1.Ref), .r (.sl (r1.Attrs.map GAttr.row))]) rfl tz_3 iL rfl iL rfl rfl rfl rfl) ?_
    refine AOps.nil ?_
    exact wK11 _ _ ((by exact Weak.cv ⟨jL, jL, jL, jL, jL, jL, jL, trivial⟩ ⟨.inl rfl, .inl rfl, trivial⟩ nL)) (J3 _ (vec [((i3 1) + 2)]) (Option.some.inj h20).symm)
  ·have h16 := ite_f hc4 hp2
   refine AW.skip ?_
   exact wK11 _ _ ((by exact Weak.cv ⟨jL, jL, jL, jL, jL, jL, jL, trivial⟩ ⟨.inl rfl, .inl rfl, trivial⟩ nL)) (J3 _ (vec [((i3 1) + 1)]) (Option.some.inj h16).symm)
 ·have h3 := ite_f hc1 h2
  refine AW.exit ?_
  exact wK3 _ _ ((by exact Weak.cv ⟨jL, trivial⟩ ⟨.inl rfl, trivial⟩ nL)) (J1 _ (vec [(i3 0), (i3 1)]) (hx1 _ (Option.some.inj h3).symm))
set_option maxHeartbeats 4000000 in
set_option maxRecDepth 20000 in
theorem w_grid_put {l1 : List GCell} {news1 : List GCell} {r : (List GCell)} (h : grid_put l1 news1 = some r) : ARO Tryd.prog 119 [.r (.sl (l1.map GCell.row)), .r (.sl (news1.map GCell.row))] (.r (.sl (r.map GCell.row))) := by
 unfold grid_put at h
 refine ARO.mkF Tryd.func119 rfl rfl Tryd.ntmps119 rfl (Nat.le_of_ble_eq_true rfl) fun n0 => ?_
 refine AW.seq_w fun K1 hK1 wK1 => ?_
 refine AW.region ?_
 refine sQ rfl (sp_assign rfl iL) ?_
 refine AOps.nil (hK1 _ ?_)
 refine AW.seq_w fun K2 hK2 wK2 => ?_
 refine AW.region ?_
 refine sQ rfl (sp_assign rfl iL) ?_
 refine AOps.nil (hK2 _ ?_)
 refine AW.seq_w fun K3 hK3 wK3 => ?_
 refine AW.region ?_
 refine sQ rfl (sp_assign rfl iL) ?_
 refine AOps.nil (hK3 _ ?_)
 refine AW.seq_w fun K4 hK4 wK4 => ?_
 refine AW.seq_w fun K5 hK5 wK5 => ?_
 refine AW.region ?_
 refine sM rfl rfl ?_
 refine sQ rfl (ms_len rfl tg_29.slice iL) ?_
 refine sM rfl rfl ?_
 refine AOps.nil (hK5 _ ?_)
 refine AW.block ?_
 refine jb2k h fun o1 hit1 hk1 => ?_
 have J1 : ∀ (i8 : Int) (out4 : List GCell) (i9 : Nat → Nat), o1 = (i8, out4) → K4 ⟨[(0, .r (.sl (l1.map GCell.row))), (5, .own 5005 (i9 0)), (6, .r (.int .i64 i8))], [(5005, some (.arr (i9 0) 60 5 (out4.map GCell.row)))], (i9 1), 66⟩ := by
  intro i8 out4 i9 e
  have h1 := hk1 _ _ e
  refine hK4 _ ?_
  refine AW.seq_w fun K6 hK6 wK6 => ?_
  refine AW.region ?_
  refine sM rfl rfl ?_
  refine sM rfl rfl ?_
  refine sM rfl rfl ?_
  refine ob1k h1 fun l2 el2 h2 => ?_
  refine sQ rfl (ms_slice rfl tg_29.slice iL (by exact ⟨_, iL⟩) (by exact rfl) (fun _ => rfl) (fun _ => el2)) ?_
  refine ob1k h2 fun l3 el3 h3 => ?_
  refine AOps.step rfl rfl rfl (ms_app rfl tg_29 iL rfl (.inl ⟨iL, fun _ => rfl⟩) el3) ?_
  refine sQ rfl (sp_assign rfl iL) ?_
  refine AOps.nil (hK6 _ ?_)
  refine AW.ret ?_
  exact retf1 (P := Tryd.prog) (fun (r : (List GCell)) => .r (.sl (r.map GCell.row))) h3 iL (.t (.one (.own rfl)))
 refine AW.iter3 (fun (i4 : Int) (x2 : Int) (out2 : List GCell) i5 => ⟨[(0, .r (.sl (l1.map GCell.row))), (5, .own 5005 (i5 0)), (6, .r (.int .i64 i4)), (9, .r (.sl (news1.map GCell.row))), (10, .r (.int .i64 (news1.length : Int))), (11, .r (.int .i64 x2))], [(5005, some (.arr (i5 0) 60 5 (out2.map GCell.row)))], (i5 1), 66⟩) (vec [n0, (n0 + 1)]) hit1 (Weak.trans (Weak.trans (Weak.adopt 5 5005 60 5 (by decide) rfl) (by exact Weak.cv (e' := [(0, .r (.sl (l1.map GCell.row))), (1, .r (.sl (news1.map GCell.row))), (4, .cst (.slice none 0 0)), (5, .own 5005 n0), (6, .r (.int .i64 0)), (9, .r (.sl (news1.map GCell.row))), (10, .r (.int .i64 (news1.length : Int))), (11, .r (.int .i64 0))]) (h' := [(5005, some (.arr n0 60 5 (([] : List GCell).map GCell.row)))]) ⟨jL, jL, jL, jL, jL, jL, jL, jL, trivial⟩ ⟨.inl rfl, trivial⟩ nL)) (by exact Weak.cv ⟨jL, jL, jL, jL, jL, jL, trivial⟩ ⟨.inl rfl, trivial⟩ nL)) ?_
 intro i4 x2 out2 i5 v1 hv1 hx1
 have h4 : grid_put_L1 l1 news1 i4 x2 out2 = some v1 := hv1; unfold grid_put_L1 at h4
 refine AW.seq_w fun K7 hK7 wK7 => ?_
 refine AW.region ?_
 refine sQ rfl (sp_lss rfl iL iL) ?_
 refine AOps.nil (hK7 _ ?_)
 refine AW.seq_w fun K8 hK8 wK8 => ?_
 refine AW.cond rfl (fun hc1 => ?_) (fun hc1 => ?_)
 ·have h5 := ite_t hc1 h4
  refine AW.skip ?_
  refine hK8 _ ?_
  refine AW.seq_w fun K9 hK9 wK9 => ?_
  refine AW.block ?_
  refine jb2k h5 fun p1 hp1 hk2 => ?_
  have J2 : ∀ (i10 : Int) (out5 : List GCell) (i11 : Nat → Nat), p1 = (i10, out5) → K9 ⟨[(0, .r (.sl (l1.map GCell.row))), (5, .own 5005 (i11 0)), (6, .r (.int .i64 i10)), (9, .r (.sl (news1.map GCell.row))), (10, .r (.int .i64 (news1.length : Int))), (11, .r (.int .i64 x2))], [(5005, some (.arr (i11 0) 60 5 (out5.map GCell.row)))], (i11 1), 66⟩ := by
   intro i10 out5 i11 e
   have h6 := hk2 _ _ e
   refine hK9 _ ?_
   refine AW.region ?_
   refine ob1k h6 fun x4 ex4 h7 => ?_
   refine sQ rfl (ms_add rfl iL iL (fun _ => ex4)) ?_
   refine sM rfl rfl ?_
   refine AOps.nil ?_
   exact NextQ3.mk h7 (vec [(i11 0), (i11 1)]) ((by exact Weak.cv ⟨jL, jL, jL, jL, jL, jL, trivial⟩ ⟨.inl rfl, trivial⟩ nL))
  refine AW.seq_w fun K10 hK10 wK10 => ?_
  refine AW.region ?_
  refine ob1k hp1 fun x5 ex5 h8 => ?_
  refine sQ rfl (ms_idx rfl tg_29.slice iL iL (fun _ => rfl) (fun _ => ex5)) ?_
  refine sQ rfl (ms_loadA (cs := [.r (.int .i64 x5.Row), .r (.int .i64 x5.Col), .r (.str x5.Text), .r (.int .i64 x5.Ref), .r (.sl (x5.Attrs.map GAttr.row))]) rfl ta_60 iL rfl rfl) ?_
  refine AOps.step rfl rfl rfl (ms_alloc (cs := [.r (.int .i64 0), .r (.int .i64 0), .r (.str []), .r (.int .i64 0), .cst (.slice none 0 0)]) 8 rfl t0_60 rfl rfl) ?_
  refine AOps.step0 rfl rfl (ms_store_box (ds := [.r (.int .i64 x5.Row), .r (.int .i64 x5.Col), .r (.str x5.Text), .r (.int .i64 x5.Ref), .r (.sl (x5.Attrs.map GAttr.row))]) rfl tz_60 iL rfl iL rfl rfl rfl rfl) ?_
  refine AOps.nil (hK10 _ ?_)
  refine AW.seq_w fun K11 hK11 wK11 => ?_
  refine AW.block ?_
  refine jb2k h8 fun o2 hit2 hk3 => ?_
  have J3 : ∀ (i19 : Int) (out9 : List GCell) (i20 : Nat → Nat), o2 = (i19, out9) → K11 ⟨[(0, .r (.sl (l1.map GCell.row))), (5, .own 5005 (i20 0)), (6, .r (.int .i64 i19)), (8, .ptr 8 (i5 1) 0 0), (9, .r (.sl (news1.map GCell.row))), (10, .r (.int .i64 (news1.length : Int))), (11, .r (.int .i64 x2))], [(8, some (.box (i5 1) 60 [.r (.int .i64 x5.Row), .r (.int .i64 x5.Col), .r (.str x5.Text), .r (.int .i64 x5.Ref), .r (.sl (x5.Attrs.map GAttr.row))])), (5005, some (.arr (i20 0) 60 5 (out9.map GCell.row)))], (i20 1), 66⟩ := by
   intro i19 out9 i20 e
   have h9 := hk3 _ _ e
   refine hK11 _ ?_
   refine AW.seq_w fun K12 hK12 wK12 => ?_
   refine AW.seq_w fun K13 hK13 wK13 => ?_
   refine AW.regionQ hmix (by kernel_rfl) ?_
   refine AQ.step rfl rfl rfl (sp_move rfl iL) ?_
   refine AQ.step rfl rfl rfl (sp_move rfl iL) ?_
   refine AQ.step rfl rfl rfl (ms_len rfl tg_29.slice iL) ?_
   refine AQ.step rfl rfl rfl (sp_lss rfl iL iL) ?_
   refine AQ.step rfl rfl rfl (sp_move rfl iL) ?_
   refine AQ.stepW (.one rfl rfl rfl) rfl rfl (sp_move rfl iL) ?_
   refine AQ.stepW (.one rfl rfl rfl) rfl rfl (sp_move rfl iL) ?_
   refine ob1k h9 fun x6 ex6 h10 => ?_
   refine AQ.stepW (.one rfl rfl rfl) rfl rfl (ms_idx rfl tg_29.slice (iR rfl) (iR rfl) (fun _ => rfl) (gdt ex6)) ?_
   refine AQ.stepW (.one rfl rfl rfl) rfl rfl (ms_loadA (cs := [.r (.int .i64 x6.Row), .r (.int .i64 x6.Col), .r (.str x6.Text), .r (.int .i64 x6.Ref), .r (.sl (x6.Attrs.map GAttr.row))]) rfl ta_60 (iR rfl) rfl rfl) ?_
   refine AQ.stepW (.one rfl rfl rfl) rfl rfl (ms_loadA_box rfl ta_60 iL rfl rfl) ?_
   refine ob1k h10 fun r1 er1 h11 => ?_
   refine AQ.stepWC (.one rfl rfl rfl) rfl rfl (r := .r (.int .i64 r1)) (caps := []) (bs := [.agg [.r (.int .i64 x6.Row), .r (.int .i64 x6.Col), .r (.str x6.Text), .r (.int .i64 x6.Ref), .r (.sl (x6.Attrs.map GAttr.row))], .agg [.r (.int .i64 x5.Row), .r (.int .i64 x5.Col), .r (.str x5.Text), .r (.int .i64 x5.Ref), .r (.sl (x5.Attrs.map GAttr.row))]]) rfl iL rfl ⟨⟨_, (iR rfl), .g (cs := [.int .i64 x6.Row, .int .i64 x6.Col, .str x6.Text, .int .i64 x6.Ref, .sl (x6.Attrs.map GAttr.row)]) rfl rfl⟩, ⟨_, (iR rfl), .g (cs := [.int .i64 x5.Row, .int .i64 x5.Col, .str x5.Text, .int .i64 x5.Ref, .sl (x5.Attrs.map GAttr.row)]) rfl rfl⟩, trivial⟩ (fun hg => w_grid_order (gdt er1 hg)) rfl ?_
   refine AQ.stepW (.one rfl rfl rfl) rfl rfl (sp_eql rfl (iR rfl) iL) ?_
   refine AQ.step rfl rfl rfl (sp_and rfl iL (iR rfl)) ?_
   refine AQ.nil ?_
   refine hK13 _ ?_
   refine jb1k h11 fun p2 hp2 hk4 => ?_
   have J4 : ∀ (i21 : Int) (i22 : Nat → Nat), p2 = i21 → K12 ⟨[(0, .r (.sl (l1.map GCell.row))), (5, .own 5005 (i20 0)), (6, .r (.int .i64 i21)), (8, .ptr 8 (i5 1) 0 0), (9, .r (.sl (news1.map GCell.row))), (10, .r (.int .i64 (news1.length : Int))), (11, .r (.int .i64 x2))], [(8, some (.box (i5 1) 60 [.r (.int .i64 x5.Row), .r (.int .i64 x5.Col), .r (.str x5.Text), .r (.int .i64 x5.Ref), .r (.sl (x5.Attrs.map GAttr.row))])), (5005, some (.arr (i20 0) 60 5 (out9.map GCell.row)))], (i22 0), 66⟩ := by
    intro i21 i22 e
    have h12 := hk4 _ e
    refine hK12 _ ?_
    refine AW.seq_w fun K14 hK14 wK14 => ?_
    refine AW.region ?_
    refine sQ rfl (ms_loadA_box rfl ta_60 iL rfl rfl) ?_
    refine ob1k h12 fun r2 er2 h13 => ?_
    refine AOps.step rfl rfl rfl (sp_call (r := .r (.bool r2)) (caps := []) (bs := [.agg [.r (.int .i64 x5.Row), .r (.int .i64 x5.Col), .r (.str x5.Text), .r (.int .i64 x5.Ref), .r (.sl (x5.Attrs.map GAttr.row))]]) rfl iL rfl ⟨⟨_, iL, .g (cs := [.int .i64 x5.Row, .int .i64 x5.Col, .str x5.Text, .int .i64 x5.Ref, .sl (x5.Attrs.map GAttr.row)]) rfl rfl⟩, trivial⟩ (fun _ => w_grid_empty (er2)) rfl) ?_
    refine sQ rfl (sp_not rfl iL) ?_
    refine AOps.nil (hK14 _ ?_)
    refine AW.cond rfl (fun hc2 => ?_) (fun hc2 => ?_)
    ·have h14 := ite_t hc2 h13
     refine AW.region ?_
     refine sM rfl rfl ?_
     refine sQ rfl (ms_loadA_box rfl ta_60 iL rfl rfl) ?_
     refine ob1k h14 fun r3 er3 h15 => ?_
     refine AOps.step rfl rfl rfl (sp_callS (r := .agg [.r (.int .i64 r3.Row), .r (.int .i64 r3.Col), .r (.str r3.Text), .r (.int .i64 r3.Ref), .r (.sl (r3.Attrs.map GAttr.row))]) (caps := []) (bs := [.agg [.r (.int .i64 x5.Row), .r (.int .i64 x5.Col), .r (.str x5.Text), .r (.int .i64 x5.Ref), .r (.sl (x5.Attrs.map GAttr.row))]]) rfl iL rfl ⟨.inl ⟨iL, rfl⟩, trivial⟩ (fun _ => w_grid_clone (er3))) ?_
     refine AOps.step rfl rfl rfl (ms_lit 58 rfl tg_29 (f := GCell.row) (l := ([r3] : List GCell)) ⟨rfl, ⟨_, iL, rfl⟩, trivial⟩ rfl (fun _ => rfl) rfl) ?_
     refine ob1k h15 fun out10 eout10 h16 => ?_
     refine AOps.step rfl rfl rfl (ms_app rfl tg_29 iL rfl (.inr (.inl ⟨_, _, iL, rfl⟩)) eout10) ?_
     refine sQ rfl (sp_assign rfl iL) ?_
     refine AOps.nil ?_
     exact wK9 _ _ ((by exact Weak.cv ⟨jL, jL, jL, jL, jL, jL, trivial⟩ ⟨.inl rfl, trivial⟩ nL)) (J2 _ _ (vec [((i22 0) + 1), ((i22 0) + 2)]) (Option.some.inj h16).symm)
    ·have h14 := ite_f hc2 h13
     refine AW.skip ?_
     exact wK9 _ _ ((by exact Weak.cv ⟨jL, jL, jL, jL, jL, jL, trivial⟩ ⟨.inl rfl, trivial⟩ nL)) (J2 _ _ (vec [(i20 0), (i22 0)]) (Option.some.inj h14).symm)
   refine AW.cond rfl (fun hc3 => ?_) (fun hc3 => ?_)
   ·have h17 := ite_t hc3 hp2
    refine AW.region ?_
    refine sM rfl rfl ?_
    refine ob1k h17 fun i23 ei23 h18 => ?_
    refine sQ rfl (ms_add rfl iL iL (fun _ => ei23)) ?_
    refine sQ rfl (sp_assign rfl iL) ?_
    refine AOps.nil ?_
    exact wK12 _ _ ((by exact Weak.cv ⟨jL, jL, jL, jL, jL, jL, jL, trivial⟩ ⟨.inl rfl, .inl rfl, trivial⟩ nL)) (J4 _ (vec [(i20 1)]) (Option.some.inj h18).symm)
   ·have h17 := ite_f hc3 hp2
    refine AW.skip ?_
    exact wK12 _ _ ((by exact Weak.cv ⟨jL, jL, jL, jL, jL, jL, jL, trivial⟩ ⟨.inl rfl, .inl rfl, trivial⟩ nL)) (J4 _ (vec [(i20 1)]) (Option.some.inj h17).symm)
  refine AW.iter2 (fun (i15 : Int) (out7 : List GCell) i16 => ⟨[(0, .r (.sl (l1.map GCell.row))), (5, .own 5005 (i16 0)), (6, .r (.int .i64 i15)), (8, .ptr 8 (i5 1) 0 0), (9, .r (.sl (news1.map GCell.row))), (10, .r (.int .i64 (news1.length : Int))), (11, .r (.int .i64 x2))], [(8, some (.box (i5 1) 60 [.r (.int .i64 x5.Row), .r (.int .i64 x5.Col), .r (.str x5.Text), .r (.int .i64 x5.Ref), .r (.sl (x5.Attrs.map GAttr.row))])), (5005, some (.arr (i16 0) 60 5 (out7.map GCell.row)))], (i16 1), 66⟩) (vec [(i5 0), ((i5 1) + 1)]) hit2 ((by exact Weak.cv ⟨jL, jL, jL, jL, jL, jL, jL, trivial⟩ ⟨.inl rfl, .inl rfl, trivial⟩ nL)) ?_
  intro i15 out7 i16 v2 hv2 hx2
  have h19 : grid_put_L2 l1 x5 i15 out7 = some v2 := hv2; unfold grid_put_L2 at h19
  refine AW.seq_w fun K15 hK15 wK15 => ?_
  refine AW.seq_w fun K16 hK16 wK16 => ?_
  refine AW.regionQ hmix (by kernel_rfl) ?_
  refine AQ.step rfl rfl rfl (sp_move rfl iL) ?_
  refine AQ.step rfl rfl rfl (sp_move rfl iL) ?_
  refine AQ.step rfl rfl rfl (ms_len rfl tg_29.slice iL) ?_
  refine AQ.step rfl rfl rfl (sp_lss rfl iL iL) ?_
  refine AQ.step rfl rfl rfl (sp_move rfl iL) ?_
  refine AQ.stepW (.one rfl rfl rfl) rfl rfl (sp_move rfl iL) ?_
  refine AQ.stepW (.one rfl rfl rfl) rfl rfl (sp_move rfl iL) ?_
  refine ob1k h19 fun x7 ex7 h20 => ?_
  refine AQ.stepW (.one rfl rfl rfl) rfl rfl (ms_idx rfl tg_29.slice (iR rfl) (iR rfl) (fun _ => rfl) (gdt ex7)) ?_
  refine AQ.stepW (.one rfl rfl rfl) rfl rfl (ms_loadA (cs := [.r (.int .i64 x7.Row), .r (.int .i64 x7.Col), .r (.str x7.Text), .r (.int .i64 x7.Ref), .r (.sl (x7.Attrs.map GAttr.row))]) rfl ta_60 (iR rfl) rfl rfl) ?_
  refine AQ.stepW (.one rfl rfl rfl) rfl rfl (ms_loadA_box rfl ta_60 iL rfl rfl) ?_
  refine ob1k h20 fun r4 er4 h21 => ?_
  refine AQ.stepWC (.one rfl rfl rfl) rfl rfl (r := .r (.int .i64 r4)) (caps := []) (bs := [.agg [.r (.int .i64 x7.Row), .r (.int .i64 x7.Col), .r (.str x7.Text), .r (.int .i64 x7.Ref), .r (.sl (x7.Attrs.map GAttr.row))], .agg [.r (.int .i64 x5.Row), .r (.int .i64 x5.Col), .r (.str x5.Text), .r (.int .i64 x5.Ref), .r (.sl (x5.Attrs.map GAttr.row))]]) rfl iL rfl ⟨⟨_, (iR rfl), .g (cs := [.int .i64 x7.Row, .int .i64 x7.Col, .str x7.Text, .int .i64 x7.Ref, .sl (x7.Attrs.map GAttr.row)]) rfl rfl⟩, ⟨_, (iR rfl), .g (cs := [.int .i64 x5.Row, .int .i64 x5.Col, .str x5.Text, .int .i64 x5.Ref, .sl (x5.Attrs.map GAttr.row)]) rfl rfl⟩, trivial⟩ (fun hg => w_grid_order (gdt er4 hg)) rfl ?_
  refine AQ.stepW (.one rfl rfl rfl) rfl rfl (sp_lss rfl (iR rfl) iL) ?_
  refine AQ.step rfl rfl rfl (sp_and rfl iL (iR rfl)) ?_
  refine AQ.nil ?_
  refine hK16 _ ?_
  refine AW.cond rfl (fun hc4 => ?_) (fun hc4 => ?_)
  ·have h22 := ite_t hc4 h21
   refine AW.skip ?_
   refine hK15 _ ?_
   refine AW.block ?_
   refine AW.seq_w fun K17 hK17 wK17 => ?_
   refine AW.region ?_
   refine sM rfl rfl ?_
   refine sM rfl rfl ?_
   refine sM rfl rfl ?_
   refine ob1k h22 fun x8 ex8 h23 => ?_
   refine sQ rfl (ms_idx rfl tg_29.slice iL iL (fun _ => rfl) (fun _ => ex8)) ?_
   refine sQ rfl (ms_loadA (cs := [.r (.int .i64 x8.Row), .r (.int .i64 x8.Col), .r (.str x8.Text), .r (.int .i64 x8.Ref), .r (.sl (x8.Attrs.map GAttr.row))]) rfl ta_60 iL rfl rfl) ?_
   refine AOps.step rfl rfl rfl (ms_lit 33 rfl tg_29 (f := GCell.row) (l := ([x8] : List GCell)) ⟨rfl, ⟨_, iL, rfl⟩, trivial⟩ rfl (fun _ => rfl) rfl) ?_
   refine ob1k h23 fun out11 eout11 h24 => ?_
   refine AOps.step rfl rfl rfl (ms_app rfl tg_29 iL rfl (.inr (.inl ⟨_, _, iL, rfl⟩)) eout11) ?_
   refine sQ rfl (sp_assign rfl iL) ?_
   refine AOps.nil (hK17 _ ?_)
   refine AW.weak (s' := ⟨[(0, .r (.sl (l1.map GCell.row))), (5, .own 5005 ((i16 1) + 1)), (6, .r (.int .i64 i15)), (8, .ptr 8 (i5 1) 0 0), (9, .r (.sl (news1.map GCell.row))), (10, .r (.int .i64 (news1.length : Int))), (11, .r (.int .i64 x2))], [(8, some (.box (i5 1) 60 [.r (.int .i64 x5.Row), .r (.int .i64 x5.Col), .r (.str x5.Text), .r (.int .i64 x5.Ref), .r (.sl (x5.Attrs.map GAttr.row))])), (5005, some (.arr ((i16 1) + 1) 60 5 (out11.map GCell.row)))], ((i16 1) + 2), 66⟩) (by exact Weak.cv ⟨jL, jL, jL, jL, jL, jL, jL, trivial⟩ ⟨.inl rfl, .inl rfl, trivial⟩ nL) ?_
   refine AW.region ?_
   refine sM rfl rfl ?_
   refine ob1k h24 fun i24 ei24 h25 => ?_
   refine sQ rfl (ms_add rfl iL iL (fun _ => ei24)) ?_
   refine sQ rfl (sp_assign rfl iL) ?_
   refine AOps.nil ?_
   exact NextQ2.mk h25 (vec [((i16 1) + 1), ((i16 1) + 2)]) ((by exact Weak.cv ⟨jL, jL, jL, jL, jL, jL, jL, trivial⟩ ⟨.inl rfl, .inl rfl, trivial⟩ nL))
  ·have h22 := ite_f hc4 h21
   refine AW.exit ?_
   exact wK11 _ _ ((by exact Weak.cv ⟨jL, jL, jL, jL, jL, jL, jL, trivial⟩ ⟨.inl rfl, .inl rfl, trivial⟩ nL)) (J3 _ _ (vec [(i16 0), (i16 1)]) (hx2 _ (Option.some.inj h22).symm))
 ·have h5 := ite_f hc1 h4
  refine AW.exit ?_
  exact wK4 _ _ ((by exact Weak.cv ⟨jL, jL, jL, trivial⟩ ⟨.inl rfl, trivial⟩ nL)) (J1 _ _ (vec [(i5 0), (i5 1)]) (hx1 _ (Option.some.inj h5).symm))
set_option maxHeartbeats 4000000 in
set_option maxRecDepth 20000 in
theorem w_axis_Hull {a1 : List GAxisStep} {from1 : Int} {to1 : Int} {r : Int × Int} (h : axis_Hull a1 from1 to1 = some r) : ARO Tryd.prog 144 [.r (.sl (a1.map GAxisStep.row)), .r (.int .i64 from1), .r (.int .i64 to1)] (.tup [.r (.int .i64 r.1), .r (.int .i64 r.2)]) := by
 unfold axis_Hull at h
 refine ARO.mkF Tryd.func144 rfl rfl Tryd.ntmps144 rfl (Nat.le_of_ble_eq_true rfl) fun n0 => ?_
 refine AW.seq_w fun K1 hK1 wK1 => ?_
 refine AW.region ?_
 refine sQ rfl (sp_assign rfl iL) ?_
 refine sQ rfl (sp_assign rfl iL) ?_
 refine AOps.nil (hK1 _ ?_)
 refine AW.seq_w fun K2 hK2 wK2 => ?_
 refine AW.region ?_
 refine sQ rfl (sp_assign rfl iL) ?_
 refine sQ rfl (sp_assign rfl iL) ?_
 refine sQ rfl (sp_assign rfl iL) ?_
 refine sQ rfl (sp_assign rfl iL) ?_
 refine AOps.nil (hK2 _ ?_)
 refine AW.seq_w fun K3 hK3 wK3 => ?_
 refine AW.seq_w fun K4 hK4 wK4 => ?_
 refine AW.region ?_
 refine sM rfl rfl ?_
 refine sQ rfl (ms_len rfl tg_47.slice iL) ?_
 refine sM rfl rfl ?_
 refine AOps.nil (hK4 _ ?_)
 refine AW.block ?_
 refine jb2k h fun o1 hit1 hk1 => ?_
 have J1 : ∀ (first4 : Int) (last4 : Int) (i5 : Nat → Nat), o1 = (first4, last4) → K3 ⟨[(8, .r (.int .i64 first4)), (9, .r (.int .i64 last4))], [], (i5 0), 68⟩ := by
  intro first4 last4 i5 e
  have h1 := hk1 _ _ e
  refine hK3 _ ?_
  refine AW.seq_w fun K5 hK5 wK5 => ?_
  refine AW.region ?_
  refine sM rfl rfl ?_
  refine sM rfl rfl ?_
  refine sQ rfl (sp_assign rfl iL) ?_
  refine sQ rfl (sp_assign rfl iL) ?_
  refine AOps.nil (hK5 _ ?_)
  refine AW.ret ?_
  exact retf2 (P := Tryd.prog) (fun (r : Int × Int) => .r (.int .i64 r.1)) (fun (r : Int × Int) => .r (.int .i64 r.2)) h1 iL (.t (.d rfl)) (.t (.d rfl))
 refine AW.iter5 (fun (first2 : Int) (last2 : Int) (old2 : Int) (now2 : Int) (x2 : Int) i3 => ⟨[(1, .r (.int .i64 from1)), (2, .r (.int .i64 to1)), (8, .r (.int .i64 first2)), (9, .r (.int .i64 last2)), (10, .r (.int .i64 old2)), (11, .r (.int .i64 now2)), (16, .r (.sl (a1.map GAxisStep.row))), (17, .r (.int .i64 (a1.length : Int))), (18, .r (.int .i64 x2))], [], (i3 0), 68⟩) (vec [n0]) hit1 ((by exact Weak.cv ⟨jL, jL, jL, jL, jL, jL, jL, jL, jL, trivial⟩ trivial nL)) ?_
 intro first2 last2 old2 now2 x2 i3 v1 hv1 hx1
 have h2 : axis_Hull_L1 a1 from1 to1 first2 last2 old2 now2 x2 = some v1 := hv1; unfold axis_Hull_L1 at h2
 refine AW.seq_w fun K6 hK6 wK6 => ?_
 refine AW.region ?_
 refine sQ rfl (sp_lss rfl iL iL) ?_
 refine AOps.nil (hK6 _ ?_)
 refine AW.seq_w fun K7 hK7 wK7 => ?_
 refine AW.cond rfl (fun hc1 => ?_) (fun hc1 => ?_)
 ·have h3 := ite_t hc1 h2
  refine AW.skip ?_
  refine hK7 _ ?_
  refine AW.seq_w fun K8 hK8 wK8 => ?_
  refine AW.block ?_
  refine jb4k h3 fun p1 hp1 hk2 => ?_
  have J2 : ∀ (first5 : Int) (last5 : Int) (old4 : Int) (now4 : Int) (i6 : Nat → Nat), p1 = (first5, last5, old4, now4) → K8 ⟨[(1, .r (.int .i64 from1)), (2, .r (.int .i64 to1)), (8, .r (.int .i64 first5)), (9, .r (.int .i64 last5)), (10, .r (.int .i64 old4)), (11, .r (.int .i64 now4)), (16, .r (.sl (a1.map GAxisStep.row))), (17, .r (.int .i64 (a1.length : Int))), (18, .r (.int .i64 x2))], [], (i6 0), 68⟩ := by
   intro first5 last5 old4 now4 i6 e
   have h4 := hk2 _ _ _ _ e
   refine hK8 _ ?_
   refine AW.region ?_
   refine ob1k h4 fun x4 ex4 h5 => ?_
   refine sQ rfl (ms_add rfl iL iL (fun _ => ex4)) ?_
   refine sM rfl rfl ?_
   refine AOps.nil ?_
   exact NextQ5.mk h5 (vec [(i6 0)]) ((by exact Weak.cv ⟨jL, jL, jL, jL, jL, jL, jL, jL, jL, trivial⟩ trivial nL))
  refine AW.seq_w fun K9 hK9 wK9 => ?_
  refine AW.region ?_
  refine ob1k hp1 fun x5 ex5 h6 => ?_
  refine sQ rfl (ms_idx rfl tg_47.slice iL iL (fun _ => rfl) (fun _ => ex5)) ?_
  refine sQ rfl (ms_loadA (cs := [.r (.int .i64 x5.Kind), .r (.int .i64 x5.N)]) rfl ta_91 iL rfl rfl) ?_
  refine AOps.step rfl rfl rfl (ms_alloc (cs := [.r (.int .i64 0), .r (.int .i64 0)]) 13 rfl t0_91 rfl rfl) ?_
  refine AOps.step0 rfl rfl (ms_store_box (ds := [.r (.int .i64 x5.Kind), .r (.int .i64 x5.N)]) rfl tz_91 iL rfl iL rfl rfl rfl rfl) ?_
  refine AOps.nil (hK9 _ ?_)
  refine AW.seq_w fun K10 hK10 wK10 => ?_
  refine AW.regionQ hmix (by kernel_rfl) ?_
  refine AQ.step rfl rfl rfl (sp_move rfl iL) ?_
  refine AQ.step rfl rfl rfl (sp_move rfl iL) ?_
  refine AQ.step rfl rfl rfl (sp_max rfl iL iL) ?_
  refine AQ.step rfl rfl rfl (sp_move rfl iL) ?_
  refine AQ.step rfl rfl rfl (sp_move rfl iL) ?_
  refine AQ.step rfl rfl rfl (sp_fieldAddr_own (ob := .box _ _ _) rfl tf_91_1 iL fR rfl) ?_
  refine AQ.step rfl rfl rfl (ms_load_box (a := .r (.int .i64 x5.N)) rfl ts_3 iL rfl rfl) ?_
  refine ob1k h6 fun x6 ex6 h7 => ?_
  refine AQ.step rfl rfl rfl (ms_add rfl iL iL (fun _ => ex6)) ?_
  refine AQ.step rfl rfl rfl (sp_min rfl iL iL) ?_
  refine AQ.step rfl rfl rfl (sp_assign rfl iL) ?_
  refine AQ.step rfl rfl rfl (sp_assign rfl iL) ?_
  refine AQ.nil ?_
  refine hK10 _ ?_
  refine AW.seq_w fun K11 hK11 wK11 => ?_
  refine AW.seq_w fun K12 hK12 wK12 => ?_
  refine AW.weak (s' := ⟨[(1, .r (.int .i64 from1)), (2, .r (.int .i64 to1)), (8, .r (.int .i64 first2)), (9, .r (.int .i64 last2)), (10, .r (.int .i64 old2)), (11, .r (.int .i64 now2)), (13, .ptr 13 (i3 0) 0 0), (14, .r (.int .i64 (max from1 old2))), (15, .r (.int .i64 (min to1 x6))), (16, .r (.sl (a1.map GAxisStep.row))), (17, .r (.int .i64 (a1.length : Int))), (18, .r (.int .i64 x2))], [(13, some (.box (i3 0) 91 [.r (.int .i64 x5.Kind), .r (.int .i64 x5.N)]))], ((i3 0) + 1), 68⟩) (by exact Weak.cv ⟨jL, jL, jL, jL, jL, jL, jL, jL, jL, jL, jL, jL, trivial⟩ ⟨.inl rfl, trivial⟩ nL) ?_
  refine AW.region ?_
  refine sQ rfl (sp_fieldAddr_own (ob := .box _ _ _) rfl tf_91_0 iL fR rfl) ?_
  refine sQ rfl (ms_load_box (a := .r (.int .i64 x5.Kind)) rfl ts_3 iL rfl rfl) ?_
  refine sQ rfl (sp_eql rfl iL iL) ?_
  refine sM rfl rfl ?_
  refine sV rfl rfl rfl (sp_move rfl iL) ?_
  refine sV rfl rfl rfl (sp_move rfl iL) ?_
  refine sV rfl rfl rfl (sp_lss rfl (iR rfl) (iR rfl)) ?_
  refine sQ rfl (sp_and rfl iL (iR rfl)) ?_
  refine AOps.nil (hK12 _ ?_)
  refine jb2k h7 fun p2 hp2 hk3 => ?_
  have J3 : ∀ (first6 : Int) (last6 : Int) (i7 : Nat → Nat), p2 = (first6, last6) → K11 ⟨[(1, .r (.int .i64 from1)), (2, .r (.int .i64 to1)), (8, .r (.int .i64 first6)), (9, .r (.int .i64 last6)), (10, .r (.int .i64 old2)), (11, .r (.int .i64 now2)), (13, .ptr 13 (i3 0) 0 0), (16, .r (.sl (a1.map GAxisStep.row))), (17, .r (.int .i64 (a1.length : Int))), (18, .r (.int .i64 x2))], [(13, some (.box (i3 0) 91 [.r (.int .i64 x5.Kind), .r (.int .i64 x5.N)]))], (i7 0), 68⟩ := by
   intro first6 last6 i7 e
   have h8 := hk3 _ _ e
   refine hK11 _ ?_
   refine AW.seq_w fun K13 hK13 wK13 => ?_
   refine AW.seq_w fun K14 hK14 wK14 => ?_
   refine AW.region ?_
   refine sQ rfl (sp_fieldAddr_own (ob := .box _ _ _) rfl tf_91_0 iL fR rfl) ?_
   refine sQ rfl (ms_load_box (a := .r (.int .i64 x5.Kind)) rfl ts_3 iL rfl rfl) ?_
   refine sQ rfl (sp_neq rfl iL iL) ?_
   refine AOps.nil (hK14 _ ?_)
   refine jb1k h8 fun p3 hp3 hk4 => ?_
   have J4 : ∀ (now5 : Int) (i8 : Nat → Nat), p3 = now5 → K13 ⟨[(1, .r (.int .i64 from1)), (2, .r (.int .i64 to1)), (8, .r (.int .i64 first6)), (9, .r (.int .i64 last6)), (10, .r (.int .i64 old2)), (11, .r (.int .i64 now5)), (13, .ptr 13 (i3 0) 0 0), (16, .r (.sl (a1.map GAxisStep.row))), (17, .r (.int .i64 (a1.length : Int))), (18, .r (.int .i64 x2))], [(13, some (.box (i3 0) 91 [.r (.int .i64 x5.Kind), .r (.int .i64 x5.N)]))], (i8 0), 68⟩ := by
    intro now5 i8 e
    have h9 := hk4 _ e
    refine hK13 _ ?_
    refine AW.seq_w fun K15 hK15 wK15 => ?_
    refine AW.region ?_
    refine sQ rfl (sp_fieldAddr_own (ob := .box _ _ _) rfl tf_91_0 iL fR rfl) ?_
    refine sQ rfl (ms_load_box (a := .r (.int .i64 x5.Kind)) rfl ts_3 iL rfl rfl) ?_
    refine sQ rfl (sp_neq rfl iL iL) ?_
    refine AOps.nil (hK15 _ ?_)
    refine AW.cond rfl (fun hc2 => ?_) (fun hc2 => ?_)
    ·have h10 := ite_t hc2 h9
     refine AW.region ?_
     refine sM rfl rfl ?_
     refine sQ rfl (sp_fieldAddr_own (ob := .box _ _ _) rfl tf_91_1 iL fR rfl) ?_
     refine sQ rfl (ms_load_box (a := .r (.int .i64 x5.N)) rfl ts_3 iL rfl rfl) ?_
     refine sQ rfl (ms_add rfl iL iL (fun _ => ex6)) ?_
     refine sQ rfl (sp_assign rfl iL) ?_
     refine AOps.nil ?_
     exact wK8 _ _ ((by exact Weak.cv ⟨jL, jL, jL, jL, jL, jL, jL, jL, jL, trivial⟩ trivial nL)) (J2 _ _ _ _ (vec [(i8 0)]) (Option.some.inj h10).symm)
    ·have h10 := ite_f hc2 h9
     refine AW.skip ?_
     exact wK8 _ _ ((by exact Weak.cv ⟨jL, jL, jL, jL, jL, jL, jL, jL, jL, trivial⟩ trivial nL)) (J2 _ _ _ _ (vec [(i8 0)]) (Option.some.inj h10).symm)
   refine AW.cond rfl (fun hc3 => ?_) (fun hc3 => ?_)
   ·have h11 := ite_t hc3 hp3
    refine AW.region ?_
    refine sM rfl rfl ?_
    refine sQ rfl (sp_fieldAddr_own (ob := .box _ _ _) rfl tf_91_1 iL fR rfl) ?_
    refine sQ rfl (ms_load_box (a := .r (.int .i64 x5.N)) rfl ts_3 iL rfl rfl) ?_
    refine ob1k h11 fun now6 enow6 h12 => ?_
    refine sQ rfl (ms_add rfl iL iL (fun _ => enow6)) ?_
    refine sQ rfl (sp_assign rfl iL) ?_
    refine AOps.nil ?_
    exact wK13 _ _ ((by exact Weak.cv ⟨jL, jL, jL, jL, jL, jL, jL, jL, jL, jL, trivial⟩ ⟨.inl rfl, trivial⟩ nL)) (J4 _ (vec [(i7 0)]) (Option.some.inj h12).symm)
   ·have h11 := ite_f hc3 hp3
    refine AW.skip ?_
    exact wK13 _ _ ((by exact Weak.cv ⟨jL, jL, jL, jL, jL, jL, jL, jL, jL, jL, trivial⟩ ⟨.inl rfl, trivial⟩ nL)) (J4 _ (vec [(i7 0)]) (Option.some.inj h11).symm)
  refine AW.cond rfl (fun hc4 => ?_) (fun hc4 => ?_)
  ·have h13 := ite_t hc4 hp2
   refine AW.seq_w fun K16 hK16 wK16 => ?_
   refine AW.seq_w fun K17 hK17 wK17 => ?_
   refine AW.region ?_
   refine sM rfl rfl ?_
   refine sQ rfl (sp_eql rfl iL iL) ?_
   refine AOps.nil (hK17 _ ?_)
   refine jb1k h13 fun p4 hp4 hk5 => ?_
   have J5 : ∀ (first7 : Int) (i9 : Nat → Nat), p4 = first7 → K16 ⟨[(1, .r (.int .i64 from1)), (2, .r (.int .i64 to1)), (8, .r (.int .i64 first7)), (10, .r (.int .i64 old2)), (11, .r (.int .i64 now2)), (13, .ptr 13 (i3 0) 0 0), (15, .r (.int .i64 (min to1 x6))), (16, .r (.sl (a1.map GAxisStep.row))), (17, .r (.int .i64 (a1.length : Int))), (18, .r (.int .i64 x2))], [(13, some (.box (i3 0) 91 [.r (.int .i64 x5.Kind), .r (.int .i64 x5.N)]))], (i9 0), 68⟩ := by
    intro first7 i9 e
    have h14 := hk5 _ e
    refine hK16 _ ?_
    refine AW.region ?_
    refine sM rfl rfl ?_
    refine sM rfl rfl ?_
    refine ob1k h14 fun x7 ex7 h15 => ?_
    refine sQ rfl (ms_add rfl iL iL (fun _ => ex7)) ?_
    refine sM rfl rfl ?_
    refine ob1k h15 fun last7 elast7 h16 => ?_
    refine sQ rfl (ms_sub rfl iL iL (fun _ => elast7)) ?_
    refine sQ rfl (sp_assign rfl iL) ?_
    refine AOps.nil ?_
    exact wK11 _ _ ((by exact Weak.cv ⟨jL, jL, jL, jL, jL, jL, jL, jL, jL, jL, trivial⟩ ⟨.inl rfl, trivial⟩ nL)) (J3 _ _ (vec [(i9 0)]) (Option.some.inj h16).symm)
   refine AW.cond rfl (fun hc5 => ?_) (fun hc5 => ?_)
   ·have h17 := ite_t hc5 hp4
    refine AW.weak (s' := ⟨[(1, .r (.int .i64 from1)), (2, .r (.int .i64 to1)), (10, .r (.int .i64 old2)), (11, .r (.int .i64 now2)), (13, .ptr 13 (i3 0) 0 0), (14, .r (.int .i64 (max from1 old2))), (15, .r (.int .i64 (min to1 x6))), (16, .r (.sl (a1.map GAxisStep.row))), (17, .r (.int .i64 (a1.length : Int))), (18, .r (.int .i64 x2))], [(13, some (.box (i3 0) 91 [.r (.int .i64 x5.Kind), .r (.int .i64 x5.N)]))], ((i3 0) + 1), 68⟩) (by exact Weak.cv ⟨jL, jL, jL, jL, jL, jL, jL, jL, jL, jL, trivial⟩ ⟨.inl rfl, trivial⟩ nL) ?_
    refine AW.region ?_
    refine sM rfl rfl ?_
    refine sM rfl rfl ?_
    refine ob1k h17 fun x8 ex8 h18 => ?_
    refine sQ rfl (ms_add rfl iL iL (fun _ => ex8)) ?_
    refine sM rfl rfl ?_
    refine ob1k h18 fun first8 efirst8 h19 => ?_
    refine sQ rfl (ms_sub rfl iL iL (fun _ => efirst8)) ?_
    refine sQ rfl (sp_assign rfl iL) ?_
    refine AOps.nil ?_
    exact wK16 _ _ ((by exact Weak.cv ⟨jL, jL, jL, jL, jL, jL, jL, jL, jL, jL, trivial⟩ ⟨.inl rfl, trivial⟩ nL)) (J5 _ (vec [((i3 0) + 1)]) (Option.some.inj h19).symm)
   ·have h17 := ite_f hc5 hp4
    refine AW.skip ?_
    exact wK16 _ _ ((by exact Weak.cv ⟨jL, jL, jL, jL, jL, jL, jL, jL, jL, jL, trivial⟩ ⟨.inl rfl, trivial⟩ nL)) (J5 _ (vec [((i3 0) + 1)]) (Option.some.inj h17).symm)
  ·have h13 := ite_f hc4 hp2
   refine AW.skip ?_
   exact wK11 _ _ ((by exact Weak.cv ⟨jL, jL, jL, jL, jL, jL, jL, jL, jL, jL, trivial⟩ ⟨.inl rfl, trivial⟩ nL)) (J3 _ _ (vec [((i3 0) + 1)]) (Option.some.inj h13).symm)
 ·have h3 := ite_f hc1 h2
  refine AW.exit ?_
  exact wK3 _ _ ((by exact Weak.cv ⟨jL, jL, trivial⟩ trivial nL)) (J1 _ _ (vec [(i3 0)]) (hx1 _ (Option.some.inj h3).symm))
end Go.Proofs.YtfkolgjapajekaaDoor.Al
