/- Walks, as printed. -/
import Derived.Test.YtfkolgjapajekaaPL2
import Derived.Test.YtfkolgjapajekaaProg
set_option linter.unusedVariables false
namespace Go.Proofs.Ytfkolgjapajekaa.Al
open Go.Proofs
theorem hmix : Try.prog.follows .mixedOrders = true := by kernel_rfl
theorem i_122 : (Try.prog.info? 122).map (fun i => (i.zero, i.size, i.bytes)) = some (some (.agg #[.slice none 0 0, .slice none 0 0, .slice none 0 0]), 3, 72) := by kernel_rfl
theorem i_126 : (Try.prog.info? 126).map (fun i => (i.zero, i.size, i.bytes)) = some (some (.agg #[.int .i64 0, .slice none 0 0, .slice none 0 0]), 3, 56) := by kernel_rfl
theorem i_150 : (Try.prog.info? 150).map (fun i => (i.zero, i.size, i.bytes)) = some (some (.agg #[.slice none 0 0, .slice none 0 0, .int .i64 0]), 3, 56) := by kernel_rfl
theorem i_22 : (Try.prog.info? 22).map (fun i => (i.zero, i.size, i.bytes)) = some (some (.slice none 0 0), 1, 24) := by kernel_rfl
theorem i_23 : (Try.prog.info? 23).map (fun i => (i.zero, i.size, i.bytes)) = some (some (.slice none 0 0), 1, 24) := by kernel_rfl
theorem i_29 : (Try.prog.info? 29).map (fun i => (i.zero, i.size, i.bytes)) = some (some (.slice none 0 0), 1, 24) := by kernel_rfl
theorem i_3 : (Try.prog.info? 3).map (fun i => (i.zero, i.size, i.bytes)) = some (some (.int .i64 0), 1, 8) := by kernel_rfl
theorem i_31 : (Try.prog.info? 31).map (fun i => (i.zero, i.size, i.bytes)) = some (some (.agg #[.int .i64 0, .int .i64 0, .slice none 0 0, .slice none 0 0]), 4, 64) := by kernel_rfl
theorem i_37 : (Try.prog.info? 37).map (fun i => (i.zero, i.size, i.bytes)) = some (some (.slice none 0 0), 1, 24) := by kernel_rfl
theorem i_38 : (Try.prog.info? 38).map (fun i => (i.zero, i.size, i.bytes)) = some (some (.slice none 0 0), 1, 24) := by kernel_rfl
theorem i_39 : (Try.prog.info? 39).map (fun i => (i.zero, i.size, i.bytes)) = some (some (.slice none 0 0), 1, 24) := by kernel_rfl
theorem i_4 : (Try.prog.info? 4).map (fun i => (i.zero, i.size, i.bytes)) = some (some (.bool false), 1, 1) := by kernel_rfl
theorem i_41 : (Try.prog.info? 41).map (fun i => (i.zero, i.size, i.bytes)) = some (some (.agg #[.slice none 0 0, .slice none 0 0, .slice none 0 0]), 3, 72) := by kernel_rfl
theorem i_48 : (Try.prog.info? 48).map (fun i => (i.zero, i.size, i.bytes)) = some (some (.slice none 0 0), 1, 24) := by kernel_rfl
theorem i_51 : (Try.prog.info? 51).map (fun i => (i.zero, i.size, i.bytes)) = some (some (.agg #[.slice none 0 0, .slice none 0 0, .slice none 0 0]), 3, 72) := by kernel_rfl
theorem i_82 : (Try.prog.info? 82).map (fun i => (i.zero, i.size, i.bytes)) = some (some (.agg #[.int .i64 0, .int .i64 0, .slice none 0 0]), 3, 40) := by kernel_rfl
theorem i_87 : (Try.prog.info? 87).map (fun i => (i.zero, i.size, i.bytes)) = some (some (.slice none 0 0), 1, 24) := by kernel_rfl
theorem i_89 : (Try.prog.info? 89).map (fun i => (i.zero, i.size, i.bytes)) = some (some (.agg #[.int .i64 0, .int .i64 0, .int .i64 0, .int .i64 0, .string ⟨#[]⟩]), 5, 48) := by kernel_rfl
theorem i_9 : (Try.prog.info? 9).map (fun i => (i.zero, i.size, i.bytes)) = some (some (.string ⟨#[]⟩), 1, 16) := by kernel_rfl
theorem i_92 : (Try.prog.info? 92).map (fun i => (i.zero, i.size, i.bytes)) = some (some (.agg #[.string ⟨#[]⟩, .string ⟨#[]⟩]), 2, 32) := by kernel_rfl
theorem t0_122 : ZeroTy Try.prog 122 (.agg #[.slice none 0 0, .slice none 0 0, .slice none 0 0]) := ZeroTy.of i_122
theorem t0_150 : ZeroTy Try.prog 150 (.agg #[.slice none 0 0, .slice none 0 0, .int .i64 0]) := ZeroTy.of i_150
theorem t0_29 : ZeroTy Try.prog 29 (.slice none 0 0) := ZeroTy.of i_29
theorem t0_31 : ZeroTy Try.prog 31 (.agg #[.int .i64 0, .int .i64 0, .slice none 0 0, .slice none 0 0]) := ZeroTy.of i_31
theorem t0_41 : ZeroTy Try.prog 41 (.agg #[.slice none 0 0, .slice none 0 0, .slice none 0 0]) := ZeroTy.of i_41
theorem t0_82 : ZeroTy Try.prog 82 (.agg #[.int .i64 0, .int .i64 0, .slice none 0 0]) := ZeroTy.of i_82
theorem t0_89 : ZeroTy Try.prog 89 (.agg #[.int .i64 0, .int .i64 0, .int .i64 0, .int .i64 0, .string ⟨#[]⟩]) := ZeroTy.of i_89
theorem t0_92 : ZeroTy Try.prog 92 (.agg #[.string ⟨#[]⟩, .string ⟨#[]⟩]) := ZeroTy.of i_92
theorem ta_122 : AggTy Try.prog 122 3 := AggTy.of Try.underlying122 rfl i_122
theorem ta_31 : AggTy Try.prog 31 4 := AggTy.of Try.underlying31 rfl i_31
theorem ta_41 : AggTy Try.prog 41 3 := AggTy.of Try.underlying41 rfl i_41
theorem ta_82 : AggTy Try.prog 82 3 := AggTy.of Try.underlying82 rfl i_82
theorem ta_89 : AggTy Try.prog 89 5 := AggTy.of Try.underlying89 rfl i_89
theorem ta_92 : AggTy Try.prog 92 2 := AggTy.of Try.underlying92 rfl i_92
theorem tb_122 : BuildTy Try.prog 122 [(0, 1), (1, 1), (2, 1)] [.slice none 0 0, .slice none 0 0, .slice none 0 0] := BuildTy.of Try.underlying122 (fun w => by kernel_rfl) i_122
theorem tb_126 : BuildTy Try.prog 126 [(0, 1), (1, 1), (2, 1)] [.int .i64 0, .slice none 0 0, .slice none 0 0] := BuildTy.of Try.underlying126 (fun w => by kernel_rfl) i_126
theorem tb_31 : BuildTy Try.prog 31 [(0, 1), (1, 1), (2, 1), (3, 1)] [.int .i64 0, .int .i64 0, .slice none 0 0, .slice none 0 0] := BuildTy.of Try.underlying31 (fun w => by kernel_rfl) i_31
theorem tb_41 : BuildTy Try.prog 41 [(0, 1), (1, 1), (2, 1)] [.slice none 0 0, .slice none 0 0, .slice none 0 0] := BuildTy.of Try.underlying41 (fun w => by kernel_rfl) i_41
theorem tb_51 : BuildArr Try.prog 51 [(0, 1), (1, 1), (2, 1)] [.slice none 0 0, .slice none 0 0, .slice none 0 0] := BuildArr.of (n := 3) (e := 22) Try.underlying51 i_22 (placesB (by decide)) i_51
theorem tb_82 : BuildTy Try.prog 82 [(0, 1), (1, 1), (2, 1)] [.int .i64 0, .int .i64 0, .slice none 0 0] := BuildTy.of Try.underlying82 (fun w => by kernel_rfl) i_82
theorem tb_89 : BuildTy Try.prog 89 [(0, 1), (1, 1), (2, 1), (3, 1), (4, 1)] [.int .i64 0, .int .i64 0, .int .i64 0, .int .i64 0, .string ⟨#[]⟩] := BuildTy.of Try.underlying89 (fun w => by kernel_rfl) i_89
theorem tb_92 : BuildTy Try.prog 92 [(0, 1), (1, 1)] [.string ⟨#[]⟩, .string ⟨#[]⟩] := BuildTy.of Try.underlying92 (fun w => by kernel_rfl) i_92
theorem te_89 : EqTy Try.prog 89 [some (.int .i64), some (.int .i64), some (.int .i64), some (.int .i64), some .string] := EqTy.of Try.underlying89 (by kernel_rfl) (by kernel_rfl) (by exact ⟨rfl, rfl, Try.underlying3, rfl, rfl, Try.underlying3, rfl, rfl, Try.underlying3, rfl, rfl, Try.underlying3, rfl, rfl, Try.underlying9, trivial⟩)
theorem te_92 : EqTy Try.prog 92 [some .string, some .string] := EqTy.of Try.underlying92 (by kernel_rfl) (by kernel_rfl) (by exact ⟨rfl, rfl, Try.underlying9, rfl, rfl, Try.underlying9, trivial⟩)
theorem tf_122_0 : FieldTy Try.prog 122 0 0 := FieldTy.of Try.underlying122 rfl rfl i_37 (by decide)
theorem tf_122_1 : FieldTy Try.prog 122 1 1 := FieldTy.of Try.underlying122 rfl rfl i_38 (by decide)
theorem tf_122_2 : FieldTy Try.prog 122 2 2 := FieldTy.of Try.underlying122 rfl rfl i_39 (by decide)
theorem tf_126_0 : FieldTy Try.prog 126 0 0 := FieldTy.of Try.underlying126 rfl rfl i_3 (by decide)
theorem tf_126_1 : FieldTy Try.prog 126 1 1 := FieldTy.of Try.underlying126 rfl rfl i_22 (by decide)
theorem tf_126_2 : FieldTy Try.prog 126 2 2 := FieldTy.of Try.underlying126 rfl rfl i_48 (by decide)
theorem tf_150_0 : FieldTy Try.prog 150 0 0 := FieldTy.of Try.underlying150 rfl rfl i_23 (by decide)
theorem tf_150_1 : FieldTy Try.prog 150 1 1 := FieldTy.of Try.underlying150 rfl rfl i_22 (by decide)
theorem tf_150_2 : FieldTy Try.prog 150 2 2 := FieldTy.of Try.underlying150 rfl rfl i_3 (by decide)
theorem tf_31_0 : FieldTy Try.prog 31 0 0 := FieldTy.of Try.underlying31 rfl rfl i_3 (by decide)
theorem tf_31_1 : FieldTy Try.prog 31 1 1 := FieldTy.of Try.underlying31 rfl rfl i_3 (by decide)
theorem tf_31_2 : FieldTy Try.prog 31 2 2 := FieldTy.of Try.underlying31 rfl rfl i_29 (by decide)
theorem tf_31_3 : FieldTy Try.prog 31 3 3 := FieldTy.of Try.underlying31 rfl rfl i_22 (by decide)
theorem tf_41_0 : FieldTy Try.prog 41 0 0 := FieldTy.of Try.underlying41 rfl rfl i_37 (by decide)
theorem tf_41_1 : FieldTy Try.prog 41 1 1 := FieldTy.of Try.underlying41 rfl rfl i_38 (by decide)
theorem tf_41_2 : FieldTy Try.prog 41 2 2 := FieldTy.of Try.underlying41 rfl rfl i_39 (by decide)
theorem tf_82_0 : FieldTy Try.prog 82 0 0 := FieldTy.of Try.underlying82 rfl rfl i_3 (by decide)
theorem tf_82_1 : FieldTy Try.prog 82 1 1 := FieldTy.of Try.underlying82 rfl rfl i_3 (by decide)
theorem tf_82_2 : FieldTy Try.prog 82 2 2 := FieldTy.of Try.underlying82 rfl rfl i_29 (by decide)
theorem tf_89_1 : FieldTy Try.prog 89 1 1 := FieldTy.of Try.underlying89 rfl rfl i_3 (by decide)
theorem tf_92_0 : FieldTy Try.prog 92 0 0 := FieldTy.of Try.underlying92 rfl rfl i_9 (by decide)
theorem tf_92_1 : FieldTy Try.prog 92 1 1 := FieldTy.of Try.underlying92 rfl rfl i_9 (by decide)
theorem tg_115 : GrowTy Try.prog 115 87 1 24 := GrowTy.of Try.underlying115 i_87 rfl rfl (by decide)
theorem tg_22 : GrowTy Try.prog 22 82 3 40 := GrowTy.of Try.underlying22 i_82 rfl rfl (by decide)
theorem tg_23 : GrowTy Try.prog 23 31 4 64 := GrowTy.of Try.underlying23 i_31 rfl rfl (by decide)
theorem tg_29 : GrowTy Try.prog 29 92 2 32 := GrowTy.of Try.underlying29 i_92 rfl rfl (by decide)
theorem tg_37 : GrowTy Try.prog 37 22 1 24 := GrowTy.of Try.underlying37 i_22 rfl rfl (by decide)
theorem tg_38 : GrowTy Try.prog 38 4 1 1 := GrowTy.of Try.underlying38 i_4 rfl rfl (by decide)
theorem tg_39 : GrowTy Try.prog 39 29 1 24 := GrowTy.of Try.underlying39 i_29 rfl rfl (by decide)
theorem tg_48 : GrowTy Try.prog 48 89 5 48 := GrowTy.of Try.underlying48 i_89 rfl rfl (by decide)
theorem tg_87 : GrowTy Try.prog 87 3 1 8 := GrowTy.of Try.underlying87 i_3 rfl rfl (by decide)
theorem tq_51 : ArrTy Try.prog 51 3 22 := ArrTy.of Try.underlying51 (ScalTy.of Try.underlying22 rfl i_22)
theorem tr_22 : ZRow Try.prog 22 [.sl []] := ZRow.of i_22 rfl
theorem tr_29 : ZRow Try.prog 29 [.sl []] := ZRow.of i_29 rfl
theorem tr_3 : ZRow Try.prog 3 [.int .i64 0] := ZRow.of i_3 rfl
theorem tr_4 : ZRow Try.prog 4 [.bool false] := ZRow.of i_4 rfl
theorem tr_82 : ZRow Try.prog 82 [.int .i64 0, .int .i64 0, .sl []] := ZRow.of i_82 rfl
theorem tr_87 : ZRow Try.prog 87 [.sl []] := ZRow.of i_87 rfl
theorem ts_22 : ScalTy Try.prog 22 := ScalTy.of Try.underlying22 rfl i_22
theorem ts_23 : ScalTy Try.prog 23 := ScalTy.of Try.underlying23 rfl i_23
theorem ts_29 : ScalTy Try.prog 29 := ScalTy.of Try.underlying29 rfl i_29
theorem ts_3 : ScalTy Try.prog 3 := ScalTy.of Try.underlying3 rfl i_3
theorem ts_37 : ScalTy Try.prog 37 := ScalTy.of Try.underlying37 rfl i_37
theorem ts_38 : ScalTy Try.prog 38 := ScalTy.of Try.underlying38 rfl i_38
theorem ts_39 : ScalTy Try.prog 39 := ScalTy.of Try.underlying39 rfl i_39
theorem ts_4 : ScalTy Try.prog 4 := ScalTy.of Try.underlying4 rfl i_4
theorem ts_48 : ScalTy Try.prog 48 := ScalTy.of Try.underlying48 rfl i_48
theorem ts_87 : ScalTy Try.prog 87 := ScalTy.of Try.underlying87 rfl i_87
theorem ts_9 : ScalTy Try.prog 9 := ScalTy.of Try.underlying9 rfl i_9
theorem tz_122 : ∃ i, Try.prog.info? 122 = some i ∧ i.size = 3 := size_of i_122
theorem tz_22 : ∃ i, Try.prog.info? 22 = some i ∧ i.size = 1 := size_of i_22
theorem tz_23 : ∃ i, Try.prog.info? 23 = some i ∧ i.size = 1 := size_of i_23
theorem tz_29 : ∃ i, Try.prog.info? 29 = some i ∧ i.size = 1 := size_of i_29
theorem tz_3 : ∃ i, Try.prog.info? 3 = some i ∧ i.size = 1 := size_of i_3
theorem tz_31 : ∃ i, Try.prog.info? 31 = some i ∧ i.size = 4 := size_of i_31
theorem tz_37 : ∃ i, Try.prog.info? 37 = some i ∧ i.size = 1 := size_of i_37
theorem tz_38 : ∃ i, Try.prog.info? 38 = some i ∧ i.size = 1 := size_of i_38
theorem tz_39 : ∃ i, Try.prog.info? 39 = some i ∧ i.size = 1 := size_of i_39
theorem tz_4 : ∃ i, Try.prog.info? 4 = some i ∧ i.size = 1 := size_of i_4
theorem tz_41 : ∃ i, Try.prog.info? 41 = some i ∧ i.size = 3 := size_of i_41
theorem tz_48 : ∃ i, Try.prog.info? 48 = some i ∧ i.size = 1 := size_of i_48
theorem tz_82 : ∃ i, Try.prog.info? 82 = some i ∧ i.size = 3 := size_of i_82
theorem tz_87 : ∃ i, Try.prog.info? 87 = some i ∧ i.size = 1 := size_of i_87
theorem tz_89 : ∃ i, Try.prog.info? 89 = some i ∧ i.size = 5 := size_of i_89
theorem tz_92 : ∃ i, Try.prog.info? 92 = some i ∧ i.size = 2 := size_of i_92
set_option maxHeartbeats 4000000 in
set_option maxRecDepth 20000 in
theorem w_law_letters {s1 : List UInt8} {r : (List GElem)} (h : law_letters s1 = some r) : ARO Try.prog 39 [.r (.str s1)] (.r (.sl (r.map GElem.row))) := by
 unfold law_letters at h
 refine ARO.mkF Try.func39 rfl rfl Try.ntmps39 rfl (Nat.le_of_ble_eq_true rfl) fun n0 => ?_
 refine AW.seq_w fun K1 hK1 wK1 => ?_
 refine AW.region ?_
 refine sQ rfl (sp_assign rfl iL) ?_
 refine AOps.nil (hK1 _ ?_)
 refine AW.seq_w fun K2 hK2 wK2 => ?_
 refine AW.region ?_
 refine sQ rfl (sp_assign rfl iL) ?_
 refine AOps.nil (hK2 _ ?_)
 refine AW.seq_w fun K3 hK3 wK3 => ?_
 refine AW.seq_w fun K4 hK4 wK4 => ?_
 refine AW.region ?_
 refine sM rfl rfl ?_
 refine sQ rfl (sp_len_str rfl Try.underlying9 iL) ?_
 refine sM rfl rfl ?_
 refine AOps.nil (hK4 _ ?_)
 refine AW.block ?_
 refine jb1k h fun o1 hit1 hk1 => ?_
 have J1 : ∀ (out4 : List GElem) (i5 : Nat → Nat), o1 = out4 → K3 ⟨[(3, .own 5003 (i5 0))], [(5003, some (.arr (i5 0) 82 3 (out4.map GElem.row)))], (i5 1), 20⟩ := by
  intro out4 i5 e
  have h1 := hk1 _ e
  refine hK3 _ ?_
  refine AW.seq_w fun K5 hK5 wK5 => ?_
  refine AW.region ?_
  refine sM rfl rfl ?_
  refine sQ rfl (sp_assign rfl iL) ?_
  refine AOps.nil (hK5 _ ?_)
  refine AW.ret ?_
  exact retf1 (P := Try.prog) (fun (r : (List GElem)) => .r (.sl (r.map GElem.row))) h1 iL (.t (.one (.own rfl)))
 refine AW.iter2 (fun (x2 : Int) (out2 : List GElem) i3 => ⟨[(0, .r (.str s1)), (3, .own 5003 (i3 0)), (6, .r (.int .i64 (s1.length : Int))), (7, .r (.int .i64 x2))], [(5003, some (.arr (i3 0) 82 3 (out2.map GElem.row)))], (i3 1), 20⟩) (vec [n0, (n0 + 1)]) hit1 (Weak.trans (Weak.trans (Weak.adopt 3 5003 82 3 (by decide) rfl) (by exact Weak.cv (e' := [(0, .r (.str s1)), (2, .cst (.slice none 0 0)), (3, .own 5003 n0), (5, .r (.str s1)), (6, .r (.int .i64 (s1.length : Int))), (7, .r (.int .i64 0))]) (h' := [(5003, some (.arr n0 82 3 (([] : List GElem).map GElem.row)))]) ⟨jL, jL, jL, jL, jL, jL, trivial⟩ ⟨.inl rfl, trivial⟩ nL)) (by exact Weak.cv ⟨jL, jL, jL, jL, trivial⟩ ⟨.inl rfl, trivial⟩ nL)) ?_
 intro x2 out2 i3 v1 hv1 hx1
 have h2 : law_letters_L1 s1 x2 out2 = some v1 := hv1; unfold law_letters_L1 at h2
 refine AW.seq_w fun K6 hK6 wK6 => ?_
 refine AW.region ?_
 refine sQ rfl (sp_lss rfl iL iL) ?_
 refine AOps.nil (hK6 _ ?_)
 refine AW.seq_w fun K7 hK7 wK7 => ?_
 refine AW.cond rfl (fun hc1 => ?_) (fun hc1 => ?_)
 ·have h3 := ite_t hc1 h2
  refine AW.skip ?_
  refine hK7 _ ?_
  refine AW.seq_w fun K8 hK8 wK8 => ?_
  refine AW.block ?_
  refine AW.seq_w fun K9 hK9 wK9 => ?_
  refine AW.region ?_
  refine sM rfl rfl ?_
  refine sQ rfl (sp_assign rfl iL) ?_
  refine AOps.nil (hK9 _ ?_)
  refine AW.region ?_
  refine sM rfl rfl ?_
  refine sM rfl rfl ?_
  refine sM rfl rfl ?_
  refine ob1k h3 fun ch1 ech1 h4 => ?_
  refine sQ rfl (ms_idx_str rfl Try.underlying9 iL iL (fun _ => ech1)) ?_
  refine sQ rfl (sp_convert_int rfl Try.underlying5 Try.underlying3 iL) ?_
  refine sQ rfl (sp_build rfl tb_82 (q := [(0, _)]) (by exact ⟨rfl, rfl, rfl, iL, trivial⟩) (cs := [.r (.int .i64 (IntKind.i64.wrap (ch1.toNat : Int))), .r (.int .i64 0), .cst (.slice none 0 0)]) (by rfl)) ?_
  refine AOps.step rfl rfl rfl (ms_lit 16 rfl tg_22 (f := GElem.row) (l := ([(GElem.mk (IntKind.i64.wrap (ch1.toNat : Int)) 0 [])] : List GElem)) ⟨rfl, ⟨_, iL, rfl⟩, trivial⟩ rfl (fun _ => rfl) rfl) ?_
  refine ob1k h4 fun out5 eout5 h5 => ?_
  refine AOps.step rfl rfl rfl (ms_app rfl tg_22 iL rfl (.inr (.inl ⟨_, _, iL, rfl⟩)) eout5) ?_
  refine sQ rfl (sp_assign rfl iL) ?_
  refine AOps.nil (hK8 _ ?_)
  refine AW.weak (s' := ⟨[(0, .r (.str s1)), (3, .own 5003 ((i3 1) + 1)), (6, .r (.int .i64 (s1.length : Int))), (7, .r (.int .i64 x2))], [(5003, some (.arr ((i3 1) + 1) 82 3 (out5.map GElem.row)))], ((i3 1) + 2), 20⟩) (by exact Weak.cv ⟨jL, jL, jL, jL, trivial⟩ ⟨.inl rfl, trivial⟩ nL) ?_
  refine AW.region ?_
  refine ob1k h5 fun x4 ex4 h6 => ?_
  refine sQ rfl (ms_add rfl iL iL (fun _ => ex4)) ?_
  refine sM rfl rfl ?_
  refine AOps.nil ?_
  exact NextQ2.mk h6 (vec [((i3 1) + 1), ((i3 1) + 2)]) ((by exact Weak.cv ⟨jL, jL, jL, jL, trivial⟩ ⟨.inl rfl, trivial⟩ nL))
 ·have h3 := ite_f hc1 h2
  refine AW.exit ?_
  exact wK3 _ _ ((by exact Weak.cv ⟨jL, trivial⟩ ⟨.inl rfl, trivial⟩ nL)) (J1 _ (vec [(i3 0), (i3 1)]) (hx1 _ (Option.some.inj h3).symm))
set_option maxHeartbeats 4000000 in
set_option maxRecDepth 20000 in
theorem w_flow_Char {c1 : Int} {r : Bool} (h : flow_Char c1 = some r) : ARO Try.prog 99 [.r (.int .i64 c1)] (.r (.bool r)) := by
 unfold flow_Char at h
 refine ARO.mkF Try.func99 rfl rfl Try.ntmps99 rfl (Nat.le_of_ble_eq_true rfl) fun n0 => ?_
 refine AW.seq_w fun K1 hK1 wK1 => ?_
 refine AW.region ?_
 refine sQ rfl (sp_assign rfl iL) ?_
 refine AOps.nil (hK1 _ ?_)
 refine AW.seq_w fun K2 hK2 wK2 => ?_
 refine AW.region ?_
 refine sM rfl rfl ?_
 refine sQ rfl (sp_eql rfl iL iL) ?_
 refine sM rfl rfl ?_
 refine sV rfl rfl rfl (sp_move rfl iL) ?_
 refine sV rfl rfl rfl (sp_eql rfl (iR rfl) iL) ?_
 refine sQ rfl (sp_or rfl iL (iR rfl)) ?_
 refine sM rfl rfl ?_
 refine sV rfl rfl rfl (sp_move rfl iL) ?_
 refine sV rfl rfl rfl (sp_geq rfl (iR rfl) iL) ?_
 refine sV rfl rfl rfl (sp_move rfl (iR rfl)) ?_
 refine sW (.two rfl rfl rfl) rfl (sp_move rfl iL) ?_
 refine sW (.two rfl rfl rfl) rfl (sp_lss rfl (iR rfl) iL) ?_
 refine sV rfl rfl rfl (sp_and rfl (iR rfl) (iR rfl)) ?_
 refine sQ rfl (sp_or rfl iL (iR rfl)) ?_
 refine sM rfl rfl ?_
 refine sV rfl rfl rfl (sp_move rfl iL) ?_
 refine sV rfl rfl rfl (sp_geq rfl (iR rfl) iL) ?_
 refine sV rfl rfl rfl (sp_move rfl (iR rfl)) ?_
 refine sW (.two rfl rfl rfl) rfl (sp_move rfl iL) ?_
 refine sW (.two rfl rfl rfl) rfl (sp_lss rfl (iR rfl) iL) ?_
 refine sV rfl rfl rfl (sp_and rfl (iR rfl) (iR rfl)) ?_
 refine sQ rfl (sp_or rfl iL (iR rfl)) ?_
 refine sM rfl rfl ?_
 refine sV rfl rfl rfl (sp_move rfl iL) ?_
 refine sV rfl rfl rfl (sp_gtr rfl (iR rfl) iL) ?_
 refine sV rfl rfl rfl (sp_move rfl (iR rfl)) ?_
 refine sW (.two rfl rfl rfl) rfl (sp_move rfl iL) ?_
 refine sW (.two rfl rfl rfl) rfl (sp_leq rfl (iR rfl) iL) ?_
 refine sV rfl rfl rfl (sp_and rfl (iR rfl) (iR rfl)) ?_
 refine sQ rfl (sp_or rfl iL (iR rfl)) ?_
 refine sQ rfl (sp_assign rfl iL) ?_
 refine AOps.nil (hK2 _ ?_)
 refine AW.ret ?_
 exact retf1 (P := Try.prog) (fun (r : Bool) => .r (.bool r)) h iL (.t (.d rfl))
set_option maxHeartbeats 4000000 in
set_option maxRecDepth 20000 in
theorem w_attr_Name {s1 : List UInt8} {r : Bool} (h : attr_Name s1 = some r) : ARO Try.prog 94 [.r (.str s1)] (.r (.bool r)) := by
 unfold attr_Name at h
 refine ARO.mkF Try.func94 rfl rfl Try.ntmps94 rfl (Nat.le_of_ble_eq_true rfl) fun n0 => ?_
 refine AW.seq_w fun K1 hK1 wK1 => ?_
 refine AW.region ?_
 refine sQ rfl (sp_assign rfl iL) ?_
 refine AOps.nil (hK1 _ ?_)
 refine AW.seq_w fun K2 hK2 wK2 => ?_
 refine AW.seq_w fun K3 hK3 wK3 => ?_
 refine AW.region ?_
 refine sM rfl rfl ?_
 refine sQ rfl (sp_seql rfl iL iL) ?_
 refine sM rfl rfl ?_
 refine sV rfl rfl rfl (sp_move rfl iL) ?_
 refine sV rfl rfl rfl (sp_len_str rfl Try.underlying9 (iR rfl)) ?_
 refine sV rfl rfl rfl (sp_gtr rfl (iR rfl) iL) ?_
 refine sQ rfl (sp_or rfl iL (iR rfl)) ?_
 refine sM rfl rfl ?_
 refine sV rfl rfl rfl (sp_move rfl iL) ?_
 refine ob1k h fun ch1 ech1 h1 => ?_
 refine sV rfl rfl rfl (ms_idx_str rfl Try.underlying9 (iR rfl) iL (gdt ech1)) ?_
 refine sV rfl rfl rfl (sp_lss rfl (iR rfl) iL) ?_
 refine sQ rfl (sp_or rfl iL (iR rfl)) ?_
 refine sM rfl rfl ?_
 refine sV rfl rfl rfl (sp_move rfl iL) ?_
 refine ob1k h1 fun ch2 ech2 h2 => ?_
 refine sV rfl rfl rfl (ms_idx_str rfl Try.underlying9 (iR rfl) iL (gdt ech2)) ?_
 refine sV rfl rfl rfl (sp_gtr rfl (iR rfl) iL) ?_
 refine sQ rfl (sp_or rfl iL (iR rfl)) ?_
 refine AOps.nil (hK3 _ ?_)
 refine AW.cond rfl (fun hc1 => ?_) (fun hc1 => ?_)
 ·have h3 := ite_t hc1 h2
  refine AW.seq_w fun K4 hK4 wK4 => ?_
  refine AW.weak (s' := ⟨[], [], n0, 53⟩) (by exact Weak.cv trivial trivial nL) ?_
  refine AW.region ?_
  refine sQ rfl (sp_assign rfl iL) ?_
  refine AOps.nil (hK4 _ ?_)
  refine AW.ret ?_
  exact retf1 (P := Try.prog) (fun (r : Bool) => .r (.bool r)) h3 iL (.t (.d rfl))
 ·have h3 := ite_f hc1 h2
  refine AW.skip ?_
  refine hK2 _ ?_
  refine AW.seq_w fun K5 hK5 wK5 => ?_
  refine AW.seq_w fun K6 hK6 wK6 => ?_
  refine AW.weak (s' := ⟨[(0, .r (.str s1))], [], n0, 53⟩) (by exact Weak.cv ⟨jL, trivial⟩ trivial nL) ?_
  refine AW.region ?_
  refine sM rfl rfl ?_
  refine sQ rfl (sp_len_str rfl Try.underlying9 iL) ?_
  refine sM rfl rfl ?_
  refine AOps.nil (hK6 _ ?_)
  refine AW.block ?_
  refine jc1k h3 fun o1 hit1 hk1 he1 => ?_
  have J1 : ∀ (u2 : Unit) (i5 : Nat → Nat), o1 = .nrm u2 → K5 ⟨[], [], (i5 0), 53⟩ := by
   intro u2 i5 e
   have h4 := hk1 _ e
   refine hK5 _ ?_
   refine AW.seq_w fun K7 hK7 wK7 => ?_
   refine AW.region ?_
   refine sQ rfl (sp_assign rfl iL) ?_
   refine AOps.nil (hK7 _ ?_)
   refine AW.ret ?_
   exact retf1 (P := Try.prog) (fun (r : Bool) => .r (.bool r)) h4 iL (.t (.d rfl))
  refine AW.iter1 (fun (x2 : Int) i3 => ⟨[(0, .r (.str s1)), (23, .r (.int .i64 (s1.length : Int))), (24, .r (.int .i64 x2))], [], (i3 0), 53⟩) (vec [n0]) hit1 ((by exact Weak.cv ⟨jL, jL, jL, trivial⟩ trivial nL)) ?_
  intro x2 i3 v1 hv1 hx1
  have h5 : attr_Name_L1 s1 x2 = some v1 := hv1; unfold attr_Name_L1 at h5
  refine AW.seq_w fun K8 hK8 wK8 => ?_
  refine AW.region ?_
  refine sQ rfl (sp_lss rfl iL iL) ?_
  refine AOps.nil (hK8 _ ?_)
  refine AW.seq_w fun K9 hK9 wK9 => ?_
  refine AW.cond rfl (fun hc2 => ?_) (fun hc2 => ?_)
  ·have h6 := ite_t hc2 h5
   refine AW.skip ?_
   refine hK9 _ ?_
   refine AW.seq_w fun K10 hK10 wK10 => ?_
   refine AW.block ?_
   refine AW.seq_w fun K11 hK11 wK11 => ?_
   refine AW.region ?_
   refine sM rfl rfl ?_
   refine sQ rfl (sp_assign rfl iL) ?_
   refine AOps.nil (hK11 _ ?_)
   refine AW.seq_w fun K12 hK12 wK12 => ?_
   refine AW.region ?_
   refine sM rfl rfl ?_
   refine sM rfl rfl ?_
   refine ob1k h6 fun c1 ec1 h7 => ?_
   refine sQ rfl (ms_idx_str rfl Try.underlying9 iL iL (fun _ => ec1)) ?_
   refine sQ rfl (sp_assign rfl iL) ?_
   refine AOps.nil (hK12 _ ?_)
   refine AW.seq_w fun K13 hK13 wK13 => ?_
   refine AW.region ?_
   refine sM rfl rfl ?_
   refine sQ rfl (sp_lss rfl iL iL) ?_
   refine sM rfl rfl ?_
   refine sV rfl rfl rfl (sp_move rfl iL) ?_
   refine sV rfl rfl rfl (sp_gtr rfl (iR rfl) iL) ?_
   refine sQ rfl (sp_or rfl iL (iR rfl)) ?_
   refine sM rfl rfl ?_
   refine sV rfl rfl rfl (sp_move rfl iL) ?_
   refine sV rfl rfl rfl (sp_lss rfl (iR rfl) iL) ?_
   refine sV rfl rfl rfl (sp_move rfl (iR rfl)) ?_
   refine sW (.two rfl rfl rfl) rfl (sp_move rfl iL) ?_
   refine sW (.two rfl rfl rfl) rfl (sp_gtr rfl (iR rfl) iL) ?_
   refine sV rfl rfl rfl (sp_or rfl (iR rfl) (iR rfl)) ?_
   refine sQ rfl (sp_and rfl iL (iR rfl)) ?_
   refine sM rfl rfl ?_
   refine sV rfl rfl rfl (sp_move rfl iL) ?_
   refine sV rfl rfl rfl (sp_neq rfl (iR rfl) iL) ?_
   refine sQ rfl (sp_and rfl iL (iR rfl)) ?_
   refine sM rfl rfl ?_
   refine sV rfl rfl rfl (sp_move rfl iL) ?_
   refine sV rfl rfl rfl (sp_neq rfl (iR rfl) iL) ?_
   refine sQ rfl (sp_and rfl iL (iR rfl)) ?_
   refine AOps.nil (hK13 _ ?_)
   refine AW.cond rfl (fun hc3 => ?_) (fun hc3 => ?_)
   ·have h8 := ite_t hc3 h7
    refine AW.seq_w fun K14 hK14 wK14 => ?_
    refine AW.weak (s' := ⟨[], [], (i3 0), 53⟩) (by exact Weak.cv trivial trivial nL) ?_
    refine AW.region ?_
    refine sQ rfl (sp_assign rfl iL) ?_
    refine AOps.nil (hK14 _ ?_)
    refine AW.ret ?_
    exact retf1 (P := Try.prog) (fun (r : Bool) => .r (.bool r)) (he1 _ (hx1 _ (Option.some.inj h8).symm)) iL (.t (.d rfl))
   ·have h8 := ite_f hc3 h7
    refine AW.skip ?_
    refine hK10 _ ?_
    refine AW.weak (s' := ⟨[(0, .r (.str s1)), (23, .r (.int .i64 (s1.length : Int))), (24, .r (.int .i64 x2))], [], (i3 0), 53⟩) (by exact Weak.cv ⟨jL, jL, jL, trivial⟩ trivial nL) ?_
    refine AW.region ?_
    refine ob1k h8 fun x4 ex4 h9 => ?_
    refine sQ rfl (ms_add rfl iL iL (fun _ => ex4)) ?_
    refine sM rfl rfl ?_
    refine AOps.nil ?_
    exact NextQ1.mk h9 (vec [(i3 0)]) ((by exact Weak.cv ⟨jL, jL, jL, trivial⟩ trivial nL))
  ·have h6 := ite_f hc2 h5
   refine AW.exit ?_
   exact wK5 _ _ ((by exact Weak.cv trivial trivial nL)) (J1 _ (vec [(i3 0)]) (hx1 _ (Option.some.inj h6).symm))
set_option maxHeartbeats 4000000 in
set_option maxRecDepth 20000 in
theorem w_attr_Value {s1 : List UInt8} {r : Bool} (h : attr_Value s1 = some r) : ARO Try.prog 95 [.r (.str s1)] (.r (.bool r)) := by
 unfold attr_Value at h
 refine ARO.mkF Try.func95 rfl rfl Try.ntmps95 rfl (Nat.le_of_ble_eq_true rfl) fun n0 => ?_
 refine AW.seq_w fun K1 hK1 wK1 => ?_
 refine AW.region ?_
 refine sQ rfl (sp_assign rfl iL) ?_
 refine AOps.nil (hK1 _ ?_)
 refine AW.seq_w fun K2 hK2 wK2 => ?_
 refine AW.seq_w fun K3 hK3 wK3 => ?_
 refine AW.region ?_
 refine sM rfl rfl ?_
 refine sQ rfl (sp_seql rfl iL iL) ?_
 refine sM rfl rfl ?_
 refine sV rfl rfl rfl (sp_move rfl iL) ?_
 refine sV rfl rfl rfl (sp_len_str rfl Try.underlying9 (iR rfl)) ?_
 refine sV rfl rfl rfl (sp_gtr rfl (iR rfl) iL) ?_
 refine sQ rfl (sp_or rfl iL (iR rfl)) ?_
 refine AOps.nil (hK3 _ ?_)
 refine AW.cond rfl (fun hc1 => ?_) (fun hc1 => ?_)
 ·have h1 := ite_t hc1 h
  refine AW.seq_w fun K4 hK4 wK4 => ?_
  refine AW.weak (s' := ⟨[], [], n0, 27⟩) (by exact Weak.cv trivial trivial nL) ?_
  refine AW.region ?_
  refine sQ rfl (sp_assign rfl iL) ?_
  refine AOps.nil (hK4 _ ?_)
  refine AW.ret ?_
  exact retf1 (P := Try.prog) (fun (r : Bool) => .r (.bool r)) h1 iL (.t (.d rfl))
 ·have h1 := ite_f hc1 h
  refine AW.skip ?_
  refine hK2 _ ?_
  refine AW.seq_w fun K5 hK5 wK5 => ?_
  refine AW.seq_w fun K6 hK6 wK6 => ?_
  refine AW.region ?_
  refine sM rfl rfl ?_
  refine sQ rfl (sp_len_str rfl Try.underlying9 iL) ?_
  refine sM rfl rfl ?_
  refine AOps.nil (hK6 _ ?_)
  refine AW.block ?_
  refine jc1k h1 fun o1 hit1 hk1 he1 => ?_
  have J1 : ∀ (u2 : Unit) (i5 : Nat → Nat), o1 = .nrm u2 → K5 ⟨[], [], (i5 0), 27⟩ := by
   intro u2 i5 e
   have h2 := hk1 _ e
   refine hK5 _ ?_
   refine AW.seq_w fun K7 hK7 wK7 => ?_
   refine AW.region ?_
   refine sQ rfl (sp_assign rfl iL) ?_
   refine AOps.nil (hK7 _ ?_)
   refine AW.ret ?_
   exact retf1 (P := Try.prog) (fun (r : Bool) => .r (.bool r)) h2 iL (.t (.d rfl))
  refine AW.iter1 (fun (x2 : Int) i3 => ⟨[(0, .r (.str s1)), (12, .r (.int .i64 (s1.length : Int))), (13, .r (.int .i64 x2))], [], (i3 0), 27⟩) (vec [n0]) hit1 ((by exact Weak.cv ⟨jL, jL, jL, trivial⟩ trivial nL)) ?_
  intro x2 i3 v1 hv1 hx1
  have h3 : attr_Value_L1 s1 x2 = some v1 := hv1; unfold attr_Value_L1 at h3
  refine AW.seq_w fun K8 hK8 wK8 => ?_
  refine AW.region ?_
  refine sQ rfl (sp_lss rfl iL iL) ?_
  refine AOps.nil (hK8 _ ?_)
  refine AW.seq_w fun K9 hK9 wK9 => ?_
  refine AW.cond rfl (fun hc2 => ?_) (fun hc2 => ?_)
  ·have h4 := ite_t hc2 h3
   refine AW.skip ?_
   refine hK9 _ ?_
   refine AW.seq_w fun K10 hK10 wK10 => ?_
   refine AW.block ?_
   refine AW.seq_w fun K11 hK11 wK11 => ?_
   refine AW.region ?_
   refine sM rfl rfl ?_
   refine sQ rfl (sp_assign rfl iL) ?_
   refine AOps.nil (hK11 _ ?_)
   refine AW.seq_w fun K12 hK12 wK12 => ?_
   refine AW.region ?_
   refine sM rfl rfl ?_
   refine sM rfl rfl ?_
   refine ob1k h4 fun ch1 ech1 h5 => ?_
   refine sQ rfl (ms_idx_str rfl Try.underlying9 iL iL (fun _ => ech1)) ?_
   refine sQ rfl (sp_lss rfl iL iL) ?_
   refine sM rfl rfl ?_
   refine sV rfl rfl rfl (sp_move rfl iL) ?_
   refine sV rfl rfl rfl (sp_move rfl iL) ?_
   refine sV rfl rfl rfl (ms_idx_str rfl Try.underlying9 (iR rfl) (iR rfl) (fun _ => ech1)) ?_
   refine sV rfl rfl rfl (sp_gtr rfl (iR rfl) iL) ?_
   refine sQ rfl (sp_or rfl iL (iR rfl)) ?_
   refine AOps.nil (hK12 _ ?_)
   refine AW.cond rfl (fun hc3 => ?_) (fun hc3 => ?_)
   ·have h6 := ite_t hc3 h5
    refine AW.seq_w fun K13 hK13 wK13 => ?_
    refine AW.weak (s' := ⟨[], [], (i3 0), 27⟩) (by exact Weak.cv trivial trivial nL) ?_
    refine AW.region ?_
    refine sQ rfl (sp_assign rfl iL) ?_
    refine AOps.nil (hK13 _ ?_)
    refine AW.ret ?_
    exact retf1 (P := Try.prog) (fun (r : Bool) => .r (.bool r)) (he1 _ (hx1 _ (Option.some.inj h6).symm)) iL (.t (.d rfl))
   ·have h6 := ite_f hc3 h5
    refine AW.skip ?_
    refine hK10 _ ?_
    refine AW.weak (s' := ⟨[(0, .r (.str s1)), (12, .r (.int .i64 (s1.length : Int))), (13, .r (.int .i64 x2))], [], (i3 0), 27⟩) (by exact Weak.cv ⟨jL, jL, jL, trivial⟩ trivial nL) ?_
    refine AW.region ?_
    refine ob1k h6 fun x4 ex4 h7 => ?_
    refine sQ rfl (ms_add rfl iL iL (fun _ => ex4)) ?_
    refine sM rfl rfl ?_
    refine AOps.nil ?_
    exact NextQ1.mk h7 (vec [(i3 0)]) ((by exact Weak.cv ⟨jL, jL, jL, trivial⟩ trivial nL))
  ·have h4 := ite_f hc2 h3
   refine AW.exit ?_
   exact wK5 _ _ ((by exact Weak.cv trivial trivial nL)) (J1 _ (vec [(i3 0)]) (hx1 _ (Option.some.inj h4).symm))
set_option maxHeartbeats 4000000 in
set_option maxRecDepth 20000 in
theorem w_attr_check {l1 : List GAttr} {empty1 : Bool} {r : Int} (h : attr_check l1 empty1 = some r) : ARO Try.prog 117 [.r (.sl (l1.map GAttr.row)), .r (.bool empty1)] (.r (.int .i64 r)) := by
 unfold attr_check at h
 refine ARO.mkF Try.func117 rfl rfl Try.ntmps117 rfl (Nat.le_of_ble_eq_true rfl) fun n0 => ?_
 refine AW.seq_w fun K1 hK1 wK1 => ?_
 refine AW.region ?_
 refine sQ rfl (sp_assign rfl iL) ?_
 refine AOps.nil (hK1 _ ?_)
 refine AW.seq_w fun K2 hK2 wK2 => ?_
 refine AW.seq_w fun K3 hK3 wK3 => ?_
 refine AW.region ?_
 refine sM rfl rfl ?_
 refine sQ rfl (ms_len rfl tg_29.slice iL) ?_
 refine sM rfl rfl ?_
 refine AOps.nil (hK3 _ ?_)
 refine AW.block ?_
 refine jc1k h fun o1 hit1 hk1 he1 => ?_
 have J1 : ∀ (u2 : Unit) (i5 : Nat → Nat), o1 = .nrm u2 → K2 ⟨[], [], (i5 0), 48⟩ := by
  intro u2 i5 e
  have h1 := hk1 _ e
  refine hK2 _ ?_
  refine AW.seq_w fun K4 hK4 wK4 => ?_
  refine AW.region ?_
  refine sQ rfl (sp_assign rfl iL) ?_
  refine AOps.nil (hK4 _ ?_)
  refine AW.ret ?_
  exact retf1 (P := Try.prog) (fun (r : Int) => .r (.int .i64 r)) h1 iL (.t (.d rfl))
 refine AW.iter1 (fun (x2 : Int) i3 => ⟨[(0, .r (.sl (l1.map GAttr.row))), (1, .r (.bool empty1)), (7, .r (.sl (l1.map GAttr.row))), (8, .r (.int .i64 (l1.length : Int))), (9, .r (.int .i64 x2))], [], (i3 0), 48⟩) (vec [n0]) hit1 ((by exact Weak.cv ⟨jL, jL, jL, jL, jL, trivial⟩ trivial nL)) ?_
 intro x2 i3 v1 hv1 hx1
 have h2 : attr_check_L1 l1 empty1 x2 = some v1 := hv1; unfold attr_check_L1 at h2
 refine AW.seq_w fun K5 hK5 wK5 => ?_
 refine AW.region ?_
 refine sQ rfl (sp_lss rfl iL iL) ?_
 refine AOps.nil (hK5 _ ?_)
 refine AW.seq_w fun K6 hK6 wK6 => ?_
 refine AW.cond rfl (fun hc1 => ?_) (fun hc1 => ?_)
 ·have h3 := ite_t hc1 h2
  refine AW.skip ?_
  refine hK6 _ ?_
  refine AW.seq_w fun K7 hK7 wK7 => ?_
  refine AW.block ?_
  refine AW.seq_w fun K8 hK8 wK8 => ?_
  refine AW.region ?_
  refine sM rfl rfl ?_
  refine ob1k h3 fun x4 ex4 h4 => ?_
  refine sQ rfl (ms_idx rfl tg_29.slice iL iL (fun _ => rfl) (fun _ => ex4)) ?_
  refine sQ rfl (ms_loadA (cs := [.r (.str x4.Name), .r (.str x4.Value)]) rfl ta_92 iL rfl rfl) ?_
  refine AOps.step rfl rfl rfl (ms_alloc (cs := [.r (.str []), .r (.str [])]) 6 rfl t0_92 rfl rfl) ?_
  refine sQ rfl (sp_assign rfl iL) ?_
  refine AOps.step0 rfl rfl (ms_store_box (ds := [.r (.str x4.Name), .r (.str x4.Value)]) rfl tz_92 iL rfl iL rfl rfl rfl rfl) ?_
  refine AOps.nil (hK8 _ ?_)
  refine AW.block ?_
  refine AW.seq_w fun K9 hK9 wK9 => ?_
  refine AW.region ?_
  refine sQ rfl (sp_fieldAddr_own (ob := .box _ _ _) rfl tf_92_0 iL fR rfl) ?_
  refine sQ rfl (ms_load_box (a := .r (.str x4.Name)) rfl ts_9 iL rfl rfl) ?_
  refine ob1k h4 fun r1 er1 h5 => ?_
  refine AOps.step rfl rfl rfl (sp_call (r := .r (.bool r1)) (caps := []) (bs := [.r (.str x4.Name)]) rfl iL rfl ⟨⟨_, iL, .d rfl⟩, trivial⟩ (fun _ => w_attr_Name (er1)) rfl) ?_
  refine sQ rfl (sp_not rfl iL) ?_
  refine sQ rfl (sp_assign rfl iL) ?_
  refine AOps.nil (hK9 _ ?_)
  refine AW.cond rfl (fun hc2 => ?_) (fun hc2 => ?_)
  ·have h6 := ite_t hc2 h5
   refine AW.seq_w fun K10 hK10 wK10 => ?_
   refine AW.weak (s' := ⟨[], [], ((i3 0) + 1), 48⟩) (by exact Weak.cv trivial trivial nL) ?_
   refine AW.region ?_
   refine sQ rfl (sp_assign rfl iL) ?_
   refine AOps.nil (hK10 _ ?_)
   refine AW.ret ?_
   exact retf1 (P := Try.prog) (fun (r : Int) => .r (.int .i64 r)) (he1 _ (hx1 _ (Option.some.inj h6).symm)) iL (.t (.d rfl))
  ·have h6 := ite_f hc2 h5
   refine AW.seq_w fun K11 hK11 wK11 => ?_
   refine AW.weak (s' := ⟨[(0, .r (.sl (l1.map GAttr.row))), (1, .r (.bool empty1)), (5, .r (.int .i64 x2)), (6, .ptr 6 (i3 0) 0 0), (7, .r (.sl (l1.map GAttr.row))), (8, .r (.int .i64 (l1.length : Int))), (9, .r (.int .i64 x2))], [(6, some (.box (i3 0) 92 [.r (.str x4.Name), .r (.str x4.Value)]))], ((i3 0) + 1), 48⟩) (by exact Weak.cv ⟨jL, jL, jL, jL, jL, jL, jL, trivial⟩ ⟨.inl rfl, trivial⟩ nL) ?_
   refine AW.region ?_
   refine sQ rfl (sp_fieldAddr_own (ob := .box _ _ _) rfl tf_92_1 iL fR rfl) ?_
   refine sQ rfl (ms_load_box (a := .r (.str x4.Value)) rfl ts_9 iL rfl rfl) ?_
   refine ob1k h6 fun r2 er2 h7 => ?_
   refine AOps.step rfl rfl rfl (sp_call (r := .r (.bool r2)) (caps := []) (bs := [.r (.str x4.Value)]) rfl iL rfl ⟨⟨_, iL, .d rfl⟩, trivial⟩ (fun _ => w_attr_Value (er2)) rfl) ?_
   refine sQ rfl (sp_not rfl iL) ?_
   refine sM rfl rfl ?_
   refine sV rfl rfl rfl (sp_move rfl iL) ?_
   refine sV rfl rfl rfl (sp_move rfl (iR rfl)) ?_
   refine sW (.two rfl rfl rfl) rfl (sp_fieldAddr_own (ob := .box _ _ _) rfl tf_92_1 iL fR rfl) ?_
   refine sW (.two rfl rfl rfl) rfl (ms_load_box (a := .r (.str x4.Value)) rfl ts_9 (iR rfl) rfl rfl) ?_
   refine sW (.two rfl rfl rfl) rfl (sp_seql rfl (iR rfl) iL) ?_
   refine sV rfl rfl rfl (sp_and rfl (iR rfl) (iR rfl)) ?_
   refine sV rfl rfl rfl (sp_not rfl (iR rfl)) ?_
   refine sQ rfl (sp_and rfl iL (iR rfl)) ?_
   refine sQ rfl (sp_assign rfl iL) ?_
   refine AOps.nil (hK11 _ ?_)
   refine AW.cond rfl (fun hc3 => ?_) (fun hc3 => ?_)
   ·have h8 := ite_t hc3 h7
    refine AW.seq_w fun K12 hK12 wK12 => ?_
    refine AW.weak (s' := ⟨[], [], ((i3 0) + 1), 48⟩) (by exact Weak.cv trivial trivial nL) ?_
    refine AW.region ?_
    refine sQ rfl (sp_assign rfl iL) ?_
    refine AOps.nil (hK12 _ ?_)
    refine AW.ret ?_
    exact retf1 (P := Try.prog) (fun (r : Int) => .r (.int .i64 r)) (he1 _ (hx1 _ (Option.some.inj h8).symm)) iL (.t (.d rfl))
   ·have h8 := ite_f hc3 h7
    refine AW.seq_w fun K13 hK13 wK13 => ?_
    refine AW.regionQ hmix (by kernel_rfl) ?_
    refine AQ.step rfl rfl rfl (sp_move rfl iL) ?_
    refine AQ.step rfl rfl rfl (sp_gtr rfl iL iL) ?_
    refine AQ.step rfl rfl rfl (sp_move rfl iL) ?_
    refine AQ.stepW (.one rfl rfl rfl) rfl rfl (sp_fieldAddr_own (ob := .box _ _ _) rfl tf_92_0 iL fR rfl) ?_
    refine AQ.stepW (.one rfl rfl rfl) rfl rfl (ms_load_box (a := .r (.str x4.Name)) rfl ts_9 (iR rfl) rfl rfl) ?_
    refine AQ.stepW (.one rfl rfl rfl) rfl rfl (sp_move rfl iL) ?_
    refine AQ.stepW (.one rfl rfl rfl) rfl rfl (sp_move rfl iL) ?_
    refine ob1k h8 fun x5 ex5 h9 => ?_
    refine AQ.stepW (.one rfl rfl rfl) rfl rfl (ms_sub rfl (iR rfl) iL (gdt ex5)) ?_
    refine ob1k h9 fun x6 ex6 h10 => ?_
    refine AQ.stepW (.one rfl rfl rfl) rfl rfl (ms_idx rfl tg_29.slice (iR rfl) (iR rfl) (fun _ => rfl) (gdt ex6)) ?_
    refine AQ.stepW (.one rfl rfl rfl) rfl rfl (sp_fieldAddr_ro rfl tf_92_0 (iR rfl)) ?_
    refine AQ.stepW (.one rfl rfl rfl) rfl rfl (ms_load (d := .str x6.Name) rfl ts_9 (iR rfl) rfl) ?_
    refine AQ.stepW (.one rfl rfl rfl) rfl rfl (sp_sleq rfl (iR rfl) (iR rfl)) ?_
    refine AQ.step rfl rfl rfl (sp_and rfl iL (iR rfl)) ?_
    refine AQ.step rfl rfl rfl (sp_assign rfl iL) ?_
    refine AQ.nil ?_
    refine hK13 _ ?_
    refine AW.cond rfl (fun hc4 => ?_) (fun hc4 => ?_)
    ·have h11 := ite_t hc4 h10
     refine AW.seq_w fun K14 hK14 wK14 => ?_
     refine AW.weak (s' := ⟨[], [], ((i3 0) + 1), 48⟩) (by exact Weak.cv trivial trivial nL) ?_
     refine AW.region ?_
     refine sQ rfl (sp_assign rfl iL) ?_
     refine AOps.nil (hK14 _ ?_)
     refine AW.ret ?_
     exact retf1 (P := Try.prog) (fun (r : Int) => .r (.int .i64 r)) (he1 _ (hx1 _ (Option.some.inj h11).symm)) iL (.t (.d rfl))
    ·have h11 := ite_f hc4 h10
     refine AW.skip ?_
     refine hK7 _ ?_
     refine AW.weak (s' := ⟨[(0, .r (.sl (l1.map GAttr.row))), (1, .r (.bool empty1)), (7, .r (.sl (l1.map GAttr.row))), (8, .r (.int .i64 (l1.length : Int))), (9, .r (.int .i64 x2))], [], ((i3 0) + 1), 48⟩) (by exact Weak.cv ⟨jL, jL, jL, jL, jL, trivial⟩ trivial nL) ?_
     refine AW.region ?_
     refine ob1k h11 fun x7 ex7 h12 => ?_
     refine sQ rfl (ms_add rfl iL iL (fun _ => ex7)) ?_
     refine sM rfl rfl ?_
     refine AOps.nil ?_
     exact NextQ1.mk h12 (vec [((i3 0) + 1)]) ((by exact Weak.cv ⟨jL, jL, jL, jL, jL, trivial⟩ trivial nL))
 ·have h3 := ite_f hc1 h2
  refine AW.exit ?_
  exact wK2 _ _ ((by exact Weak.cv trivial trivial nL)) (J1 _ (vec [(i3 0)]) (hx1 _ (Option.some.inj h3).symm))
set_option maxHeartbeats 4000000 in
set_option maxRecDepth 20000 in
theorem w_attr_Check {l1 : List GAttr} {r : Int} (h : attr_Check l1 = some r) : ARO Try.prog 100 [.r (.sl (l1.map GAttr.row))] (.r (.int .i64 r)) := by
 unfold attr_Check at h
 refine ARO.mkF Try.func100 rfl rfl Try.ntmps100 rfl (Nat.le_of_ble_eq_true rfl) fun n0 => ?_
 refine AW.seq_w fun K1 hK1 wK1 => ?_
 refine AW.region ?_
 refine sQ rfl (sp_assign rfl iL) ?_
 refine AOps.nil (hK1 _ ?_)
 refine AW.seq_w fun K2 hK2 wK2 => ?_
 refine AW.region ?_
 refine sM rfl rfl ?_
 refine ob1k h fun r1 er1 h1 => ?_
 refine AOps.step rfl rfl rfl (sp_call (r := .r (.int .i64 r1)) (caps := []) (bs := [.r (.sl (l1.map GAttr.row)), .r (.bool false)]) rfl iL rfl ⟨⟨_, iL, .d rfl⟩, ⟨_, iL, .d rfl⟩, trivial⟩ (fun _ => w_attr_check (er1)) rfl) ?_
 refine sQ rfl (sp_assign rfl iL) ?_
 refine AOps.nil (hK2 _ ?_)
 refine AW.ret ?_
 exact retf1 (P := Try.prog) (fun (r : Int) => .r (.int .i64 r)) h1 iL (.t (.d rfl))
set_option maxHeartbeats 4000000 in
set_option maxRecDepth 20000 in
theorem w_flow_elem {x1 : GElem} {r : Int} (h : flow_elem x1 = some r) : ARO Try.prog 73 [.agg [.r (.int .i64 x1.Char), .r (.int .i64 x1.Ref), .r (.sl (x1.Attrs.map GAttr.row))]] (.r (.int .i64 r)) := by
 unfold flow_elem at h
 refine ARO.mkF Try.func73 rfl rfl Try.ntmps73 rfl (Nat.le_of_ble_eq_true rfl) fun n0 => ?_
 refine AW.seq_w fun K1 hK1 wK1 => ?_
 refine AW.region ?_
 refine AOps.step rfl rfl rfl (ms_box (cs := [.r (.int .i64 x1.Char), .r (.int .i64 x1.Ref), .r (.sl (x1.Attrs.map GAttr.row))]) 1 rfl iL rfl rfl) ?_
 refine sQ rfl (sp_assign rfl iL) ?_
 refine AOps.nil (hK1 _ ?_)
 refine AW.seq_w fun K2 hK2 wK2 => ?_
 refine AW.block ?_
 refine AW.seq_w fun K3 hK3 wK3 => ?_
 refine AW.region ?_
 refine sQ rfl (sp_fieldAddr_own (ob := .box _ _ _) rfl tf_82_0 iL fR rfl) ?_
 refine sQ rfl (ms_load_box (a := .r (.int .i64 x1.Char)) rfl ts_3 iL rfl rfl) ?_
 refine sQ rfl (sp_neq rfl iL iL) ?_
 refine sQ rfl (sp_fieldAddr_own (ob := .box _ _ _) rfl tf_82_1 iL fR rfl) ?_
 refine sQ rfl (ms_load_box (a := .r (.int .i64 x1.Ref)) rfl ts_3 iL rfl rfl) ?_
 refine sQ rfl (sp_neq rfl iL iL) ?_
 refine sQ rfl (sp_beql rfl Try.underlying4 iL iL) ?_
 refine sQ rfl (sp_assign rfl iL) ?_
 refine AOps.nil (hK3 _ ?_)
 refine AW.cond rfl (fun hc1 => ?_) (fun hc1 => ?_)
 ·have h1 := ite_t hc1 h
  refine AW.seq_w fun K4 hK4 wK4 => ?_
  refine AW.weak (s' := ⟨[], [], (n0 + 1), 37⟩) (by exact Weak.cv trivial trivial nL) ?_
  refine AW.region ?_
  refine sQ rfl (sp_assign rfl iL) ?_
  refine AOps.nil (hK4 _ ?_)
  refine AW.ret ?_
  exact retf1 (P := Try.prog) (fun (r : Int) => .r (.int .i64 r)) h1 iL (.t (.d rfl))
 ·have h1 := ite_f hc1 h
  refine AW.seq_w fun K5 hK5 wK5 => ?_
  refine AW.seq_w fun K6 hK6 wK6 => ?_
  refine AW.weak (s' := ⟨[(1, .ptr 1 n0 0 0)], [(1, some (.box n0 82 [.r (.int .i64 x1.Char), .r (.int .i64 x1.Ref), .r (.sl (x1.Attrs.map GAttr.row))]))], (n0 + 1), 37⟩) (by exact Weak.cv ⟨jL, trivial⟩ ⟨.inl rfl, trivial⟩ nL) ?_
  refine AW.region ?_
  refine sQ rfl (sp_fieldAddr_own (ob := .box _ _ _) rfl tf_82_1 iL fR rfl) ?_
  refine sQ rfl (ms_load_box (a := .r (.int .i64 x1.Ref)) rfl ts_3 iL rfl rfl) ?_
  refine sQ rfl (sp_eql rfl iL iL) ?_
  refine sM rfl rfl ?_
  refine sV rfl rfl rfl (sp_fieldAddr_own (ob := .box _ _ _) rfl tf_82_0 iL fR rfl) ?_
  refine sV rfl rfl rfl (ms_load_box (a := .r (.int .i64 x1.Char)) rfl ts_3 (iR rfl) rfl rfl) ?_
  refine ob1k h1 fun r1 er1 h2 => ?_
  refine AOps.stepW (.one rfl rfl rfl) rfl rfl (sp_call (r := .r (.bool r1)) (caps := []) (bs := [.r (.int .i64 x1.Char)]) rfl iL rfl ⟨⟨_, (iR rfl), .d rfl⟩, trivial⟩ (fun hg => w_flow_Char (gdt er1 hg)) rfl) ?_
  refine sV rfl rfl rfl (sp_not rfl (iR rfl)) ?_
  refine sQ rfl (sp_and rfl iL (iR rfl)) ?_
  refine sQ rfl (sp_assign rfl iL) ?_
  refine AOps.nil (hK6 _ ?_)
  refine jb1k h2 fun p1 hp1 hk1 => ?_
  have J1 : ∀ (x2 : Bool) (i1 : Nat → Nat), p1 = x2 → K5 ⟨[(1, .ptr 1 n0 0 0), (11, .r (.bool x2))], [(1, some (.box n0 82 [.r (.int .i64 x1.Char), .r (.int .i64 x1.Ref), .r (.sl (x1.Attrs.map GAttr.row))]))], (i1 0), 37⟩ := by
   intro x2 i1 e
   have h3 := hk1 _ e
   refine hK5 _ ?_
   refine AW.cond rfl (fun hc2 => ?_) (fun hc2 => ?_)
   ·have h4 := ite_t hc2 h3
    refine AW.seq_w fun K7 hK7 wK7 => ?_
    refine AW.region ?_
    refine sQ rfl (sp_assign rfl iL) ?_
    refine AOps.nil (hK7 _ ?_)
    refine AW.ret ?_
    exact retf1 (P := Try.prog) (fun (r : Int) => .r (.int .i64 r)) h4 iL (.t (.d rfl))
   ·have h4 := ite_f hc2 h3
    refine AW.skip ?_
    refine hK2 _ ?_
    refine AW.seq_w fun K8 hK8 wK8 => ?_
    refine AW.region ?_
    refine sQ rfl (sp_fieldAddr_own (ob := .box _ _ _) rfl tf_82_2 iL fR rfl) ?_
    refine sQ rfl (ms_load_box (a := .r (.sl (x1.Attrs.map GAttr.row))) rfl ts_29 iL rfl rfl) ?_
    refine ob1k h4 fun r2 er2 h5 => ?_
    refine AOps.step rfl rfl rfl (sp_call (r := .r (.int .i64 r2)) (caps := []) (bs := [.r (.sl (x1.Attrs.map GAttr.row))]) rfl iL rfl ⟨⟨_, iL, .d rfl⟩, trivial⟩ (fun _ => w_attr_Check (er2)) rfl) ?_
    refine sQ rfl (sp_assign rfl iL) ?_
    refine AOps.nil (hK8 _ ?_)
    refine AW.ret ?_
    exact retf1 (P := Try.prog) (fun (r : Int) => .r (.int .i64 r)) h5 iL (.t (.d rfl))
  refine AW.cond rfl (fun hc3 => ?_) (fun hc3 => ?_)
  ·have h6 := ite_t hc3 hp1
   refine AW.skip ?_
   exact wK5 _ _ ((by exact Weak.cv ⟨jL, jL, trivial⟩ ⟨.inl rfl, trivial⟩ nL)) (J1 _ (vec [(n0 + 1)]) (Option.some.inj h6).symm)
  ·have h6 := ite_f hc3 hp1
   refine AW.weak (s' := ⟨[(1, .ptr 1 n0 0 0)], [(1, some (.box n0 82 [.r (.int .i64 x1.Char), .r (.int .i64 x1.Ref), .r (.sl (x1.Attrs.map GAttr.row))]))], (n0 + 1), 37⟩) (by exact Weak.cv ⟨jL, trivial⟩ ⟨.inl rfl, trivial⟩ nL) ?_
   refine AW.region ?_
   refine sQ rfl (sp_fieldAddr_own (ob := .box _ _ _) rfl tf_82_1 iL fR rfl) ?_
   refine sQ rfl (ms_load_box (a := .r (.int .i64 x1.Ref)) rfl ts_3 iL rfl rfl) ?_
   refine sQ rfl (sp_neq rfl iL iL) ?_
   refine sM rfl rfl ?_
   refine sV rfl rfl rfl (sp_fieldAddr_own (ob := .box _ _ _) rfl tf_82_1 iL fR rfl) ?_
   refine sV rfl rfl rfl (ms_load_box (a := .r (.int .i64 x1.Ref)) rfl ts_3 (iR rfl) rfl rfl) ?_
   refine sV rfl rfl rfl (sp_lss rfl (iR rfl) iL) ?_
   refine sV rfl rfl rfl (sp_move rfl (iR rfl)) ?_
   refine sW (.two rfl rfl rfl) rfl (sp_fieldAddr_own (ob := .box _ _ _) rfl tf_82_1 iL fR rfl) ?_
   refine sW (.two rfl rfl rfl) rfl (ms_load_box (a := .r (.int .i64 x1.Ref)) rfl ts_3 (iR rfl) rfl rfl) ?_
   refine sW (.two rfl rfl rfl) rfl (sp_gtr rfl (iR rfl) iL) ?_
   refine sV rfl rfl rfl (sp_or rfl (iR rfl) (iR rfl)) ?_
   refine sQ rfl (sp_and rfl iL (iR rfl)) ?_
   refine sQ rfl (sp_assign rfl iL) ?_
   refine AOps.nil ?_
   exact wK5 _ _ ((by exact Weak.cv ⟨jL, jL, trivial⟩ ⟨.inl rfl, trivial⟩ nL)) (J1 _ (vec [(n0 + 1)]) (Option.some.inj h6).symm)
set_option maxHeartbeats 4000000 in
set_option maxRecDepth 20000 in
theorem w_flow_CheckPart {f1 : List GElem} {r : Int} (h : flow_CheckPart f1 = some r) : ARO Try.prog 44 [.r (.sl (f1.map GElem.row))] (.r (.int .i64 r)) := by
 unfold flow_CheckPart at h
 refine ARO.mkF Try.func44 rfl rfl Try.ntmps44 rfl (Nat.le_of_ble_eq_true rfl) fun n0 => ?_
 refine AW.seq_w fun K1 hK1 wK1 => ?_
 refine AW.region ?_
 refine sQ rfl (sp_assign rfl iL) ?_
 refine AOps.nil (hK1 _ ?_)
 refine AW.seq_w fun K2 hK2 wK2 => ?_
 refine AW.seq_w fun K3 hK3 wK3 => ?_
 refine AW.region ?_
 refine sM rfl rfl ?_
 refine sQ rfl (ms_len rfl tg_22.slice iL) ?_
 refine sM rfl rfl ?_
 refine AOps.nil (hK3 _ ?_)
 refine AW.block ?_
 refine jc1k h fun o1 hit1 hk1 he1 => ?_
 have J1 : ∀ (u2 : Unit) (i5 : Nat → Nat), o1 = .nrm u2 → K2 ⟨[], [], (i5 0), 18⟩ := by
  intro u2 i5 e
  have h1 := hk1 _ e
  refine hK2 _ ?_
  refine AW.seq_w fun K4 hK4 wK4 => ?_
  refine AW.region ?_
  refine sQ rfl (sp_assign rfl iL) ?_
  refine AOps.nil (hK4 _ ?_)
  refine AW.ret ?_
  exact retf1 (P := Try.prog) (fun (r : Int) => .r (.int .i64 r)) h1 iL (.t (.d rfl))
 refine AW.iter1 (fun (x2 : Int) i3 => ⟨[(6, .r (.sl (f1.map GElem.row))), (7, .r (.int .i64 (f1.length : Int))), (8, .r (.int .i64 x2))], [], (i3 0), 18⟩) (vec [n0]) hit1 ((by exact Weak.cv ⟨jL, jL, jL, trivial⟩ trivial nL)) ?_
 intro x2 i3 v1 hv1 hx1
 have h2 : flow_CheckPart_L1 f1 x2 = some v1 := hv1; unfold flow_CheckPart_L1 at h2
 refine AW.seq_w fun K5 hK5 wK5 => ?_
 refine AW.region ?_
 refine sQ rfl (sp_lss rfl iL iL) ?_
 refine AOps.nil (hK5 _ ?_)
 refine AW.seq_w fun K6 hK6 wK6 => ?_
 refine AW.cond rfl (fun hc1 => ?_) (fun hc1 => ?_)
 ·have h3 := ite_t hc1 h2
  refine AW.skip ?_
  refine hK6 _ ?_
  refine AW.seq_w fun K7 hK7 wK7 => ?_
  refine AW.block ?_
  refine AW.seq_w fun K8 hK8 wK8 => ?_
  refine AW.region ?_
  refine ob1k h3 fun x4 ex4 h4 => ?_
  refine sQ rfl (ms_idx rfl tg_22.slice iL iL (fun _ => rfl) (fun _ => ex4)) ?_
  refine sQ rfl (ms_loadA (cs := [.r (.int .i64 x4.Char), .r (.int .i64 x4.Ref), .r (.sl (x4.Attrs.map GAttr.row))]) rfl ta_82 iL rfl rfl) ?_
  refine AOps.step rfl rfl rfl (ms_alloc (cs := [.r (.int .i64 0), .r (.int .i64 0), .cst (.slice none 0 0)]) 4 rfl t0_82 rfl rfl) ?_
  refine AOps.step0 rfl rfl (ms_store_box (ds := [.r (.int .i64 x4.Char), .r (.int .i64 x4.Ref), .r (.sl (x4.Attrs.map GAttr.row))]) rfl tz_82 iL rfl iL rfl rfl rfl rfl) ?_
  refine AOps.nil (hK8 _ ?_)
  refine AW.seq_w fun K9 hK9 wK9 => ?_
  refine AW.region ?_
  refine sQ rfl (ms_loadA_box rfl ta_82 iL rfl rfl) ?_
  refine ob1k h4 fun e1 ee1 h5 => ?_
  refine AOps.step rfl rfl rfl (sp_call (r := .r (.int .i64 e1)) (caps := []) (bs := [.agg [.r (.int .i64 x4.Char), .r (.int .i64 x4.Ref), .r (.sl (x4.Attrs.map GAttr.row))]]) rfl iL rfl ⟨⟨_, iL, .g (cs := [.int .i64 x4.Char, .int .i64 x4.Ref, .sl (x4.Attrs.map GAttr.row)]) rfl rfl⟩, trivial⟩ (fun _ => w_flow_elem (ee1)) rfl) ?_
  refine sQ rfl (sp_assign rfl iL) ?_
  refine AOps.nil (hK9 _ ?_)
  refine AW.seq_w fun K10 hK10 wK10 => ?_
  refine AW.region ?_
  refine sM rfl rfl ?_
  refine sQ rfl (sp_neq rfl iL iL) ?_
  refine AOps.nil (hK10 _ ?_)
  refine AW.cond rfl (fun hc2 => ?_) (fun hc2 => ?_)
  ·have h6 := ite_t hc2 h5
   refine AW.seq_w fun K11 hK11 wK11 => ?_
   refine AW.weak (s' := ⟨[(5, .r (.int .i64 e1))], [], ((i3 0) + 1), 18⟩) (by exact Weak.cv ⟨jL, trivial⟩ trivial nL) ?_
   refine AW.region ?_
   refine sM rfl rfl ?_
   refine sQ rfl (sp_assign rfl iL) ?_
   refine AOps.nil (hK11 _ ?_)
   refine AW.ret ?_
   exact retf1 (P := Try.prog) (fun (r : Int) => .r (.int .i64 r)) (he1 _ (hx1 _ (Option.some.inj h6).symm)) iL (.t (.d rfl))
  ·have h6 := ite_f hc2 h5
   refine AW.skip ?_
   refine hK7 _ ?_
   refine AW.weak (s' := ⟨[(6, .r (.sl (f1.map GElem.row))), (7, .r (.int .i64 (f1.length : Int))), (8, .r (.int .i64 x2))], [], ((i3 0) + 1), 18⟩) (by exact Weak.cv ⟨jL, jL, jL, trivial⟩ trivial nL) ?_
   refine AW.region ?_
   refine ob1k h6 fun x5 ex5 h7 => ?_
   refine sQ rfl (ms_add rfl iL iL (fun _ => ex5)) ?_
   refine sM rfl rfl ?_
   refine AOps.nil ?_
   exact NextQ1.mk h7 (vec [((i3 0) + 1)]) ((by exact Weak.cv ⟨jL, jL, jL, trivial⟩ trivial nL))
 ·have h3 := ite_f hc1 h2
  refine AW.exit ?_
  exact wK2 _ _ ((by exact Weak.cv trivial trivial nL)) (J1 _ (vec [(i3 0)]) (hx1 _ (Option.some.inj h3).symm))
set_option maxHeartbeats 4000000 in
set_option maxRecDepth 20000 in
theorem w_attr_Change_f1 {c1 : List GAttr} {x1 : GAttr} {y1 : GAttr} {r : (List GAttr)} {gb1000 : Nat} {ga1001 : Nat} (h : attr_Change_f1 c1 x1 y1 = some r) : AHC Try.prog 102 2 [.agg [.r (.str x1.Name), .r (.str x1.Value)], .agg [.r (.str y1.Name), .r (.str y1.Value)], .ptr 1000 gb1000 0 0] [(1000, some (.box gb1000 29 [.own 1001 ga1001])), (1001, some (.arr ga1001 92 2 (c1.map GAttr.row)))] (fun rr h' => ∃ (i : Nat → Nat), rr = .tup [] ∧ h' = [(1000, some (.box gb1000 29 [.own 1001 (i 0)])), (1001, some (.arr (i 0) 92 2 (r.map GAttr.row)))]) := by
 unfold attr_Change_f1 at h
 refine AHC.mkw Try.func102 rfl rfl Try.ntmps102 (Nat.le_of_ble_eq_true rfl) fun n0 => ?_
 refine AW.seq_w fun K1 hK1 wK1 => ?_
 refine AW.region ?_
 refine AOps.step rfl rfl rfl (ms_box (cs := [.r (.str x1.Name), .r (.str x1.Value)]) 3 rfl iL rfl rfl) ?_
 refine AOps.step rfl rfl rfl (ms_box (cs := [.r (.str y1.Name), .r (.str y1.Value)]) 4 rfl iL rfl rfl) ?_
 refine AOps.nil (hK1 _ ?_)
 refine AW.block ?_
 refine AW.seq_w fun K2 hK2 wK2 => ?_
 refine AW.region ?_
 refine sQ rfl (sp_fieldAddr_own (ob := .box _ _ _) rfl tf_92_0 iL fR rfl) ?_
 refine sQ rfl (ms_load_box (a := .r (.str y1.Name)) rfl ts_9 iL rfl rfl) ?_
 refine sQ rfl (sp_seql rfl iL iL) ?_
 refine sQ rfl (sp_assign rfl iL) ?_
 refine AOps.nil (hK2 _ ?_)
 refine AW.cond rfl (fun hc1 => ?_) (fun hc1 => ?_)
 ·have h1 := ite_t hc1 h
  refine AW.region ?_
  refine sQ rfl (ms_load_box (a := .own 1001 ga1001) rfl ts_29 iL rfl rfl) ?_
  refine sQ rfl (sp_fieldAddr_own (ob := .box _ _ _) rfl tf_92_0 iL fR rfl) ?_
  refine sQ rfl (ms_load_box (a := .r (.str x1.Name)) rfl ts_9 iL rfl rfl) ?_
  refine sQ rfl (sp_build rfl tb_92 (q := [(0, _)]) (by exact ⟨rfl, rfl, rfl, iL, trivial⟩) (cs := [.r (.str x1.Name), .r (.str [])]) (by rfl)) ?_
  refine AOps.step rfl rfl rfl (ms_lit 13 rfl tg_29 (f := GAttr.row) (l := ([(GAttr.mk x1.Name [])] : List GAttr)) ⟨rfl, ⟨_, iL, rfl⟩, trivial⟩ rfl (fun _ => rfl) rfl) ?_
  refine ob1k h1 fun l1 el1 h2 => ?_
  refine AOps.step rfl rfl rfl (ms_app rfl tg_29 iL rfl (.inr (.inl ⟨_, _, iL, rfl⟩)) el1) ?_
  refine AOps.step0 rfl rfl (ms_store_box (ds := [.own 1001 (n0 + 3)]) rfl tz_29 iL rfl iL rfl rfl rfl rfl) ?_
  refine AOps.nil ?_
  exact RetW.mk (s' := ⟨[], [(1000, some (.box gb1000 29 [.own 1001 (n0 + 3)])), (1001, some (.arr (n0 + 3) 92 2 (l1.map GAttr.row)))], (n0 + 4), 23⟩) ((by exact Weak.cv trivial ⟨.inl rfl, .inl rfl, trivial⟩ nL)) (reth_cast (fun (r : (List GAttr)) rr h' => ∃ (i : Nat → Nat), rr = .tup [] ∧ h' = [(1000, some (.box gb1000 29 [.own 1001 (i 0)])), (1001, some (.arr (i 0) 92 2 (r.map GAttr.row)))]) h2 (by exact ⟨.tup [], [(1000, some (.box gb1000 29 [.own 1001 (n0 + 3)])), (1001, some (.arr (n0 + 3) 92 2 (l1.map GAttr.row)))], ⟨_, rfl, trivial⟩, ⟨.inr rfl, .inr rfl, trivial⟩, rfl, rfl, vec [(n0 + 3)], rfl, rfl⟩))
 ·have h1 := ite_f hc1 h
  refine AW.seq_w fun K3 hK3 wK3 => ?_
  refine AW.region ?_
  refine sQ rfl (ms_loadA_box rfl ta_92 iL rfl rfl) ?_
  refine sQ rfl (ms_loadA_box rfl ta_92 iL rfl rfl) ?_
  refine sQ rfl (sp_aggneq rfl te_92 iL iL rfl) ?_
  refine sQ rfl (sp_assign rfl iL) ?_
  refine AOps.nil (hK3 _ ?_)
  refine AW.cond rfl (fun hc2 => ?_) (fun hc2 => ?_)
  ·have h3 := ite_t hc2 h1
   refine AW.weak (s' := ⟨[(2, .ptr 1000 gb1000 0 0), (4, .ptr 4 (n0 + 1) 0 0)], [(4, some (.box (n0 + 1) 92 [.r (.str y1.Name), .r (.str y1.Value)])), (1000, some (.box gb1000 29 [.own 1001 ga1001])), (1001, some (.arr ga1001 92 2 (c1.map GAttr.row)))], (n0 + 2), 23⟩) (by exact Weak.cv ⟨jL, jL, trivial⟩ ⟨.inl rfl, .inl rfl, .inl rfl, trivial⟩ nL) ?_
   refine AW.region ?_
   refine sQ rfl (ms_load_box (a := .own 1001 ga1001) rfl ts_29 iL rfl rfl) ?_
   refine sQ rfl (ms_loadA_box rfl ta_92 iL rfl rfl) ?_
   refine AOps.step rfl rfl rfl (ms_lit 21 rfl tg_29 (f := GAttr.row) (l := ([y1] : List GAttr)) ⟨rfl, ⟨_, iL, rfl⟩, trivial⟩ rfl (fun _ => rfl) rfl) ?_
   refine ob1k h3 fun l2 el2 h4 => ?_
   refine AOps.step rfl rfl rfl (ms_app rfl tg_29 iL rfl (.inr (.inl ⟨_, _, iL, rfl⟩)) el2) ?_
   refine AOps.step0 rfl rfl (ms_store_box (ds := [.own 1001 (n0 + 3)]) rfl tz_29 iL rfl iL rfl rfl rfl rfl) ?_
   refine AOps.nil ?_
   exact RetW.mk (s' := ⟨[], [(1000, some (.box gb1000 29 [.own 1001 (n0 + 3)])), (1001, some (.arr (n0 + 3) 92 2 (l2.map GAttr.row)))], (n0 + 4), 23⟩) ((by exact Weak.cv trivial ⟨.inl rfl, .inl rfl, trivial⟩ nL)) (reth_cast (fun (r : (List GAttr)) rr h' => ∃ (i : Nat → Nat), rr = .tup [] ∧ h' = [(1000, some (.box gb1000 29 [.own 1001 (i 0)])), (1001, some (.arr (i 0) 92 2 (r.map GAttr.row)))]) h4 (by exact ⟨.tup [], [(1000, some (.box gb1000 29 [.own 1001 (n0 + 3)])), (1001, some (.arr (n0 + 3) 92 2 (l2.map GAttr.row)))], ⟨_, rfl, trivial⟩, ⟨.inr rfl, .inr rfl, trivial⟩, rfl, rfl, vec [(n0 + 3)], rfl, rfl⟩))
  ·have h3 := ite_f hc2 h1
   refine AW.skip ?_
   exact RetW.mk (s' := ⟨[], [(1000, some (.box gb1000 29 [.own 1001 ga1001])), (1001, some (.arr ga1001 92 2 (c1.map GAttr.row)))], (n0 + 2), 23⟩) ((by exact Weak.cv trivial ⟨.inl rfl, .inl rfl, trivial⟩ nL)) (reth_cast (fun (r : (List GAttr)) rr h' => ∃ (i : Nat → Nat), rr = .tup [] ∧ h' = [(1000, some (.box gb1000 29 [.own 1001 (i 0)])), (1001, some (.arr (i 0) 92 2 (r.map GAttr.row)))]) h3 (by exact ⟨.tup [], [(1000, some (.box gb1000 29 [.own 1001 ga1001])), (1001, some (.arr ga1001 92 2 (c1.map GAttr.row)))], ⟨_, rfl, trivial⟩, ⟨.inr rfl, .inr rfl, trivial⟩, rfl, rfl, vec [ga1001], rfl, rfl⟩))
set_option maxHeartbeats 4000000 in
set_option maxRecDepth 20000 in
theorem w_attr_both__Change_f1 {c1 : List GAttr} {a1 : List GAttr} {b1 : List GAttr} {r : (List GAttr)} {gb1000 : Nat} {ga1001 : Nat} (h : attr_both__Change_f1 c1 a1 b1 = some r) : AHC Try.prog 101 2 [.r (.sl (a1.map GAttr.row)), .r (.sl (b1.map GAttr.row)), .fn 102 [.ptr 1000 gb1000 0 0]] [(1000, some (.box gb1000 29 [.own 1001 ga1001])), (1001, some (.arr ga1001 92 2 (c1.map GAttr.row)))] (fun rr h' => ∃ (i : Nat → Nat), rr = .tup [] ∧ h' = [(1000, some (.box gb1000 29 [.own 1001 (i 0)])), (1001, some (.arr (i 0) 92 2 (r.map GAttr.row)))]) := by
 unfold attr_both__Change_f1 at h
 refine AHC.mkw Try.func101 rfl rfl Try.ntmps101 (Nat.le_of_ble_eq_true rfl) fun n0 => ?_
 refine AW.seq_w fun K1 hK1 wK1 => ?_
 refine AW.region ?_
 refine sQ rfl (sp_assign rfl iL) ?_
 refine sQ rfl (sp_assign rfl iL) ?_
 refine AOps.nil (hK1 _ ?_)
 refine AW.block ?_
 refine jc1k h fun o4 hit1 hk1 he1 => ?_
 refine AW.iter3 (fun (i4 : Int) (j2 : Int) (o2 : List GAttr) i5 => ⟨[(0, .r (.sl (a1.map GAttr.row))), (1, .r (.sl (b1.map GAttr.row))), (2, .fn 102 [.ptr 1000 gb1000 0 0]), (6, .r (.int .i64 i4)), (7, .r (.int .i64 j2))], [(1000, some (.box gb1000 29 [.own 1001 (i5 0)])), (1001, some (.arr (i5 0) 92 2 (o2.map GAttr.row)))], (i5 1), 92⟩) (vec [ga1001, n0]) hit1 ((by exact Weak.cv ⟨jL, jL, jL, jL, jL, trivial⟩ ⟨.inl rfl, .inl rfl, trivial⟩ nL)) ?_
 intro i4 j2 o2 i5 v1 hv1 hx1
 have h1 : attr_both__Change_f1_L1 a1 b1 i4 j2 o2 = some v1 := hv1; unfold attr_both__Change_f1_L1 at h1
 refine AW.seq_w fun K2 hK2 wK2 => ?_
 refine AW.seq_w fun K3 hK3 wK3 => ?_
 refine AW.region ?_
 refine sM rfl rfl ?_
 refine sM rfl rfl ?_
 refine sQ rfl (ms_len rfl tg_29.slice iL) ?_
 refine sQ rfl (sp_lss rfl iL iL) ?_
 refine sM rfl rfl ?_
 refine sV rfl rfl rfl (sp_move rfl iL) ?_
 refine sV rfl rfl rfl (sp_move rfl iL) ?_
 refine sV rfl rfl rfl (ms_len rfl tg_29.slice (iR rfl)) ?_
 refine sV rfl rfl rfl (sp_lss rfl (iR rfl) (iR rfl)) ?_
 refine sQ rfl (sp_or rfl iL (iR rfl)) ?_
 refine AOps.nil (hK3 _ ?_)
 refine AW.cond rfl (fun hc1 => ?_) (fun hc1 => ?_)
 ·have h2 := ite_t hc1 h1
  refine AW.skip ?_
  refine hK2 _ ?_
  refine AW.block ?_
  refine AW.block ?_
  refine AW.seq_w fun K4 hK4 wK4 => ?_
  refine AW.regionQ hmix (by kernel_rfl) ?_
  refine AQ.step rfl rfl rfl (sp_move rfl iL) ?_
  refine AQ.step rfl rfl rfl (sp_move rfl iL) ?_
  refine AQ.step rfl rfl rfl (ms_len rfl tg_29.slice iL) ?_
  refine AQ.step rfl rfl rfl (sp_eql rfl iL iL) ?_
  refine AQ.step rfl rfl rfl (sp_move rfl iL) ?_
  refine AQ.stepW (.one rfl rfl rfl) rfl rfl (sp_move rfl iL) ?_
  refine AQ.stepW (.one rfl rfl rfl) rfl rfl (sp_move rfl iL) ?_
  refine AQ.stepW (.one rfl rfl rfl) rfl rfl (ms_len rfl tg_29.slice (iR rfl)) ?_
  refine AQ.stepW (.one rfl rfl rfl) rfl rfl (sp_lss rfl (iR rfl) (iR rfl)) ?_
  refine AQ.stepW (.one rfl rfl rfl) rfl rfl (sp_move rfl (iR rfl)) ?_
  refine AQ.stepW (.two rfl rfl rfl) rfl rfl (sp_move rfl iL) ?_
  refine AQ.stepW (.two rfl rfl rfl) rfl rfl (sp_move rfl iL) ?_
  refine ob1k h2 fun x1 ex1 h3 => ?_
  refine AQ.stepW (.two rfl rfl rfl) rfl rfl (ms_idx rfl tg_29.slice (iR rfl) (iR rfl) (fun _ => rfl) (gdt ex1)) ?_
  refine AQ.stepW (.two rfl rfl rfl) rfl rfl (sp_fieldAddr_ro rfl tf_92_0 (iR rfl)) ?_
  refine AQ.stepW (.two rfl rfl rfl) rfl rfl (ms_load (d := .str x1.Name) rfl ts_9 (iR rfl) rfl) ?_
  refine AQ.stepW (.two rfl rfl rfl) rfl rfl (sp_move rfl iL) ?_
  refine AQ.stepW (.two rfl rfl rfl) rfl rfl (sp_move rfl iL) ?_
  refine ob1k h3 fun x2 ex2 h4 => ?_
  refine AQ.stepW (.two rfl rfl rfl) rfl rfl (ms_idx rfl tg_29.slice (iR rfl) (iR rfl) (fun _ => rfl) (gdt ex2)) ?_
  refine AQ.stepW (.two rfl rfl rfl) rfl rfl (sp_fieldAddr_ro rfl tf_92_0 (iR rfl)) ?_
  refine AQ.stepW (.two rfl rfl rfl) rfl rfl (ms_load (d := .str x2.Name) rfl ts_9 (iR rfl) rfl) ?_
  refine AQ.stepW (.two rfl rfl rfl) rfl rfl (sp_slss rfl (iR rfl) (iR rfl)) ?_
  refine AQ.stepW (.one rfl rfl rfl) rfl rfl (sp_and rfl (iR rfl) (iR rfl)) ?_
  refine AQ.step rfl rfl rfl (sp_or rfl iL (iR rfl)) ?_
  refine AQ.step rfl rfl rfl (sp_assign rfl iL) ?_
  refine AQ.nil ?_
  refine hK4 _ ?_
  refine AW.cond rfl (fun hc2 => ?_) (fun hc2 => ?_)
  ·have h5 := ite_t hc2 h4
   refine AW.seq_w fun K5 hK5 wK5 => ?_
   refine AW.weak (s' := ⟨[(0, .r (.sl (a1.map GAttr.row))), (1, .r (.sl (b1.map GAttr.row))), (2, .fn 102 [.ptr 1000 gb1000 0 0]), (6, .r (.int .i64 i4)), (7, .r (.int .i64 j2))], [(1000, some (.box gb1000 29 [.own 1001 (i5 0)])), (1001, some (.arr (i5 0) 92 2 (o2.map GAttr.row)))], (i5 1), 92⟩) (by exact Weak.cv ⟨jL, jL, jL, jL, jL, trivial⟩ ⟨.inl rfl, .inl rfl, trivial⟩ nL) ?_
   refine AW.region ?_
   refine sM rfl rfl ?_
   refine sM rfl rfl ?_
   refine sM rfl rfl ?_
   refine ob1k h5 fun x3 ex3 h6 => ?_
   refine sQ rfl (ms_idx rfl tg_29.slice iL iL (fun _ => rfl) (fun _ => ex3)) ?_
   refine sQ rfl (ms_loadA (cs := [.r (.str x3.Name), .r (.str x3.Value)]) rfl ta_92 iL rfl rfl) ?_
   refine sQ rfl (sp_build rfl tb_92 (q := []) (by exact trivial) (cs := [.r (.str []), .r (.str [])]) (by rfl)) ?_
   refine ob1k h6 fun w1 ew1 h7 => ?_
   refine AOps.stepHI [1000, 1001] (hc := [(1000, some (.box gb1000 29 [.own 1001 (i5 0)])), (1001, some (.arr (i5 0) 92 2 (o2.map GAttr.row)))]) (bs := [.agg [.r (.str x3.Name), .r (.str x3.Value)], .agg [.r (.str []), .r (.str [])]]) (caps := [.ptr 1000 gb1000 0 0]) rfl rfl rfl rfl iL rfl ⟨.inl ⟨iL, rfl⟩, .inl ⟨iL, rfl⟩, trivial⟩ ⟨rfl, rfl, rfl, rfl, rfl, rfl, trivial⟩ (by decide) (w_attr_Change_f1 ew1) ?_
   intro i8 n1
   refine AOps.weak (s' := ⟨[(0, .r (.sl (a1.map GAttr.row))), (1, .r (.sl (b1.map GAttr.row))), (2, .fn 102 [.ptr 1000 gb1000 0 0]), (6, .r (.int .i64 i4)), (7, .r (.int .i64 j2)), (56, .fn 102 [.ptr 1000 gb1000 0 0]), (57, .r (.sl (a1.map GAttr.row))), (58, .r (.int .i64 i4)), (59, .rop (GAttr.row x3) 0), (60, .agg [.r (.str x3.Name), .r (.str x3.Value)]), (61, .agg [.r (.str []), .r (.str [])]), (62, .tup [])], [(1000, some (.box gb1000 29 [.own 1001 (i8 0)])), (1001, some (.arr (i8 0) 92 2 (w1.map GAttr.row)))], n1, 92⟩) (by exact Weak.cv ⟨jL, jL, jL, jL, jL, jL, jL, jL, jL, jL, jL, jL, trivial⟩ ⟨.inl rfl, .inl rfl, trivial⟩ nL) ?_
   refine AOps.nil (hK5 _ ?_)
   refine AW.region ?_
   refine sM rfl rfl ?_
   refine ob1k h7 fun i9 ei9 h8 => ?_
   refine sQ rfl (ms_add rfl iL iL (fun _ => ei9)) ?_
   refine sQ rfl (sp_assign rfl iL) ?_
   refine AOps.nil ?_
   exact NextQ3.mk h8 (vec [(i8 0), n1]) ((by exact Weak.cv ⟨jL, jL, jL, jL, jL, trivial⟩ ⟨.inl rfl, .inl rfl, trivial⟩ nL))
  ·have h5 := ite_f hc2 h4
   refine AW.seq_w fun K6 hK6 wK6 => ?_
   refine AW.weak (s' := ⟨[(0, .r (.sl (a1.map GAttr.row))), (1, .r (.sl (b1.map GAttr.row))), (2, .fn 102 [.ptr 1000 gb1000 0 0]), (6, .r (.int .i64 i4)), (7, .r (.int .i64 j2))], [(1000, some (.box gb1000 29 [.own 1001 (i5 0)])), (1001, some (.arr (i5 0) 92 2 (o2.map GAttr.row)))], (i5 1), 92⟩) (by exact Weak.cv ⟨jL, jL, jL, jL, jL, trivial⟩ ⟨.inl rfl, .inl rfl, trivial⟩ nL) ?_
   refine AW.regionQ hmix (by kernel_rfl) ?_
   refine AQ.step rfl rfl rfl (sp_move rfl iL) ?_
   refine AQ.step rfl rfl rfl (sp_move rfl iL) ?_
   refine AQ.step rfl rfl rfl (ms_len rfl tg_29.slice iL) ?_
   refine AQ.step rfl rfl rfl (sp_eql rfl iL iL) ?_
   refine AQ.step rfl rfl rfl (sp_move rfl iL) ?_
   refine AQ.stepW (.one rfl rfl rfl) rfl rfl (sp_move rfl iL) ?_
   refine AQ.stepW (.one rfl rfl rfl) rfl rfl (sp_move rfl iL) ?_
   refine ob1k h5 fun x4 ex4 h9 => ?_
   refine AQ.stepW (.one rfl rfl rfl) rfl rfl (ms_idx rfl tg_29.slice (iR rfl) (iR rfl) (fun _ => rfl) (gdt ex4)) ?_
   refine AQ.stepW (.one rfl rfl rfl) rfl rfl (sp_fieldAddr_ro rfl tf_92_0 (iR rfl)) ?_
   refine AQ.stepW (.one rfl rfl rfl) rfl rfl (ms_load (d := .str x4.Name) rfl ts_9 (iR rfl) rfl) ?_
   refine AQ.stepW (.one rfl rfl rfl) rfl rfl (sp_move rfl iL) ?_
   refine AQ.stepW (.one rfl rfl rfl) rfl rfl (sp_move rfl iL) ?_
   refine ob1k h9 fun x5 ex5 h10 => ?_
   refine AQ.stepW (.one rfl rfl rfl) rfl rfl (ms_idx rfl tg_29.slice (iR rfl) (iR rfl) (fun _ => rfl) (gdt ex5)) ?_
   refine AQ.stepW (.one rfl rfl rfl) rfl rfl (sp_fieldAddr_ro rfl tf_92_0 (iR rfl)) ?_
   refine AQ.stepW (.one rfl rfl rfl) rfl rfl (ms_load (d := .str x5.Name) rfl ts_9 (iR rfl) rfl) ?_
   refine AQ.stepW (.one rfl rfl rfl) rfl rfl (sp_slss rfl (iR rfl) (iR rfl)) ?_
   refine AQ.step rfl rfl rfl (sp_or rfl iL (iR rfl)) ?_
   refine AQ.step rfl rfl rfl (sp_assign rfl iL) ?_
   refine AQ.nil ?_
   refine hK6 _ ?_
   refine AW.cond rfl (fun hc3 => ?_) (fun hc3 => ?_)
   ·have h11 := ite_t hc3 h10
    refine AW.seq_w fun K7 hK7 wK7 => ?_
    refine AW.region ?_
    refine sM rfl rfl ?_
    refine sQ rfl (sp_build rfl tb_92 (q := []) (by exact trivial) (cs := [.r (.str []), .r (.str [])]) (by rfl)) ?_
    refine sM rfl rfl ?_
    refine sM rfl rfl ?_
    refine ob1k h11 fun x6 ex6 h12 => ?_
    refine sQ rfl (ms_idx rfl tg_29.slice iL iL (fun _ => rfl) (fun _ => ex6)) ?_
    refine sQ rfl (ms_loadA (cs := [.r (.str x6.Name), .r (.str x6.Value)]) rfl ta_92 iL rfl rfl) ?_
    refine ob1k h12 fun w2 ew2 h13 => ?_
    refine AOps.stepHI [1000, 1001] (hc := [(1000, some (.box gb1000 29 [.own 1001 (i5 0)])), (1001, some (.arr (i5 0) 92 2 (o2.map GAttr.row)))]) (bs := [.agg [.r (.str []), .r (.str [])], .agg [.r (.str x6.Name), .r (.str x6.Value)]]) (caps := [.ptr 1000 gb1000 0 0]) rfl rfl rfl rfl iL rfl ⟨.inl ⟨iL, rfl⟩, .inl ⟨iL, rfl⟩, trivial⟩ ⟨rfl, rfl, rfl, rfl, rfl, rfl, trivial⟩ (by decide) (w_attr_Change_f1 ew2) ?_
    intro i10 n2
    refine AOps.weak (s' := ⟨[(0, .r (.sl (a1.map GAttr.row))), (1, .r (.sl (b1.map GAttr.row))), (2, .fn 102 [.ptr 1000 gb1000 0 0]), (6, .r (.int .i64 i4)), (7, .r (.int .i64 j2)), (65, .r (.bool ((decide (i4 = (a1.length : Int))) || (sLt x4.Name x5.Name)))), (66, .r (.int .i64 i4)), (67, .r (.sl (a1.map GAttr.row))), (68, .r (.int .i64 (a1.length : Int))), (69, .r (.bool (decide (i4 = (a1.length : Int))))), (70, .r (.bool (decide (i4 = (a1.length : Int))))), (82, .r (.bool ((decide (i4 = (a1.length : Int))) || (sLt x4.Name x5.Name)))), (83, .fn 102 [.ptr 1000 gb1000 0 0]), (84, .agg [.r (.str []), .r (.str [])]), (85, .r (.sl (b1.map GAttr.row))), (86, .r (.int .i64 j2)), (87, .rop (GAttr.row x6) 0), (88, .agg [.r (.str x6.Name), .r (.str x6.Value)]), (89, .tup [])], [(1000, some (.box gb1000 29 [.own 1001 (i10 0)])), (1001, some (.arr (i10 0) 92 2 (w2.map GAttr.row)))], n2, 92⟩) (by exact Weak.cv ⟨jL, jL, jL, jL, jL, jL, jL, jL, jL, jL, jL, jL, jL, jL, jL, jL, jL, jL, jL, trivial⟩ ⟨.inl rfl, .inl rfl, trivial⟩ nL) ?_
    refine AOps.nil (hK7 _ ?_)
    refine AW.weak (s' := ⟨[(0, .r (.sl (a1.map GAttr.row))), (1, .r (.sl (b1.map GAttr.row))), (2, .fn 102 [.ptr 1000 gb1000 0 0]), (6, .r (.int .i64 i4)), (7, .r (.int .i64 j2))], [(1000, some (.box gb1000 29 [.own 1001 (i10 0)])), (1001, some (.arr (i10 0) 92 2 (w2.map GAttr.row)))], n2, 92⟩) (by exact Weak.cv ⟨jL, jL, jL, jL, jL, trivial⟩ ⟨.inl rfl, .inl rfl, trivial⟩ nL) ?_
    refine AW.region ?_
    refine sM rfl rfl ?_
    refine ob1k h13 fun j4 ej4 h14 => ?_
    refine sQ rfl (ms_add rfl iL iL (fun _ => ej4)) ?_
    refine sQ rfl (sp_assign rfl iL) ?_
    refine AOps.nil ?_
    exact NextQ3.mk h14 (vec [(i10 0), n2]) ((by exact Weak.cv ⟨jL, jL, jL, jL, jL, trivial⟩ ⟨.inl rfl, .inl rfl, trivial⟩ nL))
   ·have h11 := ite_f hc3 h10
    refine AW.seq_w fun K8 hK8 wK8 => ?_
    refine AW.regionT 9 hmix (by kernel_rfl) rfl rfl ?_
    refine AT.step rfl rfl rfl (sp_move rfl iL) ?_
    refine AT.step rfl rfl rfl (sp_move rfl iL) ?_
    refine AT.step rfl rfl rfl (sp_move rfl iL) ?_
    refine ob1k h11 fun x7 ex7 h15 => ?_
    refine AT.step rfl rfl rfl (ms_idx rfl tg_29.slice iL iL (fun _ => rfl) (fun _ => ex7)) ?_
    refine AT.step rfl rfl rfl (ms_loadA (cs := [.r (.str x7.Name), .r (.str x7.Value)]) rfl ta_92 iL rfl rfl) ?_
    refine AT.step rfl rfl rfl (sp_move rfl iL) ?_
    refine AT.step rfl rfl rfl (sp_move rfl iL) ?_
    refine ob1k h15 fun x8 ex8 h16 => ?_
    refine AT.step rfl rfl rfl (ms_idx rfl tg_29.slice iL iL (fun _ => rfl) (fun _ => ex8)) ?_
    refine AT.step rfl rfl rfl (ms_loadA (cs := [.r (.str x8.Name), .r (.str x8.Value)]) rfl ta_92 iL rfl rfl) ?_
    refine AT.nil ?_
    refine ob1k h16 fun w3 ew3 h17 => ?_
    refine AOps.stepHI [1000, 1001] (hc := [(1000, some (.box gb1000 29 [.own 1001 (i5 0)])), (1001, some (.arr (i5 0) 92 2 (o2.map GAttr.row)))]) (bs := [.agg [.r (.str x7.Name), .r (.str x7.Value)], .agg [.r (.str x8.Name), .r (.str x8.Value)]]) (caps := [.ptr 1000 gb1000 0 0]) rfl rfl rfl rfl iL rfl ⟨.inl ⟨iL, rfl⟩, .inl ⟨iL, rfl⟩, trivial⟩ ⟨rfl, rfl, rfl, rfl, rfl, rfl, trivial⟩ (by decide) (w_attr_Change_f1 ew3) ?_
    intro i11 n3
    refine AOps.weak (s' := ⟨[(0, .r (.sl (a1.map GAttr.row))), (1, .r (.sl (b1.map GAttr.row))), (2, .fn 102 [.ptr 1000 gb1000 0 0]), (6, .r (.int .i64 i4)), (7, .r (.int .i64 j2)), (18, .fn 102 [.ptr 1000 gb1000 0 0]), (19, .r (.sl (a1.map GAttr.row))), (20, .r (.int .i64 i4)), (21, .rop (GAttr.row x7) 0), (22, .agg [.r (.str x7.Name), .r (.str x7.Value)]), (23, .r (.sl (b1.map GAttr.row))), (24, .r (.int .i64 j2)), (25, .rop (GAttr.row x8) 0), (26, .agg [.r (.str x8.Name), .r (.str x8.Value)]), (27, .tup []), (65, .r (.bool ((decide (i4 = (a1.length : Int))) || (sLt x4.Name x5.Name)))), (66, .r (.int .i64 i4)), (67, .r (.sl (a1.map GAttr.row))), (68, .r (.int .i64 (a1.length : Int))), (69, .r (.bool (decide (i4 = (a1.length : Int))))), (70, .r (.bool (decide (i4 = (a1.length : Int))))), (82, .r (.bool ((decide (i4 = (a1.length : Int))) || (sLt x4.Name x5.Name))))], [(1000, some (.box gb1000 29 [.own 1001 (i11 0)])), (1001, some (.arr (i11 0) 92 2 (w3.map GAttr.row)))], n3, 92⟩) (by exact Weak.cv ⟨jL, jL, jL, jL, jL, jL, jL, jL, jL, jL, jL, jL, jL, jL, jL, jL, jL, jL, jL, jL, jL, jL, trivial⟩ ⟨.inl rfl, .inl rfl, trivial⟩ nL) ?_
    refine AOps.nil (hK8 _ ?_)
    refine AW.weak (s' := ⟨[(0, .r (.sl (a1.map GAttr.row))), (1, .r (.sl (b1.map GAttr.row))), (2, .fn 102 [.ptr 1000 gb1000 0 0]), (6, .r (.int .i64 i4)), (7, .r (.int .i64 j2))], [(1000, some (.box gb1000 29 [.own 1001 (i11 0)])), (1001, some (.arr (i11 0) 92 2 (w3.map GAttr.row)))], n3, 92⟩) (by exact Weak.cv ⟨jL, jL, jL, jL, jL, trivial⟩ ⟨.inl rfl, .inl rfl, trivial⟩ nL) ?_
    refine AW.region ?_
    refine sM rfl rfl ?_
    refine ob1k h17 fun i12 ei12 h18 => ?_
    refine sQ rfl (ms_add rfl iL iL (fun _ => ei12)) ?_
    refine sM rfl rfl ?_
    refine ob1k h18 fun j5 ej5 h19 => ?_
    refine sQ rfl (ms_add rfl iL iL (fun _ => ej5)) ?_
    refine sQ rfl (sp_assign rfl iL) ?_
    refine sQ rfl (sp_assign rfl iL) ?_
    refine AOps.nil ?_
    exact NextQ3.mk h19 (vec [(i11 0), n3]) ((by exact Weak.cv ⟨jL, jL, jL, jL, jL, trivial⟩ ⟨.inl rfl, .inl rfl, trivial⟩ nL))
 ·have h2 := ite_f hc1 h1
  refine AW.exit ?_
  exact RetW.mk (s' := ⟨[], [(1000, some (.box gb1000 29 [.own 1001 (i5 0)])), (1001, some (.arr (i5 0) 92 2 (o2.map GAttr.row)))], (i5 1), 92⟩) ((by exact Weak.cv trivial ⟨.inl rfl, .inl rfl, trivial⟩ nL)) (reth_cast (fun (r : (List GAttr)) rr h' => ∃ (i : Nat → Nat), rr = .tup [] ∧ h' = [(1000, some (.box gb1000 29 [.own 1001 (i 0)])), (1001, some (.arr (i 0) 92 2 (r.map GAttr.row)))]) (he1 _ (hx1 _ (Option.some.inj h2).symm)) (by exact ⟨.tup [], [(1000, some (.box gb1000 29 [.own 1001 (i5 0)])), (1001, some (.arr (i5 0) 92 2 (o2.map GAttr.row)))], ⟨_, rfl, trivial⟩, ⟨.inr rfl, .inr rfl, trivial⟩, rfl, rfl, vec [(i5 0)], rfl, rfl⟩))
set_option maxHeartbeats 4000000 in
set_option maxRecDepth 20000 in
theorem w_attr_Change {a1 : List GAttr} {b1 : List GAttr} {r : (List GAttr)} (h : attr_Change a1 b1 = some r) : ARO Try.prog 74 [.r (.sl (a1.map GAttr.row)), .r (.sl (b1.map GAttr.row))] (.r (.sl (r.map GAttr.row))) := by
 unfold attr_Change at h
 refine ARO.mkF Try.func74 rfl rfl Try.ntmps74 rfl (Nat.le_of_ble_eq_true rfl) fun n0 => ?_
 refine AW.seq_w fun K1 hK1 wK1 => ?_
 refine AW.region ?_
 refine sQ rfl (sp_assign rfl iL) ?_
 refine AOps.nil (hK1 _ ?_)
 refine AW.seq_w fun K2 hK2 wK2 => ?_
 refine AW.region ?_
 refine AOps.step rfl rfl rfl (ms_alloc (cs := [.cst (.slice none 0 0)]) 5 rfl t0_29 rfl rfl) ?_
 refine AOps.nil (hK2 _ ?_)
 refine AW.seq_w fun K3 hK3 wK3 => ?_
 refine AW.region ?_
 refine sM rfl rfl ?_
 refine sM rfl rfl ?_
 refine sQ rfl (sp_makeFunc (bs := [.ptr 5 n0 0 0]) rfl (by exact ⟨iL, trivial⟩)) ?_
 refine AOps.weak (Weak.trans (Weak.adoptBox 5 0 3050 92 2 (by decide) rfl rfl (by decide)) (by exact Weak.cv (e' := [(0, .r (.sl (a1.map GAttr.row))), (1, .r (.sl (b1.map GAttr.row))), (4, .cst (.slice none 0 0)), (5, .ptr 5 n0 0 0), (6, .r (.sl (a1.map GAttr.row))), (7, .r (.sl (b1.map GAttr.row))), (8, .fn 102 [.ptr 5 n0 0 0])]) (h' := [(5, some (.box n0 29 [.own 3050 (n0 + 1)])), (3050, some (.arr (n0 + 1) 92 2 (([] : List GAttr).map GAttr.row)))]) ⟨jL, jL, jL, jL, jL, jL, jL, trivial⟩ ⟨.inl rfl, .inl rfl, trivial⟩ nL)) ?_
 refine ob1k h fun w1 ew1 h1 => ?_
 refine AOps.stepHI [5, 3050] (hc := [(1000, some (.box n0 29 [.own 1001 (n0 + 1)])), (1001, some (.arr (n0 + 1) 92 2 (([] : List GAttr).map GAttr.row)))]) (bs := [.r (.sl (a1.map GAttr.row)), .r (.sl (b1.map GAttr.row)), .fn 102 [.ptr 1000 n0 0 0]]) (caps := []) rfl rfl rfl rfl iL rfl ⟨.inl ⟨iL, rfl⟩, .inl ⟨iL, rfl⟩, .inl ⟨iL, rfl⟩, trivial⟩ ⟨rfl, rfl, rfl, rfl, rfl, rfl, trivial⟩ (by decide) (w_attr_both__Change_f1 ew1) ?_
 intro i1 n1
 refine AOps.weak (s' := ⟨[(0, .r (.sl (a1.map GAttr.row))), (1, .r (.sl (b1.map GAttr.row))), (4, .cst (.slice none 0 0)), (5, .ptr 5 n0 0 0), (6, .r (.sl (a1.map GAttr.row))), (7, .r (.sl (b1.map GAttr.row))), (8, .fn 102 [.ptr 5 n0 0 0]), (9, .tup [])], [(5, some (.box n0 29 [.own 3050 (i1 0)])), (3050, some (.arr (i1 0) 92 2 (w1.map GAttr.row)))], n1, 11⟩) (by exact Weak.cv ⟨jL, jL, jL, jL, jL, jL, jL, jL, trivial⟩ ⟨.inl rfl, .inl rfl, trivial⟩ nL) ?_
 refine AOps.nil (hK3 _ ?_)
 refine AW.seq_w fun K4 hK4 wK4 => ?_
 refine AW.region ?_
 refine sQ rfl (ms_load_box (a := .own 3050 (i1 0)) rfl ts_29 iL rfl rfl) ?_
 refine sQ rfl (sp_assign rfl iL) ?_
 refine AOps.nil (hK4 _ ?_)
 refine AW.ret ?_
 exact retf1 (P := Try.prog) (fun (r : (List GAttr)) => .r (.sl (r.map GAttr.row))) h1 iL (.t (.one (.own rfl)))
set_option maxHeartbeats 4000000 in
set_option maxRecDepth 20000 in
theorem w_diff_alike {a1 : GElem} {b1 : GElem} {r : Bool} (h : diff_alike a1 b1 = some r) : ARO Try.prog 76 [.agg [.r (.int .i64 a1.Char), .r (.int .i64 a1.Ref), .r (.sl (a1.Attrs.map GAttr.row))], .agg [.r (.int .i64 b1.Char), .r (.int .i64 b1.Ref), .r (.sl (b1.Attrs.map GAttr.row))]] (.r (.bool r)) := by
 unfold diff_alike at h
 refine ARO.mkF Try.func76 rfl rfl Try.ntmps76 rfl (Nat.le_of_ble_eq_true rfl) fun n0 => ?_
 refine AW.seq_w fun K1 hK1 wK1 => ?_
 refine AW.region ?_
 refine AOps.step rfl rfl rfl (ms_box (cs := [.r (.int .i64 a1.Char), .r (.int .i64 a1.Ref), .r (.sl (a1.Attrs.map GAttr.row))]) 2 rfl iL rfl rfl) ?_
 refine AOps.step rfl rfl rfl (ms_box (cs := [.r (.int .i64 b1.Char), .r (.int .i64 b1.Ref), .r (.sl (b1.Attrs.map GAttr.row))]) 3 rfl iL rfl rfl) ?_
 refine sQ rfl (sp_assign rfl iL) ?_
 refine AOps.nil (hK1 _ ?_)
 refine AW.seq_w fun K2 hK2 wK2 => ?_
 refine AW.region ?_
 refine sQ rfl (sp_fieldAddr_own (ob := .box _ _ _) rfl tf_82_0 iL fR rfl) ?_
 refine sQ rfl (ms_load_box (a := .r (.int .i64 a1.Char)) rfl ts_3 iL rfl rfl) ?_
 refine sQ rfl (sp_fieldAddr_own (ob := .box _ _ _) rfl tf_82_0 iL fR rfl) ?_
 refine sQ rfl (ms_load_box (a := .r (.int .i64 b1.Char)) rfl ts_3 iL rfl rfl) ?_
 refine sQ rfl (sp_eql rfl iL iL) ?_
 refine sM rfl rfl ?_
 refine sV rfl rfl rfl (sp_fieldAddr_own (ob := .box _ _ _) rfl tf_82_1 iL fR rfl) ?_
 refine sV rfl rfl rfl (ms_load_box (a := .r (.int .i64 a1.Ref)) rfl ts_3 (iR rfl) rfl rfl) ?_
 refine sV rfl rfl rfl (sp_fieldAddr_own (ob := .box _ _ _) rfl tf_82_1 iL fR rfl) ?_
 refine sV rfl rfl rfl (ms_load_box (a := .r (.int .i64 b1.Ref)) rfl ts_3 (iR rfl) rfl rfl) ?_
 refine sV rfl rfl rfl (sp_eql rfl (iR rfl) (iR rfl)) ?_
 refine sQ rfl (sp_and rfl iL (iR rfl)) ?_
 refine sQ rfl (sp_assign rfl iL) ?_
 refine AOps.nil (hK2 _ ?_)
 refine AW.ret ?_
 exact retf1 (P := Try.prog) (fun (r : Bool) => .r (.bool r)) h iL (.t (.d rfl))
set_option maxHeartbeats 4000000 in
set_option maxRecDepth 20000 in
theorem w_attr_Same {a1 : List GAttr} {b1 : List GAttr} {r : Bool} (h : attr_Same a1 b1 = some r) : ARO Try.prog 70 [.r (.sl (a1.map GAttr.row)), .r (.sl (b1.map GAttr.row))] (.r (.bool r)) := by
 unfold attr_Same at h
 refine ARO.mkF Try.func70 rfl rfl Try.ntmps70 rfl (Nat.le_of_ble_eq_true rfl) fun n0 => ?_
 refine AW.seq_w fun K1 hK1 wK1 => ?_
 refine AW.region ?_
 refine sQ rfl (sp_assign rfl iL) ?_
 refine AOps.nil (hK1 _ ?_)
 refine AW.seq_w fun K2 hK2 wK2 => ?_
 refine AW.seq_w fun K3 hK3 wK3 => ?_
 refine AW.region ?_
 refine sM rfl rfl ?_
 refine sQ rfl (ms_len rfl tg_29.slice iL) ?_
 refine sM rfl rfl ?_
 refine sQ rfl (ms_len rfl tg_29.slice iL) ?_
 refine sQ rfl (sp_neq rfl iL iL) ?_
 refine AOps.nil (hK3 _ ?_)
 refine AW.cond rfl (fun hc1 => ?_) (fun hc1 => ?_)
 ·have h1 := ite_t hc1 h
  refine AW.seq_w fun K4 hK4 wK4 => ?_
  refine AW.region ?_
  refine sQ rfl (sp_assign rfl iL) ?_
  refine AOps.nil (hK4 _ ?_)
  refine AW.ret ?_
  exact retf1 (P := Try.prog) (fun (r : Bool) => .r (.bool r)) h1 iL (.t (.d rfl))
 ·have h1 := ite_f hc1 h
  refine AW.skip ?_
  refine hK2 _ ?_
  refine AW.seq_w fun K5 hK5 wK5 => ?_
  refine AW.seq_w fun K6 hK6 wK6 => ?_
  refine AW.region ?_
  refine sM rfl rfl ?_
  refine sQ rfl (ms_len rfl tg_29.slice iL) ?_
  refine sM rfl rfl ?_
  refine AOps.nil (hK6 _ ?_)
  refine AW.block ?_
  refine jc1k h1 fun o1 hit1 hk1 he1 => ?_
  have J1 : ∀ (u2 : Unit) (i5 : Nat → Nat), o1 = .nrm u2 → K5 ⟨[], [], (i5 0), 26⟩ := by
   intro u2 i5 e
   have h2 := hk1 _ e
   refine hK5 _ ?_
   refine AW.seq_w fun K7 hK7 wK7 => ?_
   refine AW.region ?_
   refine sQ rfl (sp_assign rfl iL) ?_
   refine AOps.nil (hK7 _ ?_)
   refine AW.ret ?_
   exact retf1 (P := Try.prog) (fun (r : Bool) => .r (.bool r)) h2 iL (.t (.d rfl))
  refine AW.iter1 (fun (x2 : Int) i3 => ⟨[(0, .r (.sl (a1.map GAttr.row))), (1, .r (.sl (b1.map GAttr.row))), (12, .r (.int .i64 (a1.length : Int))), (13, .r (.int .i64 x2))], [], (i3 0), 26⟩) (vec [n0]) hit1 ((by exact Weak.cv ⟨jL, jL, jL, jL, trivial⟩ trivial nL)) ?_
  intro x2 i3 v1 hv1 hx1
  have h3 : attr_Same_L1 a1 b1 x2 = some v1 := hv1; unfold attr_Same_L1 at h3
  refine AW.seq_w fun K8 hK8 wK8 => ?_
  refine AW.region ?_
  refine sQ rfl (sp_lss rfl iL iL) ?_
  refine AOps.nil (hK8 _ ?_)
  refine AW.seq_w fun K9 hK9 wK9 => ?_
  refine AW.cond rfl (fun hc2 => ?_) (fun hc2 => ?_)
  ·have h4 := ite_t hc2 h3
   refine AW.skip ?_
   refine hK9 _ ?_
   refine AW.seq_w fun K10 hK10 wK10 => ?_
   refine AW.block ?_
   refine AW.seq_w fun K11 hK11 wK11 => ?_
   refine AW.region ?_
   refine sM rfl rfl ?_
   refine sQ rfl (sp_assign rfl iL) ?_
   refine AOps.nil (hK11 _ ?_)
   refine AW.seq_w fun K12 hK12 wK12 => ?_
   refine AW.regionQ hmix (by kernel_rfl) ?_
   refine AQ.step rfl rfl rfl (sp_move rfl iL) ?_
   refine AQ.step rfl rfl rfl (sp_move rfl iL) ?_
   refine ob1k h4 fun x4 ex4 h5 => ?_
   refine AQ.step rfl rfl rfl (ms_idx rfl tg_29.slice iL iL (fun _ => rfl) (fun _ => ex4)) ?_
   refine AQ.step rfl rfl rfl (ms_loadA (cs := [.r (.str x4.Name), .r (.str x4.Value)]) rfl ta_92 iL rfl rfl) ?_
   refine AQ.step rfl rfl rfl (sp_move rfl iL) ?_
   refine AQ.step rfl rfl rfl (sp_move rfl iL) ?_
   refine ob1k h5 fun x5 ex5 h6 => ?_
   refine AQ.step rfl rfl rfl (ms_idx rfl tg_29.slice iL iL (fun _ => rfl) (fun _ => ex5)) ?_
   refine AQ.step rfl rfl rfl (ms_loadA (cs := [.r (.str x5.Name), .r (.str x5.Value)]) rfl ta_92 iL rfl rfl) ?_
   refine AQ.step rfl rfl rfl (sp_aggneq rfl te_92 iL iL rfl) ?_
   refine AQ.nil ?_
   refine hK12 _ ?_
   refine AW.cond rfl (fun hc3 => ?_) (fun hc3 => ?_)
   ·have h7 := ite_t hc3 h6
    refine AW.seq_w fun K13 hK13 wK13 => ?_
    refine AW.weak (s' := ⟨[], [], (i3 0), 26⟩) (by exact Weak.cv trivial trivial nL) ?_
    refine AW.region ?_
    refine sQ rfl (sp_assign rfl iL) ?_
    refine AOps.nil (hK13 _ ?_)
    refine AW.ret ?_
    exact retf1 (P := Try.prog) (fun (r : Bool) => .r (.bool r)) (he1 _ (hx1 _ (Option.some.inj h7).symm)) iL (.t (.d rfl))
   ·have h7 := ite_f hc3 h6
    refine AW.skip ?_
    refine hK10 _ ?_
    refine AW.weak (s' := ⟨[(0, .r (.sl (a1.map GAttr.row))), (1, .r (.sl (b1.map GAttr.row))), (12, .r (.int .i64 (a1.length : Int))), (13, .r (.int .i64 x2))], [], (i3 0), 26⟩) (by exact Weak.cv ⟨jL, jL, jL, jL, trivial⟩ trivial nL) ?_
    refine AW.region ?_
    refine ob1k h7 fun x6 ex6 h8 => ?_
    refine sQ rfl (ms_add rfl iL iL (fun _ => ex6)) ?_
    refine sM rfl rfl ?_
    refine AOps.nil ?_
    exact NextQ1.mk h8 (vec [(i3 0)]) ((by exact Weak.cv ⟨jL, jL, jL, jL, trivial⟩ trivial nL))
  ·have h4 := ite_f hc2 h3
   refine AW.exit ?_
   exact wK5 _ _ ((by exact Weak.cv trivial trivial nL)) (J1 _ (vec [(i3 0)]) (hx1 _ (Option.some.inj h4).symm))
set_option maxHeartbeats 4000000 in
set_option maxRecDepth 20000 in
theorem w_diff_price {a1 : GElem} {b1 : GElem} {r : Int} (h : diff_price a1 b1 = some r) : ARO Try.prog 77 [.agg [.r (.int .i64 a1.Char), .r (.int .i64 a1.Ref), .r (.sl (a1.Attrs.map GAttr.row))], .agg [.r (.int .i64 b1.Char), .r (.int .i64 b1.Ref), .r (.sl (b1.Attrs.map GAttr.row))]] (.r (.int .i64 r)) := by
 unfold diff_price at h
 refine ARO.mkF Try.func77 rfl rfl Try.ntmps77 rfl (Nat.le_of_ble_eq_true rfl) fun n0 => ?_
 refine AW.seq_w fun K1 hK1 wK1 => ?_
 refine AW.region ?_
 refine AOps.step rfl rfl rfl (ms_box (cs := [.r (.int .i64 a1.Char), .r (.int .i64 a1.Ref), .r (.sl (a1.Attrs.map GAttr.row))]) 2 rfl iL rfl rfl) ?_
 refine AOps.step rfl rfl rfl (ms_box (cs := [.r (.int .i64 b1.Char), .r (.int .i64 b1.Ref), .r (.sl (b1.Attrs.map GAttr.row))]) 3 rfl iL rfl rfl) ?_
 refine sQ rfl (sp_assign rfl iL) ?_
 refine AOps.nil (hK1 _ ?_)
 refine AW.seq_w fun K2 hK2 wK2 => ?_
 refine AW.seq_w fun K3 hK3 wK3 => ?_
 refine AW.region ?_
 refine sQ rfl (sp_fieldAddr_own (ob := .box _ _ _) rfl tf_82_2 iL fR rfl) ?_
 refine sQ rfl (ms_load_box (a := .r (.sl (a1.Attrs.map GAttr.row))) rfl ts_29 iL rfl rfl) ?_
 refine sQ rfl (sp_fieldAddr_own (ob := .box _ _ _) rfl tf_82_2 iL fR rfl) ?_
 refine sQ rfl (ms_load_box (a := .r (.sl (b1.Attrs.map GAttr.row))) rfl ts_29 iL rfl rfl) ?_
 refine ob1k h fun r1 er1 h1 => ?_
 refine AOps.step rfl rfl rfl (sp_call (r := .r (.bool r1)) (caps := []) (bs := [.r (.sl (a1.Attrs.map GAttr.row)), .r (.sl (b1.Attrs.map GAttr.row))]) rfl iL rfl ⟨⟨_, iL, .d rfl⟩, ⟨_, iL, .d rfl⟩, trivial⟩ (fun _ => w_attr_Same (er1)) rfl) ?_
 refine AOps.nil (hK3 _ ?_)
 refine AW.cond rfl (fun hc1 => ?_) (fun hc1 => ?_)
 ·have h2 := ite_t hc1 h1
  refine AW.seq_w fun K4 hK4 wK4 => ?_
  refine AW.weak (s' := ⟨[], [], (n0 + 2), 10⟩) (by exact Weak.cv trivial trivial nL) ?_
  refine AW.region ?_
  refine sQ rfl (sp_assign rfl iL) ?_
  refine AOps.nil (hK4 _ ?_)
  refine AW.ret ?_
  exact retf1 (P := Try.prog) (fun (r : Int) => .r (.int .i64 r)) h2 iL (.t (.d rfl))
 ·have h2 := ite_f hc1 h1
  refine AW.skip ?_
  refine hK2 _ ?_
  refine AW.seq_w fun K5 hK5 wK5 => ?_
  refine AW.weak (s' := ⟨[], [], (n0 + 2), 10⟩) (by exact Weak.cv trivial trivial nL) ?_
  refine AW.region ?_
  refine sQ rfl (sp_assign rfl iL) ?_
  refine AOps.nil (hK5 _ ?_)
  refine AW.ret ?_
  exact retf1 (P := Try.prog) (fun (r : Int) => .r (.int .i64 r)) h2 iL (.t (.d rfl))
set_option maxHeartbeats 4000000 in
set_option maxRecDepth 20000 in
theorem w_diff_table {a1 : List GElem} {b1 : List GElem} {r : (List (List Int))} (h : diff_table a1 b1 = some r) : ARO Try.prog 75 [.r (.sl (a1.map GElem.row)), .r (.sl (b1.map GElem.row))] (.r (.sl (r.map (rSl (rInt .i64))))) := by
 unfold diff_table at h
 refine ARO.mkF Try.func75 rfl rfl Try.ntmps75 rfl (Nat.le_of_ble_eq_true rfl) fun n0 => ?_
 refine AW.seq_w fun K1 hK1 wK1 => ?_
 refine AW.region ?_
 refine sQ rfl (sp_assign rfl iL) ?_
 refine AOps.nil (hK1 _ ?_)
 refine AW.seq_w fun K2 hK2 wK2 => ?_
 refine AW.region ?_
 refine sM rfl rfl ?_
 refine sQ rfl (ms_len rfl tg_22.slice iL) ?_
 refine ob1k h fun x1 ex1 h1 => ?_
 refine sQ rfl (ms_add rfl iL iL (fun _ => ex1)) ?_
 refine ob1k h1 fun t1 et1 h2 => ?_
 refine AOps.step rfl rfl rfl (ms_mk 11 rfl tg_115 (f := (rSl (rInt .i64))) (z0 := []) tr_87 iL iL et1) ?_
 refine sQ rfl (sp_assign rfl iL) ?_
 refine AOps.nil (hK2 _ ?_)
 refine AW.seq_w fun K3 hK3 wK3 => ?_
 refine AW.seq_w fun K4 hK4 wK4 => ?_
 refine AW.region ?_
 refine sM rfl rfl ?_
 refine sQ rfl (ms_len rfl tg_22.slice iL) ?_
 refine sQ rfl (sp_assign rfl iL) ?_
 refine AOps.nil (hK4 _ ?_)
 refine AW.block ?_
 refine jb1k h2 fun o1 hit1 hk1 => ?_
 have J1 : ∀ (t5 : List (List Int)) (i8 : Nat → Nat), o1 = t5 → K3 ⟨[(5, .own 11 (i8 0))], [(11, some (.arr (i8 0) 87 1 (t5.map (rSl (rInt .i64)))))], (i8 1), 128⟩ := by
  intro t5 i8 e
  have h3 := hk1 _ e
  refine hK3 _ ?_
  refine AW.seq_w fun K5 hK5 wK5 => ?_
  refine AW.region ?_
  refine sM rfl rfl ?_
  refine sQ rfl (sp_assign rfl iL) ?_
  refine AOps.nil (hK5 _ ?_)
  refine AW.ret ?_
  exact retf1 (P := Try.prog) (fun (r : (List (List Int))) => .r (.sl (r.map (rSl (rInt .i64))))) h3 iL (.t (.one (.own rfl)))
 refine AW.iter2 (fun (i4 : Int) (t3 : List (List Int)) i5 => ⟨[(0, .r (.sl (a1.map GElem.row))), (1, .r (.sl (b1.map GElem.row))), (5, .own 11 (i5 0)), (6, .r (.int .i64 i4))], [(11, some (.arr (i5 0) 87 1 (t3.map (rSl (rInt .i64)))))], (i5 1), 128⟩) (vec [n0, (n0 + 1)]) hit1 ((by exact Weak.cv ⟨jL, jL, jL, jL, trivial⟩ ⟨.inl rfl, trivial⟩ nL)) ?_
 intro i4 t3 i5 v1 hv1 hx1
 have h4 : diff_table_L1 a1 b1 i4 t3 = some v1 := hv1; unfold diff_table_L1 at h4
 refine AW.seq_w fun K6 hK6 wK6 => ?_
 refine AW.seq_w fun K7 hK7 wK7 => ?_
 refine AW.region ?_
 refine sM rfl rfl ?_
 refine sQ rfl (sp_geq rfl iL iL) ?_
 refine AOps.nil (hK7 _ ?_)
 refine AW.cond rfl (fun hc1 => ?_) (fun hc1 => ?_)
 ·have h5 := ite_t hc1 h4
  refine AW.skip ?_
  refine hK6 _ ?_
  refine AW.seq_w fun K8 hK8 wK8 => ?_
  refine AW.block ?_
  refine AW.seq_w fun K9 hK9 wK9 => ?_
  refine AW.region ?_
  refine sM rfl rfl ?_
  refine sM rfl rfl ?_
  refine sM rfl rfl ?_
  refine sQ rfl (ms_len rfl tg_22.slice iL) ?_
  refine ob1k h5 fun x2 ex2 h6 => ?_
  refine sQ rfl (ms_add rfl iL iL (fun _ => ex2)) ?_
  refine ob1k h6 fun l1 el1 h7 => ?_
  refine AOps.step rfl rfl rfl (ms_mk 23 rfl tg_87 (f := (rInt .i64)) (z0 := 0) tr_3 iL iL el1) ?_
  refine ob1k h7 fun x3 ex3 h8 => ?_
  refine sQ rfl (ms_idx_own rfl tg_115.slice iL rfl iL (fun _ => ex3)) ?_
  refine AOps.step0 rfl rfl (ms_store_own rfl tz_87 iL rfl ex3 iL) ?_
  refine AOps.nil (hK9 _ ?_)
  refine AW.seq_w fun K10 hK10 wK10 => ?_
  refine AW.weak (s' := ⟨[(0, .r (.sl (a1.map GElem.row))), (1, .r (.sl (b1.map GElem.row))), (5, .own 11 (i5 0)), (6, .r (.int .i64 i4))], [(11, some (.hot (i5 0) 87 (t3.map (rSl (rInt .i64))) i4.toNat 23 (i5 1))), (23, some (.arr (i5 1) 3 1 (l1.map (rInt .i64))))], ((i5 1) + 1), 128⟩) (by exact Weak.cv ⟨jL, jL, jL, jL, trivial⟩ ⟨.inl rfl, .inl rfl, trivial⟩ nL) ?_
  refine AW.region ?_
  refine sM rfl rfl ?_
  refine sQ rfl (ms_len rfl tg_22.slice iL) ?_
  refine sQ rfl (sp_assign rfl iL) ?_
  refine AOps.nil (hK10 _ ?_)
  refine AW.block ?_
  refine jb1k h8 fun o6 hit2 hk2 => ?_
  have J2 : ∀ (o5 : List Int) (i13 : Nat → Nat), o6 = o5 → K8 ⟨[(0, .r (.sl (a1.map GElem.row))), (1, .r (.sl (b1.map GElem.row))), (5, .own 11 (i5 0)), (6, .r (.int .i64 i4))], [(11, some (.hot (i5 0) 87 (t3.map (rSl (rInt .i64))) i4.toNat 23 (i13 0))), (23, some (.arr (i13 0) 3 1 (o5.map (rInt .i64))))], (i13 1), 128⟩ := by
   intro o5 i13 e
   have h9 := hk2 _ e
   refine hK8 _ ?_
   refine AW.region ?_
   refine sM rfl rfl ?_
   refine ob1k h9 fun i14 ei14 h10 => ?_
   refine sQ rfl (ms_sub rfl iL iL (fun _ => ei14)) ?_
   refine sQ rfl (sp_assign rfl iL) ?_
   refine AOps.nil ?_
   exact NextQ2.mk h10 (vec [(i5 0), (i13 1)]) (Weak.trans (by exact Weak.frz (e' := [(0, .r (.sl (a1.map GElem.row))), (1, .r (.sl (b1.map GElem.row))), (5, .own 11 (i5 0)), (6, .r (.int .i64 i14)), (16, .r (.int .i64 i4)), (17, .r (.int .i64 i14))]) (h' := [(11, some (.arr (i5 0) 87 1 ((t3.set i4.toNat o5).map (rSl (rInt .i64)))))]) 23 rfl ⟨jL, jL, jL, jL, jL, jL, trivial⟩ ⟨rfl, .inr (.inr (.inr ⟨_, _, _, _, _, rfl, rfl, List.map_set⟩)), trivial⟩) (by exact Weak.cv ⟨jL, jL, jL, jL, trivial⟩ ⟨.inl rfl, trivial⟩ nL))
  refine AW.iter2 (fun (k2 : Int) (o3 : List Int) i11 => ⟨[(0, .r (.sl (a1.map GElem.row))), (1, .r (.sl (b1.map GElem.row))), (5, .own 11 (i5 0)), (6, .r (.int .i64 i4)), (7, .r (.int .i64 k2))], [(11, some (.hot (i5 0) 87 (t3.map (rSl (rInt .i64))) i4.toNat 23 (i11 0))), (23, some (.arr (i11 0) 3 1 (o3.map (rInt .i64))))], (i11 1), 128⟩) (vec [(i5 1), ((i5 1) + 1)]) hit2 ((by exact Weak.cv ⟨jL, jL, jL, jL, jL, trivial⟩ ⟨.inl rfl, .inl rfl, trivial⟩ nL)) ?_
  intro k2 o3 i11 v2 hv2 hx2
  have h11 : diff_table_L2 a1 b1 i4 t3 k2 o3 = some v2 := hv2; unfold diff_table_L2 at h11
  refine AW.seq_w fun K11 hK11 wK11 => ?_
  refine AW.seq_w fun K12 hK12 wK12 => ?_
  refine AW.region ?_
  refine sM rfl rfl ?_
  refine sQ rfl (sp_geq rfl iL iL) ?_
  refine AOps.nil (hK12 _ ?_)
  refine AW.cond rfl (fun hc2 => ?_) (fun hc2 => ?_)
  ·have h12 := ite_t hc2 h11
   refine AW.skip ?_
   refine hK11 _ ?_
   refine AW.seq_w fun K13 hK13 wK13 => ?_
   refine AW.block ?_
   refine jb1k h12 fun p1 hp1 hk3 => ?_
   have J3 : ∀ (o7 : List Int) (i15 : Nat → Nat), p1 = o7 → K13 ⟨[(0, .r (.sl (a1.map GElem.row))), (1, .r (.sl (b1.map GElem.row))), (5, .own 11 (i5 0)), (6, .r (.int .i64 i4)), (7, .r (.int .i64 k2))], [(11, some (.hot (i5 0) 87 (t3.map (rSl (rInt .i64))) i4.toNat 23 (i15 0))), (23, some (.arr (i15 0) 3 1 (o7.map (rInt .i64))))], (i15 1), 128⟩ := by
    intro o7 i15 e
    have h13 := hk3 _ e
    refine hK13 _ ?_
    refine AW.region ?_
    refine sM rfl rfl ?_
    refine ob1k h13 fun k4 ek4 h14 => ?_
    refine sQ rfl (ms_sub rfl iL iL (fun _ => ek4)) ?_
    refine sQ rfl (sp_assign rfl iL) ?_
    refine AOps.nil ?_
    exact NextQ2.mk h14 (vec [(i15 0), (i15 1)]) ((by exact Weak.cv ⟨jL, jL, jL, jL, jL, trivial⟩ ⟨.inl rfl, .inl rfl, trivial⟩ nL))
   refine AW.block ?_
   refine AW.seq_w fun K14 hK14 wK14 => ?_
   refine AW.region ?_
   refine sM rfl rfl ?_
   refine sM rfl rfl ?_
   refine sQ rfl (ms_len rfl tg_22.slice iL) ?_
   refine sQ rfl (sp_eql rfl iL iL) ?_
   refine sQ rfl (sp_assign rfl iL) ?_
   refine AOps.nil (hK14 _ ?_)
   refine AW.cond rfl (fun hc3 => ?_) (fun hc3 => ?_)
   ·have h15 := ite_t hc3 hp1
    refine AW.region ?_
    refine sM rfl rfl ?_
    refine sM rfl rfl ?_
    refine sQ rfl (ms_idx_hot rfl tg_115.slice iL rfl iL (fun _ => ex3)) ?_
    refine sQ rfl (ms_load_hot rfl ts_87 iL fR) ?_
    refine sM rfl rfl ?_
    refine sM rfl rfl ?_
    refine sQ rfl (ms_len rfl tg_22.slice iL) ?_
    refine sM rfl rfl ?_
    refine ob1k h15 fun x4 ex4 h16 => ?_
    refine sQ rfl (ms_sub rfl iL iL (fun _ => ex4)) ?_
    refine ob1k h16 fun x5 ex5 h17 => ?_
    refine sQ rfl (ms_idx_own rfl tg_87.slice iL rfl iL (fun _ => ex5)) ?_
    refine AOps.step0 rfl rfl (ms_store (v := x4) rfl tz_3 iL rfl ex5 iL rfl rfl rfl rfl) ?_
    refine AOps.nil ?_
    exact wK13 _ _ ((by exact Weak.cv ⟨jL, jL, jL, jL, jL, trivial⟩ ⟨.inl rfl, .inl rfl, trivial⟩ nL)) (J3 _ (vec [(i11 0), (i11 1)]) (Option.some.inj h17).symm)
   ·have h15 := ite_f hc3 hp1
    refine AW.seq_w fun K15 hK15 wK15 => ?_
    refine AW.region ?_
    refine sM rfl rfl ?_
    refine sM rfl rfl ?_
    refine sQ rfl (ms_len rfl tg_22.slice iL) ?_
    refine sQ rfl (sp_eql rfl iL iL) ?_
    refine sQ rfl (sp_assign rfl iL) ?_
    refine AOps.nil (hK15 _ ?_)
    refine AW.cond rfl (fun hc4 => ?_) (fun hc4 => ?_)
    ·have h18 := ite_t hc4 h15
     refine AW.weak (s' := ⟨[(0, .r (.sl (a1.map GElem.row))), (1, .r (.sl (b1.map GElem.row))), (5, .own 11 (i5 0)), (6, .r (.int .i64 i4)), (7, .r (.int .i64 k2))], [(11, some (.hot (i5 0) 87 (t3.map (rSl (rInt .i64))) i4.toNat 23 (i11 0))), (23, some (.arr (i11 0) 3 1 (o3.map (rInt .i64))))], (i11 1), 128⟩) (by exact Weak.cv ⟨jL, jL, jL, jL, jL, trivial⟩ ⟨.inl rfl, .inl rfl, trivial⟩ nL) ?_
     refine AW.region ?_
     refine sM rfl rfl ?_
     refine sM rfl rfl ?_
     refine sQ rfl (ms_idx_hot rfl tg_115.slice iL rfl iL (fun _ => ex3)) ?_
     refine sQ rfl (ms_load_hot rfl ts_87 iL fR) ?_
     refine sM rfl rfl ?_
     refine sM rfl rfl ?_
     refine sQ rfl (ms_len rfl tg_22.slice iL) ?_
     refine sM rfl rfl ?_
     refine ob1k h18 fun x6 ex6 h19 => ?_
     refine sQ rfl (ms_sub rfl iL iL (fun _ => ex6)) ?_
     refine ob1k h19 fun x7 ex7 h20 => ?_
     refine sQ rfl (ms_idx_own rfl tg_87.slice iL rfl iL (fun _ => ex7)) ?_
     refine AOps.step0 rfl rfl (ms_store (v := x6) rfl tz_3 iL rfl ex7 iL rfl rfl rfl rfl) ?_
     refine AOps.nil ?_
     exact wK13 _ _ ((by exact Weak.cv ⟨jL, jL, jL, jL, jL, trivial⟩ ⟨.inl rfl, .inl rfl, trivial⟩ nL)) (J3 _ (vec [(i11 0), (i11 1)]) (Option.some.inj h20).symm)
    ·have h18 := ite_f hc4 h15
     refine AW.seq_w fun K16 hK16 wK16 => ?_
     refine AW.weak (s' := ⟨[(0, .r (.sl (a1.map GElem.row))), (1, .r (.sl (b1.map GElem.row))), (5, .own 11 (i5 0)), (6, .r (.int .i64 i4)), (7, .r (.int .i64 k2))], [(11, some (.hot (i5 0) 87 (t3.map (rSl (rInt .i64))) i4.toNat 23 (i11 0))), (23, some (.arr (i11 0) 3 1 (o3.map (rInt .i64))))], (i11 1), 128⟩) (by exact Weak.cv ⟨jL, jL, jL, jL, jL, trivial⟩ ⟨.inl rfl, .inl rfl, trivial⟩ nL) ?_
     refine AW.regionT 24 hmix (by kernel_rfl) rfl rfl ?_
     refine AT.step rfl rfl rfl (sp_move rfl iL) ?_
     refine AT.step rfl rfl rfl (sp_move rfl iL) ?_
     refine AT.step rfl rfl rfl (ms_idx_hot rfl tg_115.slice iL rfl iL (fun _ => ex3)) ?_
     refine AT.step rfl rfl rfl (ms_load_hot rfl ts_87 iL fR) ?_
     refine AT.step rfl rfl rfl (sp_move rfl iL) ?_
     refine AT.step rfl rfl rfl (sp_move rfl iL) ?_
     refine AT.step rfl rfl rfl (sp_move rfl iL) ?_
     refine ob1k h18 fun x8 ex8 h21 => ?_
     refine AT.step rfl rfl rfl (ms_add rfl iL iL (fun _ => ex8)) ?_
     refine ob1k h21 fun x9 ex9 h22 => ?_
     refine AT.step rfl rfl rfl (ms_idx_hot rfl tg_115.slice iL rfl iL (fun _ => ex9)) ?_
     refine AT.step rfl rfl rfl (ms_load_hot_ne (d := .sl (x9.map (rInt .i64))) rfl ts_87 iL fR (fun _ => ex9) (fun _ => ex3) (fun _ => by have q0 := (chk_some ex8).2; omega) rfl) ?_
     refine AT.step rfl rfl rfl (sp_move rfl iL) ?_
     refine ob1k h22 fun x10 ex10 h23 => ?_
     refine AT.step rfl rfl rfl (ms_idx rfl tg_87.slice iL iL (fun _ => rfl) (fun _ => ex10)) ?_
     refine AT.step rfl rfl rfl (ms_load (d := .int .i64 x10) rfl ts_3 iL rfl) ?_
     refine AT.step rfl rfl rfl (sp_move rfl iL) ?_
     refine AT.step rfl rfl rfl (sp_move rfl iL) ?_
     refine AT.step rfl rfl rfl (ms_idx_hot rfl tg_115.slice iL rfl iL (fun _ => ex3)) ?_
     refine AT.step rfl rfl rfl (ms_load_hot rfl ts_87 iL fR) ?_
     refine AT.step rfl rfl rfl (sp_move rfl iL) ?_
     refine ob1k h23 fun x11 ex11 h24 => ?_
     refine AT.step rfl rfl rfl (ms_add rfl iL iL (fun _ => ex11)) ?_
     refine ob1k h24 fun x12 ex12 h25 => ?_
     refine AT.step rfl rfl rfl (ms_idx_own rfl tg_87.slice iL rfl iL (fun _ => ex12)) ?_
     refine AT.step rfl rfl rfl (ms_load_own (d := .int .i64 x12) rfl ts_3 iL fR (fun _ => ex12) rfl) ?_
     refine AT.step rfl rfl rfl (sp_min rfl iL iL) ?_
     refine ob1k h25 fun x13 ex13 h26 => ?_
     refine AT.step rfl rfl rfl (ms_add rfl iL iL (fun _ => ex13)) ?_
     refine ob1k h26 fun x14 ex14 h27 => ?_
     refine AT.step rfl rfl rfl (ms_idx_own rfl tg_87.slice iL rfl iL (fun _ => ex14)) ?_
     refine AT.nil ?_
     refine AOps.step0 rfl rfl (ms_store (v := x13) rfl tz_3 iL rfl ex14 iL rfl rfl rfl rfl) ?_
     refine AOps.nil (hK16 _ ?_)
     refine AW.seq_w fun K17 hK17 wK17 => ?_
     refine AW.weak (s' := ⟨[(0, .r (.sl (a1.map GElem.row))), (1, .r (.sl (b1.map GElem.row))), (5, .own 11 (i5 0)), (6, .r (.int .i64 i4)), (7, .r (.int .i64 k2))], [(11, some (.hot (i5 0) 87 (t3.map (rSl (rInt .i64))) i4.toNat 23 (i11 0))), (23, some (.arr (i11 0) 3 1 ((o3.set k2.toNat x13).map (rInt .i64))))], (i11 1), 128⟩) (by exact Weak.cv ⟨jL, jL, jL, jL, jL, trivial⟩ ⟨.inl rfl, .inl rfl, trivial⟩ nL) ?_
     refine AW.regionQ hmix (by kernel_rfl) ?_
     refine AQ.step rfl rfl rfl (sp_move rfl iL) ?_
     refine AQ.step rfl rfl rfl (sp_move rfl iL) ?_
     refine ob1k h27 fun x15 ex15 h28 => ?_
     refine AQ.step rfl rfl rfl (ms_idx rfl tg_22.slice iL iL (fun _ => rfl) (fun _ => ex15)) ?_
     refine AQ.step rfl rfl rfl (ms_loadA (cs := [.r (.int .i64 x15.Char), .r (.int .i64 x15.Ref), .r (.sl (x15.Attrs.map GAttr.row))]) rfl ta_82 iL rfl rfl) ?_
     refine AQ.step rfl rfl rfl (sp_move rfl iL) ?_
     refine AQ.step rfl rfl rfl (sp_move rfl iL) ?_
     refine ob1k h28 fun x16 ex16 h29 => ?_
     refine AQ.step rfl rfl rfl (ms_idx rfl tg_22.slice iL iL (fun _ => rfl) (fun _ => ex16)) ?_
     refine AQ.step rfl rfl rfl (ms_loadA (cs := [.r (.int .i64 x16.Char), .r (.int .i64 x16.Ref), .r (.sl (x16.Attrs.map GAttr.row))]) rfl ta_82 iL rfl rfl) ?_
     refine ob1k h29 fun r1 er1 h30 => ?_
     refine AQ.stepC rfl rfl rfl (r := .r (.bool r1)) (caps := []) (bs := [.agg [.r (.int .i64 x15.Char), .r (.int .i64 x15.Ref), .r (.sl (x15.Attrs.map GAttr.row))], .agg [.r (.int .i64 x16.Char), .r (.int .i64 x16.Ref), .r (.sl (x16.Attrs.map GAttr.row))]]) rfl iL rfl ⟨⟨_, iL, .g (cs := [.int .i64 x15.Char, .int .i64 x15.Ref, .sl (x15.Attrs.map GAttr.row)]) rfl rfl⟩, ⟨_, iL, .g (cs := [.int .i64 x16.Char, .int .i64 x16.Ref, .sl (x16.Attrs.map GAttr.row)]) rfl rfl⟩, trivial⟩ (fun _ => w_diff_alike (er1)) rfl ?_
     refine AQ.nil ?_
     refine hK17 _ ?_
     refine AW.cond rfl (fun hc5 => ?_) (fun hc5 => ?_)
     ·have h31 := ite_t hc5 h30
      refine AW.weak (s' := ⟨[(0, .r (.sl (a1.map GElem.row))), (1, .r (.sl (b1.map GElem.row))), (5, .own 11 (i5 0)), (6, .r (.int .i64 i4)), (7, .r (.int .i64 k2))], [(11, some (.hot (i5 0) 87 (t3.map (rSl (rInt .i64))) i4.toNat 23 (i11 0))), (23, some (.arr (i11 0) 3 1 ((o3.set k2.toNat x13).map (rInt .i64))))], (i11 1), 128⟩) (by exact Weak.cv ⟨jL, jL, jL, jL, jL, trivial⟩ ⟨.inl rfl, .inl rfl, trivial⟩ nL) ?_
      refine ob1k h31 fun x17 ex17 h32 => ?_
      refine ob1k h32 fun x18 ex18 h33 => ?_
      refine ob1k h33 fun r2 er2 h34 => ?_
      refine ob1k h34 fun x19 ex19 h35 => ?_
      refine AW.regionP 32 [⟨some 64, (fun _ => .own 11 (i5 0)), none, []⟩, ⟨some 65, (fun _ => .r (.int .i64 i4)), none, []⟩, ⟨some 66, (fun _ => .ptr 11 (i5 0) i4.toNat 0), none, []⟩, ⟨some 67, (fun _ => .own 23 (i11 0)), none, []⟩, ⟨some 68, (fun _ => .r (.int .i64 k2)), none, []⟩, ⟨some 69, (fun _ => .own 11 (i5 0)), none, []⟩, ⟨some 70, (fun _ => .r (.int .i64 i4)), none, []⟩, ⟨some 71, (fun _ => .ptr 11 (i5 0) i4.toNat 0), none, []⟩, ⟨some 72, (fun _ => .own 23 (i11 0)), none, []⟩, ⟨some 73, (fun _ => .r (.int .i64 k2)), none, []⟩, ⟨some 74, (fun _ => .ptr 23 (i11 0) k2.toNat 0), none, []⟩, ⟨some 75, (fun _ => .r (.int .i64 x17)), none, []⟩, ⟨some 76, (fun _ => .own 11 (i5 0)), none, []⟩, ⟨some 77, (fun _ => .r (.int .i64 i4)), none, []⟩, ⟨some 78, (fun _ => .r (.int .i64 x8)), none, []⟩, ⟨some 79, (fun _ => .ptr 11 (i5 0) x8.toNat 0), none, []⟩, ⟨some 80, (fun _ => .r (.sl (x9.map (rInt .i64)))), none, []⟩, ⟨some 81, (fun _ => .r (.int .i64 k2)), none, []⟩, ⟨some 82, (fun _ => .r (.int .i64 x11)), none, []⟩, ⟨some 83, (fun _ => .rop ((rInt .i64) x18) 0), none, []⟩, ⟨some 84, (fun _ => .r (.int .i64 x18)), none, []⟩, ⟨some 85, (fun _ => .r (.sl (a1.map GElem.row))), none, []⟩, ⟨some 86, (fun _ => .r (.int .i64 i4)), none, []⟩, ⟨some 87, (fun _ => .rop (GElem.row x15) 0), none, []⟩, ⟨some 88, (fun _ => .agg [.r (.int .i64 x15.Char), .r (.int .i64 x15.Ref), .r (.sl (x15.Attrs.map GAttr.row))]), none, []⟩, ⟨some 89, (fun _ => .r (.sl (b1.map GElem.row))), none, []⟩, ⟨some 90, (fun _ => .r (.int .i64 k2)), none, []⟩, ⟨some 91, (fun _ => .rop (GElem.row x16) 0), none, []⟩, ⟨some 92, (fun _ => .agg [.r (.int .i64 x16.Char), .r (.int .i64 x16.Ref), .r (.sl (x16.Attrs.map GAttr.row))]), none, []⟩, ⟨some 93, (fun _ => .r (.int .i64 r2)), none, []⟩, ⟨some 94, (fun _ => .r (.int .i64 x19)), none, []⟩, ⟨some 95, (fun _ => .r (.int .i64 (min x17 x19))), none, []⟩] hmix (by kernel_rfl) (by exact ⟨fun _ _ h => ⟨rfl, fun _ _ e => by cases e⟩, fun _ _ h => ⟨rfl, fun _ _ e => by cases e⟩, fun _ _ h => ⟨rfl, fun _ _ e => by cases e⟩, fun _ _ h => ⟨rfl, fun _ _ e => by cases e⟩, fun _ _ h => ⟨rfl, fun _ _ e => by cases e⟩, fun _ _ h => ⟨rfl, fun _ _ e => by cases e⟩, fun _ _ h => ⟨rfl, fun _ _ e => by cases e⟩, fun _ _ h => ⟨rfl, fun _ _ e => by cases e⟩, fun _ _ h => ⟨rfl, fun _ _ e => by cases e⟩, fun _ _ h => ⟨rfl, fun _ _ e => by cases e⟩, fun _ _ h => ⟨rfl, fun _ _ e => by cases e⟩, fun _ _ h => ⟨rfl, fun _ _ e => by cases e⟩, fun _ _ h => ⟨rfl, fun _ _ e => by cases e⟩, fun _ _ h => ⟨rfl, fun _ _ e => by cases e⟩, fun _ _ h => ⟨rfl, fun _ _ e => by cases e⟩, fun _ _ h => ⟨rfl, fun _ _ e => by cases e⟩, fun _ _ h => ⟨rfl, fun _ _ e => by cases e⟩, fun _ _ h => ⟨rfl, fun _ _ e => by cases e⟩, fun _ _ h => ⟨rfl, fun _ _ e => by cases e⟩, fun _ _ h => ⟨rfl, fun _ _ e => by cases e⟩, fun _ _ h => ⟨rfl, fun _ _ e => by cases e⟩, fun _ _ h => ⟨rfl, fun _ _ e => by cases e⟩, fun _ _ h => ⟨rfl, fun _ _ e => by cases e⟩, fun _ _ h => ⟨rfl, fun _ _ e => by cases e⟩, fun _ _ h => ⟨rfl, fun _ _ e => by cases e⟩, fun _ _ h => ⟨rfl, fun _ _ e => by cases e⟩, fun _ _ h => ⟨rfl, fun _ _ e => by cases e⟩, fun _ _ h => ⟨rfl, fun _ _ e => by cases e⟩, fun _ _ h => ⟨rfl, fun _ _ e => by cases e⟩, fun _ _ h => ⟨rfl, fun _ _ e => by cases e⟩, fun _ _ h => ⟨rfl, fun _ _ e => by cases e⟩, fun _ _ h => ⟨rfl, fun _ _ e => by cases e⟩, trivial⟩) rfl (by exact ⟨Ob.quiet (n1 := fun n => n) rfl rfl (by intro d h; cases h; rfl) rfl (fun _ => [(5, .own 11 (i5 0))]) (fun _ => [(11, some (.hot (i5 0) 87 (t3.map (rSl (rInt .i64))) i4.toNat 23 (i11 0)))]) (fun D G1 hr => ⟨inE_base rfl rfl, trivial⟩) (fun D G1 hr => ⟨inH_base rfl rfl, trivial⟩) (fun _ _ => rfl) (fun G1 e h' n => OpQ.spec (v := .own 11 (i5 0)) (sp_move rfl (.inl rfl)) _),
        Ob.quiet (n1 := fun n => n) rfl rfl (by intro d h; cases h; rfl) rfl (fun _ => [(6, .r (.int .i64 i4))]) (fun _ => []) (fun D G1 hr => ⟨inE_base rfl rfl, trivial⟩) (fun D G1 hr => trivial) (fun _ _ => rfl) (fun G1 e h' n => OpQ.spec (v := .r (.int .i64 i4)) (sp_move rfl (.inl rfl)) _),
        Ob.quiet (n1 := fun n => n) rfl rfl (by intro d h; cases h; rfl) rfl (fun _ => [(64, .own 11 (i5 0)), (65, .r (.int .i64 i4))]) (fun _ => [(11, some (.hot (i5 0) 87 (t3.map (rSl (rInt .i64))) i4.toNat 23 (i11 0)))]) (fun D G1 hr => ⟨inE_op hr 0 rfl rfl (by kernel_rfl) rfl rfl, inE_op hr 1 rfl rfl (by kernel_rfl) rfl rfl, trivial⟩) (fun D G1 hr => ⟨inH_base rfl rfl, trivial⟩) (fun _ _ => rfl) (fun G1 e h' n => OpQ.spec (v := .ptr 11 (i5 0) i4.toNat 0) (ms_idx_hot rfl tg_115.slice (.inl rfl) rfl (.inl rfl) (fun _ => ex3)) _),
        Ob.quiet (n1 := fun n => n) rfl rfl (by intro d h; cases h; rfl) rfl (fun _ => [(66, .ptr 11 (i5 0) i4.toNat 0)]) (fun _ => [(11, some (.hot (i5 0) 87 (t3.map (rSl (rInt .i64))) i4.toNat 23 (i11 0)))]) (fun D G1 hr => ⟨inE_op hr 2 rfl rfl (by kernel_rfl) rfl rfl, trivial⟩) (fun D G1 hr => ⟨inH_base rfl rfl, trivial⟩) (fun _ _ => rfl) (fun G1 e h' n => OpQ.spec (v := .own 23 (i11 0)) (ms_load_hot rfl ts_87 (.inl rfl) (fun _ => rfl)) _),
        Ob.quiet (n1 := fun n => n) rfl rfl (by intro d h; cases h; rfl) rfl (fun _ => [(7, .r (.int .i64 k2))]) (fun _ => []) (fun D G1 hr => ⟨inE_base rfl rfl, trivial⟩) (fun D G1 hr => trivial) (fun _ _ => rfl) (fun G1 e h' n => OpQ.spec (v := .r (.int .i64 k2)) (sp_move rfl (.inl rfl)) _),
        Ob.quiet (n1 := fun n => n) rfl rfl (by intro d h; cases h; rfl) rfl (fun _ => [(5, .own 11 (i5 0))]) (fun _ => [(11, some (.hot (i5 0) 87 (t3.map (rSl (rInt .i64))) i4.toNat 23 (i11 0)))]) (fun D G1 hr => ⟨inE_base rfl rfl, trivial⟩) (fun D G1 hr => ⟨inH_base rfl rfl, trivial⟩) (fun _ _ => rfl) (fun G1 e h' n => OpQ.spec (v := .own 11 (i5 0)) (sp_move rfl (.inl rfl)) _),
        Ob.quiet (n1 := fun n => n) rfl rfl (by intro d h; cases h; rfl) rfl (fun _ => [(6, .r (.int .i64 i4))]) (fun _ => []) (fun D G1 hr => ⟨inE_base rfl rfl, trivial⟩) (fun D G1 hr => trivial) (fun _ _ => rfl) (fun G1 e h' n => OpQ.spec (v := .r (.int .i64 i4)) (sp_move rfl (.inl rfl)) _),
        Ob.quiet (n1 := fun n => n) rfl rfl (by intro d h; cases h; rfl) rfl (fun _ => [(69, .own 11 (i5 0)), (70, .r (.int .i64 i4))]) (fun _ => [(11, some (.hot (i5 0) 87 (t3.map (rSl (rInt .i64))) i4.toNat 23 (i11 0)))]) (fun D G1 hr => ⟨inE_op hr 5 rfl rfl (by kernel_rfl) rfl rfl, inE_op hr 6 rfl rfl (by kernel_rfl) rfl rfl, trivial⟩) (fun D G1 hr => ⟨inH_base rfl rfl, trivial⟩) (fun _ _ => rfl) (fun G1 e h' n => OpQ.spec (v := .ptr 11 (i5 0) i4.toNat 0) (ms_idx_hot rfl tg_115.slice (.inl rfl) rfl (.inl rfl) (fun _ => ex3)) _),
        Ob.quiet (n1 := fun n => n) rfl rfl (by intro d h; cases h; rfl) rfl (fun _ => [(71, .ptr 11 (i5 0) i4.toNat 0)]) (fun _ => [(11, some (.hot (i5 0) 87 (t3.map (rSl (rInt .i64))) i4.toNat 23 (i11 0)))]) (fun D G1 hr => ⟨inE_op hr 7 rfl rfl (by kernel_rfl) rfl rfl, trivial⟩) (fun D G1 hr => ⟨inH_base rfl rfl, trivial⟩) (fun _ _ => rfl) (fun G1 e h' n => OpQ.spec (v := .own 23 (i11 0)) (ms_load_hot rfl ts_87 (.inl rfl) (fun _ => rfl)) _),
        Ob.quiet (n1 := fun n => n) rfl rfl (by intro d h; cases h; rfl) rfl (fun _ => [(7, .r (.int .i64 k2))]) (fun _ => []) (fun D G1 hr => ⟨inE_base rfl rfl, trivial⟩) (fun D G1 hr => trivial) (fun _ _ => rfl) (fun G1 e h' n => OpQ.spec (v := .r (.int .i64 k2)) (sp_move rfl (.inl rfl)) _),
        Ob.quiet (n1 := fun n => n) rfl rfl (by intro d h; cases h; rfl) rfl (fun _ => [(72, .own 23 (i11 0)), (73, .r (.int .i64 k2))]) (fun _ => [(23, some (.arr (i11 0) 3 1 ((o3.set k2.toNat x13).map (rInt .i64))))]) (fun D G1 hr => ⟨inE_op hr 8 rfl rfl (by kernel_rfl) rfl rfl, inE_op hr 9 rfl rfl (by kernel_rfl) rfl rfl, trivial⟩) (fun D G1 hr => ⟨inH_base rfl rfl, trivial⟩) (fun _ _ => rfl) (fun G1 e h' n => OpQ.spec (v := .ptr 23 (i11 0) k2.toNat 0) (ms_idx_own rfl tg_87.slice (.inl rfl) rfl (.inl rfl) (fun _ => ex17)) _),
        Ob.quiet (n1 := fun n => n) rfl rfl (by intro d h; cases h; rfl) rfl (fun _ => [(74, .ptr 23 (i11 0) k2.toNat 0)]) (fun _ => [(23, some (.arr (i11 0) 3 1 ((o3.set k2.toNat x13).map (rInt .i64))))]) (fun D G1 hr => ⟨inE_op hr 10 rfl rfl (by kernel_rfl) rfl rfl, trivial⟩) (fun D G1 hr => ⟨inH_base rfl rfl, trivial⟩) (fun _ _ => rfl) (fun G1 e h' n => OpQ.spec (v := .r (.int .i64 x17)) (ms_load_own (d := .int .i64 x17) rfl ts_3 (.inl rfl) (fun _ => rfl) (fun _ => ex17) rfl) _),
        Ob.quiet (n1 := fun n => n) rfl rfl (by intro d h; cases h; rfl) rfl (fun _ => [(5, .own 11 (i5 0))]) (fun _ => [(11, some (.hot (i5 0) 87 (t3.map (rSl (rInt .i64))) i4.toNat 23 (i11 0)))]) (fun D G1 hr => ⟨inE_base rfl rfl, trivial⟩) (fun D G1 hr => ⟨inH_base rfl rfl, trivial⟩) (fun _ _ => rfl) (fun G1 e h' n => OpQ.spec (v := .own 11 (i5 0)) (sp_move rfl (.inl rfl)) _),
        Ob.quiet (n1 := fun n => n) rfl rfl (by intro d h; cases h; rfl) rfl (fun _ => [(6, .r (.int .i64 i4))]) (fun _ => []) (fun D G1 hr => ⟨inE_base rfl rfl, trivial⟩) (fun D G1 hr => trivial) (fun _ _ => rfl) (fun G1 e h' n => OpQ.spec (v := .r (.int .i64 i4)) (sp_move rfl (.inl rfl)) _),
        Ob.quiet (n1 := fun n => n) rfl rfl (by intro d h; cases h; rfl) rfl (fun _ => [(77, .r (.int .i64 i4))]) (fun _ => []) (fun D G1 hr => ⟨inE_op hr 13 rfl rfl (by kernel_rfl) rfl rfl, trivial⟩) (fun D G1 hr => trivial) (fun _ _ => rfl) (fun G1 e h' n => OpQ.spec (v := .r (.int .i64 x8)) (ms_add rfl (.inl rfl) (.inl rfl) (fun _ => ex8)) _),
        Ob.quiet (n1 := fun n => n) rfl rfl (by intro d h; cases h; rfl) rfl (fun _ => [(76, .own 11 (i5 0)), (78, .r (.int .i64 x8))]) (fun _ => [(11, some (.hot (i5 0) 87 (t3.map (rSl (rInt .i64))) i4.toNat 23 (i11 0)))]) (fun D G1 hr => ⟨inE_op hr 12 rfl rfl (by kernel_rfl) rfl rfl, inE_op hr 14 rfl rfl (by kernel_rfl) rfl rfl, trivial⟩) (fun D G1 hr => ⟨inH_base rfl rfl, trivial⟩) (fun _ _ => rfl) (fun G1 e h' n => OpQ.spec (v := .ptr 11 (i5 0) x8.toNat 0) (ms_idx_hot rfl tg_115.slice (.inl rfl) rfl (.inl rfl) (fun _ => ex9)) _),
        Ob.quiet (n1 := fun n => n) rfl rfl (by intro d h; cases h; rfl) rfl (fun _ => [(79, .ptr 11 (i5 0) x8.toNat 0)]) (fun _ => [(11, some (.hot (i5 0) 87 (t3.map (rSl (rInt .i64))) i4.toNat 23 (i11 0)))]) (fun D G1 hr => ⟨inE_op hr 15 rfl rfl (by kernel_rfl) rfl rfl, trivial⟩) (fun D G1 hr => ⟨inH_base rfl rfl, trivial⟩) (fun _ _ => rfl) (fun G1 e h' n => OpQ.spec (v := .r (.sl (x9.map (rInt .i64)))) (ms_load_hot_ne (d := .sl (x9.map (rInt .i64))) rfl ts_87 (.inl rfl) (fun _ => rfl) (fun _ => ex9) (fun _ => ex3) (fun _ => by have q0 := (chk_some ex8).2; omega) rfl) _),
        Ob.quiet (n1 := fun n => n) rfl rfl (by intro d h; cases h; rfl) rfl (fun _ => [(7, .r (.int .i64 k2))]) (fun _ => []) (fun D G1 hr => ⟨inE_base rfl rfl, trivial⟩) (fun D G1 hr => trivial) (fun _ _ => rfl) (fun G1 e h' n => OpQ.spec (v := .r (.int .i64 k2)) (sp_move rfl (.inl rfl)) _),
        Ob.quiet (n1 := fun n => n) rfl rfl (by intro d h; cases h; rfl) rfl (fun _ => [(81, .r (.int .i64 k2))]) (fun _ => []) (fun D G1 hr => ⟨inE_op hr 17 rfl rfl (by kernel_rfl) rfl rfl, trivial⟩) (fun D G1 hr => trivial) (fun _ _ => rfl) (fun G1 e h' n => OpQ.spec (v := .r (.int .i64 x11)) (ms_add rfl (.inl rfl) (.inl rfl) (fun _ => ex11)) _),
        Ob.quiet (n1 := fun n => n) rfl rfl (by intro d h; cases h; rfl) rfl (fun _ => [(80, .r (.sl (x9.map (rInt .i64)))), (82, .r (.int .i64 x11))]) (fun _ => []) (fun D G1 hr => ⟨inE_op hr 16 rfl rfl (by kernel_rfl) rfl rfl, inE_op hr 18 rfl rfl (by kernel_rfl) rfl rfl, trivial⟩) (fun D G1 hr => trivial) (fun _ _ => rfl) (fun G1 e h' n => OpQ.spec (v := .rop ((rInt .i64) x18) 0) (ms_idx rfl tg_87.slice (.inl rfl) (.inl rfl) (fun _ => rfl) (fun _ => ex18)) _),
        Ob.quiet (n1 := fun n => n) rfl rfl (by intro d h; cases h; rfl) rfl (fun _ => [(83, .rop ((rInt .i64) x18) 0)]) (fun _ => []) (fun D G1 hr => ⟨inE_op hr 19 rfl rfl (by kernel_rfl) rfl rfl, trivial⟩) (fun D G1 hr => trivial) (fun _ _ => rfl) (fun G1 e h' n => OpQ.spec (v := .r (.int .i64 x18)) (ms_load (d := .int .i64 x18) rfl ts_3 (.inl rfl) rfl) _),
        Ob.quiet (n1 := fun n => n) rfl rfl (by intro d h; cases h; rfl) rfl (fun _ => [(0, .r (.sl (a1.map GElem.row)))]) (fun _ => []) (fun D G1 hr => ⟨inE_base rfl rfl, trivial⟩) (fun D G1 hr => trivial) (fun _ _ => rfl) (fun G1 e h' n => OpQ.spec (v := .r (.sl (a1.map GElem.row))) (sp_move rfl (.inl rfl)) _),
        Ob.quiet (n1 := fun n => n) rfl rfl (by intro d h; cases h; rfl) rfl (fun _ => [(6, .r (.int .i64 i4))]) (fun _ => []) (fun D G1 hr => ⟨inE_base rfl rfl, trivial⟩) (fun D G1 hr => trivial) (fun _ _ => rfl) (fun G1 e h' n => OpQ.spec (v := .r (.int .i64 i4)) (sp_move rfl (.inl rfl)) _),
        Ob.quiet (n1 := fun n => n) rfl rfl (by intro d h; cases h; rfl) rfl (fun _ => [(85, .r (.sl (a1.map GElem.row))), (86, .r (.int .i64 i4))]) (fun _ => []) (fun D G1 hr => ⟨inE_op hr 21 rfl rfl (by kernel_rfl) rfl rfl, inE_op hr 22 rfl rfl (by kernel_rfl) rfl rfl, trivial⟩) (fun D G1 hr => trivial) (fun _ _ => rfl) (fun G1 e h' n => OpQ.spec (v := .rop (GElem.row x15) 0) (ms_idx rfl tg_22.slice (.inl rfl) (.inl rfl) (fun _ => rfl) (fun _ => ex15)) _),
        Ob.quiet (n1 := fun n => n) rfl rfl (by intro d h; cases h; rfl) rfl (fun _ => [(87, .rop (GElem.row x15) 0)]) (fun _ => []) (fun D G1 hr => ⟨inE_op hr 23 rfl rfl (by kernel_rfl) rfl rfl, trivial⟩) (fun D G1 hr => trivial) (fun _ _ => rfl) (fun G1 e h' n => OpQ.spec (v := .agg [.r (.int .i64 x15.Char), .r (.int .i64 x15.Ref), .r (.sl (x15.Attrs.map GAttr.row))]) (ms_loadA (cs := [.r (.int .i64 x15.Char), .r (.int .i64 x15.Ref), .r (.sl (x15.Attrs.map GAttr.row))]) rfl ta_82 (.inl rfl) rfl rfl) _),
        Ob.quiet (n1 := fun n => n) rfl rfl (by intro d h; cases h; rfl) rfl (fun _ => [(1, .r (.sl (b1.map GElem.row)))]) (fun _ => []) (fun D G1 hr => ⟨inE_base rfl rfl, trivial⟩) (fun D G1 hr => trivial) (fun _ _ => rfl) (fun G1 e h' n => OpQ.spec (v := .r (.sl (b1.map GElem.row))) (sp_move rfl (.inl rfl)) _),
        Ob.quiet (n1 := fun n => n) rfl rfl (by intro d h; cases h; rfl) rfl (fun _ => [(7, .r (.int .i64 k2))]) (fun _ => []) (fun D G1 hr => ⟨inE_base rfl rfl, trivial⟩) (fun D G1 hr => trivial) (fun _ _ => rfl) (fun G1 e h' n => OpQ.spec (v := .r (.int .i64 k2)) (sp_move rfl (.inl rfl)) _),
        Ob.quiet (n1 := fun n => n) rfl rfl (by intro d h; cases h; rfl) rfl (fun _ => [(89, .r (.sl (b1.map GElem.row))), (90, .r (.int .i64 k2))]) (fun _ => []) (fun D G1 hr => ⟨inE_op hr 25 rfl rfl (by kernel_rfl) rfl rfl, inE_op hr 26 rfl rfl (by kernel_rfl) rfl rfl, trivial⟩) (fun D G1 hr => trivial) (fun _ _ => rfl) (fun G1 e h' n => OpQ.spec (v := .rop (GElem.row x16) 0) (ms_idx rfl tg_22.slice (.inl rfl) (.inl rfl) (fun _ => rfl) (fun _ => ex16)) _),
        Ob.quiet (n1 := fun n => n) rfl rfl (by intro d h; cases h; rfl) rfl (fun _ => [(91, .rop (GElem.row x16) 0)]) (fun _ => []) (fun D G1 hr => ⟨inE_op hr 27 rfl rfl (by kernel_rfl) rfl rfl, trivial⟩) (fun D G1 hr => trivial) (fun _ _ => rfl) (fun G1 e h' n => OpQ.spec (v := .agg [.r (.int .i64 x16.Char), .r (.int .i64 x16.Ref), .r (.sl (x16.Attrs.map GAttr.row))]) (ms_loadA (cs := [.r (.int .i64 x16.Char), .r (.int .i64 x16.Ref), .r (.sl (x16.Attrs.map GAttr.row))]) rfl ta_82 (.inl rfl) rfl rfl) _),
        Ob.quiet (n1 := fun n => n) rfl rfl (by intro d h; cases h; rfl) rfl (fun _ => [(88, .agg [.r (.int .i64 x15.Char), .r (.int .i64 x15.Ref), .r (.sl (x15.Attrs.map GAttr.row))]), (92, .agg [.r (.int .i64 x16.Char), .r (.int .i64 x16.Ref), .r (.sl (x16.Attrs.map GAttr.row))])]) (fun _ => []) (fun D G1 hr => ⟨inE_op hr 24 rfl rfl (by kernel_rfl) rfl rfl, inE_op hr 28 rfl rfl (by kernel_rfl) rfl rfl, trivial⟩) (fun D G1 hr => trivial) (fun _ _ => rfl) (fun G1 e h' n => sp_call (r := .r (.int .i64 r2)) (caps := []) (bs := [.agg [.r (.int .i64 x15.Char), .r (.int .i64 x15.Ref), .r (.sl (x15.Attrs.map GAttr.row))], .agg [.r (.int .i64 x16.Char), .r (.int .i64 x16.Ref), .r (.sl (x16.Attrs.map GAttr.row))]]) rfl (.inl rfl) rfl ⟨⟨_, (.inl rfl), .g (cs := [.int .i64 x15.Char, .int .i64 x15.Ref, .sl (x15.Attrs.map GAttr.row)]) rfl rfl⟩, ⟨_, (.inl rfl), .g (cs := [.int .i64 x16.Char, .int .i64 x16.Ref, .sl (x16.Attrs.map GAttr.row)]) rfl rfl⟩, trivial⟩ (fun _ => w_diff_price (er2)) rfl),
        Ob.quiet (n1 := fun n => n) rfl rfl (by intro d h; cases h; rfl) rfl (fun _ => [(84, .r (.int .i64 x18)), (93, .r (.int .i64 r2))]) (fun _ => []) (fun D G1 hr => ⟨inE_op hr 20 rfl rfl (by kernel_rfl) rfl rfl, inE_op hr 29 rfl rfl (by kernel_rfl) rfl rfl, trivial⟩) (fun D G1 hr => trivial) (fun _ _ => rfl) (fun G1 e h' n => OpQ.spec (v := .r (.int .i64 x19)) (ms_add rfl (.inl rfl) (.inl rfl) (fun _ => ex19)) _),
        Ob.quiet (n1 := fun n => n) rfl rfl (by intro d h; cases h; rfl) rfl (fun _ => [(75, .r (.int .i64 x17)), (94, .r (.int .i64 x19))]) (fun _ => []) (fun D G1 hr => ⟨inE_op hr 11 rfl rfl (by kernel_rfl) rfl rfl, inE_op hr 30 rfl rfl (by kernel_rfl) rfl rfl, trivial⟩) (fun D G1 hr => trivial) (fun _ _ => rfl) (fun G1 e h' n => OpQ.spec (v := .r (.int .i64 (min x17 x19))) (sp_min rfl (.inl rfl) (.inl rfl)) _),
        trivial⟩) fun G1 n1 => ?_
      refine AOps.weak (s' := ⟨[(0, .r (.sl (a1.map GElem.row))), (1, .r (.sl (b1.map GElem.row))), (5, .own 11 (i5 0)), (6, .r (.int .i64 i4)), (7, .r (.int .i64 k2)), (64, .own 11 (i5 0)), (65, .r (.int .i64 i4)), (66, .ptr 11 (i5 0) i4.toNat 0), (67, .own 23 (i11 0)), (68, .r (.int .i64 k2)), (69, .own 11 (i5 0)), (70, .r (.int .i64 i4)), (71, .ptr 11 (i5 0) i4.toNat 0), (72, .own 23 (i11 0)), (73, .r (.int .i64 k2)), (74, .ptr 23 (i11 0) k2.toNat 0), (75, .r (.int .i64 x17)), (76, .own 11 (i5 0)), (77, .r (.int .i64 i4)), (78, .r (.int .i64 x8)), (79, .ptr 11 (i5 0) x8.toNat 0), (80, .r (.sl (x9.map (rInt .i64)))), (81, .r (.int .i64 k2)), (82, .r (.int .i64 x11)), (83, .rop ((rInt .i64) x18) 0), (84, .r (.int .i64 x18)), (85, .r (.sl (a1.map GElem.row))), (86, .r (.int .i64 i4)), (87, .rop (GElem.row x15) 0), (88, .agg [.r (.int .i64 x15.Char), .r (.int .i64 x15.Ref), .r (.sl (x15.Attrs.map GAttr.row))]), (89, .r (.sl (b1.map GElem.row))), (90, .r (.int .i64 k2)), (91, .rop (GElem.row x16) 0), (92, .agg [.r (.int .i64 x16.Char), .r (.int .i64 x16.Ref), .r (.sl (x16.Attrs.map GAttr.row))]), (93, .r (.int .i64 r2)), (94, .r (.int .i64 x19)), (95, .r (.int .i64 (min x17 x19)))], [(11, some (.hot (i5 0) 87 (t3.map (rSl (rInt .i64))) i4.toNat 23 (i11 0))), (23, some (.arr (i11 0) 3 1 ((o3.set k2.toNat x13).map (rInt .i64))))], n1, 128⟩) (by exact Weak.cv ⟨jL, jL, jL, jL, jL, jL, jL, jL, jL, jL, jL, jL, jL, jL, jL, jL, jL, jL, jL, jL, jL, jL, jL, jL, jL, jL, jL, jL, jL, jL, jL, jL, jL, jL, jL, jL, jL, trivial⟩ ⟨.inl rfl, .inl rfl, trivial⟩ nL) ?_
      refine sQ rfl (ms_idx_own rfl tg_87.slice iL rfl iL (fun _ => ex17)) ?_
      refine AOps.step0 rfl rfl (ms_store (v := (min x17 x19)) rfl tz_3 iL rfl ex17 iL rfl rfl rfl rfl) ?_
      refine AOps.nil ?_
      exact wK13 _ _ ((by exact Weak.cv ⟨jL, jL, jL, jL, jL, trivial⟩ ⟨.inl rfl, .inl rfl, trivial⟩ nL)) (J3 _ (vec [(i11 0), n1]) (Option.some.inj h35).symm)
     ·have h31 := ite_f hc5 h30
      refine AW.skip ?_
      exact wK13 _ _ ((by exact Weak.cv ⟨jL, jL, jL, jL, jL, trivial⟩ ⟨.inl rfl, .inl rfl, trivial⟩ nL)) (J3 _ (vec [(i11 0), (i11 1)]) (Option.some.inj h31).symm)
  ·have h12 := ite_f hc2 h11
   refine AW.exit ?_
   exact wK8 _ _ ((by exact Weak.cv ⟨jL, jL, jL, jL, trivial⟩ ⟨.inl rfl, .inl rfl, trivial⟩ nL)) (J2 _ (vec [(i11 0), (i11 1)]) (hx2 _ (Option.some.inj h12).symm))
 ·have h5 := ite_f hc1 h4
  refine AW.exit ?_
  exact wK3 _ _ ((by exact Weak.cv ⟨jL, trivial⟩ ⟨.inl rfl, trivial⟩ nL)) (J1 _ (vec [(i5 0), (i5 1)]) (hx1 _ (Option.some.inj h5).symm))
set_option maxHeartbeats 4000000 in
set_option maxRecDepth 20000 in
theorem w_attr_CheckChange {l1 : List GAttr} {r : Int} (h : attr_CheckChange l1 = some r) : ARO Try.prog 98 [.r (.sl (l1.map GAttr.row))] (.r (.int .i64 r)) := by
 unfold attr_CheckChange at h
 refine ARO.mkF Try.func98 rfl rfl Try.ntmps98 rfl (Nat.le_of_ble_eq_true rfl) fun n0 => ?_
 refine AW.seq_w fun K1 hK1 wK1 => ?_
 refine AW.region ?_
 refine sQ rfl (sp_assign rfl iL) ?_
 refine AOps.nil (hK1 _ ?_)
 refine AW.seq_w fun K2 hK2 wK2 => ?_
 refine AW.region ?_
 refine sM rfl rfl ?_
 refine ob1k h fun r1 er1 h1 => ?_
 refine AOps.step rfl rfl rfl (sp_call (r := .r (.int .i64 r1)) (caps := []) (bs := [.r (.sl (l1.map GAttr.row)), .r (.bool true)]) rfl iL rfl ⟨⟨_, iL, .d rfl⟩, ⟨_, iL, .d rfl⟩, trivial⟩ (fun _ => w_attr_check (er1)) rfl) ?_
 refine sQ rfl (sp_assign rfl iL) ?_
 refine AOps.nil (hK2 _ ?_)
 refine AW.ret ?_
 exact retf1 (P := Try.prog) (fun (r : Int) => .r (.int .i64 r)) h1 iL (.t (.d rfl))
set_option maxHeartbeats 4000000 in
set_option maxRecDepth 20000 in
theorem w_delta_step {s1 : GStep} {r : Int} (h : delta_step s1 = some r) : ARO Try.prog 69 [.agg [.r (.int .i64 s1.Kind), .r (.int .i64 s1.N), .r (.sl (s1.Attrs.map GAttr.row)), .r (.sl (s1.Elems.map GElem.row))]] (.r (.int .i64 r)) := by
 unfold delta_step at h
 refine ARO.mkF Try.func69 rfl rfl Try.ntmps69 rfl (Nat.le_of_ble_eq_true rfl) fun n0 => ?_
 refine AW.seq_w fun K1 hK1 wK1 => ?_
 refine AW.region ?_
 refine AOps.step rfl rfl rfl (ms_box (cs := [.r (.int .i64 s1.Kind), .r (.int .i64 s1.N), .r (.sl (s1.Attrs.map GAttr.row)), .r (.sl (s1.Elems.map GElem.row))]) 1 rfl iL rfl rfl) ?_
 refine sQ rfl (sp_assign rfl iL) ?_
 refine AOps.nil (hK1 _ ?_)
 refine AW.seq_w fun K2 hK2 wK2 => ?_
 refine AW.seq_w fun K3 hK3 wK3 => ?_
 refine AW.region ?_
 refine sQ rfl (sp_fieldAddr_own (ob := .box _ _ _) rfl tf_31_0 iL fR rfl) ?_
 refine sQ rfl (ms_load_box (a := .r (.int .i64 s1.Kind)) rfl ts_3 iL rfl rfl) ?_
 refine AOps.nil (hK3 _ ?_)
 refine AW.block ?_
 refine AW.seq_w fun K4 hK4 wK4 => ?_
 refine AW.seq_w fun K5 hK5 wK5 => ?_
 refine AW.region ?_
 refine sQ rfl (sp_eql rfl iL iL) ?_
 refine sQ rfl (sp_assign rfl iL) ?_
 refine AOps.nil (hK5 _ ?_)
 refine jb1k h fun p1 hp1 hk1 => ?_
 have J1 : ∀ (x1 : Bool) (i1 : Nat → Nat), p1 = x1 → K4 ⟨[(1, .ptr 1 n0 0 0), (4, .r (.int .i64 s1.Kind)), (5, .r (.bool x1))], [(1, some (.box n0 31 [.r (.int .i64 s1.Kind), .r (.int .i64 s1.N), .r (.sl (s1.Attrs.map GAttr.row)), .r (.sl (s1.Elems.map GElem.row))]))], (i1 0), 52⟩ := by
  intro x1 i1 e
  have h1 := hk1 _ e
  refine hK4 _ ?_
  refine AW.cond rfl (fun hc1 => ?_) (fun hc1 => ?_)
  ·have h2 := ite_t hc1 h1
   refine AW.seq_w fun K6 hK6 wK6 => ?_
   refine AW.seq_w fun K7 hK7 wK7 => ?_
   refine AW.region ?_
   refine sQ rfl (sp_fieldAddr_own (ob := .box _ _ _) rfl tf_31_3 iL fR rfl) ?_
   refine sQ rfl (ms_load_box (a := .r (.sl (s1.Elems.map GElem.row))) rfl ts_22 iL rfl rfl) ?_
   refine sQ rfl (ms_len rfl tg_22.slice iL) ?_
   refine sQ rfl (sp_gtr rfl iL iL) ?_
   refine sM rfl rfl ?_
   refine sV rfl rfl rfl (sp_fieldAddr_own (ob := .box _ _ _) rfl tf_31_0 iL fR rfl) ?_
   refine sV rfl rfl rfl (ms_load_box (a := .r (.int .i64 s1.Kind)) rfl ts_3 (iR rfl) rfl rfl) ?_
   refine sV rfl rfl rfl (sp_eql rfl (iR rfl) iL) ?_
   refine sV rfl rfl rfl (sp_move rfl (iR rfl)) ?_
   refine sW (.two rfl rfl rfl) rfl (sp_fieldAddr_own (ob := .box _ _ _) rfl tf_31_2 iL fR rfl) ?_
   refine sW (.two rfl rfl rfl) rfl (ms_load_box (a := .r (.sl (s1.Attrs.map GAttr.row))) rfl ts_29 (iR rfl) rfl rfl) ?_
   refine sW (.two rfl rfl rfl) rfl (ms_len rfl tg_29.slice (iR rfl)) ?_
   refine sW (.two rfl rfl rfl) rfl (sp_gtr rfl (iR rfl) iL) ?_
   refine sV rfl rfl rfl (sp_and rfl (iR rfl) (iR rfl)) ?_
   refine sQ rfl (sp_or rfl iL (iR rfl)) ?_
   refine AOps.nil (hK7 _ ?_)
   refine AW.cond rfl (fun hc2 => ?_) (fun hc2 => ?_)
   ·have h3 := ite_t hc2 h2
    refine AW.seq_w fun K8 hK8 wK8 => ?_
    refine AW.weak (s' := ⟨[], [], (i1 0), 52⟩) (by exact Weak.cv trivial trivial nL) ?_
    refine AW.region ?_
    refine sQ rfl (sp_assign rfl iL) ?_
    refine AOps.nil (hK8 _ ?_)
    refine AW.ret ?_
    exact retf1 (P := Try.prog) (fun (r : Int) => .r (.int .i64 r)) h3 iL (.t (.d rfl))
   ·have h3 := ite_f hc2 h2
    refine AW.skip ?_
    refine hK6 _ ?_
    refine AW.seq_w fun K9 hK9 wK9 => ?_
    refine AW.seq_w fun K10 hK10 wK10 => ?_
    refine AW.weak (s' := ⟨[(1, .ptr 1 n0 0 0)], [(1, some (.box n0 31 [.r (.int .i64 s1.Kind), .r (.int .i64 s1.N), .r (.sl (s1.Attrs.map GAttr.row)), .r (.sl (s1.Elems.map GElem.row))]))], (i1 0), 52⟩) (by exact Weak.cv ⟨jL, trivial⟩ ⟨.inl rfl, trivial⟩ nL) ?_
    refine AW.region ?_
    refine sQ rfl (sp_fieldAddr_own (ob := .box _ _ _) rfl tf_31_1 iL fR rfl) ?_
    refine sQ rfl (ms_load_box (a := .r (.int .i64 s1.N)) rfl ts_3 iL rfl rfl) ?_
    refine sQ rfl (sp_lss rfl iL iL) ?_
    refine sM rfl rfl ?_
    refine sV rfl rfl rfl (sp_fieldAddr_own (ob := .box _ _ _) rfl tf_31_1 iL fR rfl) ?_
    refine sV rfl rfl rfl (ms_load_box (a := .r (.int .i64 s1.N)) rfl ts_3 (iR rfl) rfl rfl) ?_
    refine sV rfl rfl rfl (sp_gtr rfl (iR rfl) iL) ?_
    refine sQ rfl (sp_or rfl iL (iR rfl)) ?_
    refine AOps.nil (hK10 _ ?_)
    refine AW.cond rfl (fun hc3 => ?_) (fun hc3 => ?_)
    ·have h4 := ite_t hc3 h3
     refine AW.seq_w fun K11 hK11 wK11 => ?_
     refine AW.weak (s' := ⟨[], [], (i1 0), 52⟩) (by exact Weak.cv trivial trivial nL) ?_
     refine AW.region ?_
     refine sQ rfl (sp_assign rfl iL) ?_
     refine AOps.nil (hK11 _ ?_)
     refine AW.ret ?_
     exact retf1 (P := Try.prog) (fun (r : Int) => .r (.int .i64 r)) h4 iL (.t (.d rfl))
    ·have h4 := ite_f hc3 h3
     refine AW.skip ?_
     refine hK9 _ ?_
     refine AW.seq_w fun K12 hK12 wK12 => ?_
     refine AW.region ?_
     refine sQ rfl (sp_fieldAddr_own (ob := .box _ _ _) rfl tf_31_2 iL fR rfl) ?_
     refine sQ rfl (ms_load_box (a := .r (.sl (s1.Attrs.map GAttr.row))) rfl ts_29 iL rfl rfl) ?_
     refine ob1k h4 fun r1 er1 h5 => ?_
     refine AOps.step rfl rfl rfl (sp_call (r := .r (.int .i64 r1)) (caps := []) (bs := [.r (.sl (s1.Attrs.map GAttr.row))]) rfl iL rfl ⟨⟨_, iL, .d rfl⟩, trivial⟩ (fun _ => w_attr_CheckChange (er1)) rfl) ?_
     refine sQ rfl (sp_assign rfl iL) ?_
     refine AOps.nil (hK12 _ ?_)
     refine AW.ret ?_
     exact retf1 (P := Try.prog) (fun (r : Int) => .r (.int .i64 r)) h5 iL (.t (.d rfl))
  ·have h2 := ite_f hc1 h1
   refine AW.seq_w fun K13 hK13 wK13 => ?_
   refine AW.region ?_
   refine sQ rfl (sp_eql rfl iL iL) ?_
   refine sQ rfl (sp_assign rfl iL) ?_
   refine AOps.nil (hK13 _ ?_)
   refine AW.cond rfl (fun hc4 => ?_) (fun hc4 => ?_)
   ·have h6 := ite_t hc4 h2
    refine AW.seq_w fun K14 hK14 wK14 => ?_
    refine AW.seq_w fun K15 hK15 wK15 => ?_
    refine AW.region ?_
    refine sQ rfl (sp_fieldAddr_own (ob := .box _ _ _) rfl tf_31_1 iL fR rfl) ?_
    refine sQ rfl (ms_load_box (a := .r (.int .i64 s1.N)) rfl ts_3 iL rfl rfl) ?_
    refine sQ rfl (sp_neq rfl iL iL) ?_
    refine sM rfl rfl ?_
    refine sV rfl rfl rfl (sp_fieldAddr_own (ob := .box _ _ _) rfl tf_31_2 iL fR rfl) ?_
    refine sV rfl rfl rfl (ms_load_box (a := .r (.sl (s1.Attrs.map GAttr.row))) rfl ts_29 (iR rfl) rfl rfl) ?_
    refine sV rfl rfl rfl (ms_len rfl tg_29.slice (iR rfl)) ?_
    refine sV rfl rfl rfl (sp_gtr rfl (iR rfl) iL) ?_
    refine sQ rfl (sp_or rfl iL (iR rfl)) ?_
    refine AOps.nil (hK15 _ ?_)
    refine AW.cond rfl (fun hc5 => ?_) (fun hc5 => ?_)
    ·have h7 := ite_t hc5 h6
     refine AW.seq_w fun K16 hK16 wK16 => ?_
     refine AW.weak (s' := ⟨[], [], (i1 0), 52⟩) (by exact Weak.cv trivial trivial nL) ?_
     refine AW.region ?_
     refine sQ rfl (sp_assign rfl iL) ?_
     refine AOps.nil (hK16 _ ?_)
     refine AW.ret ?_
     exact retf1 (P := Try.prog) (fun (r : Int) => .r (.int .i64 r)) h7 iL (.t (.d rfl))
    ·have h7 := ite_f hc5 h6
     refine AW.skip ?_
     refine hK14 _ ?_
     refine AW.seq_w fun K17 hK17 wK17 => ?_
     refine AW.seq_w fun K18 hK18 wK18 => ?_
     refine AW.weak (s' := ⟨[(1, .ptr 1 n0 0 0)], [(1, some (.box n0 31 [.r (.int .i64 s1.Kind), .r (.int .i64 s1.N), .r (.sl (s1.Attrs.map GAttr.row)), .r (.sl (s1.Elems.map GElem.row))]))], (i1 0), 52⟩) (by exact Weak.cv ⟨jL, trivial⟩ ⟨.inl rfl, trivial⟩ nL) ?_
     refine AW.region ?_
     refine sQ rfl (sp_fieldAddr_own (ob := .box _ _ _) rfl tf_31_3 iL fR rfl) ?_
     refine sQ rfl (ms_load_box (a := .r (.sl (s1.Elems.map GElem.row))) rfl ts_22 iL rfl rfl) ?_
     refine sQ rfl (ms_len rfl tg_22.slice iL) ?_
     refine sQ rfl (sp_eql rfl iL iL) ?_
     refine AOps.nil (hK18 _ ?_)
     refine AW.cond rfl (fun hc6 => ?_) (fun hc6 => ?_)
     ·have h8 := ite_t hc6 h7
      refine AW.seq_w fun K19 hK19 wK19 => ?_
      refine AW.region ?_
      refine sQ rfl (sp_assign rfl iL) ?_
      refine AOps.nil (hK19 _ ?_)
      refine AW.ret ?_
      exact retf1 (P := Try.prog) (fun (r : Int) => .r (.int .i64 r)) h8 iL (.t (.d rfl))
     ·have h8 := ite_f hc6 h7
      refine AW.skip ?_
      refine hK17 _ ?_
      refine AW.seq_w fun K20 hK20 wK20 => ?_
      refine AW.region ?_
      refine sQ rfl (sp_fieldAddr_own (ob := .box _ _ _) rfl tf_31_3 iL fR rfl) ?_
      refine sQ rfl (ms_load_box (a := .r (.sl (s1.Elems.map GElem.row))) rfl ts_22 iL rfl rfl) ?_
      refine ob1k h8 fun r2 er2 h9 => ?_
      refine AOps.step rfl rfl rfl (sp_call (r := .r (.int .i64 r2)) (caps := []) (bs := [.r (.sl (s1.Elems.map GElem.row))]) rfl iL rfl ⟨⟨_, iL, .d rfl⟩, trivial⟩ (fun _ => w_flow_CheckPart (er2)) rfl) ?_
      refine sQ rfl (sp_assign rfl iL) ?_
      refine AOps.nil (hK20 _ ?_)
      refine AW.ret ?_
      exact retf1 (P := Try.prog) (fun (r : Int) => .r (.int .i64 r)) h9 iL (.t (.d rfl))
   ·have h6 := ite_f hc4 h2
    refine AW.skip ?_
    refine hK2 _ ?_
    refine AW.seq_w fun K21 hK21 wK21 => ?_
    refine AW.region ?_
    refine sQ rfl (sp_assign rfl iL) ?_
    refine AOps.nil (hK21 _ ?_)
    refine AW.ret ?_
    exact retf1 (P := Try.prog) (fun (r : Int) => .r (.int .i64 r)) h6 iL (.t (.d rfl))
 refine AW.cond rfl (fun hc7 => ?_) (fun hc7 => ?_)
 ·have h10 := ite_t hc7 hp1
  refine AW.skip ?_
  exact wK4 _ _ ((by exact Weak.cv ⟨jL, jL, jL, trivial⟩ ⟨.inl rfl, trivial⟩ nL)) (J1 _ (vec [(n0 + 1)]) (Option.some.inj h10).symm)
 ·have h10 := ite_f hc7 hp1
  refine AW.region ?_
  refine sQ rfl (sp_eql rfl iL iL) ?_
  refine sQ rfl (sp_assign rfl iL) ?_
  refine AOps.nil ?_
  exact wK4 _ _ ((by exact Weak.cv ⟨jL, jL, jL, trivial⟩ ⟨.inl rfl, trivial⟩ nL)) (J1 _ (vec [(n0 + 1)]) (Option.some.inj h10).symm)
set_option maxHeartbeats 4000000 in
set_option maxRecDepth 20000 in
theorem w_delta_writer_flush {w1 : Delta_Writer} {r : Delta_Writer} {gb1000 : Nat} {ga1001 : Nat} {ga1002 : Nat} (h : delta_writer_flush w1 = some r) : AHC Try.prog 118 3 [.ptr 1000 gb1000 0 0] [(1000, some (.box gb1000 150 [.own 1001 ga1001, .own 1002 ga1002, .r (.int .i64 w1.cut)])), (1001, some (.arr ga1001 31 4 (w1.out.map GStep.row))), (1002, some (.arr ga1002 82 3 (w1.add.map GElem.row)))] (fun rr h' => ∃ (i : Nat → Nat), rr = .tup [] ∧ h' = [(1000, some (.box gb1000 150 [.own 1001 (i 0), .cst (.slice none 0 0), .r (.int .i64 r.cut)])), (1001, some (.arr (i 0) 31 4 (r.out.map GStep.row)))]) := by
 unfold delta_writer_flush at h
 refine AHC.mkw Try.func118 rfl rfl Try.ntmps118 (Nat.le_of_ble_eq_true rfl) fun n0 => ?_
 refine AW.seq_w fun K1 hK1 wK1 => ?_
 refine AW.seq_w fun K2 hK2 wK2 => ?_
 refine AW.region ?_
 refine sM rfl rfl ?_
 refine sQ rfl (sp_nilCheck_own (ob := .box _ _ _) rfl iL fR rfl) ?_
 refine sQ rfl (sp_fieldAddr_own (ob := .box _ _ _) rfl tf_150_1 iL fR rfl) ?_
 refine sQ rfl (ms_load_box (a := .own 1002 ga1002) rfl ts_22 iL rfl rfl) ?_
 refine sQ rfl (ms_len_own rfl tg_22.slice iL rfl) ?_
 refine sQ rfl (sp_gtr rfl iL iL) ?_
 refine AOps.nil (hK2 _ ?_)
 refine jb1k h fun p1 hp1 hk1 => ?_
 have J1 : ∀ (w2 : Delta_Writer) (i1 : Nat → Nat), p1 = w2 → K1 ⟨[(0, .ptr 1000 gb1000 0 0)], [(1000, some (.box gb1000 150 [.own 1001 (i1 0), .r (.sl (w2.add.map GElem.row)), .r (.int .i64 w2.cut)])), (1001, some (.arr (i1 0) 31 4 (w2.out.map GStep.row)))], (i1 1), 47⟩ := by
  intro w2 i1 e
  have h1 := hk1 _ e
  refine hK1 _ ?_
  refine AW.seq_w fun K3 hK3 wK3 => ?_
  refine AW.seq_w fun K4 hK4 wK4 => ?_
  refine AW.region ?_
  refine sM rfl rfl ?_
  refine sQ rfl (sp_nilCheck_own (ob := .box _ _ _) rfl iL fR rfl) ?_
  refine sQ rfl (sp_fieldAddr_own (ob := .box _ _ _) rfl tf_150_2 iL fR rfl) ?_
  refine sQ rfl (ms_load_box (a := .r (.int .i64 w2.cut)) rfl ts_3 iL rfl rfl) ?_
  refine sQ rfl (sp_gtr rfl iL iL) ?_
  refine AOps.nil (hK4 _ ?_)
  refine jb1k h1 fun p2 hp2 hk2 => ?_
  have J2 : ∀ (w3 : Delta_Writer) (i2 : Nat → Nat), p2 = w3 → K3 ⟨[(0, .ptr 1000 gb1000 0 0)], [(1000, some (.box gb1000 150 [.own 1001 (i2 0), .r (.sl (w3.add.map GElem.row)), .r (.int .i64 w3.cut)])), (1001, some (.arr (i2 0) 31 4 (w3.out.map GStep.row)))], (i2 1), 47⟩ := by
   intro w3 i2 e
   have h2 := hk2 _ e
   refine hK3 _ ?_
   refine AW.region ?_
   refine sM rfl rfl ?_
   refine sM rfl rfl ?_
   refine sQ rfl (sp_nilCheck_own (ob := .box _ _ _) rfl iL fR rfl) ?_
   refine sQ rfl (sp_fieldAddr_own (ob := .box _ _ _) rfl tf_150_1 iL fR rfl) ?_
   refine AOps.step0 rfl rfl (ms_store_box (ds := [.own 1001 (i2 0), .cst (.slice none 0 0), .r (.int .i64 w3.cut)]) rfl tz_22 iL rfl iL rfl rfl rfl rfl) ?_
   refine sQ rfl (sp_nilCheck_own (ob := .box _ _ _) rfl iL fR rfl) ?_
   refine sQ rfl (sp_fieldAddr_own (ob := .box _ _ _) rfl tf_150_2 iL fR rfl) ?_
   refine AOps.step0 rfl rfl (ms_store_box (ds := [.own 1001 (i2 0), .cst (.slice none 0 0), .r (.int .i64 0)]) rfl tz_3 iL rfl iL rfl rfl rfl rfl) ?_
   refine AOps.nil ?_
   exact RetW.mk (s' := ⟨[], [(1000, some (.box gb1000 150 [.own 1001 (i2 0), .cst (.slice none 0 0), .r (.int .i64 0)])), (1001, some (.arr (i2 0) 31 4 (w3.out.map GStep.row)))], (i2 1), 47⟩) ((by exact Weak.cv trivial ⟨.inl rfl, .inl rfl, trivial⟩ nL)) (reth_cast (fun (r : Delta_Writer) rr h' => ∃ (i : Nat → Nat), rr = .tup [] ∧ h' = [(1000, some (.box gb1000 150 [.own 1001 (i 0), .cst (.slice none 0 0), .r (.int .i64 r.cut)])), (1001, some (.arr (i 0) 31 4 (r.out.map GStep.row)))]) h2 (by exact ⟨.tup [], [(1000, some (.box gb1000 150 [.own 1001 (i2 0), .cst (.slice none 0 0), .r (.int .i64 0)])), (1001, some (.arr (i2 0) 31 4 (w3.out.map GStep.row)))], ⟨_, rfl, trivial⟩, ⟨.inr rfl, .inr rfl, trivial⟩, rfl, rfl, vec [(i2 0)], rfl, rfl⟩))
  refine AW.cond rfl (fun hc1 => ?_) (fun hc1 => ?_)
  ·have h3 := ite_t hc1 hp2
   refine AW.regionF' [0] [1, 2, 3, 4, 5, 6, 7, 8, 9] [10] 11 hmix (by kernel_rfl) rfl rfl rfl rfl rfl ?_
   refine AFl.move rfl rfl rfl rfl ?_
   refine AFl.nil ?_
   refine AF.step rfl rfl rfl (sp_move rfl iL) ?_
   refine AF.step rfl rfl rfl (sp_nilCheck_own (ob := .box _ _ _) rfl iL fR rfl) ?_
   refine AF.step rfl rfl rfl (sp_fieldAddr_own (ob := .box _ _ _) rfl tf_150_0 iL fR rfl) ?_
   refine AF.step rfl rfl rfl (ms_load_box (a := .own 1001 (i1 0)) rfl ts_23 iL rfl rfl) ?_
   refine AF.step rfl rfl rfl (sp_move rfl iL) ?_
   refine AF.step rfl rfl rfl (sp_nilCheck_own (ob := .box _ _ _) rfl iL fR rfl) ?_
   refine AF.step rfl rfl rfl (sp_fieldAddr_own (ob := .box _ _ _) rfl tf_150_2 iL fR rfl) ?_
   refine AF.step rfl rfl rfl (ms_load_box (a := .r (.int .i64 w2.cut)) rfl ts_3 iL rfl rfl) ?_
   refine AF.step rfl rfl rfl (sp_build rfl tb_31 (q := [(0, _), (1, _)]) (by exact ⟨rfl, rfl, rfl, iL, rfl, rfl, rfl, iL, trivial⟩) (cs := [.r (.int .i64 2), .r (.int .i64 w2.cut), .cst (.slice none 0 0), .cst (.slice none 0 0)]) (by rfl)) ?_
   refine AF.nil ?_
   refine AA.step rfl rfl rfl (msA_lit 37 rfl tg_23 (f := GStep.row) (l := ([(GStep.mk 2 w2.cut [] [])] : List GStep)) ⟨rfl, ⟨_, iL, rfl⟩, trivial⟩ rfl (fun _ => rfl) rfl) ?_
   refine AA.nil ?_
   refine ob1k h3 fun l1 el1 h4 => ?_
   refine AOps.step rfl rfl rfl (ms_app rfl tg_23 iL rfl (.inr (.inl ⟨_, _, iL, rfl⟩)) el1) ?_
   refine sQ rfl (sp_nilCheck_own (ob := .box _ _ _) rfl iL fR rfl) ?_
   refine sQ rfl (sp_fieldAddr_own (ob := .box _ _ _) rfl tf_150_0 iL fR rfl) ?_
   refine AOps.step0 rfl rfl (ms_store_box (ds := [.own 1001 ((i1 1) + 1), .r (.sl (w2.add.map GElem.row)), .r (.int .i64 w2.cut)]) rfl tz_23 iL rfl iL rfl rfl rfl rfl) ?_
   refine AOps.nil ?_
   exact wK3 _ _ ((by exact Weak.cv ⟨jL, trivial⟩ ⟨.inl rfl, .inl rfl, trivial⟩ nL)) (J2 _ (vec [((i1 1) + 1), ((i1 1) + 2)]) (Option.some.inj h4).symm)
  ·have h3 := ite_f hc1 hp2
   refine AW.skip ?_
   exact wK3 _ _ ((by exact Weak.cv ⟨jL, trivial⟩ ⟨.inl rfl, .inl rfl, trivial⟩ nL)) (J2 _ (vec [(i1 0), (i1 1)]) (Option.some.inj h3).symm)
 refine AW.cond rfl (fun hc2 => ?_) (fun hc2 => ?_)
 ·have h5 := ite_t hc2 hp1
  refine AW.weak (by exact Weak.frz (e' := [(0, .ptr 1000 gb1000 0 0), (2, .ptr 1000 gb1000 0 0), (3, .ptr 1000 gb1000 0 0), (4, .ptr 1000 gb1000 0 1), (5, .r (.sl (w1.add.map GElem.row))), (6, .r (.int .i64 (w1.add.length : Int))), (7, .r (.bool (decide (0 < (w1.add.length : Int)))))]) (h' := [(1000, some (.box gb1000 150 [.own 1001 ga1001, .r (.sl (w1.add.map GElem.row)), .r (.int .i64 w1.cut)])), (1001, some (.arr ga1001 31 4 (w1.out.map GStep.row)))]) 1002 rfl ⟨jL, jL, jL, jL, .inl (.inr (.inr ⟨rfl, rfl⟩)), jL, jL, trivial⟩ ⟨rfl, .inr (.inr (.inl ⟨_, _, _, _, rfl, rfl, ⟨.inl rfl, .inr (.inr ⟨rfl, rfl⟩), .inl rfl, trivial⟩⟩)), rfl, .inl rfl, trivial⟩) ?_
  refine AW.regionF' [0] [1, 2, 3, 4, 5, 6, 7, 8, 9] [10] 11 hmix (by kernel_rfl) rfl rfl rfl rfl rfl ?_
  refine AFl.move rfl rfl rfl rfl ?_
  refine AFl.nil ?_
  refine AF.step rfl rfl rfl (sp_move rfl iL) ?_
  refine AF.step rfl rfl rfl (sp_nilCheck_own (ob := .box _ _ _) rfl iL fR rfl) ?_
  refine AF.step rfl rfl rfl (sp_fieldAddr_own (ob := .box _ _ _) rfl tf_150_0 iL fR rfl) ?_
  refine AF.step rfl rfl rfl (ms_load_box (a := .own 1001 ga1001) rfl ts_23 iL rfl rfl) ?_
  refine AF.step rfl rfl rfl (sp_move rfl iL) ?_
  refine AF.step rfl rfl rfl (sp_nilCheck_own (ob := .box _ _ _) rfl iL fR rfl) ?_
  refine AF.step rfl rfl rfl (sp_fieldAddr_own (ob := .box _ _ _) rfl tf_150_1 iL fR rfl) ?_
  refine AF.step rfl rfl rfl (ms_load_box (a := .r (.sl (w1.add.map GElem.row))) rfl ts_22 iL rfl rfl) ?_
  refine AF.step rfl rfl rfl (sp_build rfl tb_31 (q := [(0, _), (3, _)]) (by exact ⟨rfl, rfl, rfl, iL, rfl, rfl, rfl, iL, trivial⟩) (cs := [.r (.int .i64 1), .r (.int .i64 0), .cst (.slice none 0 0), .r (.sl (w1.add.map GElem.row))]) (by rfl)) ?_
  refine AF.nil ?_
  refine AA.step rfl rfl rfl (msA_lit 18 rfl tg_23 (f := GStep.row) (l := ([(GStep.mk 1 0 [] w1.add)] : List GStep)) ⟨rfl, ⟨_, iL, rfl⟩, trivial⟩ rfl (fun _ => rfl) rfl) ?_
  refine AA.nil ?_
  refine ob1k h5 fun l2 el2 h6 => ?_
  refine AOps.step rfl rfl rfl (ms_app rfl tg_23 iL rfl (.inr (.inl ⟨_, _, iL, rfl⟩)) el2) ?_
  refine sQ rfl (sp_nilCheck_own (ob := .box _ _ _) rfl iL fR rfl) ?_
  refine sQ rfl (sp_fieldAddr_own (ob := .box _ _ _) rfl tf_150_0 iL fR rfl) ?_
  refine AOps.step0 rfl rfl (ms_store_box (ds := [.own 1001 (n0 + 1), .r (.sl (w1.add.map GElem.row)), .r (.int .i64 w1.cut)]) rfl tz_23 iL rfl iL rfl rfl rfl rfl) ?_
  refine AOps.nil ?_
  exact wK1 _ _ ((by exact Weak.cv ⟨jL, trivial⟩ ⟨.inl rfl, .inl rfl, trivial⟩ nL)) (J1 _ (vec [(n0 + 1), (n0 + 2)]) (Option.some.inj h6).symm)
 ·have h5 := ite_f hc2 hp1
  refine AW.skip ?_
  exact wK1 _ _ (Weak.trans (by exact Weak.frz (e' := [(0, .ptr 1000 gb1000 0 0), (2, .ptr 1000 gb1000 0 0), (3, .ptr 1000 gb1000 0 0), (4, .ptr 1000 gb1000 0 1), (5, .r (.sl (w1.add.map GElem.row))), (6, .r (.int .i64 (w1.add.length : Int))), (7, .r (.bool (decide (0 < (w1.add.length : Int)))))]) (h' := [(1000, some (.box gb1000 150 [.own 1001 ga1001, .r (.sl (w1.add.map GElem.row)), .r (.int .i64 w1.cut)])), (1001, some (.arr ga1001 31 4 (w1.out.map GStep.row)))]) 1002 rfl ⟨jL, jL, jL, jL, .inl (.inr (.inr ⟨rfl, rfl⟩)), jL, jL, trivial⟩ ⟨rfl, .inr (.inr (.inl ⟨_, _, _, _, rfl, rfl, ⟨.inl rfl, .inr (.inr ⟨rfl, rfl⟩), .inl rfl, trivial⟩⟩)), rfl, .inl rfl, trivial⟩) (by exact Weak.cv ⟨jL, trivial⟩ ⟨.inl rfl, .inl rfl, trivial⟩ nL)) (J1 _ (vec [ga1001, n0]) (Option.some.inj h5).symm)
set_option maxHeartbeats 4000000 in
set_option maxRecDepth 20000 in
theorem w_delta_writer_keep {w1 : Delta_Writer} {n1 : Int} {attrs1 : List GAttr} {r : Delta_Writer} {gb1000 : Nat} {ga1001 : Nat} {ga1002 : Nat} (h : delta_writer_keep w1 n1 attrs1 = some r) : AHC Try.prog 103 3 [.ptr 1000 gb1000 0 0, .r (.int .i64 n1), .r (.sl (attrs1.map GAttr.row))] [(1000, some (.box gb1000 150 [.own 1001 ga1001, .own 1002 ga1002, .r (.int .i64 w1.cut)])), (1001, some (.arr ga1001 31 4 (w1.out.map GStep.row))), (1002, some (.arr ga1002 82 3 (w1.add.map GElem.row)))] (fun rr h' => ∃ (i : Nat → Nat), rr = .tup [] ∧ h' = [(1000, some (.box gb1000 150 [.own 1001 (i 0), .own 1002 (i 1), .r (.int .i64 r.cut)])), (1001, some (.arr (i 0) 31 4 (r.out.map GStep.row))), (1002, some (.arr (i 1) 82 3 (r.add.map GElem.row)))]) := by
 unfold delta_writer_keep at h
 refine AHC.mkw Try.func103 rfl rfl Try.ntmps103 (Nat.le_of_ble_eq_true rfl) fun n0 => ?_
 refine AW.seq_w fun K1 hK1 wK1 => ?_
 refine AW.seq_w fun K2 hK2 wK2 => ?_
 refine AW.region ?_
 refine sM rfl rfl ?_
 refine sQ rfl (sp_eql rfl iL iL) ?_
 refine AOps.nil (hK2 _ ?_)
 refine AW.cond rfl (fun hc1 => ?_) (fun hc1 => ?_)
 ·have h1 := ite_t hc1 h
  refine AW.ret ?_
  exact RetW.mk (s' := ⟨[], [(1000, some (.box gb1000 150 [.own 1001 ga1001, .own 1002 ga1002, .r (.int .i64 w1.cut)])), (1001, some (.arr ga1001 31 4 (w1.out.map GStep.row))), (1002, some (.arr ga1002 82 3 (w1.add.map GElem.row)))], n0, 67⟩) ((by exact Weak.cv trivial ⟨.inl rfl, .inl rfl, .inl rfl, trivial⟩ nL)) (reth_cast (fun (r : Delta_Writer) rr h' => ∃ (i : Nat → Nat), rr = .tup [] ∧ h' = [(1000, some (.box gb1000 150 [.own 1001 (i 0), .own 1002 (i 1), .r (.int .i64 r.cut)])), (1001, some (.arr (i 0) 31 4 (r.out.map GStep.row))), (1002, some (.arr (i 1) 82 3 (r.add.map GElem.row)))]) h1 (by exact ⟨.tup [], [(1000, some (.box gb1000 150 [.own 1001 ga1001, .own 1002 ga1002, .r (.int .i64 w1.cut)])), (1001, some (.arr ga1001 31 4 (w1.out.map GStep.row))), (1002, some (.arr ga1002 82 3 (w1.add.map GElem.row)))], ⟨_, rfl, trivial⟩, ⟨.inr rfl, .inr rfl, .inr rfl, trivial⟩, rfl, rfl, vec [ga1001, ga1002], rfl, rfl⟩))
 ·have h1 := ite_f hc1 h
  refine AW.skip ?_
  refine hK1 _ ?_
  refine AW.seq_w fun K3 hK3 wK3 => ?_
  refine AW.region ?_
  refine sM rfl rfl ?_
  refine ob1k h1 fun w2 ew2 h2 => ?_
  refine AOps.stepHI [1000, 1001, 1002] (hc := [(1000, some (.box gb1000 150 [.own 1001 ga1001, .own 1002 ga1002, .r (.int .i64 w1.cut)])), (1001, some (.arr ga1001 31 4 (w1.out.map GStep.row))), (1002, some (.arr ga1002 82 3 (w1.add.map GElem.row)))]) (bs := [.ptr 1000 gb1000 0 0]) (caps := []) rfl rfl rfl rfl iL rfl ⟨.inl ⟨iL, rfl⟩, trivial⟩ ⟨rfl, rfl, rfl, rfl, rfl, rfl, rfl, rfl, rfl, trivial⟩ (by decide) (w_delta_writer_flush ew2) ?_
  intro i1 n2
  refine AOps.weak (s' := ⟨[(0, .ptr 1000 gb1000 0 0), (1, .r (.int .i64 n1)), (2, .r (.sl (attrs1.map GAttr.row))), (7, .r (.int .i64 n1)), (8, .r (.bool (decide (n1 = 0)))), (9, .ptr 1000 gb1000 0 0), (10, .tup [])], [(1000, some (.box gb1000 150 [.own 1001 (i1 0), .cst (.slice none 0 0), .r (.int .i64 w2.cut)])), (1001, some (.arr (i1 0) 31 4 (w2.out.map GStep.row)))], n2, 67⟩) (by exact Weak.cv ⟨jL, jL, jL, jL, jL, jL, jL, trivial⟩ ⟨.inl rfl, .inl rfl, trivial⟩ nL) ?_
  refine AOps.nil (hK3 _ ?_)
  refine AW.seq_w fun K4 hK4 wK4 => ?_
  refine AW.seq_w fun K5 hK5 wK5 => ?_
  refine AW.region ?_
  refine sM rfl rfl ?_
  refine sQ rfl (sp_nilCheck_own (ob := .box _ _ _) rfl iL fR rfl) ?_
  refine sQ rfl (sp_fieldAddr_own (ob := .box _ _ _) rfl tf_150_0 iL fR rfl) ?_
  refine sQ rfl (ms_load_box (a := .own 1001 (i1 0)) rfl ts_23 iL rfl rfl) ?_
  refine sQ rfl (ms_len_own rfl tg_23.slice iL rfl) ?_
  refine ob1k h2 fun k1 ek1 h3 => ?_
  refine sQ rfl (ms_sub rfl iL iL (fun _ => ek1)) ?_
  refine sQ rfl (sp_assign rfl iL) ?_
  refine AOps.nil (hK5 _ ?_)
  refine AW.seq_w fun K6 hK6 wK6 => ?_
  refine AW.weak (s' := ⟨[(0, .ptr 1000 gb1000 0 0), (1, .r (.int .i64 n1)), (2, .r (.sl (attrs1.map GAttr.row))), (6, .r (.int .i64 k1))], [(1000, some (.box gb1000 150 [.own 1001 (i1 0), .cst (.slice none 0 0), .r (.int .i64 w2.cut)])), (1001, some (.arr (i1 0) 31 4 (w2.out.map GStep.row)))], n2, 67⟩) (by exact Weak.cv ⟨jL, jL, jL, jL, trivial⟩ ⟨.inl rfl, .inl rfl, trivial⟩ nL) ?_
  refine AW.region ?_
  refine sM rfl rfl ?_
  refine sQ rfl (sp_geq rfl iL iL) ?_
  refine sM rfl rfl ?_
  refine sV rfl rfl rfl (sp_move rfl iL) ?_
  refine sV rfl rfl rfl (sp_nilCheck_own (ob := .box _ _ _) rfl (iR rfl) fR rfl) ?_
  refine sV rfl rfl rfl (sp_fieldAddr_own (ob := .box _ _ _) rfl tf_150_0 (iR rfl) fR rfl) ?_
  refine sV rfl rfl rfl (ms_load_box (a := .own 1001 (i1 0)) rfl ts_23 (iR rfl) rfl rfl) ?_
  refine sV rfl rfl rfl (sp_move rfl iL) ?_
  refine ob1k h3 fun x1 ex1 h4 => ?_
  refine sV rfl rfl rfl (ms_idx_own rfl tg_23.slice (iR rfl) rfl (iR rfl) (gdt ex1)) ?_
  refine sV rfl rfl rfl (sp_fieldAddr_own (ob := .arr _ _ _ _) rfl tf_31_0 (iR rfl) fR rfl) ?_
  refine sV rfl rfl rfl (ms_load_own (d := .int .i64 x1.Kind) rfl ts_3 (iR rfl) fR (gdt ex1) rfl) ?_
  refine sV rfl rfl rfl (sp_eql rfl (iR rfl) iL) ?_
  refine sQ rfl (sp_and rfl iL (iR rfl)) ?_
  refine sM rfl rfl ?_
  refine sV rfl rfl rfl (sp_move rfl iL) ?_
  refine sV rfl rfl rfl (sp_nilCheck_own (ob := .box _ _ _) rfl (iR rfl) fR rfl) ?_
  refine sV rfl rfl rfl (sp_fieldAddr_own (ob := .box _ _ _) rfl tf_150_0 (iR rfl) fR rfl) ?_
  refine sV rfl rfl rfl (ms_load_box (a := .own 1001 (i1 0)) rfl ts_23 (iR rfl) rfl rfl) ?_
  refine sV rfl rfl rfl (sp_move rfl iL) ?_
  refine ob1k h4 fun x2 ex2 h5 => ?_
  refine sV rfl rfl rfl (ms_idx_own rfl tg_23.slice (iR rfl) rfl (iR rfl) (gdt ex2)) ?_
  refine sV rfl rfl rfl (sp_fieldAddr_own (ob := .arr _ _ _ _) rfl tf_31_2 (iR rfl) fR rfl) ?_
  refine sV rfl rfl rfl (ms_load_own (d := .sl (x2.Attrs.map GAttr.row)) rfl ts_29 (iR rfl) fR (gdt ex2) rfl) ?_
  refine sV rfl rfl rfl (sp_move rfl iL) ?_
  refine ob1k h5 fun r1 er1 h6 => ?_
  refine AOps.stepW (.one rfl rfl rfl) rfl rfl (sp_call (r := .r (.bool r1)) (caps := []) (bs := [.r (.sl (x2.Attrs.map GAttr.row)), .r (.sl (attrs1.map GAttr.row))]) rfl iL rfl ⟨⟨_, (iR rfl), .d rfl⟩, ⟨_, (iR rfl), .d rfl⟩, trivial⟩ (fun hg => w_attr_Same (gdt er1 hg)) rfl) ?_
  refine sQ rfl (sp_and rfl iL (iR rfl)) ?_
  refine AOps.nil (hK6 _ ?_)
  refine AW.cond rfl (fun hc2 => ?_) (fun hc2 => ?_)
  ·have h7 := ite_t hc2 h6
   refine AW.seq_w fun K7 hK7 wK7 => ?_
   refine AW.weak (s' := ⟨[(0, .ptr 1000 gb1000 0 0), (1, .r (.int .i64 n1)), (6, .r (.int .i64 k1))], [(1000, some (.box gb1000 150 [.own 1001 (i1 0), .cst (.slice none 0 0), .r (.int .i64 w2.cut)])), (1001, some (.arr (i1 0) 31 4 (w2.out.map GStep.row)))], n2, 67⟩) (by exact Weak.cv ⟨jL, jL, jL, trivial⟩ ⟨.inl rfl, .inl rfl, trivial⟩ nL) ?_
   refine AW.region ?_
   refine sM rfl rfl ?_
   refine sQ rfl (sp_nilCheck_own (ob := .box _ _ _) rfl iL fR rfl) ?_
   refine sQ rfl (sp_fieldAddr_own (ob := .box _ _ _) rfl tf_150_0 iL fR rfl) ?_
   refine sQ rfl (ms_load_box (a := .own 1001 (i1 0)) rfl ts_23 iL rfl rfl) ?_
   refine sM rfl rfl ?_
   refine ob1k h7 fun x3 ex3 h8 => ?_
   refine sQ rfl (ms_idx_own rfl tg_23.slice iL rfl iL (fun _ => ex3)) ?_
   refine sQ rfl (sp_fieldAddr_own (ob := .arr _ _ _ _) rfl tf_31_1 iL fR rfl) ?_
   refine sQ rfl (ms_load_own (d := .int .i64 x3.N) rfl ts_3 iL fR (fun _ => ex3) rfl) ?_
   refine sM rfl rfl ?_
   refine ob1k h8 fun x4 ex4 h9 => ?_
   refine sQ rfl (ms_add rfl iL iL (fun _ => ex4)) ?_
   refine sQ rfl (ms_idx_own rfl tg_23.slice iL rfl iL (fun _ => ex3)) ?_
   refine sQ rfl (sp_fieldAddr_own (ob := .arr _ _ _ _) rfl tf_31_1 iL fR rfl) ?_
   refine AOps.step0 rfl rfl (ms_store (v := (GStep.mk x3.Kind x4 x3.Attrs x3.Elems)) rfl tz_3 iL rfl ex3 iL rfl rfl rfl rfl) ?_
   refine AOps.nil (hK7 _ ?_)
   refine AW.ret ?_
   exact RetW.mk (s' := ⟨[], [(1000, some (.box gb1000 150 [.own 1001 (i1 0), .own 1002 n2, .r (.int .i64 w2.cut)])), (1001, some (.arr (i1 0) 31 4 ((w2.out.set k1.toNat (GStep.mk x3.Kind x4 x3.Attrs x3.Elems)).map GStep.row))), (1002, some (.arr n2 82 3 (([] : List GElem).map GElem.row)))], (n2 + 1), 67⟩) (Weak.trans (Weak.trans (Weak.adoptBox 1000 1 1002 82 3 (by decide) rfl rfl (by decide)) (by exact Weak.cv (e' := [(0, .ptr 1000 gb1000 0 0), (1, .r (.int .i64 n1)), (6, .r (.int .i64 k1)), (42, .ptr 1000 gb1000 0 0), (43, .ptr 1000 gb1000 0 0), (44, .ptr 1000 gb1000 0 0), (45, .own 1001 (i1 0)), (46, .r (.int .i64 k1)), (47, .ptr 1001 (i1 0) k1.toNat 0), (48, .ptr 1001 (i1 0) k1.toNat 1), (49, .r (.int .i64 x3.N)), (50, .r (.int .i64 n1)), (51, .r (.int .i64 x4)), (52, .ptr 1001 (i1 0) k1.toNat 0), (53, .ptr 1001 (i1 0) k1.toNat 1)]) (h' := [(1000, some (.box gb1000 150 [.own 1001 (i1 0), .own 1002 n2, .r (.int .i64 w2.cut)])), (1001, some (.arr (i1 0) 31 4 ((w2.out.set k1.toNat (GStep.mk x3.Kind x4 x3.Attrs x3.Elems)).map GStep.row))), (1002, some (.arr n2 82 3 (([] : List GElem).map GElem.row)))]) ⟨jL, jL, jL, jL, jL, jL, jL, jL, jL, jL, jL, jL, jL, jL, jL, trivial⟩ ⟨.inl rfl, .inl rfl, .inl rfl, trivial⟩ nL)) (by exact Weak.cv trivial ⟨.inl rfl, .inl rfl, .inl rfl, trivial⟩ nL)) (reth_cast (fun (r : Delta_Writer) rr h' => ∃ (i : Nat → Nat), rr = .tup [] ∧ h' = [(1000, some (.box gb1000 150 [.own 1001 (i 0), .own 1002 (i 1), .r (.int .i64 r.cut)])), (1001, some (.arr (i 0) 31 4 (r.out.map GStep.row))), (1002, some (.arr (i 1) 82 3 (r.add.map GElem.row)))]) h9 (by exact ⟨.tup [], [(1000, some (.box gb1000 150 [.own 1001 (i1 0), .own 1002 n2, .r (.int .i64 w2.cut)])), (1001, some (.arr (i1 0) 31 4 ((w2.out.set k1.toNat (GStep.mk x3.Kind x4 x3.Attrs x3.Elems)).map GStep.row))), (1002, some (.arr n2 82 3 (([] : List GElem).map GElem.row)))], ⟨_, rfl, trivial⟩, ⟨.inr rfl, .inr rfl, .inr rfl, trivial⟩, rfl, rfl, vec [(i1 0), n2], rfl, rfl⟩))
  ·have h7 := ite_f hc2 h6
   refine AW.skip ?_
   refine hK4 _ ?_
   refine AW.weak (s' := ⟨[(0, .ptr 1000 gb1000 0 0), (1, .r (.int .i64 n1)), (2, .r (.sl (attrs1.map GAttr.row)))], [(1000, some (.box gb1000 150 [.own 1001 (i1 0), .cst (.slice none 0 0), .r (.int .i64 w2.cut)])), (1001, some (.arr (i1 0) 31 4 (w2.out.map GStep.row)))], n2, 67⟩) (by exact Weak.cv ⟨jL, jL, jL, trivial⟩ ⟨.inl rfl, .inl rfl, trivial⟩ nL) ?_
   refine ob1k h7 fun l1 el1 h10 => ?_
   refine ob1k h10 fun l2 el2 h11 => ?_
   refine AW.regionP 11 [⟨some 54, (fun _ => .ptr 1000 gb1000 0 0), none, []⟩, ⟨some 55, (fun _ => .ptr 1000 gb1000 0 0), none, []⟩, ⟨some 56, (fun _ => .ptr 1000 gb1000 0 0), none, []⟩, ⟨some 57, (fun _ => .ptr 1000 gb1000 0 0), none, []⟩, ⟨some 58, (fun _ => .own 1001 (i1 0)), none, []⟩, ⟨some 59, (fun _ => .r (.int .i64 n1)), none, []⟩, ⟨some 60, (fun _ => .r (.sl (attrs1.map GAttr.row))), none, []⟩, ⟨some 61, (fun _ => .r (.sl (l1.map GAttr.row))), some (61, (fun _ => none)), []⟩, ⟨some 62, (fun _ => .agg [.r (.int .i64 0), .r (.int .i64 n1), .r (.sl (l1.map GAttr.row)), .cst (.slice none 0 0)]), none, []⟩, ⟨some 63, (fun G1 => .own 63 (G1 9)), some (63, (fun G1 => some (.arr (G1 9) 31 4 ([(GStep.mk 0 n1 l1 [])].map GStep.row)))), [9]⟩, ⟨some 64, (fun G1 => .own 1001 (G1 10)), some (1001, (fun G1 => some (.arr (G1 10) 31 4 (l2.map GStep.row)))), [10]⟩] hmix (by kernel_rfl) (by exact ⟨fun _ _ h => ⟨rfl, fun _ _ e => by cases e⟩, fun _ _ h => ⟨rfl, fun _ _ e => by cases e⟩, fun _ _ h => ⟨rfl, fun _ _ e => by cases e⟩, fun _ _ h => ⟨rfl, fun _ _ e => by cases e⟩, fun _ _ h => ⟨rfl, fun _ _ e => by cases e⟩, fun _ _ h => ⟨rfl, fun _ _ e => by cases e⟩, fun _ _ h => ⟨rfl, fun _ _ e => by cases e⟩, fun _ _ h => ⟨rfl, fun _ _ e => by cases e; rfl⟩, fun _ _ h => ⟨rfl, fun _ _ e => by cases e⟩, fun _ _ h => ⟨by simp only [h 9 rfl], fun _ _ e => by cases e; simp only [h 9 rfl]⟩, fun _ _ h => ⟨by simp only [h 10 rfl], fun _ _ e => by cases e; simp only [h 10 rfl]⟩, trivial⟩) rfl (by exact ⟨Ob.quiet (n1 := fun n => n) rfl rfl (by intro d h; cases h; rfl) rfl (fun _ => [(0, .ptr 1000 gb1000 0 0)]) (fun _ => [(1000, some (.box gb1000 150 [.own 1001 (i1 0), .cst (.slice none 0 0), .r (.int .i64 w2.cut)]))]) (fun D G1 hr => ⟨inE_base rfl rfl, trivial⟩) (fun D G1 hr => ⟨inH_base rfl rfl, trivial⟩) (fun _ _ => rfl) (fun G1 e h' n => OpQ.spec (v := .ptr 1000 gb1000 0 0) (sp_move rfl (.inl rfl)) _),
     Ob.quiet (n1 := fun n => n) rfl rfl (by intro d h; cases h; rfl) rfl (fun _ => [(0, .ptr 1000 gb1000 0 0)]) (fun _ => [(1000, some (.box gb1000 150 [.own 1001 (i1 0), .cst (.slice none 0 0), .r (.int .i64 w2.cut)]))]) (fun D G1 hr => ⟨inE_base rfl rfl, trivial⟩) (fun D G1 hr => ⟨inH_base rfl rfl, trivial⟩) (fun _ _ => rfl) (fun G1 e h' n => OpQ.spec (v := .ptr 1000 gb1000 0 0) (sp_move rfl (.inl rfl)) _),
     Ob.quiet (n1 := fun n => n) rfl rfl (by intro d h; cases h; rfl) rfl (fun _ => [(55, .ptr 1000 gb1000 0 0)]) (fun _ => [(1000, some (.box gb1000 150 [.own 1001 (i1 0), .cst (.slice none 0 0), .r (.int .i64 w2.cut)]))]) (fun D G1 hr => ⟨inE_op hr 1 rfl rfl (by kernel_rfl) rfl rfl, trivial⟩) (fun D G1 hr => ⟨inH_base rfl rfl, trivial⟩) (fun _ _ => rfl) (fun G1 e h' n => OpQ.spec (v := .ptr 1000 gb1000 0 0) (sp_nilCheck_own (ob := .box _ _ _) rfl (.inl rfl) (fun _ => rfl) rfl) _),
     Ob.quiet (n1 := fun n => n) rfl rfl (by intro d h; cases h; rfl) rfl (fun _ => [(56, .ptr 1000 gb1000 0 0)]) (fun _ => [(1000, some (.box gb1000 150 [.own 1001 (i1 0), .cst (.slice none 0 0), .r (.int .i64 w2.cut)]))]) (fun D G1 hr => ⟨inE_op hr 2 rfl rfl (by kernel_rfl) rfl rfl, trivial⟩) (fun D G1 hr => ⟨inH_base rfl rfl, trivial⟩) (fun _ _ => rfl) (fun G1 e h' n => OpQ.spec (v := .ptr 1000 gb1000 0 0) (sp_fieldAddr_own (ob := .box _ _ _) rfl tf_150_0 (.inl rfl) (fun _ => rfl) rfl) _),
     Ob.quiet (n1 := fun n => n) rfl rfl (by intro d h; cases h; rfl) rfl (fun _ => [(57, .ptr 1000 gb1000 0 0)]) (fun _ => [(1000, some (.box gb1000 150 [.own 1001 (i1 0), .cst (.slice none 0 0), .r (.int .i64 w2.cut)]))]) (fun D G1 hr => ⟨inE_op hr 3 rfl rfl (by kernel_rfl) rfl rfl, trivial⟩) (fun D G1 hr => ⟨inH_base rfl rfl, trivial⟩) (fun _ _ => rfl) (fun G1 e h' n => OpQ.spec (v := .own 1001 (i1 0)) (ms_load_box (a := .own 1001 (i1 0)) rfl ts_23 (.inl rfl) rfl rfl) _),
     Ob.quiet (n1 := fun n => n) rfl rfl (by intro d h; cases h; rfl) rfl (fun _ => [(1, .r (.int .i64 n1))]) (fun _ => []) (fun D G1 hr => ⟨inE_base rfl rfl, trivial⟩) (fun D G1 hr => trivial) (fun _ _ => rfl) (fun G1 e h' n => OpQ.spec (v := .r (.int .i64 n1)) (sp_move rfl (.inl rfl)) _),
     Ob.quiet (n1 := fun n => n) rfl rfl (by intro d h; cases h; rfl) rfl (fun _ => [(2, .r (.sl (attrs1.map GAttr.row)))]) (fun _ => []) (fun D G1 hr => ⟨inE_base rfl rfl, trivial⟩) (fun D G1 hr => trivial) (fun _ _ => rfl) (fun G1 e h' n => OpQ.spec (v := .r (.sl (attrs1.map GAttr.row))) (sp_move rfl (.inl rfl)) _),
     Ob.makeN rfl rfl (by intro d h; cases h; rfl) rfl (fun _ => [(60, .r (.sl (attrs1.map GAttr.row)))]) (fun _ => []) (fun D G1 hr => ⟨inE_op hr 6 rfl rfl (by kernel_rfl) rfl rfl, trivial⟩) (fun D G1 hr => trivial) (fun G1 e h' n => (OpSpec.toN (ms_app_nil 61 (f := GAttr.row) rfl tg_29 (.inl rfl) (.inl ⟨(.inl rfl), fun _ => rfl⟩) el1)).frz),
     Ob.quiet (n1 := fun n => n) rfl rfl (by intro d h; cases h; rfl) rfl (fun _ => [(59, .r (.int .i64 n1)), (61, .r (.sl (l1.map GAttr.row)))]) (fun _ => []) (fun D G1 hr => ⟨inE_op hr 5 rfl rfl (by kernel_rfl) rfl rfl, inE_op hr 7 rfl rfl (by kernel_rfl) rfl rfl, trivial⟩) (fun D G1 hr => trivial) (fun _ _ => rfl) (fun G1 e h' n => OpQ.spec (v := .agg [.r (.int .i64 0), .r (.int .i64 n1), .r (.sl (l1.map GAttr.row)), .cst (.slice none 0 0)]) (sp_build rfl tb_31 (q := [(0, _), (1, _), (2, _)]) (by exact ⟨rfl, rfl, rfl, (.inl rfl), rfl, rfl, rfl, (.inl rfl), rfl, rfl, rfl, (.inl rfl), trivial⟩) (cs := [.r (.int .i64 0), .r (.int .i64 n1), .r (.sl (l1.map GAttr.row)), .cst (.slice none 0 0)]) (by rfl)) _),
     Ob.make (n1 := fun n => n + 1) rfl rfl (by intro d h; cases h; rfl) rfl (fun _ => [(62, .agg [.r (.int .i64 0), .r (.int .i64 n1), .r (.sl (l1.map GAttr.row)), .cst (.slice none 0 0)])]) (fun _ => []) (fun D G1 hr => ⟨inE_op hr 8 rfl rfl (by kernel_rfl) rfl rfl, trivial⟩) (fun D G1 hr => trivial) (fun G1 e h' n => ms_lit 63 rfl tg_23 (f := GStep.row) (l := ([(GStep.mk 0 n1 l1 [])] : List GStep)) ⟨rfl, ⟨_, (.inl rfl), rfl⟩, trivial⟩ rfl (fun _ => rfl) rfl),
     Ob.make (n1 := fun n => n + 1) rfl rfl (by intro d h; cases h; rfl) rfl (fun G1 => [(58, .own 1001 (i1 0)), (63, .own 63 (G1 9))]) (fun G1 => [(63, some (.arr (G1 9) 31 4 ([(GStep.mk 0 n1 l1 [])].map GStep.row))), (1001, some (.arr (i1 0) 31 4 (w2.out.map GStep.row)))]) (fun D G1 hr => ⟨inE_op hr 4 rfl rfl (by kernel_rfl) rfl rfl, inE_op hr 9 rfl rfl (by kernel_rfl) rfl rfl, trivial⟩) (fun D G1 hr => ⟨inH_op hr 9 rfl rfl (by kernel_rfl) (by kernel_rfl) rfl, inH_baseL hr (by kernel_rfl) rfl, trivial⟩) (fun G1 e h' n => ms_app rfl tg_23 (.inl rfl) rfl (.inr (.inl ⟨_, _, (.inl rfl), rfl⟩)) el2),
     trivial⟩) fun G1 n3 => ?_
   refine AOps.weak (s' := ⟨[(0, .ptr 1000 gb1000 0 0), (1, .r (.int .i64 n1)), (2, .r (.sl (attrs1.map GAttr.row))), (54, .ptr 1000 gb1000 0 0), (55, .ptr 1000 gb1000 0 0), (56, .ptr 1000 gb1000 0 0), (57, .ptr 1000 gb1000 0 0), (59, .r (.int .i64 n1)), (60, .r (.sl (attrs1.map GAttr.row))), (61, .r (.sl (l1.map GAttr.row))), (62, .agg [.r (.int .i64 0), .r (.int .i64 n1), .r (.sl (l1.map GAttr.row)), .cst (.slice none 0 0)]), (63, .own 63 (G1 9)), (64, .own 1001 (G1 10))], [(63, some (.arr (G1 9) 31 4 ([(GStep.mk 0 n1 l1 [])].map GStep.row))), (1000, some (.box gb1000 150 [.own 1001 (i1 0), .cst (.slice none 0 0), .r (.int .i64 w2.cut)])), (1001, some (.arr (G1 10) 31 4 (l2.map GStep.row)))], n3, 67⟩) (by exact Weak.cv ⟨jL, jL, jL, jL, jL, jL, jL, jL, jL, jL, jL, jL, jL, trivial⟩ ⟨.inl rfl, .inl rfl, .inl rfl, trivial⟩ nL) ?_
   refine sQ rfl (sp_nilCheck_own (ob := .box _ _ _) rfl iL fR rfl) ?_
   refine sQ rfl (sp_fieldAddr_own (ob := .box _ _ _) rfl tf_150_0 iL fR rfl) ?_
   refine AOps.step0 rfl rfl (ms_store_box (ds := [.own 1001 (G1 10), .cst (.slice none 0 0), .r (.int .i64 w2.cut)]) rfl tz_23 iL rfl iL rfl rfl rfl rfl) ?_
   refine AOps.nil ?_
   exact RetW.mk (s' := ⟨[], [(1000, some (.box gb1000 150 [.own 1001 (G1 10), .own 1002 n3, .r (.int .i64 w2.cut)])), (1001, some (.arr (G1 10) 31 4 (l2.map GStep.row))), (1002, some (.arr n3 82 3 (([] : List GElem).map GElem.row)))], (n3 + 1), 67⟩) (Weak.trans (Weak.trans (Weak.adoptBox 1000 1 1002 82 3 (by decide) rfl rfl (by decide)) (by exact Weak.cv (e' := [(0, .ptr 1000 gb1000 0 0), (1, .r (.int .i64 n1)), (2, .r (.sl (attrs1.map GAttr.row))), (54, .ptr 1000 gb1000 0 0), (55, .ptr 1000 gb1000 0 0), (56, .ptr 1000 gb1000 0 0), (57, .ptr 1000 gb1000 0 0), (59, .r (.int .i64 n1)), (60, .r (.sl (attrs1.map GAttr.row))), (61, .r (.sl (l1.map GAttr.row))), (62, .agg [.r (.int .i64 0), .r (.int .i64 n1), .r (.sl (l1.map GAttr.row)), .cst (.slice none 0 0)]), (63, .own 63 (G1 9)), (64, .own 1001 (G1 10)), (65, .ptr 1000 gb1000 0 0), (66, .ptr 1000 gb1000 0 0)]) (h' := [(63, some (.arr (G1 9) 31 4 ([(GStep.mk 0 n1 l1 [])].map GStep.row))), (1000, some (.box gb1000 150 [.own 1001 (G1 10), .own 1002 n3, .r (.int .i64 w2.cut)])), (1001, some (.arr (G1 10) 31 4 (l2.map GStep.row))), (1002, some (.arr n3 82 3 (([] : List GElem).map GElem.row)))]) ⟨jL, jL, jL, jL, jL, jL, jL, jL, jL, jL, jL, jL, jL, jL, jL, trivial⟩ ⟨.inl rfl, .inl rfl, .inl rfl, .inl rfl, trivial⟩ nL)) (by exact Weak.cv trivial ⟨.inl rfl, .inl rfl, .inl rfl, trivial⟩ nL)) (reth_cast (fun (r : Delta_Writer) rr h' => ∃ (i : Nat → Nat), rr = .tup [] ∧ h' = [(1000, some (.box gb1000 150 [.own 1001 (i 0), .own 1002 (i 1), .r (.int .i64 r.cut)])), (1001, some (.arr (i 0) 31 4 (r.out.map GStep.row))), (1002, some (.arr (i 1) 82 3 (r.add.map GElem.row)))]) h11 (by exact ⟨.tup [], [(1000, some (.box gb1000 150 [.own 1001 (G1 10), .own 1002 n3, .r (.int .i64 w2.cut)])), (1001, some (.arr (G1 10) 31 4 (l2.map GStep.row))), (1002, some (.arr n3 82 3 (([] : List GElem).map GElem.row)))], ⟨_, rfl, trivial⟩, ⟨.inr rfl, .inr rfl, .inr rfl, trivial⟩, rfl, rfl, vec [(G1 10), n3], rfl, rfl⟩))
set_option maxHeartbeats 4000000 in
set_option maxRecDepth 20000 in
theorem w_flow_Copy {f1 : List GElem} {r : (List GElem)} (h : flow_Copy f1 = some r) : ARO Try.prog 84 [.r (.sl (f1.map GElem.row))] (.r (.sl (r.map GElem.row))) := by
 unfold flow_Copy at h
 refine ARO.mkF Try.func84 rfl rfl Try.ntmps84 rfl (Nat.le_of_ble_eq_true rfl) fun n0 => ?_
 refine AW.seq_w fun K1 hK1 wK1 => ?_
 refine AW.region ?_
 refine sQ rfl (sp_assign rfl iL) ?_
 refine AOps.nil (hK1 _ ?_)
 refine AW.seq_w fun K2 hK2 wK2 => ?_
 refine AW.region ?_
 refine sM rfl rfl ?_
 refine sQ rfl (ms_len rfl tg_22.slice iL) ?_
 refine ob1k h fun out1 eout1 h1 => ?_
 refine AOps.step rfl rfl rfl (ms_mk 8 rfl tg_22 (f := GElem.row) (z0 := (GElem.mk 0 0 [])) tr_82 iL iL eout1) ?_
 refine sQ rfl (sp_assign rfl iL) ?_
 refine AOps.nil (hK2 _ ?_)
 refine AW.seq_w fun K3 hK3 wK3 => ?_
 refine AW.seq_w fun K4 hK4 wK4 => ?_
 refine AW.region ?_
 refine sM rfl rfl ?_
 refine sQ rfl (ms_len rfl tg_22.slice iL) ?_
 refine sM rfl rfl ?_
 refine AOps.nil (hK4 _ ?_)
 refine AW.block ?_
 refine jb1k h1 fun o1 hit1 hk1 => ?_
 have J1 : ∀ (out5 : List GElem) (i5 : Nat → Nat), o1 = out5 → K3 ⟨[(3, .own 8 (i5 0))], [(8, some (.arr (i5 0) 82 3 (out5.map GElem.row)))], (i5 1), 29⟩ := by
  intro out5 i5 e
  have h2 := hk1 _ e
  refine hK3 _ ?_
  refine AW.seq_w fun K5 hK5 wK5 => ?_
  refine AW.region ?_
  refine sM rfl rfl ?_
  refine sQ rfl (sp_assign rfl iL) ?_
  refine AOps.nil (hK5 _ ?_)
  refine AW.ret ?_
  exact retf1 (P := Try.prog) (fun (r : (List GElem)) => .r (.sl (r.map GElem.row))) h2 iL (.t (.one (.own rfl)))
 refine AW.iter2 (fun (x2 : Int) (out3 : List GElem) i3 => ⟨[(3, .own 8 (i3 0)), (9, .r (.sl (f1.map GElem.row))), (10, .r (.int .i64 (f1.length : Int))), (11, .r (.int .i64 x2))], [(8, some (.arr (i3 0) 82 3 (out3.map GElem.row)))], (i3 1), 29⟩) (vec [n0, (n0 + 1)]) hit1 ((by exact Weak.cv ⟨jL, jL, jL, jL, trivial⟩ ⟨.inl rfl, trivial⟩ nL)) ?_
 intro x2 out3 i3 v1 hv1 hx1
 have h3 : flow_Copy_L1 f1 x2 out3 = some v1 := hv1; unfold flow_Copy_L1 at h3
 refine AW.seq_w fun K6 hK6 wK6 => ?_
 refine AW.region ?_
 refine sQ rfl (sp_lss rfl iL iL) ?_
 refine AOps.nil (hK6 _ ?_)
 refine AW.seq_w fun K7 hK7 wK7 => ?_
 refine AW.cond rfl (fun hc1 => ?_) (fun hc1 => ?_)
 ·have h4 := ite_t hc1 h3
  refine AW.skip ?_
  refine hK7 _ ?_
  refine AW.seq_w fun K8 hK8 wK8 => ?_
  refine AW.block ?_
  refine AW.seq_w fun K9 hK9 wK9 => ?_
  refine AW.region ?_
  refine sM rfl rfl ?_
  refine ob1k h4 fun x4 ex4 h5 => ?_
  refine sQ rfl (ms_idx rfl tg_22.slice iL iL (fun _ => rfl) (fun _ => ex4)) ?_
  refine sQ rfl (ms_loadA (cs := [.r (.int .i64 x4.Char), .r (.int .i64 x4.Ref), .r (.sl (x4.Attrs.map GAttr.row))]) rfl ta_82 iL rfl rfl) ?_
  refine AOps.step rfl rfl rfl (ms_alloc (cs := [.r (.int .i64 0), .r (.int .i64 0), .cst (.slice none 0 0)]) 5 rfl t0_82 rfl rfl) ?_
  refine sQ rfl (sp_assign rfl iL) ?_
  refine AOps.step0 rfl rfl (ms_store_box (ds := [.r (.int .i64 x4.Char), .r (.int .i64 x4.Ref), .r (.sl (x4.Attrs.map GAttr.row))]) rfl tz_82 iL rfl iL rfl rfl rfl rfl) ?_
  refine AOps.nil (hK9 _ ?_)
  refine ob1k h5 fun l1 el1 h6 => ?_
  refine AW.regionP 10 [⟨some 16, (fun _ => .own 8 (i3 0)), none, []⟩, ⟨some 17, (fun _ => .r (.int .i64 x2)), none, []⟩, ⟨some 18, (fun _ => .ptr 5 (i3 1) 0 0), none, []⟩, ⟨some 19, (fun _ => .r (.int .i64 x4.Char)), none, []⟩, ⟨some 20, (fun _ => .ptr 5 (i3 1) 0 1), none, []⟩, ⟨some 21, (fun _ => .r (.int .i64 x4.Ref)), none, []⟩, ⟨some 22, (fun _ => .ptr 5 (i3 1) 0 2), none, []⟩, ⟨some 23, (fun _ => .r (.sl (x4.Attrs.map GAttr.row))), none, []⟩, ⟨some 24, (fun G1 => .own 24 (G1 8)), some (24, (fun G1 => some (.arr (G1 8) 92 2 (l1.map GAttr.row)))), [8]⟩, ⟨some 25, (fun G1 => .agg [.r (.int .i64 x4.Char), .r (.int .i64 x4.Ref), .own 24 (G1 8)]), none, [8]⟩] hmix (by kernel_rfl) (by exact ⟨fun _ _ h => ⟨rfl, fun _ _ e => by cases e⟩, fun _ _ h => ⟨rfl, fun _ _ e => by cases e⟩, fun _ _ h => ⟨rfl, fun _ _ e => by cases e⟩, fun _ _ h => ⟨rfl, fun _ _ e => by cases e⟩, fun _ _ h => ⟨rfl, fun _ _ e => by cases e⟩, fun _ _ h => ⟨rfl, fun _ _ e => by cases e⟩, fun _ _ h => ⟨rfl, fun _ _ e => by cases e⟩, fun _ _ h => ⟨rfl, fun _ _ e => by cases e⟩, fun _ _ h => ⟨by simp only [h 8 rfl], fun _ _ e => by cases e; simp only [h 8 rfl]⟩, fun _ _ h => ⟨by simp only [h 8 rfl], fun _ _ e => by cases e⟩, trivial⟩) rfl (by exact ⟨Ob.quiet (n1 := fun n => n) rfl rfl (by intro d h; cases h; rfl) rfl (fun _ => [(3, .own 8 (i3 0))]) (fun _ => [(8, some (.arr (i3 0) 82 3 (out3.map GElem.row)))]) (fun D G1 hr => ⟨inE_base rfl rfl, trivial⟩) (fun D G1 hr => ⟨inH_base rfl rfl, trivial⟩) (fun _ _ => rfl) (fun G1 e h' n => OpQ.spec (v := .own 8 (i3 0)) (sp_move rfl (.inl rfl)) _),
    Ob.quiet (n1 := fun n => n) rfl rfl (by intro d h; cases h; rfl) rfl (fun _ => [(4, .r (.int .i64 x2))]) (fun _ => []) (fun D G1 hr => ⟨inE_base rfl rfl, trivial⟩) (fun D G1 hr => trivial) (fun _ _ => rfl) (fun G1 e h' n => OpQ.spec (v := .r (.int .i64 x2)) (sp_move rfl (.inl rfl)) _),
    Ob.quiet (n1 := fun n => n) rfl rfl (by intro d h; cases h; rfl) rfl (fun _ => [(5, .ptr 5 (i3 1) 0 0)]) (fun _ => [(5, some (.box (i3 1) 82 [.r (.int .i64 x4.Char), .r (.int .i64 x4.Ref), .r (.sl (x4.Attrs.map GAttr.row))]))]) (fun D G1 hr => ⟨inE_base rfl rfl, trivial⟩) (fun D G1 hr => ⟨inH_base rfl rfl, trivial⟩) (fun _ _ => rfl) (fun G1 e h' n => OpQ.spec (v := .ptr 5 (i3 1) 0 0) (sp_fieldAddr_own (ob := .box _ _ _) rfl tf_82_0 (.inl rfl) (fun _ => rfl) rfl) _),
    Ob.quiet (n1 := fun n => n) rfl rfl (by intro d h; cases h; rfl) rfl (fun _ => [(18, .ptr 5 (i3 1) 0 0)]) (fun _ => [(5, some (.box (i3 1) 82 [.r (.int .i64 x4.Char), .r (.int .i64 x4.Ref), .r (.sl (x4.Attrs.map GAttr.row))]))]) (fun D G1 hr => ⟨inE_op hr 2 rfl rfl (by kernel_rfl) rfl rfl, trivial⟩) (fun D G1 hr => ⟨inH_base rfl rfl, trivial⟩) (fun _ _ => rfl) (fun G1 e h' n => OpQ.spec (v := .r (.int .i64 x4.Char)) (ms_load_box (a := .r (.int .i64 x4.Char)) rfl ts_3 (.inl rfl) rfl rfl) _),
    Ob.quiet (n1 := fun n => n) rfl rfl (by intro d h; cases h; rfl) rfl (fun _ => [(5, .ptr 5 (i3 1) 0 0)]) (fun _ => [(5, some (.box (i3 1) 82 [.r (.int .i64 x4.Char), .r (.int .i64 x4.Ref), .r (.sl (x4.Attrs.map GAttr.row))]))]) (fun D G1 hr => ⟨inE_base rfl rfl, trivial⟩) (fun D G1 hr => ⟨inH_base rfl rfl, trivial⟩) (fun _ _ => rfl) (fun G1 e h' n => OpQ.spec (v := .ptr 5 (i3 1) 0 1) (sp_fieldAddr_own (ob := .box _ _ _) rfl tf_82_1 (.inl rfl) (fun _ => rfl) rfl) _),
    Ob.quiet (n1 := fun n => n) rfl rfl (by intro d h; cases h; rfl) rfl (fun _ => [(20, .ptr 5 (i3 1) 0 1)]) (fun _ => [(5, some (.box (i3 1) 82 [.r (.int .i64 x4.Char), .r (.int .i64 x4.Ref), .r (.sl (x4.Attrs.map GAttr.row))]))]) (fun D G1 hr => ⟨inE_op hr 4 rfl rfl (by kernel_rfl) rfl rfl, trivial⟩) (fun D G1 hr => ⟨inH_base rfl rfl, trivial⟩) (fun _ _ => rfl) (fun G1 e h' n => OpQ.spec (v := .r (.int .i64 x4.Ref)) (ms_load_box (a := .r (.int .i64 x4.Ref)) rfl ts_3 (.inl rfl) rfl rfl) _),
    Ob.quiet (n1 := fun n => n) rfl rfl (by intro d h; cases h; rfl) rfl (fun _ => [(5, .ptr 5 (i3 1) 0 0)]) (fun _ => [(5, some (.box (i3 1) 82 [.r (.int .i64 x4.Char), .r (.int .i64 x4.Ref), .r (.sl (x4.Attrs.map GAttr.row))]))]) (fun D G1 hr => ⟨inE_base rfl rfl, trivial⟩) (fun D G1 hr => ⟨inH_base rfl rfl, trivial⟩) (fun _ _ => rfl) (fun G1 e h' n => OpQ.spec (v := .ptr 5 (i3 1) 0 2) (sp_fieldAddr_own (ob := .box _ _ _) rfl tf_82_2 (.inl rfl) (fun _ => rfl) rfl) _),
    Ob.quiet (n1 := fun n => n) rfl rfl (by intro d h; cases h; rfl) rfl (fun _ => [(22, .ptr 5 (i3 1) 0 2)]) (fun _ => [(5, some (.box (i3 1) 82 [.r (.int .i64 x4.Char), .r (.int .i64 x4.Ref), .r (.sl (x4.Attrs.map GAttr.row))]))]) (fun D G1 hr => ⟨inE_op hr 6 rfl rfl (by kernel_rfl) rfl rfl, trivial⟩) (fun D G1 hr => ⟨inH_base rfl rfl, trivial⟩) (fun _ _ => rfl) (fun G1 e h' n => OpQ.spec (v := .r (.sl (x4.Attrs.map GAttr.row))) (ms_load_box (a := .r (.sl (x4.Attrs.map GAttr.row))) rfl ts_29 (.inl rfl) rfl rfl) _),
    Ob.make (n1 := fun n => n + 1) rfl rfl (by intro d h; cases h; rfl) rfl (fun _ => [(23, .r (.sl (x4.Attrs.map GAttr.row)))]) (fun _ => []) (fun D G1 hr => ⟨inE_op hr 7 rfl rfl (by kernel_rfl) rfl rfl, trivial⟩) (fun D G1 hr => trivial) (fun G1 e h' n => ms_app_nil 24 (f := GAttr.row) rfl tg_29 (.inl rfl) (.inl ⟨(.inl rfl), fun _ => rfl⟩) el1),
    Ob.quiet (n1 := fun n => n) rfl rfl (by intro d h; cases h; rfl) rfl (fun G1 => [(19, .r (.int .i64 x4.Char)), (21, .r (.int .i64 x4.Ref)), (24, .own 24 (G1 8))]) (fun G1 => [(24, some (.arr (G1 8) 92 2 (l1.map GAttr.row)))]) (fun D G1 hr => ⟨inE_op hr 3 rfl rfl (by kernel_rfl) rfl rfl, inE_op hr 5 rfl rfl (by kernel_rfl) rfl rfl, inE_op hr 8 rfl rfl (by kernel_rfl) rfl rfl, trivial⟩) (fun D G1 hr => ⟨inH_op hr 8 rfl rfl (by kernel_rfl) (by kernel_rfl) rfl, trivial⟩) (fun _ _ => rfl) (fun G1 e h' n => OpQ.spec (v := .agg [.r (.int .i64 x4.Char), .r (.int .i64 x4.Ref), .own 24 (G1 8)]) (sp_build rfl tb_82 (q := [(0, _), (1, _), (2, _)]) (by exact ⟨rfl, rfl, rfl, (.inl rfl), rfl, rfl, rfl, (.inl rfl), rfl, rfl, rfl, (.inl rfl), trivial⟩) (cs := [.r (.int .i64 x4.Char), .r (.int .i64 x4.Ref), .own 24 (G1 8)]) (by rfl)) _),
    trivial⟩) fun G1 n1 => ?_
  refine AOps.weak (s' := ⟨[(3, .own 8 (i3 0)), (4, .r (.int .i64 x2)), (5, .ptr 5 (i3 1) 0 0), (9, .r (.sl (f1.map GElem.row))), (10, .r (.int .i64 (f1.length : Int))), (11, .r (.int .i64 x2)), (12, .r (.bool (decide (x2 < (f1.length : Int))))), (13, .r (.int .i64 x2)), (14, .rop (GElem.row x4) 0), (15, .agg [.r (.int .i64 x4.Char), .r (.int .i64 x4.Ref), .r (.sl (x4.Attrs.map GAttr.row))]), (16, .own 8 (i3 0)), (17, .r (.int .i64 x2)), (18, .ptr 5 (i3 1) 0 0), (19, .r (.int .i64 x4.Char)), (20, .ptr 5 (i3 1) 0 1), (21, .r (.int .i64 x4.Ref)), (22, .ptr 5 (i3 1) 0 2), (23, .r (.sl (x4.Attrs.map GAttr.row))), (24, .own 24 (G1 8)), (25, .agg [.r (.int .i64 x4.Char), .r (.int .i64 x4.Ref), .own 24 (G1 8)])], [(5, some (.box (i3 1) 82 [.r (.int .i64 x4.Char), .r (.int .i64 x4.Ref), .r (.sl (x4.Attrs.map GAttr.row))])), (8, some (.arr (i3 0) 82 3 (out3.map GElem.row))), (24, some (.arr (G1 8) 92 2 (l1.map GAttr.row)))], n1, 29⟩) (by exact Weak.cv ⟨jL, jL, jL, jL, jL, jL, jL, jL, jL, jL, jL, jL, jL, jL, jL, jL, jL, jL, jL, jL, trivial⟩ ⟨.inl rfl, .inl rfl, .inl rfl, trivial⟩ nL) ?_
  refine ob1k h6 fun x5 ex5 h7 => ?_
  refine sQ rfl (ms_idx_own rfl tg_22.slice iL rfl iL (fun _ => ex5)) ?_
  refine AOps.weak (by exact Weak.frz (e' := [(3, .own 8 (i3 0)), (4, .r (.int .i64 x2)), (5, .ptr 5 (i3 1) 0 0), (9, .r (.sl (f1.map GElem.row))), (10, .r (.int .i64 (f1.length : Int))), (11, .r (.int .i64 x2)), (12, .r (.bool (decide (x2 < (f1.length : Int))))), (13, .r (.int .i64 x2)), (14, .rop (GElem.row x4) 0), (15, .agg [.r (.int .i64 x4.Char), .r (.int .i64 x4.Ref), .r (.sl (x4.Attrs.map GAttr.row))]), (16, .own 8 (i3 0)), (17, .r (.int .i64 x2)), (18, .ptr 5 (i3 1) 0 0), (19, .r (.int .i64 x4.Char)), (20, .ptr 5 (i3 1) 0 1), (21, .r (.int .i64 x4.Ref)), (22, .ptr 5 (i3 1) 0 2), (23, .r (.sl (x4.Attrs.map GAttr.row))), (24, .r (.sl (l1.map GAttr.row))), (25, .agg [.r (.int .i64 x4.Char), .r (.int .i64 x4.Ref), .r (.sl (l1.map GAttr.row))]), (26, .ptr 8 (i3 0) x2.toNat 0)]) (h' := [(5, some (.box (i3 1) 82 [.r (.int .i64 x4.Char), .r (.int .i64 x4.Ref), .r (.sl (x4.Attrs.map GAttr.row))])), (8, some (.arr (i3 0) 82 3 (out3.map GElem.row)))]) 24 rfl ⟨jL, jL, jL, jL, jL, jL, jL, jL, jL, jL, jL, jL, jL, jL, jL, jL, jL, jL, .inl (.inr (.inr ⟨rfl, rfl⟩)), .inr ⟨_, _, rfl, rfl, ⟨.inl rfl, .inl rfl, .inr (.inr ⟨rfl, rfl⟩), trivial⟩⟩, jL, trivial⟩ ⟨rfl, .inl rfl, rfl, .inl rfl, trivial⟩) ?_
  refine AOps.step0 rfl rfl (ms_storeA (v := (GElem.mk x4.Char x4.Ref l1)) rfl tz_82 iL rfl ex5 iL rfl rfl rfl rfl) ?_
  refine AOps.nil (hK8 _ ?_)
  refine AW.weak (s' := ⟨[(3, .own 8 (i3 0)), (9, .r (.sl (f1.map GElem.row))), (10, .r (.int .i64 (f1.length : Int))), (11, .r (.int .i64 x2))], [(8, some (.arr (i3 0) 82 3 ((out3.set x2.toNat (GElem.mk x4.Char x4.Ref l1)).map GElem.row)))], n1, 29⟩) (by exact Weak.cv ⟨jL, jL, jL, jL, trivial⟩ ⟨.inl rfl, trivial⟩ nL) ?_
  refine AW.region ?_
  refine ob1k h7 fun x6 ex6 h8 => ?_
  refine sQ rfl (ms_add rfl iL iL (fun _ => ex6)) ?_
  refine sM rfl rfl ?_
  refine AOps.nil ?_
  exact NextQ2.mk h8 (vec [(i3 0), n1]) ((by exact Weak.cv ⟨jL, jL, jL, jL, trivial⟩ ⟨.inl rfl, trivial⟩ nL))
 ·have h4 := ite_f hc1 h3
  refine AW.exit ?_
  exact wK3 _ _ ((by exact Weak.cv ⟨jL, trivial⟩ ⟨.inl rfl, trivial⟩ nL)) (J1 _ (vec [(i3 0), (i3 1)]) (hx1 _ (Option.some.inj h4).symm))
set_option maxHeartbeats 4000000 in
set_option maxRecDepth 20000 in
theorem w_delta_writer_elems {w1 : Delta_Writer} {l1 : List GElem} {r : Delta_Writer} {gb1000 : Nat} {ga1001 : Nat} {ga1002 : Nat} (h : delta_writer_elems w1 l1 = some r) : AHC Try.prog 104 3 [.ptr 1000 gb1000 0 0, .r (.sl (l1.map GElem.row))] [(1000, some (.box gb1000 150 [.own 1001 ga1001, .own 1002 ga1002, .r (.int .i64 w1.cut)])), (1001, some (.arr ga1001 31 4 (w1.out.map GStep.row))), (1002, some (.arr ga1002 82 3 (w1.add.map GElem.row)))] (fun rr h' => ∃ (i : Nat → Nat), rr = .tup [] ∧ h' = [(1000, some (.box gb1000 150 [.own 1001 (i 0), .own 1002 (i 1), .r (.int .i64 r.cut)])), (1001, some (.arr (i 0) 31 4 (r.out.map GStep.row))), (1002, some (.arr (i 1) 82 3 (r.add.map GElem.row)))]) := by
 unfold delta_writer_elems at h
 refine AHC.mkw Try.func104 rfl rfl Try.ntmps104 (Nat.le_of_ble_eq_true rfl) fun n0 => ?_
 refine ob1k h fun r1 er1 h1 => ?_
 refine ob1k h1 fun l2 el2 h2 => ?_
 refine AW.regionP 8 [⟨some 4, (fun _ => .ptr 1000 gb1000 0 0), none, []⟩, ⟨some 5, (fun _ => .ptr 1000 gb1000 0 0), none, []⟩, ⟨some 6, (fun _ => .ptr 1000 gb1000 0 0), none, []⟩, ⟨some 7, (fun _ => .ptr 1000 gb1000 0 1), none, []⟩, ⟨some 8, (fun _ => .own 1002 ga1002), none, []⟩, ⟨some 9, (fun _ => .r (.sl (l1.map GElem.row))), none, []⟩, ⟨some 10, (fun _ => .r (.sl (r1.map GElem.row))), none, []⟩, ⟨some 11, (fun G1 => .own 1002 (G1 7)), some (1002, (fun G1 => some (.arr (G1 7) 82 3 (l2.map GElem.row)))), [7]⟩] hmix (by kernel_rfl) (by exact ⟨fun _ _ h => ⟨rfl, fun _ _ e => by cases e⟩, fun _ _ h => ⟨rfl, fun _ _ e => by cases e⟩, fun _ _ h => ⟨rfl, fun _ _ e => by cases e⟩, fun _ _ h => ⟨rfl, fun _ _ e => by cases e⟩, fun _ _ h => ⟨rfl, fun _ _ e => by cases e⟩, fun _ _ h => ⟨rfl, fun _ _ e => by cases e⟩, fun _ _ h => ⟨rfl, fun _ _ e => by cases e⟩, fun _ _ h => ⟨by simp only [h 7 rfl], fun _ _ e => by cases e; simp only [h 7 rfl]⟩, trivial⟩) rfl (by exact ⟨Ob.quiet (n1 := fun n => n) rfl rfl (by intro d h; cases h; rfl) rfl (fun _ => [(0, .ptr 1000 gb1000 0 0)]) (fun _ => [(1000, some (.box gb1000 150 [.own 1001 ga1001, .own 1002 ga1002, .r (.int .i64 w1.cut)]))]) (fun D G1 hr => ⟨inE_base rfl rfl, trivial⟩) (fun D G1 hr => ⟨inH_base rfl rfl, trivial⟩) (fun _ _ => rfl) (fun G1 e h' n => OpQ.spec (v := .ptr 1000 gb1000 0 0) (sp_move rfl (.inl rfl)) _),
   Ob.quiet (n1 := fun n => n) rfl rfl (by intro d h; cases h; rfl) rfl (fun _ => [(0, .ptr 1000 gb1000 0 0)]) (fun _ => [(1000, some (.box gb1000 150 [.own 1001 ga1001, .own 1002 ga1002, .r (.int .i64 w1.cut)]))]) (fun D G1 hr => ⟨inE_base rfl rfl, trivial⟩) (fun D G1 hr => ⟨inH_base rfl rfl, trivial⟩) (fun _ _ => rfl) (fun G1 e h' n => OpQ.spec (v := .ptr 1000 gb1000 0 0) (sp_move rfl (.inl rfl)) _),
   Ob.quiet (n1 := fun n => n) rfl rfl (by intro d h; cases h; rfl) rfl (fun _ => [(5, .ptr 1000 gb1000 0 0)]) (fun _ => [(1000, some (.box gb1000 150 [.own 1001 ga1001, .own 1002 ga1002, .r (.int .i64 w1.cut)]))]) (fun D G1 hr => ⟨inE_op hr 1 rfl rfl (by kernel_rfl) rfl rfl, trivial⟩) (fun D G1 hr => ⟨inH_base rfl rfl, trivial⟩) (fun _ _ => rfl) (fun G1 e h' n => OpQ.spec (v := .ptr 1000 gb1000 0 0) (sp_nilCheck_own (ob := .box _ _ _) rfl (.inl rfl) (fun _ => rfl) rfl) _),
   Ob.quiet (n1 := fun n => n) rfl rfl (by intro d h; cases h; rfl) rfl (fun _ => [(6, .ptr 1000 gb1000 0 0)]) (fun _ => [(1000, some (.box gb1000 150 [.own 1001 ga1001, .own 1002 ga1002, .r (.int .i64 w1.cut)]))]) (fun D G1 hr => ⟨inE_op hr 2 rfl rfl (by kernel_rfl) rfl rfl, trivial⟩) (fun D G1 hr => ⟨inH_base rfl rfl, trivial⟩) (fun _ _ => rfl) (fun G1 e h' n => OpQ.spec (v := .ptr 1000 gb1000 0 1) (sp_fieldAddr_own (ob := .box _ _ _) rfl tf_150_1 (.inl rfl) (fun _ => rfl) rfl) _),
   Ob.quiet (n1 := fun n => n) rfl rfl (by intro d h; cases h; rfl) rfl (fun _ => [(7, .ptr 1000 gb1000 0 1)]) (fun _ => [(1000, some (.box gb1000 150 [.own 1001 ga1001, .own 1002 ga1002, .r (.int .i64 w1.cut)]))]) (fun D G1 hr => ⟨inE_op hr 3 rfl rfl (by kernel_rfl) rfl rfl, trivial⟩) (fun D G1 hr => ⟨inH_base rfl rfl, trivial⟩) (fun _ _ => rfl) (fun G1 e h' n => OpQ.spec (v := .own 1002 ga1002) (ms_load_box (a := .own 1002 ga1002) rfl ts_22 (.inl rfl) rfl rfl) _),
   Ob.quiet (n1 := fun n => n) rfl rfl (by intro d h; cases h; rfl) rfl (fun _ => [(1, .r (.sl (l1.map GElem.row)))]) (fun _ => []) (fun D G1 hr => ⟨inE_base rfl rfl, trivial⟩) (fun D G1 hr => trivial) (fun _ _ => rfl) (fun G1 e h' n => OpQ.spec (v := .r (.sl (l1.map GElem.row))) (sp_move rfl (.inl rfl)) _),
   Ob.quiet (n1 := fun n => n) rfl rfl (by intro d h; cases h; rfl) rfl (fun _ => [(9, .r (.sl (l1.map GElem.row)))]) (fun _ => []) (fun D G1 hr => ⟨inE_op hr 5 rfl rfl (by kernel_rfl) rfl rfl, trivial⟩) (fun D G1 hr => trivial) (fun _ _ => rfl) (fun G1 e h' n => sp_callS (r := .r (.sl (r1.map GElem.row))) (caps := []) (bs := [.r (.sl (l1.map GElem.row))]) rfl (.inl rfl) rfl ⟨.inl ⟨(.inl rfl), rfl⟩, trivial⟩ (fun _ => w_flow_Copy (er1))),
   Ob.make (n1 := fun n => n + 1) rfl rfl (by intro d h; cases h; rfl) rfl (fun _ => [(8, .own 1002 ga1002), (10, .r (.sl (r1.map GElem.row)))]) (fun _ => [(1002, some (.arr ga1002 82 3 (w1.add.map GElem.row)))]) (fun D G1 hr => ⟨inE_op hr 4 rfl rfl (by kernel_rfl) rfl rfl, inE_op hr 6 rfl rfl (by kernel_rfl) rfl rfl, trivial⟩) (fun D G1 hr => ⟨inH_baseL hr (by kernel_rfl) rfl, trivial⟩) (fun G1 e h' n => ms_app rfl tg_22 (.inl rfl) rfl (.inl ⟨(.inl rfl), fun _ => rfl⟩) el2),
   trivial⟩) fun G1 n1 => ?_
 refine AOps.weak (s' := ⟨[(0, .ptr 1000 gb1000 0 0), (1, .r (.sl (l1.map GElem.row))), (4, .ptr 1000 gb1000 0 0), (5, .ptr 1000 gb1000 0 0), (6, .ptr 1000 gb1000 0 0), (7, .ptr 1000 gb1000 0 1), (9, .r (.sl (l1.map GElem.row))), (10, .r (.sl (r1.map GElem.row))), (11, .own 1002 (G1 7))], [(1000, some (.box gb1000 150 [.own 1001 ga1001, .own 1002 ga1002, .r (.int .i64 w1.cut)])), (1001, some (.arr ga1001 31 4 (w1.out.map GStep.row))), (1002, some (.arr (G1 7) 82 3 (l2.map GElem.row)))], n1, 14⟩) (by exact Weak.cv ⟨jL, jL, jL, jL, jL, jL, jL, jL, jL, trivial⟩ ⟨.inl rfl, .inl rfl, .inl rfl, trivial⟩ nL) ?_
 refine sQ rfl (sp_nilCheck_own (ob := .box _ _ _) rfl iL fR rfl) ?_
 refine sQ rfl (sp_fieldAddr_own (ob := .box _ _ _) rfl tf_150_1 iL fR rfl) ?_
 refine AOps.step0 rfl rfl (ms_store_box (ds := [.own 1001 ga1001, .own 1002 (G1 7), .r (.int .i64 w1.cut)]) rfl tz_22 iL rfl iL rfl rfl rfl rfl) ?_
 refine AOps.nil ?_
 exact RetW.mk (s' := ⟨[], [(1000, some (.box gb1000 150 [.own 1001 ga1001, .own 1002 (G1 7), .r (.int .i64 w1.cut)])), (1001, some (.arr ga1001 31 4 (w1.out.map GStep.row))), (1002, some (.arr (G1 7) 82 3 (l2.map GElem.row)))], n1, 14⟩) ((by exact Weak.cv trivial ⟨.inl rfl, .inl rfl, .inl rfl, trivial⟩ nL)) (reth_cast (fun (r : Delta_Writer) rr h' => ∃ (i : Nat → Nat), rr = .tup [] ∧ h' = [(1000, some (.box gb1000 150 [.own 1001 (i 0), .own 1002 (i 1), .r (.int .i64 r.cut)])), (1001, some (.arr (i 0) 31 4 (r.out.map GStep.row))), (1002, some (.arr (i 1) 82 3 (r.add.map GElem.row)))]) h2 (by exact ⟨.tup [], [(1000, some (.box gb1000 150 [.own 1001 ga1001, .own 1002 (G1 7), .r (.int .i64 w1.cut)])), (1001, some (.arr ga1001 31 4 (w1.out.map GStep.row))), (1002, some (.arr (G1 7) 82 3 (l2.map GElem.row)))], ⟨_, rfl, trivial⟩, ⟨.inr rfl, .inr rfl, .inr rfl, trivial⟩, rfl, rfl, vec [ga1001, (G1 7)], rfl, rfl⟩))
set_option maxHeartbeats 4000000 in
set_option maxRecDepth 20000 in
theorem w_delta_size {s1 : GStep} {r : Int} (h : delta_size s1 = some r) : ARO Try.prog 71 [.agg [.r (.int .i64 s1.Kind), .r (.int .i64 s1.N), .r (.sl (s1.Attrs.map GAttr.row)), .r (.sl (s1.Elems.map GElem.row))]] (.r (.int .i64 r)) := by
 unfold delta_size at h
 refine ARO.mkF Try.func71 rfl rfl Try.ntmps71 rfl (Nat.le_of_ble_eq_true rfl) fun n0 => ?_
 refine AW.seq_w fun K1 hK1 wK1 => ?_
 refine AW.region ?_
 refine AOps.step rfl rfl rfl (ms_box (cs := [.r (.int .i64 s1.Kind), .r (.int .i64 s1.N), .r (.sl (s1.Attrs.map GAttr.row)), .r (.sl (s1.Elems.map GElem.row))]) 1 rfl iL rfl rfl) ?_
 refine sQ rfl (sp_assign rfl iL) ?_
 refine AOps.nil (hK1 _ ?_)
 refine AW.seq_w fun K2 hK2 wK2 => ?_
 refine AW.seq_w fun K3 hK3 wK3 => ?_
 refine AW.region ?_
 refine sQ rfl (sp_fieldAddr_own (ob := .box _ _ _) rfl tf_31_0 iL fR rfl) ?_
 refine sQ rfl (ms_load_box (a := .r (.int .i64 s1.Kind)) rfl ts_3 iL rfl rfl) ?_
 refine sQ rfl (sp_eql rfl iL iL) ?_
 refine AOps.nil (hK3 _ ?_)
 refine AW.cond rfl (fun hc1 => ?_) (fun hc1 => ?_)
 ·have h1 := ite_t hc1 h
  refine AW.seq_w fun K4 hK4 wK4 => ?_
  refine AW.region ?_
  refine sQ rfl (sp_fieldAddr_own (ob := .box _ _ _) rfl tf_31_3 iL fR rfl) ?_
  refine sQ rfl (ms_load_box (a := .r (.sl (s1.Elems.map GElem.row))) rfl ts_22 iL rfl rfl) ?_
  refine sQ rfl (ms_len rfl tg_22.slice iL) ?_
  refine sQ rfl (sp_assign rfl iL) ?_
  refine AOps.nil (hK4 _ ?_)
  refine AW.ret ?_
  exact retf1 (P := Try.prog) (fun (r : Int) => .r (.int .i64 r)) h1 iL (.t (.d rfl))
 ·have h1 := ite_f hc1 h
  refine AW.skip ?_
  refine hK2 _ ?_
  refine AW.seq_w fun K5 hK5 wK5 => ?_
  refine AW.region ?_
  refine sQ rfl (sp_fieldAddr_own (ob := .box _ _ _) rfl tf_31_1 iL fR rfl) ?_
  refine sQ rfl (ms_load_box (a := .r (.int .i64 s1.N)) rfl ts_3 iL rfl rfl) ?_
  refine sQ rfl (sp_assign rfl iL) ?_
  refine AOps.nil (hK5 _ ?_)
  refine AW.ret ?_
  exact retf1 (P := Try.prog) (fun (r : Int) => .r (.int .i64 r)) h1 iL (.t (.d rfl))
set_option maxHeartbeats 4000000 in
set_option maxRecDepth 20000 in
theorem w_delta_Check {d1 : List GStep} {r : Int} (h : delta_Check d1 = some r) : ARO Try.prog 41 [.r (.sl (d1.map GStep.row))] (.r (.int .i64 r)) := by
 unfold delta_Check at h
 refine ARO.mkF Try.func41 rfl rfl Try.ntmps41 rfl (Nat.le_of_ble_eq_true rfl) fun n0 => ?_
 refine AW.seq_w fun K1 hK1 wK1 => ?_
 refine AW.region ?_
 refine sQ rfl (sp_assign rfl iL) ?_
 refine AOps.nil (hK1 _ ?_)
 refine AW.seq_w fun K2 hK2 wK2 => ?_
 refine AW.region ?_
 refine sQ rfl (sp_assign rfl iL) ?_
 refine sQ rfl (sp_assign rfl iL) ?_
 refine AOps.nil (hK2 _ ?_)
 refine AW.seq_w fun K3 hK3 wK3 => ?_
 refine AW.seq_w fun K4 hK4 wK4 => ?_
 refine AW.region ?_
 refine sM rfl rfl ?_
 refine sQ rfl (ms_len rfl tg_23.slice iL) ?_
 refine sM rfl rfl ?_
 refine AOps.nil (hK4 _ ?_)
 refine AW.block ?_
 refine jc2k h fun o1 hit1 hk1 he1 => ?_
 have J1 : ∀ (before4 : Int) (after4 : Int) (i5 : Nat → Nat), o1 = .nrm (before4, after4) → K3 ⟨[(3, .r (.int .i64 before4)), (4, .r (.int .i64 after4))], [], (i5 0), 78⟩ := by
  intro before4 after4 i5 e
  have h1 := hk1 _ _ e
  refine hK3 _ ?_
  refine AW.seq_w fun K5 hK5 wK5 => ?_
  refine AW.seq_w fun K6 hK6 wK6 => ?_
  refine AW.region ?_
  refine sM rfl rfl ?_
  refine sQ rfl (sp_gtr rfl iL iL) ?_
  refine sM rfl rfl ?_
  refine sV rfl rfl rfl (sp_move rfl iL) ?_
  refine sV rfl rfl rfl (sp_gtr rfl (iR rfl) iL) ?_
  refine sQ rfl (sp_or rfl iL (iR rfl)) ?_
  refine AOps.nil (hK6 _ ?_)
  refine AW.cond rfl (fun hc1 => ?_) (fun hc1 => ?_)
  ·have h2 := ite_t hc1 h1
   refine AW.seq_w fun K7 hK7 wK7 => ?_
   refine AW.region ?_
   refine sQ rfl (sp_assign rfl iL) ?_
   refine AOps.nil (hK7 _ ?_)
   refine AW.ret ?_
   exact retf1 (P := Try.prog) (fun (r : Int) => .r (.int .i64 r)) h2 iL (.t (.d rfl))
  ·have h2 := ite_f hc1 h1
   refine AW.skip ?_
   refine hK5 _ ?_
   refine AW.seq_w fun K8 hK8 wK8 => ?_
   refine AW.region ?_
   refine sQ rfl (sp_assign rfl iL) ?_
   refine AOps.nil (hK8 _ ?_)
   refine AW.ret ?_
   exact retf1 (P := Try.prog) (fun (r : Int) => .r (.int .i64 r)) h2 iL (.t (.d rfl))
 refine AW.iter3 (fun (before2 : Int) (after2 : Int) (x2 : Int) i3 => ⟨[(0, .r (.sl (d1.map GStep.row))), (3, .r (.int .i64 before2)), (4, .r (.int .i64 after2)), (9, .r (.sl (d1.map GStep.row))), (10, .r (.int .i64 (d1.length : Int))), (11, .r (.int .i64 x2))], [], (i3 0), 78⟩) (vec [n0]) hit1 ((by exact Weak.cv ⟨jL, jL, jL, jL, jL, jL, trivial⟩ trivial nL)) ?_
 intro before2 after2 x2 i3 v1 hv1 hx1
 have h3 : delta_Check_L1 d1 before2 after2 x2 = some v1 := hv1; unfold delta_Check_L1 at h3
 refine AW.seq_w fun K9 hK9 wK9 => ?_
 refine AW.region ?_
 refine sQ rfl (sp_lss rfl iL iL) ?_
 refine AOps.nil (hK9 _ ?_)
 refine AW.seq_w fun K10 hK10 wK10 => ?_
 refine AW.cond rfl (fun hc2 => ?_) (fun hc2 => ?_)
 ·have h4 := ite_t hc2 h3
  refine AW.skip ?_
  refine hK10 _ ?_
  refine AW.seq_w fun K11 hK11 wK11 => ?_
  refine AW.block ?_
  refine jc2k h4 fun p1 hp1 hk2 he2 => ?_
  have J2 : ∀ (before5 : Int) (after5 : Int) (i6 : Nat → Nat), p1 = .nrm (before5, after5) → K11 ⟨[(0, .r (.sl (d1.map GStep.row))), (3, .r (.int .i64 before5)), (4, .r (.int .i64 after5)), (9, .r (.sl (d1.map GStep.row))), (10, .r (.int .i64 (d1.length : Int))), (11, .r (.int .i64 x2))], [], (i6 0), 78⟩ := by
   intro before5 after5 i6 e
   have h5 := hk2 _ _ e
   refine hK11 _ ?_
   refine AW.region ?_
   refine ob1k h5 fun x4 ex4 h6 => ?_
   refine sQ rfl (ms_add rfl iL iL (fun _ => ex4)) ?_
   refine sM rfl rfl ?_
   refine AOps.nil ?_
   exact NextQ3.mk h6 (vec [(i6 0)]) ((by exact Weak.cv ⟨jL, jL, jL, jL, jL, jL, trivial⟩ trivial nL))
  refine AW.seq_w fun K12 hK12 wK12 => ?_
  refine AW.region ?_
  refine sM rfl rfl ?_
  refine ob1k hp1 fun x5 ex5 h7 => ?_
  refine sQ rfl (ms_idx rfl tg_23.slice iL iL (fun _ => rfl) (fun _ => ex5)) ?_
  refine sQ rfl (ms_loadA (cs := [.r (.int .i64 x5.Kind), .r (.int .i64 x5.N), .r (.sl (x5.Attrs.map GAttr.row)), .r (.sl (x5.Elems.map GElem.row))]) rfl ta_31 iL rfl rfl) ?_
  refine AOps.step rfl rfl rfl (ms_alloc (cs := [.r (.int .i64 0), .r (.int .i64 0), .cst (.slice none 0 0), .cst (.slice none 0 0)]) 6 rfl t0_31 rfl rfl) ?_
  refine sQ rfl (sp_assign rfl iL) ?_
  refine AOps.step0 rfl rfl (ms_store_box (ds := [.r (.int .i64 x5.Kind), .r (.int .i64 x5.N), .r (.sl (x5.Attrs.map GAttr.row)), .r (.sl (x5.Elems.map GElem.row))]) rfl tz_31 iL rfl iL rfl rfl rfl rfl) ?_
  refine AOps.nil (hK12 _ ?_)
  refine AW.seq_w fun K13 hK13 wK13 => ?_
  refine AW.seq_w fun K14 hK14 wK14 => ?_
  refine AW.region ?_
  refine sQ rfl (ms_loadA_box rfl ta_31 iL rfl rfl) ?_
  refine ob1k h7 fun e1 ee1 h8 => ?_
  refine AOps.step rfl rfl rfl (sp_call (r := .r (.int .i64 e1)) (caps := []) (bs := [.agg [.r (.int .i64 x5.Kind), .r (.int .i64 x5.N), .r (.sl (x5.Attrs.map GAttr.row)), .r (.sl (x5.Elems.map GElem.row))]]) rfl iL rfl ⟨⟨_, iL, .g (cs := [.int .i64 x5.Kind, .int .i64 x5.N, .sl (x5.Attrs.map GAttr.row), .sl (x5.Elems.map GElem.row)]) rfl rfl⟩, trivial⟩ (fun _ => w_delta_step (ee1)) rfl) ?_
  refine sQ rfl (sp_assign rfl iL) ?_
  refine AOps.nil (hK14 _ ?_)
  refine AW.seq_w fun K15 hK15 wK15 => ?_
  refine AW.region ?_
  refine sM rfl rfl ?_
  refine sQ rfl (sp_neq rfl iL iL) ?_
  refine AOps.nil (hK15 _ ?_)
  refine AW.cond rfl (fun hc3 => ?_) (fun hc3 => ?_)
  ·have h9 := ite_t hc3 h8
   refine AW.seq_w fun K16 hK16 wK16 => ?_
   refine AW.weak (s' := ⟨[(7, .r (.int .i64 e1))], [], ((i3 0) + 1), 78⟩) (by exact Weak.cv ⟨jL, trivial⟩ trivial nL) ?_
   refine AW.region ?_
   refine sM rfl rfl ?_
   refine sQ rfl (sp_assign rfl iL) ?_
   refine AOps.nil (hK16 _ ?_)
   refine AW.ret ?_
   exact retf1 (P := Try.prog) (fun (r : Int) => .r (.int .i64 r)) (he1 _ (hx1 _ (Option.some.inj (he2 _ (Option.some.inj h9).symm)).symm)) iL (.t (.d rfl))
  ·have h9 := ite_f hc3 h8
   refine AW.skip ?_
   refine hK13 _ ?_
   refine AW.seq_w fun K17 hK17 wK17 => ?_
   refine AW.seq_w fun K18 hK18 wK18 => ?_
   refine AW.weak (s' := ⟨[(0, .r (.sl (d1.map GStep.row))), (3, .r (.int .i64 before2)), (4, .r (.int .i64 after2)), (5, .r (.int .i64 x2)), (6, .ptr 6 (i3 0) 0 0), (9, .r (.sl (d1.map GStep.row))), (10, .r (.int .i64 (d1.length : Int))), (11, .r (.int .i64 x2))], [(6, some (.box (i3 0) 31 [.r (.int .i64 x5.Kind), .r (.int .i64 x5.N), .r (.sl (x5.Attrs.map GAttr.row)), .r (.sl (x5.Elems.map GElem.row))]))], ((i3 0) + 1), 78⟩) (by exact Weak.cv ⟨jL, jL, jL, jL, jL, jL, jL, jL, trivial⟩ ⟨.inl rfl, trivial⟩ nL) ?_
   refine AW.region ?_
   refine sM rfl rfl ?_
   refine sQ rfl (sp_gtr rfl iL iL) ?_
   refine AOps.nil (hK18 _ ?_)
   refine jc1k h9 fun p2 hp2 hk3 he3 => ?_
   have J3 : ∀ (u2 : Unit) (i7 : Nat → Nat), p2 = .nrm u2 → K17 ⟨[(0, .r (.sl (d1.map GStep.row))), (3, .r (.int .i64 before2)), (4, .r (.int .i64 after2)), (6, .ptr 6 (i3 0) 0 0), (9, .r (.sl (d1.map GStep.row))), (10, .r (.int .i64 (d1.length : Int))), (11, .r (.int .i64 x2))], [(6, some (.box (i3 0) 31 [.r (.int .i64 x5.Kind), .r (.int .i64 x5.N), .r (.sl (x5.Attrs.map GAttr.row)), .r (.sl (x5.Elems.map GElem.row))]))], (i7 0), 78⟩ := by
    intro u2 i7 e
    have h10 := hk3 _ e
    refine hK17 _ ?_
    refine AW.seq_w fun K19 hK19 wK19 => ?_
    refine AW.seq_w fun K20 hK20 wK20 => ?_
    refine AW.region ?_
    refine sQ rfl (sp_fieldAddr_own (ob := .box _ _ _) rfl tf_31_0 iL fR rfl) ?_
    refine sQ rfl (ms_load_box (a := .r (.int .i64 x5.Kind)) rfl ts_3 iL rfl rfl) ?_
    refine sQ rfl (sp_neq rfl iL iL) ?_
    refine AOps.nil (hK20 _ ?_)
    refine jb1k h10 fun p3 hp3 hk4 => ?_
    have J4 : ∀ (before6 : Int) (i8 : Nat → Nat), p3 = before6 → K19 ⟨[(0, .r (.sl (d1.map GStep.row))), (3, .r (.int .i64 before6)), (4, .r (.int .i64 after2)), (6, .ptr 6 (i3 0) 0 0), (9, .r (.sl (d1.map GStep.row))), (10, .r (.int .i64 (d1.length : Int))), (11, .r (.int .i64 x2))], [(6, some (.box (i3 0) 31 [.r (.int .i64 x5.Kind), .r (.int .i64 x5.N), .r (.sl (x5.Attrs.map GAttr.row)), .r (.sl (x5.Elems.map GElem.row))]))], (i8 0), 78⟩ := by
     intro before6 i8 e
     have h11 := hk4 _ e
     refine hK19 _ ?_
     refine AW.seq_w fun K21 hK21 wK21 => ?_
     refine AW.region ?_
     refine sQ rfl (sp_fieldAddr_own (ob := .box _ _ _) rfl tf_31_0 iL fR rfl) ?_
     refine sQ rfl (ms_load_box (a := .r (.int .i64 x5.Kind)) rfl ts_3 iL rfl rfl) ?_
     refine sQ rfl (sp_neq rfl iL iL) ?_
     refine AOps.nil (hK21 _ ?_)
     refine AW.cond rfl (fun hc4 => ?_) (fun hc4 => ?_)
     ·have h12 := ite_t hc4 h11
      refine AW.region ?_
      refine sM rfl rfl ?_
      refine sQ rfl (ms_loadA_box rfl ta_31 iL rfl rfl) ?_
      refine ob1k h12 fun r1 er1 h13 => ?_
      refine AOps.step rfl rfl rfl (sp_call (r := .r (.int .i64 r1)) (caps := []) (bs := [.agg [.r (.int .i64 x5.Kind), .r (.int .i64 x5.N), .r (.sl (x5.Attrs.map GAttr.row)), .r (.sl (x5.Elems.map GElem.row))]]) rfl iL rfl ⟨⟨_, iL, .g (cs := [.int .i64 x5.Kind, .int .i64 x5.N, .sl (x5.Attrs.map GAttr.row), .sl (x5.Elems.map GElem.row)]) rfl rfl⟩, trivial⟩ (fun _ => w_delta_size (er1)) rfl) ?_
      refine ob1k h13 fun x6 ex6 h14 => ?_
      refine sQ rfl (ms_add rfl iL iL (fun _ => ex6)) ?_
      refine sQ rfl (sp_min rfl iL iL) ?_
      refine sQ rfl (sp_assign rfl iL) ?_
      refine AOps.nil ?_
      exact wK11 _ _ ((by exact Weak.cv ⟨jL, jL, jL, jL, jL, jL, trivial⟩ trivial nL)) (J2 _ _ (vec [(i8 0)]) (Option.some.inj h14).symm)
     ·have h12 := ite_f hc4 h11
      refine AW.skip ?_
      exact wK11 _ _ ((by exact Weak.cv ⟨jL, jL, jL, jL, jL, jL, trivial⟩ trivial nL)) (J2 _ _ (vec [(i8 0)]) (Option.some.inj h12).symm)
    refine AW.cond rfl (fun hc5 => ?_) (fun hc5 => ?_)
    ·have h15 := ite_t hc5 hp3
     refine AW.region ?_
     refine sM rfl rfl ?_
     refine sQ rfl (sp_fieldAddr_own (ob := .box _ _ _) rfl tf_31_1 iL fR rfl) ?_
     refine sQ rfl (ms_load_box (a := .r (.int .i64 x5.N)) rfl ts_3 iL rfl rfl) ?_
     refine ob1k h15 fun x7 ex7 h16 => ?_
     refine sQ rfl (ms_add rfl iL iL (fun _ => ex7)) ?_
     refine sQ rfl (sp_min rfl iL iL) ?_
     refine sQ rfl (sp_assign rfl iL) ?_
     refine AOps.nil ?_
     exact wK19 _ _ ((by exact Weak.cv ⟨jL, jL, jL, jL, jL, jL, jL, trivial⟩ ⟨.inl rfl, trivial⟩ nL)) (J4 _ (vec [(i7 0)]) (Option.some.inj h16).symm)
    ·have h15 := ite_f hc5 hp3
     refine AW.skip ?_
     exact wK19 _ _ ((by exact Weak.cv ⟨jL, jL, jL, jL, jL, jL, jL, trivial⟩ ⟨.inl rfl, trivial⟩ nL)) (J4 _ (vec [(i7 0)]) (Option.some.inj h15).symm)
   refine AW.cond rfl (fun hc6 => ?_) (fun hc6 => ?_)
   ·have h17 := ite_t hc6 hp2
    refine AW.seq_w fun K22 hK22 wK22 => ?_
    refine AW.region ?_
    refine sM rfl rfl ?_
    refine sM rfl rfl ?_
    refine ob1k h17 fun x8 ex8 h18 => ?_
    refine sQ rfl (ms_sub rfl iL iL (fun _ => ex8)) ?_
    refine ob1k h18 fun x9 ex9 h19 => ?_
    refine sQ rfl (ms_idx rfl tg_23.slice iL iL (fun _ => rfl) (fun _ => ex9)) ?_
    refine sQ rfl (ms_loadA (cs := [.r (.int .i64 x9.Kind), .r (.int .i64 x9.N), .r (.sl (x9.Attrs.map GAttr.row)), .r (.sl (x9.Elems.map GElem.row))]) rfl ta_31 iL rfl rfl) ?_
    refine AOps.step rfl rfl rfl (ms_alloc (cs := [.r (.int .i64 0), .r (.int .i64 0), .cst (.slice none 0 0), .cst (.slice none 0 0)]) 8 rfl t0_31 rfl rfl) ?_
    refine AOps.step0 rfl rfl (ms_store_box (ds := [.r (.int .i64 x9.Kind), .r (.int .i64 x9.N), .r (.sl (x9.Attrs.map GAttr.row)), .r (.sl (x9.Elems.map GElem.row))]) rfl tz_31 iL rfl iL rfl rfl rfl rfl) ?_
    refine AOps.nil (hK22 _ ?_)
    refine AW.seq_w fun K23 hK23 wK23 => ?_
    refine AW.region ?_
    refine sQ rfl (sp_fieldAddr_own (ob := .box _ _ _) rfl tf_31_0 iL fR rfl) ?_
    refine sQ rfl (ms_load_box (a := .r (.int .i64 x9.Kind)) rfl ts_3 iL rfl rfl) ?_
    refine sQ rfl (sp_fieldAddr_own (ob := .box _ _ _) rfl tf_31_0 iL fR rfl) ?_
    refine sQ rfl (ms_load_box (a := .r (.int .i64 x5.Kind)) rfl ts_3 iL rfl rfl) ?_
    refine sQ rfl (sp_eql rfl iL iL) ?_
    refine sM rfl rfl ?_
    refine sV rfl rfl rfl (sp_fieldAddr_own (ob := .box _ _ _) rfl tf_31_0 iL fR rfl) ?_
    refine sV rfl rfl rfl (ms_load_box (a := .r (.int .i64 x5.Kind)) rfl ts_3 (iR rfl) rfl rfl) ?_
    refine sV rfl rfl rfl (sp_neq rfl (iR rfl) iL) ?_
    refine sV rfl rfl rfl (sp_move rfl (iR rfl)) ?_
    refine sW (.two rfl rfl rfl) rfl (sp_fieldAddr_own (ob := .box _ _ _) rfl tf_31_2 iL fR rfl) ?_
    refine sW (.two rfl rfl rfl) rfl (ms_load_box (a := .r (.sl (x9.Attrs.map GAttr.row))) rfl ts_29 (iR rfl) rfl rfl) ?_
    refine sW (.two rfl rfl rfl) rfl (sp_fieldAddr_own (ob := .box _ _ _) rfl tf_31_2 iL fR rfl) ?_
    refine sW (.two rfl rfl rfl) rfl (ms_load_box (a := .r (.sl (x5.Attrs.map GAttr.row))) rfl ts_29 (iR rfl) rfl rfl) ?_
    refine ob1k h19 fun r2 er2 h20 => ?_
    refine AOps.stepW (.two rfl rfl rfl) rfl rfl (sp_call (r := .r (.bool r2)) (caps := []) (bs := [.r (.sl (x9.Attrs.map GAttr.row)), .r (.sl (x5.Attrs.map GAttr.row))]) rfl iL rfl ⟨⟨_, (iR rfl), .d rfl⟩, ⟨_, (iR rfl), .d rfl⟩, trivial⟩ (fun hg => w_attr_Same (gdt er2 hg)) rfl) ?_
    refine sV rfl rfl rfl (sp_or rfl (iR rfl) (iR rfl)) ?_
    refine sQ rfl (sp_and rfl iL (iR rfl)) ?_
    refine sM rfl rfl ?_
    refine sV rfl rfl rfl (sp_fieldAddr_own (ob := .box _ _ _) rfl tf_31_0 iL fR rfl) ?_
    refine sV rfl rfl rfl (ms_load_box (a := .r (.int .i64 x9.Kind)) rfl ts_3 (iR rfl) rfl rfl) ?_
    refine sV rfl rfl rfl (sp_eql rfl (iR rfl) iL) ?_
    refine sV rfl rfl rfl (sp_move rfl (iR rfl)) ?_
    refine sW (.two rfl rfl rfl) rfl (sp_fieldAddr_own (ob := .box _ _ _) rfl tf_31_0 iL fR rfl) ?_
    refine sW (.two rfl rfl rfl) rfl (ms_load_box (a := .r (.int .i64 x5.Kind)) rfl ts_3 (iR rfl) rfl rfl) ?_
    refine sW (.two rfl rfl rfl) rfl (sp_eql rfl (iR rfl) iL) ?_
    refine sV rfl rfl rfl (sp_and rfl (iR rfl) (iR rfl)) ?_
    refine sQ rfl (sp_or rfl iL (iR rfl)) ?_
    refine AOps.nil (hK23 _ ?_)
    refine AW.cond rfl (fun hc7 => ?_) (fun hc7 => ?_)
    ·have h21 := ite_t hc7 h20
     refine AW.seq_w fun K24 hK24 wK24 => ?_
     refine AW.weak (s' := ⟨[], [], ((i3 0) + 2), 78⟩) (by exact Weak.cv trivial trivial nL) ?_
     refine AW.region ?_
     refine sQ rfl (sp_assign rfl iL) ?_
     refine AOps.nil (hK24 _ ?_)
     refine AW.ret ?_
     exact retf1 (P := Try.prog) (fun (r : Int) => .r (.int .i64 r)) (he1 _ (hx1 _ (Option.some.inj (he2 _ (Option.some.inj (he3 _ (Option.some.inj h21).symm)).symm)).symm)) iL (.t (.d rfl))
    ·have h21 := ite_f hc7 h20
     refine AW.skip ?_
     exact wK17 _ _ ((by exact Weak.cv ⟨jL, jL, jL, jL, jL, jL, jL, trivial⟩ ⟨.inl rfl, trivial⟩ nL)) (J3 _ (vec [((i3 0) + 2)]) (Option.some.inj h21).symm)
   ·have h17 := ite_f hc6 hp2
    refine AW.skip ?_
    exact wK17 _ _ ((by exact Weak.cv ⟨jL, jL, jL, jL, jL, jL, jL, trivial⟩ ⟨.inl rfl, trivial⟩ nL)) (J3 _ (vec [((i3 0) + 1)]) (Option.some.inj h17).symm)
 ·have h4 := ite_f hc2 h3
  refine AW.exit ?_
  exact wK3 _ _ ((by exact Weak.cv ⟨jL, jL, trivial⟩ trivial nL)) (J1 _ _ (vec [(i3 0)]) (hx1 _ (Option.some.inj h4).symm))
set_option maxHeartbeats 4000000 in
set_option maxRecDepth 20000 in
theorem w_delta_writer_done {w1 : Delta_Writer} {r : (List GStep) × Int × Delta_Writer} {gb1000 : Nat} {ga1001 : Nat} {ga1002 : Nat} (h : delta_writer_done w1 = some r) : AHC Try.prog 105 3 [.ptr 1000 gb1000 0 0] [(1000, some (.box gb1000 150 [.own 1001 ga1001, .own 1002 ga1002, .r (.int .i64 w1.cut)])), (1001, some (.arr ga1001 31 4 (w1.out.map GStep.row))), (1002, some (.arr ga1002 82 3 (w1.add.map GElem.row)))] (fun rr h' => ∃ (i : Nat → Nat), rr = .tup [.r (.sl (r.1.map GStep.row)), .r (.int .i64 r.2.1)] ∧ h' = [(1000, some (.box gb1000 150 [.r (.sl (r.2.2.out.map GStep.row)), .cst (.slice none 0 0), .r (.int .i64 r.2.2.cut)]))]) := by
 unfold delta_writer_done at h
 refine AHC.mkw Try.func105 rfl rfl Try.ntmps105 (Nat.le_of_ble_eq_true rfl) fun n0 => ?_
 refine AW.seq_w fun K1 hK1 wK1 => ?_
 refine AW.region ?_
 refine sQ rfl (sp_assign rfl iL) ?_
 refine sQ rfl (sp_assign rfl iL) ?_
 refine AOps.nil (hK1 _ ?_)
 refine AW.seq_w fun K2 hK2 wK2 => ?_
 refine AW.region ?_
 refine sM rfl rfl ?_
 refine ob1k h fun w2 ew2 h1 => ?_
 refine AOps.stepHI [1000, 1001, 1002] (hc := [(1000, some (.box gb1000 150 [.own 1001 ga1001, .own 1002 ga1002, .r (.int .i64 w1.cut)])), (1001, some (.arr ga1001 31 4 (w1.out.map GStep.row))), (1002, some (.arr ga1002 82 3 (w1.add.map GElem.row)))]) (bs := [.ptr 1000 gb1000 0 0]) (caps := []) rfl rfl rfl rfl iL rfl ⟨.inl ⟨iL, rfl⟩, trivial⟩ ⟨rfl, rfl, rfl, rfl, rfl, rfl, rfl, rfl, rfl, trivial⟩ (by decide) (w_delta_writer_flush ew2) ?_
 intro i1 n1
 refine AOps.weak (s' := ⟨[(0, .ptr 1000 gb1000 0 0), (2, .cst (.slice none 0 0)), (3, .r (.int .i64 0)), (4, .ptr 1000 gb1000 0 0), (5, .tup [])], [(1000, some (.box gb1000 150 [.own 1001 (i1 0), .cst (.slice none 0 0), .r (.int .i64 w2.cut)])), (1001, some (.arr (i1 0) 31 4 (w2.out.map GStep.row)))], n1, 16⟩) (by exact Weak.cv ⟨jL, jL, jL, jL, jL, trivial⟩ ⟨.inl rfl, .inl rfl, trivial⟩ nL) ?_
 refine AOps.nil (hK2 _ ?_)
 refine AW.seq_w fun K3 hK3 wK3 => ?_
 refine AW.seq_w fun K4 hK4 wK4 => ?_
 refine AW.region ?_
 refine sM rfl rfl ?_
 refine sQ rfl (sp_nilCheck_own (ob := .box _ _ _) rfl iL fR rfl) ?_
 refine sQ rfl (sp_fieldAddr_own (ob := .box _ _ _) rfl tf_150_0 iL fR rfl) ?_
 refine sQ rfl (ms_load_box (a := .own 1001 (i1 0)) rfl ts_23 iL rfl rfl) ?_
 refine ob1k h1 fun r1 er1 h2 => ?_
 refine AOps.step rfl rfl rfl (sp_call (r := .r (.int .i64 r1)) (caps := []) (bs := [.r (.sl (w2.out.map GStep.row))]) rfl iL rfl ⟨⟨_, iL, .one (.own rfl)⟩, trivial⟩ (fun _ => w_delta_Check (er1)) rfl) ?_
 refine sQ rfl (sp_neq rfl iL iL) ?_
 refine AOps.nil (hK4 _ ?_)
 refine AW.cond rfl (fun hc1 => ?_) (fun hc1 => ?_)
 ·have h3 := ite_t hc1 h2
  refine AW.seq_w fun K5 hK5 wK5 => ?_
  refine AW.weak (s' := ⟨[], [(1000, some (.box gb1000 150 [.own 1001 (i1 0), .cst (.slice none 0 0), .r (.int .i64 w2.cut)])), (1001, some (.arr (i1 0) 31 4 (w2.out.map GStep.row)))], n1, 16⟩) (by exact Weak.cv trivial ⟨.inl rfl, .inl rfl, trivial⟩ nL) ?_
  refine AW.region ?_
  refine sQ rfl (sp_assign rfl iL) ?_
  refine sQ rfl (sp_assign rfl iL) ?_
  refine AOps.nil (hK5 _ ?_)
  refine AW.ret ?_
  exact RetW.mk (s' := ⟨[(2, .r (.sl [])), (3, .r (.int .i64 3))], [(1000, some (.box gb1000 150 [.r (.sl (w2.out.map GStep.row)), .cst (.slice none 0 0), .r (.int .i64 w2.cut)]))], n1, 16⟩) (Weak.trans (by exact Weak.frz (e' := [(2, .cst (.slice none 0 0)), (3, .r (.int .i64 3))]) (h' := [(1000, some (.box gb1000 150 [.r (.sl (w2.out.map GStep.row)), .cst (.slice none 0 0), .r (.int .i64 w2.cut)]))]) 1001 rfl ⟨jL, jL, trivial⟩ ⟨rfl, .inr (.inr (.inl ⟨_, _, _, _, rfl, rfl, ⟨.inr (.inr ⟨rfl, rfl⟩), .inl rfl, .inl rfl, trivial⟩⟩)), trivial⟩) (by exact Weak.cv ⟨.inl (.inr (.inr ⟨rfl, rfl⟩)), jL, trivial⟩ ⟨.inl rfl, trivial⟩ nL)) (reth_cast (fun (r : (List GStep) × Int × Delta_Writer) rr h' => ∃ (i : Nat → Nat), rr = .tup [.r (.sl (r.1.map GStep.row)), .r (.int .i64 r.2.1)] ∧ h' = [(1000, some (.box gb1000 150 [.r (.sl (r.2.2.out.map GStep.row)), .cst (.slice none 0 0), .r (.int .i64 r.2.2.cut)]))]) h3 (by exact ⟨.tup [.r (.sl []), .r (.int .i64 3)], [(1000, some (.box gb1000 150 [.r (.sl (w2.out.map GStep.row)), .cst (.slice none 0 0), .r (.int .i64 w2.cut)]))], ⟨_, rfl, ⟨rfl, rfl, trivial⟩⟩, ⟨.inr rfl, trivial⟩, rfl, rfl, vec [], rfl, rfl⟩))
 ·have h3 := ite_f hc1 h2
  refine AW.skip ?_
  refine hK3 _ ?_
  refine AW.seq_w fun K6 hK6 wK6 => ?_
  refine AW.weak (s' := ⟨[(0, .ptr 1000 gb1000 0 0)], [(1000, some (.box gb1000 150 [.own 1001 (i1 0), .cst (.slice none 0 0), .r (.int .i64 w2.cut)])), (1001, some (.arr (i1 0) 31 4 (w2.out.map GStep.row)))], n1, 16⟩) (by exact Weak.cv ⟨jL, trivial⟩ ⟨.inl rfl, .inl rfl, trivial⟩ nL) ?_
  refine AW.region ?_
  refine sM rfl rfl ?_
  refine sQ rfl (sp_nilCheck_own (ob := .box _ _ _) rfl iL fR rfl) ?_
  refine sQ rfl (sp_fieldAddr_own (ob := .box _ _ _) rfl tf_150_0 iL fR rfl) ?_
  refine sQ rfl (ms_load_box (a := .own 1001 (i1 0)) rfl ts_23 iL rfl rfl) ?_
  refine sQ rfl (sp_assign rfl iL) ?_
  refine sQ rfl (sp_assign rfl iL) ?_
  refine AOps.nil (hK6 _ ?_)
  refine AW.ret ?_
  exact RetW.mk (s' := ⟨[(2, .r (.sl (w2.out.map GStep.row))), (3, .r (.int .i64 0))], [(1000, some (.box gb1000 150 [.r (.sl (w2.out.map GStep.row)), .cst (.slice none 0 0), .r (.int .i64 w2.cut)]))], n1, 16⟩) (Weak.trans (by exact Weak.frz (e' := [(0, .ptr 1000 gb1000 0 0), (2, .r (.sl (w2.out.map GStep.row))), (3, .r (.int .i64 0)), (12, .ptr 1000 gb1000 0 0), (13, .ptr 1000 gb1000 0 0), (14, .ptr 1000 gb1000 0 0), (15, .r (.sl (w2.out.map GStep.row)))]) (h' := [(1000, some (.box gb1000 150 [.r (.sl (w2.out.map GStep.row)), .cst (.slice none 0 0), .r (.int .i64 w2.cut)]))]) 1001 rfl ⟨jL, .inl (.inr (.inr ⟨rfl, rfl⟩)), jL, jL, jL, jL, .inl (.inr (.inr ⟨rfl, rfl⟩)), trivial⟩ ⟨rfl, .inr (.inr (.inl ⟨_, _, _, _, rfl, rfl, ⟨.inr (.inr ⟨rfl, rfl⟩), .inl rfl, .inl rfl, trivial⟩⟩)), trivial⟩) (by exact Weak.cv ⟨jL, jL, trivial⟩ ⟨.inl rfl, trivial⟩ nL)) (reth_cast (fun (r : (List GStep) × Int × Delta_Writer) rr h' => ∃ (i : Nat → Nat), rr = .tup [.r (.sl (r.1.map GStep.row)), .r (.int .i64 r.2.1)] ∧ h' = [(1000, some (.box gb1000 150 [.r (.sl (r.2.2.out.map GStep.row)), .cst (.slice none 0 0), .r (.int .i64 r.2.2.cut)]))]) h3 (by exact ⟨.tup [.r (.sl (w2.out.map GStep.row)), .r (.int .i64 0)], [(1000, some (.box gb1000 150 [.r (.sl (w2.out.map GStep.row)), .cst (.slice none 0 0), .r (.int .i64 w2.cut)]))], ⟨_, rfl, ⟨rfl, rfl, trivial⟩⟩, ⟨.inr rfl, trivial⟩, rfl, rfl, vec [], rfl, rfl⟩))
set_option maxHeartbeats 4000000 in
set_option maxRecDepth 20000 in
theorem w_delta_Tidy {d1 : List GStep} {r : (List GStep) × Int} (h : delta_Tidy d1 = some r) : ARO Try.prog 78 [.r (.sl (d1.map GStep.row))] (.tup [.r (.sl (r.1.map GStep.row)), .r (.int .i64 r.2)]) := by
 unfold delta_Tidy at h
 refine ARO.mkF Try.func78 rfl rfl Try.ntmps78 rfl (Nat.le_of_ble_eq_true rfl) fun n0 => ?_
 refine AW.seq_w fun K1 hK1 wK1 => ?_
 refine AW.region ?_
 refine sQ rfl (sp_assign rfl iL) ?_
 refine sQ rfl (sp_assign rfl iL) ?_
 refine AOps.nil (hK1 _ ?_)
 refine AW.seq_w fun K2 hK2 wK2 => ?_
 refine AW.region ?_
 refine AOps.step rfl rfl rfl (ms_alloc (cs := [.cst (.slice none 0 0), .cst (.slice none 0 0), .r (.int .i64 0)]) 4 rfl t0_150 rfl rfl) ?_
 refine AOps.nil (hK2 _ ?_)
 refine AW.seq_w fun K3 hK3 wK3 => ?_
 refine AW.seq_w fun K4 hK4 wK4 => ?_
 refine AW.region ?_
 refine sM rfl rfl ?_
 refine sQ rfl (ms_len rfl tg_23.slice iL) ?_
 refine sM rfl rfl ?_
 refine AOps.nil (hK4 _ ?_)
 refine AW.block ?_
 refine jc1k h fun o1 hit1 hk1 he1 => ?_
 have J1 : ∀ (w4 : Delta_Writer) (i5 : Nat → Nat), o1 = .nrm w4 → K3 ⟨[(4, .ptr 4 n0 0 0)], [(4, some (.box n0 150 [.own 3040 (i5 0), .own 3041 (i5 1), .r (.int .i64 w4.cut)])), (3040, some (.arr (i5 0) 31 4 (w4.out.map GStep.row))), (3041, some (.arr (i5 1) 82 3 (w4.add.map GElem.row)))], (i5 2), 76⟩ := by
  intro w4 i5 e
  have h1 := hk1 _ e
  refine hK3 _ ?_
  refine AW.seq_w fun K5 hK5 wK5 => ?_
  refine AW.region ?_
  refine ob3k h1 fun r1 r2 w5 er1 h2 => ?_
  refine AOps.stepHI [4, 3040, 3041] (hc := [(1000, some (.box n0 150 [.own 1001 (i5 0), .own 1002 (i5 1), .r (.int .i64 w4.cut)])), (1001, some (.arr (i5 0) 31 4 (w4.out.map GStep.row))), (1002, some (.arr (i5 1) 82 3 (w4.add.map GElem.row)))]) (bs := [.ptr 1000 n0 0 0]) (caps := []) rfl rfl rfl rfl iL rfl ⟨.inl ⟨iL, rfl⟩, trivial⟩ ⟨rfl, rfl, rfl, rfl, rfl, rfl, rfl, rfl, rfl, trivial⟩ (by decide) (w_delta_writer_done er1) ?_
  intro i6 n1
  refine AOps.weak (s' := ⟨[(4, .ptr 4 n0 0 0), (73, .tup [.r (.sl (r1.map GStep.row)), .r (.int .i64 r2)])], [(4, some (.box n0 150 [.r (.sl (w5.out.map GStep.row)), .cst (.slice none 0 0), .r (.int .i64 w5.cut)]))], n1, 76⟩) (by exact Weak.cv ⟨jL, jL, trivial⟩ ⟨.inl rfl, trivial⟩ nL) ?_
  refine sQ rfl (sp_extract (a := .r (.sl (r1.map GStep.row))) rfl iL rfl) ?_
  refine sQ rfl (sp_extract (a := .r (.int .i64 r2)) rfl iL rfl) ?_
  refine sQ rfl (sp_assign rfl iL) ?_
  refine sQ rfl (sp_assign rfl iL) ?_
  refine AOps.nil (hK5 _ ?_)
  refine AW.ret ?_
  exact retf2 (P := Try.prog) (fun (r : (List GStep) × Int) => .r (.sl (r.1.map GStep.row))) (fun (r : (List GStep) × Int) => .r (.int .i64 r.2)) h2 iL (.t (.d rfl)) (.t (.d rfl))
 refine AW.iter2 (fun (x2 : Int) (w2 : Delta_Writer) i3 => ⟨[(4, .ptr 4 n0 0 0), (8, .r (.sl (d1.map GStep.row))), (9, .r (.int .i64 (d1.length : Int))), (10, .r (.int .i64 x2))], [(4, some (.box n0 150 [.own 3040 (i3 0), .own 3041 (i3 1), .r (.int .i64 w2.cut)])), (3040, some (.arr (i3 0) 31 4 (w2.out.map GStep.row))), (3041, some (.arr (i3 1) 82 3 (w2.add.map GElem.row)))], (i3 2), 76⟩) (vec [(n0 + 1), (n0 + 2), (n0 + 3)]) hit1 (Weak.trans (Weak.trans (Weak.adoptBox 4 0 3040 31 4 (by decide) rfl rfl (by decide)) (by exact Weak.cv (e' := [(0, .r (.sl (d1.map GStep.row))), (2, .cst (.slice none 0 0)), (3, .r (.int .i64 0)), (4, .ptr 4 n0 0 0), (8, .r (.sl (d1.map GStep.row))), (9, .r (.int .i64 (d1.length : Int))), (10, .r (.int .i64 0))]) (h' := [(4, some (.box n0 150 [.own 3040 (n0 + 1), .cst (.slice none 0 0), .r (.int .i64 0)])), (3040, some (.arr (n0 + 1) 31 4 (([] : List GStep).map GStep.row)))]) ⟨jL, jL, jL, jL, jL, jL, jL, trivial⟩ ⟨.inl rfl, .inl rfl, trivial⟩ nL)) (Weak.trans (Weak.trans (Weak.adoptBox 4 1 3041 82 3 (by decide) rfl rfl (by decide)) (by exact Weak.cv (e' := [(0, .r (.sl (d1.map GStep.row))), (2, .cst (.slice none 0 0)), (3, .r (.int .i64 0)), (4, .ptr 4 n0 0 0), (8, .r (.sl (d1.map GStep.row))), (9, .r (.int .i64 (d1.length : Int))), (10, .r (.int .i64 0))]) (h' := [(4, some (.box n0 150 [.own 3040 (n0 + 1), .own 3041 (n0 + 2), .r (.int .i64 0)])), (3040, some (.arr (n0 + 1) 31 4 (([] : List GStep).map GStep.row))), (3041, some (.arr (n0 + 2) 82 3 (([] : List GElem).map GElem.row)))]) ⟨jL, jL, jL, jL, jL, jL, jL, trivial⟩ ⟨.inl rfl, .inl rfl, .inl rfl, trivial⟩ nL)) (by exact Weak.cv ⟨jL, jL, jL, jL, trivial⟩ ⟨.inl rfl, .inl rfl, .inl rfl, trivial⟩ nL))) ?_
 intro x2 w2 i3 v1 hv1 hx1
 have h3 : delta_Tidy_L1 d1 x2 w2 = some v1 := hv1; unfold delta_Tidy_L1 at h3
 refine AW.seq_w fun K6 hK6 wK6 => ?_
 refine AW.region ?_
 refine sQ rfl (sp_lss rfl iL iL) ?_
 refine AOps.nil (hK6 _ ?_)
 refine AW.seq_w fun K7 hK7 wK7 => ?_
 refine AW.cond rfl (fun hc1 => ?_) (fun hc1 => ?_)
 ·have h4 := ite_t hc1 h3
  refine AW.skip ?_
  refine hK7 _ ?_
  refine AW.seq_w fun K8 hK8 wK8 => ?_
  refine AW.block ?_
  refine jc1k h4 fun p1 hp1 hk2 he2 => ?_
  have J2 : ∀ (w6 : Delta_Writer) (i7 : Nat → Nat), p1 = .nrm w6 → K8 ⟨[(4, .ptr 4 n0 0 0), (8, .r (.sl (d1.map GStep.row))), (9, .r (.int .i64 (d1.length : Int))), (10, .r (.int .i64 x2))], [(4, some (.box n0 150 [.own 3040 (i7 0), .own 3041 (i7 1), .r (.int .i64 w6.cut)])), (3040, some (.arr (i7 0) 31 4 (w6.out.map GStep.row))), (3041, some (.arr (i7 1) 82 3 (w6.add.map GElem.row)))], (i7 2), 76⟩ := by
   intro w6 i7 e
   have h5 := hk2 _ e
   refine hK8 _ ?_
   refine AW.region ?_
   refine ob1k h5 fun x4 ex4 h6 => ?_
   refine sQ rfl (ms_add rfl iL iL (fun _ => ex4)) ?_
   refine sM rfl rfl ?_
   refine AOps.nil ?_
   exact NextQ2.mk h6 (vec [(i7 0), (i7 1), (i7 2)]) ((by exact Weak.cv ⟨jL, jL, jL, jL, trivial⟩ ⟨.inl rfl, .inl rfl, .inl rfl, trivial⟩ nL))
  refine AW.seq_w fun K9 hK9 wK9 => ?_
  refine AW.region ?_
  refine ob1k hp1 fun x5 ex5 h7 => ?_
  refine sQ rfl (ms_idx rfl tg_23.slice iL iL (fun _ => rfl) (fun _ => ex5)) ?_
  refine sQ rfl (ms_loadA (cs := [.r (.int .i64 x5.Kind), .r (.int .i64 x5.N), .r (.sl (x5.Attrs.map GAttr.row)), .r (.sl (x5.Elems.map GElem.row))]) rfl ta_31 iL rfl rfl) ?_
  refine AOps.step rfl rfl rfl (ms_alloc (cs := [.r (.int .i64 0), .r (.int .i64 0), .cst (.slice none 0 0), .cst (.slice none 0 0)]) 6 rfl t0_31 rfl rfl) ?_
  refine AOps.step0 rfl rfl (ms_store_box (ds := [.r (.int .i64 x5.Kind), .r (.int .i64 x5.N), .r (.sl (x5.Attrs.map GAttr.row)), .r (.sl (x5.Elems.map GElem.row))]) rfl tz_31 iL rfl iL rfl rfl rfl rfl) ?_
  refine AOps.nil (hK9 _ ?_)
  refine AW.seq_w fun K10 hK10 wK10 => ?_
  refine AW.region ?_
  refine sQ rfl (ms_loadA_box rfl ta_31 iL rfl rfl) ?_
  refine ob1k h7 fun e1 ee1 h8 => ?_
  refine AOps.step rfl rfl rfl (sp_call (r := .r (.int .i64 e1)) (caps := []) (bs := [.agg [.r (.int .i64 x5.Kind), .r (.int .i64 x5.N), .r (.sl (x5.Attrs.map GAttr.row)), .r (.sl (x5.Elems.map GElem.row))]]) rfl iL rfl ⟨⟨_, iL, .g (cs := [.int .i64 x5.Kind, .int .i64 x5.N, .sl (x5.Attrs.map GAttr.row), .sl (x5.Elems.map GElem.row)]) rfl rfl⟩, trivial⟩ (fun _ => w_delta_step (ee1)) rfl) ?_
  refine sQ rfl (sp_assign rfl iL) ?_
  refine AOps.nil (hK10 _ ?_)
  refine AW.seq_w fun K11 hK11 wK11 => ?_
  refine AW.seq_w fun K12 hK12 wK12 => ?_
  refine AW.region ?_
  refine sQ rfl (sp_fieldAddr_own (ob := .box _ _ _) rfl tf_31_0 iL fR rfl) ?_
  refine sQ rfl (ms_load_box (a := .r (.int .i64 x5.Kind)) rfl ts_3 iL rfl rfl) ?_
  refine sQ rfl (sp_eql rfl iL iL) ?_
  refine sM rfl rfl ?_
  refine sV rfl rfl rfl (sp_fieldAddr_own (ob := .box _ _ _) rfl tf_31_3 iL fR rfl) ?_
  refine sV rfl rfl rfl (ms_load_box (a := .r (.sl (x5.Elems.map GElem.row))) rfl ts_22 (iR rfl) rfl rfl) ?_
  refine sV rfl rfl rfl (ms_len rfl tg_22.slice (iR rfl)) ?_
  refine sV rfl rfl rfl (sp_eql rfl (iR rfl) iL) ?_
  refine sQ rfl (sp_and rfl iL (iR rfl)) ?_
  refine sM rfl rfl ?_
  refine sV rfl rfl rfl (sp_move rfl iL) ?_
  refine sV rfl rfl rfl (sp_eql rfl (iR rfl) iL) ?_
  refine sQ rfl (sp_and rfl iL (iR rfl)) ?_
  refine sM rfl rfl ?_
  refine sV rfl rfl rfl (sp_fieldAddr_own (ob := .box _ _ _) rfl tf_31_0 iL fR rfl) ?_
  refine sV rfl rfl rfl (ms_load_box (a := .r (.int .i64 x5.Kind)) rfl ts_3 (iR rfl) rfl rfl) ?_
  refine sV rfl rfl rfl (sp_neq rfl (iR rfl) iL) ?_
  refine sV rfl rfl rfl (sp_move rfl (iR rfl)) ?_
  refine sW (.two rfl rfl rfl) rfl (sp_fieldAddr_own (ob := .box _ _ _) rfl tf_31_1 iL fR rfl) ?_
  refine sW (.two rfl rfl rfl) rfl (ms_load_box (a := .r (.int .i64 x5.N)) rfl ts_3 (iR rfl) rfl rfl) ?_
  refine sW (.two rfl rfl rfl) rfl (sp_eql rfl (iR rfl) iL) ?_
  refine sV rfl rfl rfl (sp_and rfl (iR rfl) (iR rfl)) ?_
  refine sV rfl rfl rfl (sp_move rfl (iR rfl)) ?_
  refine sW (.two rfl rfl rfl) rfl (sp_move rfl iL) ?_
  refine sW (.two rfl rfl rfl) rfl (sp_eql rfl (iR rfl) iL) ?_
  refine sV rfl rfl rfl (sp_and rfl (iR rfl) (iR rfl)) ?_
  refine sQ rfl (sp_or rfl iL (iR rfl)) ?_
  refine AOps.nil (hK12 _ ?_)
  refine jb1k h8 fun p2 hp2 hk3 => ?_
  have J3 : ∀ (e2 : Int) (i8 : Nat → Nat), p2 = e2 → K11 ⟨[(4, .ptr 4 n0 0 0), (6, .ptr 6 (i3 2) 0 0), (7, .r (.int .i64 e2)), (8, .r (.sl (d1.map GStep.row))), (9, .r (.int .i64 (d1.length : Int))), (10, .r (.int .i64 x2))], [(4, some (.box n0 150 [.own 3040 (i3 0), .own 3041 (i3 1), .r (.int .i64 w2.cut)])), (6, some (.box (i3 2) 31 [.r (.int .i64 x5.Kind), .r (.int .i64 x5.N), .r (.sl (x5.Attrs.map GAttr.row)), .r (.sl (x5.Elems.map GElem.row))])), (3040, some (.arr (i3 0) 31 4 (w2.out.map GStep.row))), (3041, some (.arr (i3 1) 82 3 (w2.add.map GElem.row)))], (i8 0), 76⟩ := by
   intro e2 i8 e
   have h9 := hk3 _ e
   refine hK11 _ ?_
   refine AW.seq_w fun K13 hK13 wK13 => ?_
   refine AW.seq_w fun K14 hK14 wK14 => ?_
   refine AW.region ?_
   refine sM rfl rfl ?_
   refine sQ rfl (sp_neq rfl iL iL) ?_
   refine AOps.nil (hK14 _ ?_)
   refine AW.cond rfl (fun hc2 => ?_) (fun hc2 => ?_)
   ·have h10 := ite_t hc2 h9
    refine AW.seq_w fun K15 hK15 wK15 => ?_
    refine AW.region ?_
    refine sM rfl rfl ?_
    refine sQ rfl (sp_assign rfl iL) ?_
    refine sQ rfl (sp_assign rfl iL) ?_
    refine AOps.nil (hK15 _ ?_)
    refine AW.ret ?_
    exact retf2 (P := Try.prog) (fun (r : (List GStep) × Int) => .r (.sl (r.1.map GStep.row))) (fun (r : (List GStep) × Int) => .r (.int .i64 r.2)) (he1 _ (hx1 _ (Option.some.inj (he2 _ (Option.some.inj h10).symm)).symm)) iL (.t (.one (.nil))) (.t (.d rfl))
   ·have h10 := ite_f hc2 h9
    refine AW.skip ?_
    refine hK13 _ ?_
    refine AW.seq_w fun K16 hK16 wK16 => ?_
    refine AW.region ?_
    refine sQ rfl (sp_fieldAddr_own (ob := .box _ _ _) rfl tf_31_0 iL fR rfl) ?_
    refine sQ rfl (ms_load_box (a := .r (.int .i64 x5.Kind)) rfl ts_3 iL rfl rfl) ?_
    refine AOps.nil (hK16 _ ?_)
    refine AW.block ?_
    refine AW.seq_w fun K17 hK17 wK17 => ?_
    refine AW.region ?_
    refine sQ rfl (sp_eql rfl iL iL) ?_
    refine sQ rfl (sp_assign rfl iL) ?_
    refine AOps.nil (hK17 _ ?_)
    refine AW.cond rfl (fun hc3 => ?_) (fun hc3 => ?_)
    ·have h11 := ite_t hc3 h10
     refine AW.region ?_
     refine sQ rfl (sp_fieldAddr_own (ob := .box _ _ _) rfl tf_31_1 iL fR rfl) ?_
     refine sQ rfl (ms_load_box (a := .r (.int .i64 x5.N)) rfl ts_3 iL rfl rfl) ?_
     refine sQ rfl (sp_fieldAddr_own (ob := .box _ _ _) rfl tf_31_2 iL fR rfl) ?_
     refine sQ rfl (ms_load_box (a := .r (.sl (x5.Attrs.map GAttr.row))) rfl ts_29 iL rfl rfl) ?_
     refine ob1k h11 fun w7 ew7 h12 => ?_
     refine AOps.stepHI [4, 3040, 3041] (hc := [(1000, some (.box n0 150 [.own 1001 (i3 0), .own 1002 (i3 1), .r (.int .i64 w2.cut)])), (1001, some (.arr (i3 0) 31 4 (w2.out.map GStep.row))), (1002, some (.arr (i3 1) 82 3 (w2.add.map GElem.row)))]) (bs := [.ptr 1000 n0 0 0, .r (.int .i64 x5.N), .r (.sl (x5.Attrs.map GAttr.row))]) (caps := []) rfl rfl rfl rfl iL rfl ⟨.inl ⟨iL, rfl⟩, .inl ⟨iL, rfl⟩, .inl ⟨iL, rfl⟩, trivial⟩ ⟨rfl, rfl, rfl, rfl, rfl, rfl, rfl, rfl, rfl, trivial⟩ (by decide) (w_delta_writer_keep ew7) ?_
     intro i9 n2
     refine AOps.weak (s' := ⟨[(4, .ptr 4 n0 0 0), (6, .ptr 6 (i3 2) 0 0), (7, .r (.int .i64 e2)), (8, .r (.sl (d1.map GStep.row))), (9, .r (.int .i64 (d1.length : Int))), (10, .r (.int .i64 x2)), (46, .r (.int .i64 e2)), (47, .r (.bool (!decide (e2 = 0)))), (49, .ptr 6 (i3 2) 0 0), (50, .r (.int .i64 x5.Kind)), (60, .r (.bool (decide (x5.Kind = 0)))), (61, .r (.bool (decide (x5.Kind = 0)))), (62, .ptr 6 (i3 2) 0 1), (63, .r (.int .i64 x5.N)), (64, .ptr 6 (i3 2) 0 2), (65, .r (.sl (x5.Attrs.map GAttr.row))), (66, .tup [])], [(4, some (.box n0 150 [.own 3040 (i9 0), .own 3041 (i9 1), .r (.int .i64 w7.cut)])), (6, some (.box (i3 2) 31 [.r (.int .i64 x5.Kind), .r (.int .i64 x5.N), .r (.sl (x5.Attrs.map GAttr.row)), .r (.sl (x5.Elems.map GElem.row))])), (3040, some (.arr (i9 0) 31 4 (w7.out.map GStep.row))), (3041, some (.arr (i9 1) 82 3 (w7.add.map GElem.row)))], n2, 76⟩) (by exact Weak.cv ⟨jL, jL, jL, jL, jL, jL, jL, jL, jL, jL, jL, jL, jL, jL, jL, jL, jL, trivial⟩ ⟨.inl rfl, .inl rfl, .inl rfl, .inl rfl, trivial⟩ nL) ?_
     refine AOps.nil ?_
     exact wK8 _ _ ((by exact Weak.cv ⟨jL, jL, jL, jL, trivial⟩ ⟨.inl rfl, .inl rfl, .inl rfl, trivial⟩ nL)) (J2 _ (vec [(i9 0), (i9 1), n2]) (Option.some.inj h12).symm)
    ·have h11 := ite_f hc3 h10
     refine AW.seq_w fun K18 hK18 wK18 => ?_
     refine AW.region ?_
     refine sQ rfl (sp_eql rfl iL iL) ?_
     refine sQ rfl (sp_assign rfl iL) ?_
     refine AOps.nil (hK18 _ ?_)
     refine AW.cond rfl (fun hc4 => ?_) (fun hc4 => ?_)
     ·have h13 := ite_t hc4 h11
      refine AW.weak (s' := ⟨[(4, .ptr 4 n0 0 0), (6, .ptr 6 (i3 2) 0 0), (8, .r (.sl (d1.map GStep.row))), (9, .r (.int .i64 (d1.length : Int))), (10, .r (.int .i64 x2))], [(4, some (.box n0 150 [.own 3040 (i3 0), .own 3041 (i3 1), .r (.int .i64 w2.cut)])), (6, some (.box (i3 2) 31 [.r (.int .i64 x5.Kind), .r (.int .i64 x5.N), .r (.sl (x5.Attrs.map GAttr.row)), .r (.sl (x5.Elems.map GElem.row))])), (3040, some (.arr (i3 0) 31 4 (w2.out.map GStep.row))), (3041, some (.arr (i3 1) 82 3 (w2.add.map GElem.row)))], (i8 0), 76⟩) (by exact Weak.cv ⟨jL, jL, jL, jL, jL, trivial⟩ ⟨.inl rfl, .inl rfl, .inl rfl, .inl rfl, trivial⟩ nL) ?_
      refine AW.region ?_
      refine sQ rfl (sp_fieldAddr_own (ob := .box _ _ _) rfl tf_31_3 iL fR rfl) ?_
      refine sQ rfl (ms_load_box (a := .r (.sl (x5.Elems.map GElem.row))) rfl ts_22 iL rfl rfl) ?_
      refine ob1k h13 fun w8 ew8 h14 => ?_
      refine AOps.stepHI [4, 3040, 3041] (hc := [(1000, some (.box n0 150 [.own 1001 (i3 0), .own 1002 (i3 1), .r (.int .i64 w2.cut)])), (1001, some (.arr (i3 0) 31 4 (w2.out.map GStep.row))), (1002, some (.arr (i3 1) 82 3 (w2.add.map GElem.row)))]) (bs := [.ptr 1000 n0 0 0, .r (.sl (x5.Elems.map GElem.row))]) (caps := []) rfl rfl rfl rfl iL rfl ⟨.inl ⟨iL, rfl⟩, .inl ⟨iL, rfl⟩, trivial⟩ ⟨rfl, rfl, rfl, rfl, rfl, rfl, rfl, rfl, rfl, trivial⟩ (by decide) (w_delta_writer_elems ew8) ?_
      intro i10 n3
      refine AOps.weak (s' := ⟨[(4, .ptr 4 n0 0 0), (6, .ptr 6 (i3 2) 0 0), (8, .r (.sl (d1.map GStep.row))), (9, .r (.int .i64 (d1.length : Int))), (10, .r (.int .i64 x2)), (69, .ptr 6 (i3 2) 0 3), (70, .r (.sl (x5.Elems.map GElem.row))), (71, .tup [])], [(4, some (.box n0 150 [.own 3040 (i10 0), .own 3041 (i10 1), .r (.int .i64 w8.cut)])), (6, some (.box (i3 2) 31 [.r (.int .i64 x5.Kind), .r (.int .i64 x5.N), .r (.sl (x5.Attrs.map GAttr.row)), .r (.sl (x5.Elems.map GElem.row))])), (3040, some (.arr (i10 0) 31 4 (w8.out.map GStep.row))), (3041, some (.arr (i10 1) 82 3 (w8.add.map GElem.row)))], n3, 76⟩) (by exact Weak.cv ⟨jL, jL, jL, jL, jL, jL, jL, jL, trivial⟩ ⟨.inl rfl, .inl rfl, .inl rfl, .inl rfl, trivial⟩ nL) ?_
      refine AOps.nil ?_
      exact wK8 _ _ ((by exact Weak.cv ⟨jL, jL, jL, jL, trivial⟩ ⟨.inl rfl, .inl rfl, .inl rfl, trivial⟩ nL)) (J2 _ (vec [(i10 0), (i10 1), n3]) (Option.some.inj h14).symm)
     ·have h13 := ite_f hc4 h11
      refine AW.seq_w fun K19 hK19 wK19 => ?_
      refine AW.weak (s' := ⟨[(4, .ptr 4 n0 0 0), (6, .ptr 6 (i3 2) 0 0), (8, .r (.sl (d1.map GStep.row))), (9, .r (.int .i64 (d1.length : Int))), (10, .r (.int .i64 x2))], [(4, some (.box n0 150 [.own 3040 (i3 0), .own 3041 (i3 1), .r (.int .i64 w2.cut)])), (6, some (.box (i3 2) 31 [.r (.int .i64 x5.Kind), .r (.int .i64 x5.N), .r (.sl (x5.Attrs.map GAttr.row)), .r (.sl (x5.Elems.map GElem.row))])), (3040, some (.arr (i3 0) 31 4 (w2.out.map GStep.row))), (3041, some (.arr (i3 1) 82 3 (w2.add.map GElem.row)))], (i8 0), 76⟩) (by exact Weak.cv ⟨jL, jL, jL, jL, jL, trivial⟩ ⟨.inl rfl, .inl rfl, .inl rfl, .inl rfl, trivial⟩ nL) ?_
      refine AW.region ?_
      refine sQ rfl (sp_fieldAddr_own (ob := .box _ _ _) rfl tf_150_2 iL fR rfl) ?_
      refine sQ rfl (ms_load_box (a := .r (.int .i64 w2.cut)) rfl ts_3 iL rfl rfl) ?_
      refine sQ rfl (sp_fieldAddr_own (ob := .box _ _ _) rfl tf_31_1 iL fR rfl) ?_
      refine sQ rfl (ms_load_box (a := .r (.int .i64 x5.N)) rfl ts_3 iL rfl rfl) ?_
      refine ob1k h13 fun x6 ex6 h15 => ?_
      refine sQ rfl (ms_add rfl iL iL (fun _ => ex6)) ?_
      refine sQ rfl (sp_fieldAddr_own (ob := .box _ _ _) rfl tf_150_2 iL fR rfl) ?_
      refine AOps.step0 rfl rfl (ms_store_box (ds := [.own 3040 (i3 0), .own 3041 (i3 1), .r (.int .i64 x6)]) rfl tz_3 iL rfl iL rfl rfl rfl rfl) ?_
      refine AOps.nil (hK19 _ ?_)
      refine AW.seq_w fun K20 hK20 wK20 => ?_
      refine AW.region ?_
      refine sQ rfl (sp_fieldAddr_own (ob := .box _ _ _) rfl tf_150_2 iL fR rfl) ?_
      refine sQ rfl (ms_load_box (a := .r (.int .i64 x6)) rfl ts_3 iL rfl rfl) ?_
      refine sQ rfl (sp_gtr rfl iL iL) ?_
      refine AOps.nil (hK20 _ ?_)
      refine AW.cond rfl (fun hc5 => ?_) (fun hc5 => ?_)
      ·have h16 := ite_t hc5 h15
       refine AW.seq_w fun K21 hK21 wK21 => ?_
       refine AW.weak (s' := ⟨[], [], (i8 0), 76⟩) (by exact Weak.cv trivial trivial nL) ?_
       refine AW.region ?_
       refine sQ rfl (sp_assign rfl iL) ?_
       refine sQ rfl (sp_assign rfl iL) ?_
       refine AOps.nil (hK21 _ ?_)
       refine AW.ret ?_
       exact retf2 (P := Try.prog) (fun (r : (List GStep) × Int) => .r (.sl (r.1.map GStep.row))) (fun (r : (List GStep) × Int) => .r (.int .i64 r.2)) (he1 _ (hx1 _ (Option.some.inj (he2 _ (Option.some.inj h16).symm)).symm)) iL (.t (.one (.nil))) (.t (.d rfl))
      ·have h16 := ite_f hc5 h15
       refine AW.skip ?_
       exact wK8 _ _ ((by exact Weak.cv ⟨jL, jL, jL, jL, trivial⟩ ⟨.inl rfl, .inl rfl, .inl rfl, trivial⟩ nL)) (J2 _ (vec [(i3 0), (i3 1), (i8 0)]) (Option.some.inj h16).symm)
  refine AW.cond rfl (fun hc6 => ?_) (fun hc6 => ?_)
  ·have h17 := ite_t hc6 hp2
   refine AW.weak (s' := ⟨[(4, .ptr 4 n0 0 0), (6, .ptr 6 (i3 2) 0 0), (8, .r (.sl (d1.map GStep.row))), (9, .r (.int .i64 (d1.length : Int))), (10, .r (.int .i64 x2))], [(4, some (.box n0 150 [.own 3040 (i3 0), .own 3041 (i3 1), .r (.int .i64 w2.cut)])), (6, some (.box (i3 2) 31 [.r (.int .i64 x5.Kind), .r (.int .i64 x5.N), .r (.sl (x5.Attrs.map GAttr.row)), .r (.sl (x5.Elems.map GElem.row))])), (3040, some (.arr (i3 0) 31 4 (w2.out.map GStep.row))), (3041, some (.arr (i3 1) 82 3 (w2.add.map GElem.row)))], ((i3 2) + 1), 76⟩) (by exact Weak.cv ⟨jL, jL, jL, jL, jL, trivial⟩ ⟨.inl rfl, .inl rfl, .inl rfl, .inl rfl, trivial⟩ nL) ?_
   refine AW.region ?_
   refine sQ rfl (sp_fieldAddr_own (ob := .box _ _ _) rfl tf_31_2 iL fR rfl) ?_
   refine sQ rfl (ms_load_box (a := .r (.sl (x5.Attrs.map GAttr.row))) rfl ts_29 iL rfl rfl) ?_
   refine ob1k h17 fun e3 ee3 h18 => ?_
   refine AOps.step rfl rfl rfl (sp_call (r := .r (.int .i64 e3)) (caps := []) (bs := [.r (.sl (x5.Attrs.map GAttr.row))]) rfl iL rfl ⟨⟨_, iL, .d rfl⟩, trivial⟩ (fun _ => w_attr_CheckChange (ee3)) rfl) ?_
   refine sQ rfl (sp_assign rfl iL) ?_
   refine AOps.nil ?_
   exact wK11 _ _ ((by exact Weak.cv ⟨jL, jL, jL, jL, jL, jL, trivial⟩ ⟨.inl rfl, .inl rfl, .inl rfl, .inl rfl, trivial⟩ nL)) (J3 _ (vec [((i3 2) + 1)]) (Option.some.inj h18).symm)
  ·have h17 := ite_f hc6 hp2
   refine AW.skip ?_
   exact wK11 _ _ ((by exact Weak.cv ⟨jL, jL, jL, jL, jL, jL, trivial⟩ ⟨.inl rfl, .inl rfl, .inl rfl, .inl rfl, trivial⟩ nL)) (J3 _ (vec [((i3 2) + 1)]) (Option.some.inj h17).symm)
 ·have h4 := ite_f hc1 h3
  refine AW.exit ?_
  exact wK3 _ _ ((by exact Weak.cv ⟨jL, trivial⟩ ⟨.inl rfl, .inl rfl, .inl rfl, trivial⟩ nL)) (J1 _ (vec [(i3 0), (i3 1), (i3 2)]) (hx1 _ (Option.some.inj h4).symm))
set_option maxHeartbeats 4000000 in
set_option maxRecDepth 20000 in
theorem w_diff_Raw {a1 : List GElem} {b1 : List GElem} {r : (List GStep)} (h : diff_Raw a1 b1 = some r) : ARO Try.prog 45 [.r (.sl (a1.map GElem.row)), .r (.sl (b1.map GElem.row))] (.r (.sl (r.map GStep.row))) := by
 unfold diff_Raw at h
 refine ARO.mkF Try.func45 rfl rfl Try.ntmps45 rfl (Nat.le_of_ble_eq_true rfl) fun n0 => ?_
 refine AW.seq_w fun K1 hK1 wK1 => ?_
 refine AW.region ?_
 refine sQ rfl (sp_assign rfl iL) ?_
 refine AOps.nil (hK1 _ ?_)
 refine AW.seq_w fun K2 hK2 wK2 => ?_
 refine AW.region ?_
 refine sM rfl rfl ?_
 refine sQ rfl (ms_len rfl tg_22.slice iL) ?_
 refine sQ rfl (sp_gtr rfl iL iL) ?_
 refine sM rfl rfl ?_
 refine sV rfl rfl rfl (sp_move rfl iL) ?_
 refine sV rfl rfl rfl (ms_len rfl tg_22.slice (iR rfl)) ?_
 refine sV rfl rfl rfl (sp_gtr rfl (iR rfl) iL) ?_
 refine sQ rfl (sp_and rfl iL (iR rfl)) ?_
 refine sM rfl rfl ?_
 refine sV rfl rfl rfl (sp_move rfl iL) ?_
 refine sV rfl rfl rfl (sp_move rfl iL) ?_
 refine sV rfl rfl rfl (ms_len rfl tg_22.slice (iR rfl)) ?_
 refine ob1k h fun x1 ex1 h1 => ?_
 refine sV rfl rfl rfl (ms_sub rfl (iR rfl) iL (gdt ex1)) ?_
 refine ob1k h1 fun x2 ex2 h2 => ?_
 refine sV rfl rfl rfl (ms_idx rfl tg_22.slice (iR rfl) (iR rfl) (fun _ => rfl) (gdt ex2)) ?_
 refine sV rfl rfl rfl (sp_fieldAddr_ro rfl tf_82_0 (iR rfl)) ?_
 refine sV rfl rfl rfl (ms_load (d := .int .i64 x2.Char) rfl ts_3 (iR rfl) rfl) ?_
 refine sV rfl rfl rfl (sp_eql rfl (iR rfl) iL) ?_
 refine sQ rfl (sp_and rfl iL (iR rfl)) ?_
 refine sM rfl rfl ?_
 refine sV rfl rfl rfl (sp_move rfl iL) ?_
 refine sV rfl rfl rfl (sp_move rfl iL) ?_
 refine sV rfl rfl rfl (ms_len rfl tg_22.slice (iR rfl)) ?_
 refine ob1k h2 fun x3 ex3 h3 => ?_
 refine sV rfl rfl rfl (ms_sub rfl (iR rfl) iL (gdt ex3)) ?_
 refine ob1k h3 fun x4 ex4 h4 => ?_
 refine sV rfl rfl rfl (ms_idx rfl tg_22.slice (iR rfl) (iR rfl) (fun _ => rfl) (gdt ex4)) ?_
 refine sV rfl rfl rfl (sp_fieldAddr_ro rfl tf_82_0 (iR rfl)) ?_
 refine sV rfl rfl rfl (ms_load (d := .int .i64 x4.Char) rfl ts_3 (iR rfl) rfl) ?_
 refine sV rfl rfl rfl (sp_eql rfl (iR rfl) iL) ?_
 refine sQ rfl (sp_and rfl iL (iR rfl)) ?_
 refine sQ rfl (sp_assign rfl iL) ?_
 refine AOps.nil (hK2 _ ?_)
 refine AW.seq_w fun K3 hK3 wK3 => ?_
 refine AW.weak (s' := ⟨[(0, .r (.sl (a1.map GElem.row))), (1, .r (.sl (b1.map GElem.row))), (5, .r (.bool ((((decide (0 < (a1.length : Int))) && (decide (0 < (b1.length : Int)))) && (decide (x2.Char = 10))) && (decide (x4.Char = 10)))))], [], n0, 211⟩) (by exact Weak.cv ⟨jL, jL, jL, trivial⟩ trivial nL) ?_
 refine AW.region ?_
 refine sQ rfl (sp_assign rfl iL) ?_
 refine AOps.nil (hK3 _ ?_)
 refine AW.seq_w fun K4 hK4 wK4 => ?_
 refine AW.seq_w fun K5 hK5 wK5 => ?_
 refine AW.region ?_
 refine sM rfl rfl ?_
 refine AOps.nil (hK5 _ ?_)
 refine jb3k h4 fun p1 hp1 hk1 => ?_
 have J1 : ∀ (a2 : List GElem) (b2 : List GElem) (last1 : List GStep) (i1 : Nat → Nat), p1 = (a2, b2, last1) → K4 ⟨[(0, .r (.sl (a2.map GElem.row))), (1, .r (.sl (b2.map GElem.row))), (6, .own 62 (i1 0))], [(62, some (.arr (i1 0) 31 4 (last1.map GStep.row)))], (i1 1), 211⟩ := by
  intro a2 b2 last1 i1 e
  have h5 := hk1 _ _ _ e
  refine hK4 _ ?_
  refine AW.seq_w fun K6 hK6 wK6 => ?_
  refine AW.region ?_
  refine sM rfl rfl ?_
  refine sM rfl rfl ?_
  refine ob1k h5 fun t1 et1 h6 => ?_
  refine AOps.step rfl rfl rfl (sp_callS (r := .r (.sl (t1.map (rSl (rInt .i64))))) (caps := []) (bs := [.r (.sl (a2.map GElem.row)), .r (.sl (b2.map GElem.row))]) rfl iL rfl ⟨.inl ⟨iL, rfl⟩, .inl ⟨iL, rfl⟩, trivial⟩ (fun _ => w_diff_table (et1))) ?_
  refine sQ rfl (sp_assign rfl iL) ?_
  refine AOps.nil (hK6 _ ?_)
  refine AW.seq_w fun K7 hK7 wK7 => ?_
  refine AW.region ?_
  refine sQ rfl (sp_assign rfl iL) ?_
  refine AOps.nil (hK7 _ ?_)
  refine AW.seq_w fun K8 hK8 wK8 => ?_
  refine AW.seq_w fun K9 hK9 wK9 => ?_
  refine AW.region ?_
  refine sQ rfl (sp_assign rfl iL) ?_
  refine sQ rfl (sp_assign rfl iL) ?_
  refine AOps.nil (hK9 _ ?_)
  refine AW.block ?_
  refine jb1k h6 fun o1 hit1 hk2 => ?_
  have J2 : ∀ (out4 : List GStep) (i9 : Nat → Nat), o1 = out4 → K8 ⟨[(6, .own 62 (i1 0)), (10, .own 5010 (i9 0))], [(62, some (.arr (i1 0) 31 4 (last1.map GStep.row))), (5010, some (.arr (i9 0) 31 4 (out4.map GStep.row)))], (i9 1), 211⟩ := by
   intro out4 i9 e
   have h7 := hk2 _ e
   refine hK8 _ ?_
   refine AW.seq_w fun K10 hK10 wK10 => ?_
   refine AW.region ?_
   refine sM rfl rfl ?_
   refine sM rfl rfl ?_
   refine ob1k h7 fun l1 el1 h8 => ?_
   refine AOps.step rfl rfl rfl (ms_app rfl tg_23 iL rfl (.inr (.inl ⟨_, _, iL, rfl⟩)) el1) ?_
   refine AOps.weak (by exact Weak.frz (e' := [(6, .own 62 (i1 0)), (205, .own 62 (i1 0)), (206, .r (.sl (l1.map GStep.row)))]) (h' := [(62, some (.arr (i1 0) 31 4 (last1.map GStep.row)))]) 5010 rfl ⟨jL, jL, .inl (.inr (.inr ⟨rfl, rfl⟩)), trivial⟩ ⟨rfl, .inl rfl, trivial⟩) ?_
   refine ob2k h8 fun r1 r2 er1 h9 => ?_
   refine AOps.step rfl rfl rfl (sp_callS (r := .tup [.r (.sl (r1.map GStep.row)), .r (.int .i64 r2)]) (caps := []) (bs := [.r (.sl (l1.map GStep.row))]) rfl iL rfl ⟨.inl ⟨iL, rfl⟩, trivial⟩ (fun _ => w_delta_Tidy (er1))) ?_
   refine sM rfl rfl ?_
   refine sQ rfl (sp_extract (a := .r (.sl (r1.map GStep.row))) rfl iL rfl) ?_
   refine sQ rfl (sp_extract (a := .r (.int .i64 r2)) rfl iL rfl) ?_
   refine sQ rfl (sp_assign rfl iL) ?_
   refine sQ rfl (sp_assign rfl iL) ?_
   refine AOps.nil (hK10 _ ?_)
   refine AW.seq_w fun K11 hK11 wK11 => ?_
   refine AW.region ?_
   refine sM rfl rfl ?_
   refine sQ rfl (sp_assign rfl iL) ?_
   refine AOps.nil (hK11 _ ?_)
   refine AW.ret ?_
   exact retf1 (P := Try.prog) (fun (r : (List GStep)) => .r (.sl (r.map GStep.row))) h9 iL (.t (.d rfl))
  refine AW.iter3 (fun (i5 : Int) (k2 : Int) (out2 : List GStep) i6 => ⟨[(0, .r (.sl (a2.map GElem.row))), (1, .r (.sl (b2.map GElem.row))), (6, .own 62 (i1 0)), (9, .r (.sl (t1.map (rSl (rInt .i64))))), (10, .own 5010 (i6 0)), (11, .r (.int .i64 i5)), (12, .r (.int .i64 k2))], [(62, some (.arr (i1 0) 31 4 (last1.map GStep.row))), (5010, some (.arr (i6 0) 31 4 (out2.map GStep.row)))], (i6 1), 211⟩) (vec [(i1 1), ((i1 1) + 1)]) hit1 (Weak.trans (Weak.trans (Weak.adopt 10 5010 31 4 (by decide) rfl) (by exact Weak.cv (e' := [(0, .r (.sl (a2.map GElem.row))), (1, .r (.sl (b2.map GElem.row))), (6, .own 62 (i1 0)), (9, .r (.sl (t1.map (rSl (rInt .i64))))), (10, .own 5010 (i1 1)), (11, .r (.int .i64 0)), (12, .r (.int .i64 0)), (73, .r (.sl (a2.map GElem.row))), (74, .r (.sl (b2.map GElem.row))), (75, .r (.sl (t1.map (rSl (rInt .i64)))))]) (h' := [(62, some (.arr (i1 0) 31 4 (last1.map GStep.row))), (5010, some (.arr (i1 1) 31 4 (([] : List GStep).map GStep.row)))]) ⟨jL, jL, jL, jL, jL, jL, jL, jL, jL, jL, trivial⟩ ⟨.inl rfl, .inl rfl, trivial⟩ nL)) (by exact Weak.cv ⟨jL, jL, jL, jL, jL, jL, jL, trivial⟩ ⟨.inl rfl, .inl rfl, trivial⟩ nL)) ?_
  intro i5 k2 out2 i6 v1 hv1 hx1
  have h10 : diff_Raw_L1 a2 b2 t1 i5 k2 out2 = some v1 := hv1; unfold diff_Raw_L1 at h10
  refine AW.seq_w fun K12 hK12 wK12 => ?_
  refine AW.seq_w fun K13 hK13 wK13 => ?_
  refine AW.region ?_
  refine sM rfl rfl ?_
  refine sM rfl rfl ?_
  refine sQ rfl (ms_len rfl tg_22.slice iL) ?_
  refine sQ rfl (sp_lss rfl iL iL) ?_
  refine sM rfl rfl ?_
  refine sV rfl rfl rfl (sp_move rfl iL) ?_
  refine sV rfl rfl rfl (sp_move rfl iL) ?_
  refine sV rfl rfl rfl (ms_len rfl tg_22.slice (iR rfl)) ?_
  refine sV rfl rfl rfl (sp_lss rfl (iR rfl) (iR rfl)) ?_
  refine sQ rfl (sp_or rfl iL (iR rfl)) ?_
  refine AOps.nil (hK13 _ ?_)
  refine AW.cond rfl (fun hc1 => ?_) (fun hc1 => ?_)
  ·have h11 := ite_t hc1 h10
   refine AW.skip ?_
   refine hK12 _ ?_
   refine AW.block ?_
   refine AW.block ?_
   refine AW.seq_w fun K14 hK14 wK14 => ?_
   refine AW.regionQ hmix (by kernel_rfl) ?_
   refine AQ.step rfl rfl rfl (sp_move rfl iL) ?_
   refine AQ.step rfl rfl rfl (sp_move rfl iL) ?_
   refine AQ.step rfl rfl rfl (ms_len rfl tg_22.slice iL) ?_
   refine AQ.step rfl rfl rfl (sp_lss rfl iL iL) ?_
   refine AQ.step rfl rfl rfl (sp_move rfl iL) ?_
   refine AQ.stepW (.one rfl rfl rfl) rfl rfl (sp_move rfl iL) ?_
   refine AQ.stepW (.one rfl rfl rfl) rfl rfl (sp_move rfl iL) ?_
   refine AQ.stepW (.one rfl rfl rfl) rfl rfl (ms_len rfl tg_22.slice (iR rfl)) ?_
   refine AQ.stepW (.one rfl rfl rfl) rfl rfl (sp_lss rfl (iR rfl) (iR rfl)) ?_
   refine AQ.step rfl rfl rfl (sp_and rfl iL (iR rfl)) ?_
   refine AQ.step rfl rfl rfl (sp_move rfl iL) ?_
   refine AQ.stepW (.one rfl rfl rfl) rfl rfl (sp_move rfl iL) ?_
   refine AQ.stepW (.one rfl rfl rfl) rfl rfl (sp_move rfl iL) ?_
   refine ob1k h11 fun x5 ex5 h12 => ?_
   refine AQ.stepW (.one rfl rfl rfl) rfl rfl (ms_idx rfl tg_22.slice (iR rfl) (iR rfl) (fun _ => rfl) (gdt ex5)) ?_
   refine AQ.stepW (.one rfl rfl rfl) rfl rfl (ms_loadA (cs := [.r (.int .i64 x5.Char), .r (.int .i64 x5.Ref), .r (.sl (x5.Attrs.map GAttr.row))]) rfl ta_82 (iR rfl) rfl rfl) ?_
   refine AQ.stepW (.one rfl rfl rfl) rfl rfl (sp_move rfl iL) ?_
   refine AQ.stepW (.one rfl rfl rfl) rfl rfl (sp_move rfl iL) ?_
   refine ob1k h12 fun x6 ex6 h13 => ?_
   refine AQ.stepW (.one rfl rfl rfl) rfl rfl (ms_idx rfl tg_22.slice (iR rfl) (iR rfl) (fun _ => rfl) (gdt ex6)) ?_
   refine AQ.stepW (.one rfl rfl rfl) rfl rfl (ms_loadA (cs := [.r (.int .i64 x6.Char), .r (.int .i64 x6.Ref), .r (.sl (x6.Attrs.map GAttr.row))]) rfl ta_82 (iR rfl) rfl rfl) ?_
   refine ob1k h13 fun r3 er3 h14 => ?_
   refine AQ.stepWC (.one rfl rfl rfl) rfl rfl (r := .r (.bool r3)) (caps := []) (bs := [.agg [.r (.int .i64 x5.Char), .r (.int .i64 x5.Ref), .r (.sl (x5.Attrs.map GAttr.row))], .agg [.r (.int .i64 x6.Char), .r (.int .i64 x6.Ref), .r (.sl (x6.Attrs.map GAttr.row))]]) rfl iL rfl ⟨⟨_, (iR rfl), .g (cs := [.int .i64 x5.Char, .int .i64 x5.Ref, .sl (x5.Attrs.map GAttr.row)]) rfl rfl⟩, ⟨_, (iR rfl), .g (cs := [.int .i64 x6.Char, .int .i64 x6.Ref, .sl (x6.Attrs.map GAttr.row)]) rfl rfl⟩, trivial⟩ (fun hg => w_diff_alike (gdt er3 hg)) rfl ?_
   refine AQ.step rfl rfl rfl (sp_and rfl iL (iR rfl)) ?_
   refine AQ.step rfl rfl rfl (sp_move rfl iL) ?_
   refine AQ.stepW (.one rfl rfl rfl) rfl rfl (sp_move rfl iL) ?_
   refine AQ.stepW (.one rfl rfl rfl) rfl rfl (sp_move rfl iL) ?_
   refine ob1k h14 fun x7 ex7 h15 => ?_
   refine AQ.stepW (.one rfl rfl rfl) rfl rfl (ms_idx rfl tg_115.slice (iR rfl) (iR rfl) (fun _ => rfl) (gdt ex7)) ?_
   refine AQ.stepW (.one rfl rfl rfl) rfl rfl (ms_load (d := .sl (x7.map (rInt .i64))) rfl ts_87 (iR rfl) rfl) ?_
   refine AQ.stepW (.one rfl rfl rfl) rfl rfl (sp_move rfl iL) ?_
   refine ob1k h15 fun x8 ex8 h16 => ?_
   refine AQ.stepW (.one rfl rfl rfl) rfl rfl (ms_idx rfl tg_87.slice (iR rfl) (iR rfl) (fun _ => rfl) (gdt ex8)) ?_
   refine AQ.stepW (.one rfl rfl rfl) rfl rfl (ms_load (d := .int .i64 x8) rfl ts_3 (iR rfl) rfl) ?_
   refine AQ.stepW (.one rfl rfl rfl) rfl rfl (sp_move rfl iL) ?_
   refine AQ.stepW (.one rfl rfl rfl) rfl rfl (sp_move rfl iL) ?_
   refine ob1k h16 fun x9 ex9 h17 => ?_
   refine AQ.stepW (.one rfl rfl rfl) rfl rfl (ms_add rfl (iR rfl) iL (gdt ex9)) ?_
   refine ob1k h17 fun x10 ex10 h18 => ?_
   refine AQ.stepW (.one rfl rfl rfl) rfl rfl (ms_idx rfl tg_115.slice (iR rfl) (iR rfl) (fun _ => rfl) (gdt ex10)) ?_
   refine AQ.stepW (.one rfl rfl rfl) rfl rfl (ms_load (d := .sl (x10.map (rInt .i64))) rfl ts_87 (iR rfl) rfl) ?_
   refine AQ.stepW (.one rfl rfl rfl) rfl rfl (sp_move rfl iL) ?_
   refine ob1k h18 fun x11 ex11 h19 => ?_
   refine AQ.stepW (.one rfl rfl rfl) rfl rfl (ms_add rfl (iR rfl) iL (gdt ex11)) ?_
   refine ob1k h19 fun x12 ex12 h20 => ?_
   refine AQ.stepW (.one rfl rfl rfl) rfl rfl (ms_idx rfl tg_87.slice (iR rfl) (iR rfl) (fun _ => rfl) (gdt ex12)) ?_
   refine AQ.stepW (.one rfl rfl rfl) rfl rfl (ms_load (d := .int .i64 x12) rfl ts_3 (iR rfl) rfl) ?_
   refine AQ.stepW (.one rfl rfl rfl) rfl rfl (sp_move rfl iL) ?_
   refine AQ.stepW (.one rfl rfl rfl) rfl rfl (sp_move rfl iL) ?_
   refine ob1k h20 fun x13 ex13 h21 => ?_
   refine AQ.stepW (.one rfl rfl rfl) rfl rfl (ms_idx rfl tg_22.slice (iR rfl) (iR rfl) (fun _ => rfl) (gdt ex13)) ?_
   refine AQ.stepW (.one rfl rfl rfl) rfl rfl (ms_loadA (cs := [.r (.int .i64 x13.Char), .r (.int .i64 x13.Ref), .r (.sl (x13.Attrs.map GAttr.row))]) rfl ta_82 (iR rfl) rfl rfl) ?_
   refine AQ.stepW (.one rfl rfl rfl) rfl rfl (sp_move rfl iL) ?_
   refine AQ.stepW (.one rfl rfl rfl) rfl rfl (sp_move rfl iL) ?_
   refine ob1k h21 fun x14 ex14 h22 => ?_
   refine AQ.stepW (.one rfl rfl rfl) rfl rfl (ms_idx rfl tg_22.slice (iR rfl) (iR rfl) (fun _ => rfl) (gdt ex14)) ?_
   refine AQ.stepW (.one rfl rfl rfl) rfl rfl (ms_loadA (cs := [.r (.int .i64 x14.Char), .r (.int .i64 x14.Ref), .r (.sl (x14.Attrs.map GAttr.row))]) rfl ta_82 (iR rfl) rfl rfl) ?_
   refine ob1k h22 fun r4 er4 h23 => ?_
   refine AQ.stepWC (.one rfl rfl rfl) rfl rfl (r := .r (.int .i64 r4)) (caps := []) (bs := [.agg [.r (.int .i64 x13.Char), .r (.int .i64 x13.Ref), .r (.sl (x13.Attrs.map GAttr.row))], .agg [.r (.int .i64 x14.Char), .r (.int .i64 x14.Ref), .r (.sl (x14.Attrs.map GAttr.row))]]) rfl iL rfl ⟨⟨_, (iR rfl), .g (cs := [.int .i64 x13.Char, .int .i64 x13.Ref, .sl (x13.Attrs.map GAttr.row)]) rfl rfl⟩, ⟨_, (iR rfl), .g (cs := [.int .i64 x14.Char, .int .i64 x14.Ref, .sl (x14.Attrs.map GAttr.row)]) rfl rfl⟩, trivial⟩ (fun hg => w_diff_price (gdt er4 hg)) rfl ?_
   refine ob1k h23 fun x15 ex15 h24 => ?_
   refine AQ.stepW (.one rfl rfl rfl) rfl rfl (ms_add rfl (iR rfl) (iR rfl) (gdt ex15)) ?_
   refine AQ.stepW (.one rfl rfl rfl) rfl rfl (sp_eql rfl (iR rfl) (iR rfl)) ?_
   refine AQ.step rfl rfl rfl (sp_and rfl iL (iR rfl)) ?_
   refine AQ.step rfl rfl rfl (sp_assign rfl iL) ?_
   refine AQ.nil ?_
   refine hK14 _ ?_
   refine AW.cond rfl (fun hc2 => ?_) (fun hc2 => ?_)
   ·have h25 := ite_t hc2 h24
    refine AW.seq_w fun K15 hK15 wK15 => ?_
    refine AW.weak (s' := ⟨[(0, .r (.sl (a2.map GElem.row))), (1, .r (.sl (b2.map GElem.row))), (6, .own 62 (i1 0)), (9, .r (.sl (t1.map (rSl (rInt .i64))))), (10, .own 5010 (i6 0)), (11, .r (.int .i64 i5)), (12, .r (.int .i64 k2))], [(62, some (.arr (i1 0) 31 4 (last1.map GStep.row))), (5010, some (.arr (i6 0) 31 4 (out2.map GStep.row)))], (i6 1), 211⟩) (by exact Weak.cv ⟨jL, jL, jL, jL, jL, jL, jL, trivial⟩ ⟨.inl rfl, .inl rfl, trivial⟩ nL) ?_
    refine AW.regionF' [0] [1, 2, 3, 4, 5, 6, 7, 8, 9, 10] [] 11 hmix (by kernel_rfl) rfl rfl rfl rfl rfl ?_
    refine AFl.move rfl rfl rfl rfl ?_
    refine AFl.nil ?_
    refine AF.step rfl rfl rfl (sp_move rfl iL) ?_
    refine AF.step rfl rfl rfl (sp_move rfl iL) ?_
    refine ob1k h25 fun x16 ex16 h26 => ?_
    refine AF.step rfl rfl rfl (ms_idx rfl tg_22.slice iL iL (fun _ => rfl) (fun _ => ex16)) ?_
    refine AF.step rfl rfl rfl (sp_fieldAddr_ro rfl tf_82_2 iL) ?_
    refine AF.step rfl rfl rfl (ms_load (d := .sl (x16.Attrs.map GAttr.row)) rfl ts_29 iL rfl) ?_
    refine AF.step rfl rfl rfl (sp_move rfl iL) ?_
    refine AF.step rfl rfl rfl (sp_move rfl iL) ?_
    refine ob1k h26 fun x17 ex17 h27 => ?_
    refine AF.step rfl rfl rfl (ms_idx rfl tg_22.slice iL iL (fun _ => rfl) (fun _ => ex17)) ?_
    refine AF.step rfl rfl rfl (sp_fieldAddr_ro rfl tf_82_2 iL) ?_
    refine AF.step rfl rfl rfl (ms_load (d := .sl (x17.Attrs.map GAttr.row)) rfl ts_29 iL rfl) ?_
    refine AF.nil ?_
    refine AA.nil ?_
    refine ob1k h27 fun r5 er5 h28 => ?_
    refine AOps.step rfl rfl rfl (sp_callS (r := .r (.sl (r5.map GAttr.row))) (caps := []) (bs := [.r (.sl (x16.Attrs.map GAttr.row)), .r (.sl (x17.Attrs.map GAttr.row))]) rfl iL rfl ⟨.inl ⟨iL, rfl⟩, .inl ⟨iL, rfl⟩, trivial⟩ (fun _ => w_attr_Change (er5))) ?_
    refine sQ rfl (sp_build rfl tb_31 (q := [(0, _), (1, _), (2, _)]) (by exact ⟨rfl, rfl, rfl, iL, rfl, rfl, rfl, iL, rfl, rfl, rfl, iL, trivial⟩) (cs := [.r (.int .i64 0), .r (.int .i64 1), .r (.sl (r5.map GAttr.row)), .cst (.slice none 0 0)]) (by rfl)) ?_
    refine AOps.step rfl rfl rfl (ms_lit 161 rfl tg_23 (f := GStep.row) (l := ([(GStep.mk 0 1 r5 [])] : List GStep)) ⟨rfl, ⟨_, iL, rfl⟩, trivial⟩ rfl (fun _ => rfl) rfl) ?_
    refine ob1k h28 fun out5 eout5 h29 => ?_
    refine AOps.step rfl rfl rfl (ms_app rfl tg_23 iL rfl (.inr (.inl ⟨_, _, iL, rfl⟩)) eout5) ?_
    refine sQ rfl (sp_assign rfl iL) ?_
    refine AOps.nil (hK15 _ ?_)
    refine AW.weak (s' := ⟨[(0, .r (.sl (a2.map GElem.row))), (1, .r (.sl (b2.map GElem.row))), (6, .own 62 (i1 0)), (9, .r (.sl (t1.map (rSl (rInt .i64))))), (10, .own 5010 ((i6 1) + 1)), (11, .r (.int .i64 i5)), (12, .r (.int .i64 k2))], [(62, some (.arr (i1 0) 31 4 (last1.map GStep.row))), (5010, some (.arr ((i6 1) + 1) 31 4 (out5.map GStep.row)))], ((i6 1) + 2), 211⟩) (by exact Weak.cv ⟨jL, jL, jL, jL, jL, jL, jL, trivial⟩ ⟨.inl rfl, .inl rfl, trivial⟩ nL) ?_
    refine AW.region ?_
    refine sM rfl rfl ?_
    refine ob1k h29 fun i10 ei10 h30 => ?_
    refine sQ rfl (ms_add rfl iL iL (fun _ => ei10)) ?_
    refine sM rfl rfl ?_
    refine ob1k h30 fun k4 ek4 h31 => ?_
    refine sQ rfl (ms_add rfl iL iL (fun _ => ek4)) ?_
    refine sQ rfl (sp_assign rfl iL) ?_
    refine sQ rfl (sp_assign rfl iL) ?_
    refine AOps.nil ?_
    exact NextQ3.mk h31 (vec [((i6 1) + 1), ((i6 1) + 2)]) ((by exact Weak.cv ⟨jL, jL, jL, jL, jL, jL, jL, trivial⟩ ⟨.inl rfl, .inl rfl, trivial⟩ nL))
   ·have h25 := ite_f hc2 h24
    refine AW.seq_w fun K16 hK16 wK16 => ?_
    refine AW.weak (s' := ⟨[(0, .r (.sl (a2.map GElem.row))), (1, .r (.sl (b2.map GElem.row))), (6, .own 62 (i1 0)), (9, .r (.sl (t1.map (rSl (rInt .i64))))), (10, .own 5010 (i6 0)), (11, .r (.int .i64 i5)), (12, .r (.int .i64 k2))], [(62, some (.arr (i1 0) 31 4 (last1.map GStep.row))), (5010, some (.arr (i6 0) 31 4 (out2.map GStep.row)))], (i6 1), 211⟩) (by exact Weak.cv ⟨jL, jL, jL, jL, jL, jL, jL, trivial⟩ ⟨.inl rfl, .inl rfl, trivial⟩ nL) ?_
    refine AW.regionQ hmix (by kernel_rfl) ?_
    refine AQ.step rfl rfl rfl (sp_move rfl iL) ?_
    refine AQ.step rfl rfl rfl (sp_move rfl iL) ?_
    refine AQ.step rfl rfl rfl (ms_len rfl tg_22.slice iL) ?_
    refine AQ.step rfl rfl rfl (sp_lss rfl iL iL) ?_
    refine AQ.step rfl rfl rfl (sp_move rfl iL) ?_
    refine AQ.stepW (.one rfl rfl rfl) rfl rfl (sp_move rfl iL) ?_
    refine AQ.stepW (.one rfl rfl rfl) rfl rfl (sp_move rfl iL) ?_
    refine AQ.stepW (.one rfl rfl rfl) rfl rfl (ms_len rfl tg_22.slice (iR rfl)) ?_
    refine AQ.stepW (.one rfl rfl rfl) rfl rfl (sp_eql rfl (iR rfl) (iR rfl)) ?_
    refine AQ.stepW (.one rfl rfl rfl) rfl rfl (sp_move rfl (iR rfl)) ?_
    refine AQ.stepW (.two rfl rfl rfl) rfl rfl (sp_move rfl iL) ?_
    refine AQ.stepW (.two rfl rfl rfl) rfl rfl (sp_move rfl iL) ?_
    refine ob1k h25 fun x18 ex18 h32 => ?_
    refine AQ.stepW (.two rfl rfl rfl) rfl rfl (ms_idx rfl tg_115.slice (iR rfl) (iR rfl) (fun _ => rfl) (gdt ex18)) ?_
    refine AQ.stepW (.two rfl rfl rfl) rfl rfl (ms_load (d := .sl (x18.map (rInt .i64))) rfl ts_87 (iR rfl) rfl) ?_
    refine AQ.stepW (.two rfl rfl rfl) rfl rfl (sp_move rfl iL) ?_
    refine ob1k h32 fun x19 ex19 h33 => ?_
    refine AQ.stepW (.two rfl rfl rfl) rfl rfl (ms_idx rfl tg_87.slice (iR rfl) (iR rfl) (fun _ => rfl) (gdt ex19)) ?_
    refine AQ.stepW (.two rfl rfl rfl) rfl rfl (ms_load (d := .int .i64 x19) rfl ts_3 (iR rfl) rfl) ?_
    refine AQ.stepW (.two rfl rfl rfl) rfl rfl (sp_move rfl iL) ?_
    refine AQ.stepW (.two rfl rfl rfl) rfl rfl (sp_move rfl iL) ?_
    refine ob1k h33 fun x20 ex20 h34 => ?_
    refine AQ.stepW (.two rfl rfl rfl) rfl rfl (ms_add rfl (iR rfl) iL (gdt ex20)) ?_
    refine ob1k h34 fun x21 ex21 h35 => ?_
    refine AQ.stepW (.two rfl rfl rfl) rfl rfl (ms_idx rfl tg_115.slice (iR rfl) (iR rfl) (fun _ => rfl) (gdt ex21)) ?_
    refine AQ.stepW (.two rfl rfl rfl) rfl rfl (ms_load (d := .sl (x21.map (rInt .i64))) rfl ts_87 (iR rfl) rfl) ?_
    refine AQ.stepW (.two rfl rfl rfl) rfl rfl (sp_move rfl iL) ?_
    refine ob1k h35 fun x22 ex22 h36 => ?_
    refine AQ.stepW (.two rfl rfl rfl) rfl rfl (ms_idx rfl tg_87.slice (iR rfl) (iR rfl) (fun _ => rfl) (gdt ex22)) ?_
    refine AQ.stepW (.two rfl rfl rfl) rfl rfl (ms_load (d := .int .i64 x22) rfl ts_3 (iR rfl) rfl) ?_
    refine ob1k h36 fun x23 ex23 h37 => ?_
    refine AQ.stepW (.two rfl rfl rfl) rfl rfl (ms_add rfl iL (iR rfl) (gdt ex23)) ?_
    refine AQ.stepW (.two rfl rfl rfl) rfl rfl (sp_eql rfl (iR rfl) (iR rfl)) ?_
    refine AQ.stepW (.one rfl rfl rfl) rfl rfl (sp_or rfl (iR rfl) (iR rfl)) ?_
    refine AQ.step rfl rfl rfl (sp_and rfl iL (iR rfl)) ?_
    refine AQ.step rfl rfl rfl (sp_assign rfl iL) ?_
    refine AQ.nil ?_
    refine hK16 _ ?_
    refine AW.cond rfl (fun hc3 => ?_) (fun hc3 => ?_)
    ·have h38 := ite_t hc3 h37
     refine AW.seq_w fun K17 hK17 wK17 => ?_
     refine AW.region ?_
     refine sM rfl rfl ?_
     refine sQ rfl (sp_build rfl tb_31 (q := [(0, _), (1, _)]) (by exact ⟨rfl, rfl, rfl, iL, rfl, rfl, rfl, iL, trivial⟩) (cs := [.r (.int .i64 2), .r (.int .i64 1), .cst (.slice none 0 0), .cst (.slice none 0 0)]) (by rfl)) ?_
     refine AOps.step rfl rfl rfl (ms_lit 199 rfl tg_23 (f := GStep.row) (l := ([(GStep.mk 2 1 [] [])] : List GStep)) ⟨rfl, ⟨_, iL, rfl⟩, trivial⟩ rfl (fun _ => rfl) rfl) ?_
     refine ob1k h38 fun out6 eout6 h39 => ?_
     refine AOps.step rfl rfl rfl (ms_app rfl tg_23 iL rfl (.inr (.inl ⟨_, _, iL, rfl⟩)) eout6) ?_
     refine sQ rfl (sp_assign rfl iL) ?_
     refine AOps.nil (hK17 _ ?_)
     refine AW.weak (s' := ⟨[(0, .r (.sl (a2.map GElem.row))), (1, .r (.sl (b2.map GElem.row))), (6, .own 62 (i1 0)), (9, .r (.sl (t1.map (rSl (rInt .i64))))), (10, .own 5010 ((i6 1) + 1)), (11, .r (.int .i64 i5)), (12, .r (.int .i64 k2))], [(62, some (.arr (i1 0) 31 4 (last1.map GStep.row))), (5010, some (.arr ((i6 1) + 1) 31 4 (out6.map GStep.row)))], ((i6 1) + 2), 211⟩) (by exact Weak.cv ⟨jL, jL, jL, jL, jL, jL, jL, trivial⟩ ⟨.inl rfl, .inl rfl, trivial⟩ nL) ?_
     refine AW.region ?_
     refine sM rfl rfl ?_
     refine ob1k h39 fun i11 ei11 h40 => ?_
     refine sQ rfl (ms_add rfl iL iL (fun _ => ei11)) ?_
     refine sQ rfl (sp_assign rfl iL) ?_
     refine AOps.nil ?_
     exact NextQ3.mk h40 (vec [((i6 1) + 1), ((i6 1) + 2)]) ((by exact Weak.cv ⟨jL, jL, jL, jL, jL, jL, jL, trivial⟩ ⟨.inl rfl, .inl rfl, trivial⟩ nL))
    ·have h38 := ite_f hc3 h37
     refine AW.seq_w fun K18 hK18 wK18 => ?_
     refine AW.region ?_
     refine sM rfl rfl ?_
     refine sM rfl rfl ?_
     refine sM rfl rfl ?_
     refine sM rfl rfl ?_
     refine ob1k h38 fun x24 ex24 h41 => ?_
     refine sQ rfl (ms_add rfl iL iL (fun _ => ex24)) ?_
     refine ob1k h41 fun l2 el2 h42 => ?_
     refine sQ rfl (ms_slice rfl tg_22.slice iL (by exact ⟨_, iL⟩) (by exact ⟨_, iL⟩) (fun _ => rfl) (fun _ => el2)) ?_
     refine sQ rfl (sp_build rfl tb_31 (q := [(0, _), (3, _)]) (by exact ⟨rfl, rfl, rfl, iL, rfl, rfl, rfl, iL, trivial⟩) (cs := [.r (.int .i64 1), .r (.int .i64 0), .cst (.slice none 0 0), .r (.sl (l2.map GElem.row))]) (by rfl)) ?_
     refine AOps.step rfl rfl rfl (ms_lit 93 rfl tg_23 (f := GStep.row) (l := ([(GStep.mk 1 0 [] l2)] : List GStep)) ⟨rfl, ⟨_, iL, rfl⟩, trivial⟩ rfl (fun _ => rfl) rfl) ?_
     refine ob1k h42 fun out7 eout7 h43 => ?_
     refine AOps.step rfl rfl rfl (ms_app rfl tg_23 iL rfl (.inr (.inl ⟨_, _, iL, rfl⟩)) eout7) ?_
     refine sQ rfl (sp_assign rfl iL) ?_
     refine AOps.nil (hK18 _ ?_)
     refine AW.weak (s' := ⟨[(0, .r (.sl (a2.map GElem.row))), (1, .r (.sl (b2.map GElem.row))), (6, .own 62 (i1 0)), (9, .r (.sl (t1.map (rSl (rInt .i64))))), (10, .own 5010 ((i6 1) + 1)), (11, .r (.int .i64 i5)), (12, .r (.int .i64 k2))], [(62, some (.arr (i1 0) 31 4 (last1.map GStep.row))), (5010, some (.arr ((i6 1) + 1) 31 4 (out7.map GStep.row)))], ((i6 1) + 2), 211⟩) (by exact Weak.cv ⟨jL, jL, jL, jL, jL, jL, jL, trivial⟩ ⟨.inl rfl, .inl rfl, trivial⟩ nL) ?_
     refine AW.region ?_
     refine sM rfl rfl ?_
     refine sQ rfl (ms_add rfl iL iL (fun _ => ex24)) ?_
     refine sQ rfl (sp_assign rfl iL) ?_
     refine AOps.nil ?_
     exact NextQ3.mk h43 (vec [((i6 1) + 1), ((i6 1) + 2)]) ((by exact Weak.cv ⟨jL, jL, jL, jL, jL, jL, jL, trivial⟩ ⟨.inl rfl, .inl rfl, trivial⟩ nL))
  ·have h11 := ite_f hc1 h10
   refine AW.exit ?_
   exact wK8 _ _ ((by exact Weak.cv ⟨jL, jL, trivial⟩ ⟨.inl rfl, .inl rfl, trivial⟩ nL)) (J2 _ (vec [(i6 0), (i6 1)]) (hx1 _ (Option.some.inj h11).symm))
 refine AW.cond rfl (fun hc4 => ?_) (fun hc4 => ?_)
 ·have h44 := ite_t hc4 hp1
  refine AW.seq_w fun K19 hK19 wK19 => ?_
  refine ob1k h44 fun x25 ex25 h45 => ?_
  refine ob1k h45 fun x26 ex26 h46 => ?_
  refine ob1k h46 fun x27 ex27 h47 => ?_
  refine ob1k h47 fun x28 ex28 h48 => ?_
  refine AW.regionP 15 [⟨some 44, (fun _ => .r (.sl (a1.map GElem.row))), none, []⟩, ⟨some 45, (fun _ => .r (.sl (a1.map GElem.row))), none, []⟩, ⟨some 46, (fun _ => .r (.int .i64 (a1.length : Int))), none, []⟩, ⟨some 47, (fun _ => .r (.int .i64 x25)), none, []⟩, ⟨some 48, (fun _ => .rop (GElem.row x26) 0), none, []⟩, ⟨some 49, (fun _ => .agg [.r (.int .i64 x26.Char), .r (.int .i64 x26.Ref), .r (.sl (x26.Attrs.map GAttr.row))]), none, []⟩, ⟨some 50, (fun _ => .r (.sl (b1.map GElem.row))), none, []⟩, ⟨some 51, (fun _ => .r (.sl (b1.map GElem.row))), none, []⟩, ⟨some 52, (fun _ => .r (.int .i64 (b1.length : Int))), none, []⟩, ⟨some 53, (fun _ => .r (.int .i64 x27)), none, []⟩, ⟨some 54, (fun _ => .rop (GElem.row x28) 0), none, []⟩, ⟨some 55, (fun _ => .agg [.r (.int .i64 x28.Char), .r (.int .i64 x28.Ref), .r (.sl (x28.Attrs.map GAttr.row))]), none, []⟩, ⟨some 7, (fun G1 => .ptr 7 (G1 12) 0 0), some (7, (fun G1 => some (.box (G1 12) 82 [.r (.int .i64 0), .r (.int .i64 0), .cst (.slice none 0 0)]))), [12]⟩, ⟨some 8, (fun G1 => .ptr 8 (G1 13) 0 0), some (8, (fun G1 => some (.box (G1 13) 82 [.r (.int .i64 0), .r (.int .i64 0), .cst (.slice none 0 0)]))), [13]⟩, ⟨none, (fun _ => .any), some (7, (fun G1 => some (.box (G1 12) 82 [.r (.int .i64 x26.Char), .r (.int .i64 x26.Ref), .r (.sl (x26.Attrs.map GAttr.row))]))), [12]⟩] hmix (by kernel_rfl) (by exact ⟨fun _ _ h => ⟨rfl, fun _ _ e => by cases e⟩, fun _ _ h => ⟨rfl, fun _ _ e => by cases e⟩, fun _ _ h => ⟨rfl, fun _ _ e => by cases e⟩, fun _ _ h => ⟨rfl, fun _ _ e => by cases e⟩, fun _ _ h => ⟨rfl, fun _ _ e => by cases e⟩, fun _ _ h => ⟨rfl, fun _ _ e => by cases e⟩, fun _ _ h => ⟨rfl, fun _ _ e => by cases e⟩, fun _ _ h => ⟨rfl, fun _ _ e => by cases e⟩, fun _ _ h => ⟨rfl, fun _ _ e => by cases e⟩, fun _ _ h => ⟨rfl, fun _ _ e => by cases e⟩, fun _ _ h => ⟨rfl, fun _ _ e => by cases e⟩, fun _ _ h => ⟨rfl, fun _ _ e => by cases e⟩, fun _ _ h => ⟨by simp only [h 12 rfl], fun _ _ e => by cases e; simp only [h 12 rfl]⟩, fun _ _ h => ⟨by simp only [h 13 rfl], fun _ _ e => by cases e; simp only [h 13 rfl]⟩, fun _ _ h => ⟨rfl, fun _ _ e => by cases e; simp only [h 12 rfl]⟩, trivial⟩) rfl (by exact ⟨Ob.quiet (n1 := fun n => n) rfl rfl (by intro d h; cases h; rfl) rfl (fun _ => [(0, .r (.sl (a1.map GElem.row)))]) (fun _ => []) (fun D G1 hr => ⟨inE_base rfl rfl, trivial⟩) (fun D G1 hr => trivial) (fun _ _ => rfl) (fun G1 e h' n => OpQ.spec (v := .r (.sl (a1.map GElem.row))) (sp_move rfl (.inl rfl)) _),
    Ob.quiet (n1 := fun n => n) rfl rfl (by intro d h; cases h; rfl) rfl (fun _ => [(0, .r (.sl (a1.map GElem.row)))]) (fun _ => []) (fun D G1 hr => ⟨inE_base rfl rfl, trivial⟩) (fun D G1 hr => trivial) (fun _ _ => rfl) (fun G1 e h' n => OpQ.spec (v := .r (.sl (a1.map GElem.row))) (sp_move rfl (.inl rfl)) _),
    Ob.quiet (n1 := fun n => n) rfl rfl (by intro d h; cases h; rfl) rfl (fun _ => [(45, .r (.sl (a1.map GElem.row)))]) (fun _ => []) (fun D G1 hr => ⟨inE_op hr 1 rfl rfl (by kernel_rfl) rfl rfl, trivial⟩) (fun D G1 hr => trivial) (fun _ _ => rfl) (fun G1 e h' n => OpQ.spec (v := .r (.int .i64 (a1.length : Int))) (ms_len rfl tg_22.slice (.inl rfl)) _),
    Ob.quiet (n1 := fun n => n) rfl rfl (by intro d h; cases h; rfl) rfl (fun _ => [(46, .r (.int .i64 (a1.length : Int)))]) (fun _ => []) (fun D G1 hr => ⟨inE_op hr 2 rfl rfl (by kernel_rfl) rfl rfl, trivial⟩) (fun D G1 hr => trivial) (fun _ _ => rfl) (fun G1 e h' n => OpQ.spec (v := .r (.int .i64 x25)) (ms_sub rfl (.inl rfl) (.inl rfl) (fun _ => ex25)) _),
    Ob.quiet (n1 := fun n => n) rfl rfl (by intro d h; cases h; rfl) rfl (fun _ => [(44, .r (.sl (a1.map GElem.row))), (47, .r (.int .i64 x25))]) (fun _ => []) (fun D G1 hr => ⟨inE_op hr 0 rfl rfl (by kernel_rfl) rfl rfl, inE_op hr 3 rfl rfl (by kernel_rfl) rfl rfl, trivial⟩) (fun D G1 hr => trivial) (fun _ _ => rfl) (fun G1 e h' n => OpQ.spec (v := .rop (GElem.row x26) 0) (ms_idx rfl tg_22.slice (.inl rfl) (.inl rfl) (fun _ => rfl) (fun _ => ex26)) _),
    Ob.quiet (n1 := fun n => n) rfl rfl (by intro d h; cases h; rfl) rfl (fun _ => [(48, .rop (GElem.row x26) 0)]) (fun _ => []) (fun D G1 hr => ⟨inE_op hr 4 rfl rfl (by kernel_rfl) rfl rfl, trivial⟩) (fun D G1 hr => trivial) (fun _ _ => rfl) (fun G1 e h' n => OpQ.spec (v := .agg [.r (.int .i64 x26.Char), .r (.int .i64 x26.Ref), .r (.sl (x26.Attrs.map GAttr.row))]) (ms_loadA (cs := [.r (.int .i64 x26.Char), .r (.int .i64 x26.Ref), .r (.sl (x26.Attrs.map GAttr.row))]) rfl ta_82 (.inl rfl) rfl rfl) _),
    Ob.quiet (n1 := fun n => n) rfl rfl (by intro d h; cases h; rfl) rfl (fun _ => [(1, .r (.sl (b1.map GElem.row)))]) (fun _ => []) (fun D G1 hr => ⟨inE_base rfl rfl, trivial⟩) (fun D G1 hr => trivial) (fun _ _ => rfl) (fun G1 e h' n => OpQ.spec (v := .r (.sl (b1.map GElem.row))) (sp_move rfl (.inl rfl)) _),
    Ob.quiet (n1 := fun n => n) rfl rfl (by intro d h; cases h; rfl) rfl (fun _ => [(1, .r (.sl (b1.map GElem.row)))]) (fun _ => []) (fun D G1 hr => ⟨inE_base rfl rfl, trivial⟩) (fun D G1 hr => trivial) (fun _ _ => rfl) (fun G1 e h' n => OpQ.spec (v := .r (.sl (b1.map GElem.row))) (sp_move rfl (.inl rfl)) _),
    Ob.quiet (n1 := fun n => n) rfl rfl (by intro d h; cases h; rfl) rfl (fun _ => [(51, .r (.sl (b1.map GElem.row)))]) (fun _ => []) (fun D G1 hr => ⟨inE_op hr 7 rfl rfl (by kernel_rfl) rfl rfl, trivial⟩) (fun D G1 hr => trivial) (fun _ _ => rfl) (fun G1 e h' n => OpQ.spec (v := .r (.int .i64 (b1.length : Int))) (ms_len rfl tg_22.slice (.inl rfl)) _),
    Ob.quiet (n1 := fun n => n) rfl rfl (by intro d h; cases h; rfl) rfl (fun _ => [(52, .r (.int .i64 (b1.length : Int)))]) (fun _ => []) (fun D G1 hr => ⟨inE_op hr 8 rfl rfl (by kernel_rfl) rfl rfl, trivial⟩) (fun D G1 hr => trivial) (fun _ _ => rfl) (fun G1 e h' n => OpQ.spec (v := .r (.int .i64 x27)) (ms_sub rfl (.inl rfl) (.inl rfl) (fun _ => ex27)) _),
    Ob.quiet (n1 := fun n => n) rfl rfl (by intro d h; cases h; rfl) rfl (fun _ => [(50, .r (.sl (b1.map GElem.row))), (53, .r (.int .i64 x27))]) (fun _ => []) (fun D G1 hr => ⟨inE_op hr 6 rfl rfl (by kernel_rfl) rfl rfl, inE_op hr 9 rfl rfl (by kernel_rfl) rfl rfl, trivial⟩) (fun D G1 hr => trivial) (fun _ _ => rfl) (fun G1 e h' n => OpQ.spec (v := .rop (GElem.row x28) 0) (ms_idx rfl tg_22.slice (.inl rfl) (.inl rfl) (fun _ => rfl) (fun _ => ex28)) _),
    Ob.quiet (n1 := fun n => n) rfl rfl (by intro d h; cases h; rfl) rfl (fun _ => [(54, .rop (GElem.row x28) 0)]) (fun _ => []) (fun D G1 hr => ⟨inE_op hr 10 rfl rfl (by kernel_rfl) rfl rfl, trivial⟩) (fun D G1 hr => trivial) (fun _ _ => rfl) (fun G1 e h' n => OpQ.spec (v := .agg [.r (.int .i64 x28.Char), .r (.int .i64 x28.Ref), .r (.sl (x28.Attrs.map GAttr.row))]) (ms_loadA (cs := [.r (.int .i64 x28.Char), .r (.int .i64 x28.Ref), .r (.sl (x28.Attrs.map GAttr.row))]) rfl ta_82 (.inl rfl) rfl rfl) _),
    Ob.make (n1 := fun n => n + 1) rfl rfl (by intro d h; cases h; rfl) rfl (fun _ => []) (fun _ => []) (fun D G1 hr => trivial) (fun D G1 hr => trivial) (fun G1 e h' n => ms_alloc (cs := [.r (.int .i64 0), .r (.int .i64 0), .cst (.slice none 0 0)]) 7 rfl t0_82 rfl rfl),
    Ob.make (n1 := fun n => n + 1) rfl rfl (by intro d h; cases h; rfl) rfl (fun _ => []) (fun _ => []) (fun D G1 hr => trivial) (fun D G1 hr => trivial) (fun G1 e h' n => ms_alloc (cs := [.r (.int .i64 0), .r (.int .i64 0), .cst (.slice none 0 0)]) 8 rfl t0_82 rfl rfl),
    Ob.make (n1 := fun n => n) rfl rfl (by intro d h; cases h) rfl (fun G1 => [(7, .ptr 7 (G1 12) 0 0), (49, .agg [.r (.int .i64 x26.Char), .r (.int .i64 x26.Ref), .r (.sl (x26.Attrs.map GAttr.row))])]) (fun G1 => [(7, some (.box (G1 12) 82 [.r (.int .i64 0), .r (.int .i64 0), .cst (.slice none 0 0)]))]) (fun D G1 hr => ⟨inE_op hr 12 rfl rfl (by kernel_rfl) rfl rfl, inE_op hr 5 rfl rfl (by kernel_rfl) rfl rfl, trivial⟩) (fun D G1 hr => ⟨inH_op hr 12 rfl rfl (by kernel_rfl) (by kernel_rfl) rfl, trivial⟩) (fun G1 e h' n => ms_store_box (ds := [.r (.int .i64 x26.Char), .r (.int .i64 x26.Ref), .r (.sl (x26.Attrs.map GAttr.row))]) rfl tz_82 (.inl rfl) rfl (.inl rfl) rfl rfl rfl rfl),
    trivial⟩) fun G1 n1 => ?_
  refine AOps.weak (s' := ⟨[(0, .r (.sl (a1.map GElem.row))), (1, .r (.sl (b1.map GElem.row))), (5, .r (.bool ((((decide (0 < (a1.length : Int))) && (decide (0 < (b1.length : Int)))) && (decide (x2.Char = 10))) && (decide (x4.Char = 10))))), (6, .cst (.slice none 0 0)), (7, .ptr 7 (G1 12) 0 0), (8, .ptr 8 (G1 13) 0 0), (43, .r (.bool ((((decide (0 < (a1.length : Int))) && (decide (0 < (b1.length : Int)))) && (decide (x2.Char = 10))) && (decide (x4.Char = 10))))), (44, .r (.sl (a1.map GElem.row))), (45, .r (.sl (a1.map GElem.row))), (46, .r (.int .i64 (a1.length : Int))), (47, .r (.int .i64 x25)), (48, .rop (GElem.row x26) 0), (49, .agg [.r (.int .i64 x26.Char), .r (.int .i64 x26.Ref), .r (.sl (x26.Attrs.map GAttr.row))]), (50, .r (.sl (b1.map GElem.row))), (51, .r (.sl (b1.map GElem.row))), (52, .r (.int .i64 (b1.length : Int))), (53, .r (.int .i64 x27)), (54, .rop (GElem.row x28) 0), (55, .agg [.r (.int .i64 x28.Char), .r (.int .i64 x28.Ref), .r (.sl (x28.Attrs.map GAttr.row))])], [(7, some (.box (G1 12) 82 [.r (.int .i64 x26.Char), .r (.int .i64 x26.Ref), .r (.sl (x26.Attrs.map GAttr.row))])), (8, some (.box (G1 13) 82 [.r (.int .i64 0), .r (.int .i64 0), .cst (.slice none 0 0)]))], n1, 211⟩) (by exact Weak.cv ⟨jL, jL, jL, jL, jL, jL, jL, jL, jL, jL, jL, jL, jL, jL, jL, jL, jL, jL, jL, trivial⟩ ⟨.inl rfl, .inl rfl, trivial⟩ nL) ?_
  refine AOps.step0 rfl rfl (ms_store_box (ds := [.r (.int .i64 x28.Char), .r (.int .i64 x28.Ref), .r (.sl (x28.Attrs.map GAttr.row))]) rfl tz_82 iL rfl iL rfl rfl rfl rfl) ?_
  refine AOps.nil (hK19 _ ?_)
  refine AW.seq_w fun K20 hK20 wK20 => ?_
  refine AW.weak (s' := ⟨[(0, .r (.sl (a1.map GElem.row))), (1, .r (.sl (b1.map GElem.row))), (7, .ptr 7 (G1 12) 0 0), (8, .ptr 8 (G1 13) 0 0)], [(7, some (.box (G1 12) 82 [.r (.int .i64 x26.Char), .r (.int .i64 x26.Ref), .r (.sl (x26.Attrs.map GAttr.row))])), (8, some (.box (G1 13) 82 [.r (.int .i64 x28.Char), .r (.int .i64 x28.Ref), .r (.sl (x28.Attrs.map GAttr.row))]))], n1, 211⟩) (by exact Weak.cv ⟨jL, jL, jL, jL, trivial⟩ ⟨.inl rfl, .inl rfl, trivial⟩ nL) ?_
  refine AW.region ?_
  refine sQ rfl (sp_fieldAddr_own (ob := .box _ _ _) rfl tf_82_2 iL fR rfl) ?_
  refine sQ rfl (ms_load_box (a := .r (.sl (x26.Attrs.map GAttr.row))) rfl ts_29 iL rfl rfl) ?_
  refine sQ rfl (sp_fieldAddr_own (ob := .box _ _ _) rfl tf_82_2 iL fR rfl) ?_
  refine sQ rfl (ms_load_box (a := .r (.sl (x28.Attrs.map GAttr.row))) rfl ts_29 iL rfl rfl) ?_
  refine ob1k h48 fun r6 er6 h49 => ?_
  refine AOps.step rfl rfl rfl (sp_callS (r := .r (.sl (r6.map GAttr.row))) (caps := []) (bs := [.r (.sl (x26.Attrs.map GAttr.row)), .r (.sl (x28.Attrs.map GAttr.row))]) rfl iL rfl ⟨.inl ⟨iL, rfl⟩, .inl ⟨iL, rfl⟩, trivial⟩ (fun _ => w_attr_Change (er6))) ?_
  refine sQ rfl (sp_build rfl tb_31 (q := [(0, _), (1, _), (2, _)]) (by exact ⟨rfl, rfl, rfl, iL, rfl, rfl, rfl, iL, rfl, rfl, rfl, iL, trivial⟩) (cs := [.r (.int .i64 0), .r (.int .i64 1), .r (.sl (r6.map GAttr.row)), .cst (.slice none 0 0)]) (by rfl)) ?_
  refine AOps.step rfl rfl rfl (ms_lit 62 rfl tg_23 (f := GStep.row) (l := ([(GStep.mk 0 1 r6 [])] : List GStep)) ⟨rfl, ⟨_, iL, rfl⟩, trivial⟩ rfl (fun _ => rfl) rfl) ?_
  refine sQ rfl (sp_assign rfl iL) ?_
  refine AOps.nil (hK20 _ ?_)
  refine AW.weak (s' := ⟨[(0, .r (.sl (a1.map GElem.row))), (1, .r (.sl (b1.map GElem.row))), (6, .own 62 n1)], [(62, some (.arr n1 31 4 ([(GStep.mk 0 1 r6 [])].map GStep.row)))], (n1 + 1), 211⟩) (by exact Weak.cv ⟨jL, jL, jL, trivial⟩ ⟨.inl rfl, trivial⟩ nL) ?_
  refine AW.regionQ hmix (by kernel_rfl) ?_
  refine AQ.step rfl rfl rfl (sp_move rfl iL) ?_
  refine AQ.step rfl rfl rfl (sp_move rfl iL) ?_
  refine AQ.step rfl rfl rfl (ms_len rfl tg_22.slice iL) ?_
  refine AQ.step rfl rfl rfl (ms_sub rfl iL iL (fun _ => ex25)) ?_
  refine ob1k h49 fun a3 ea3 h50 => ?_
  refine AQ.step rfl rfl rfl (ms_slice rfl tg_22.slice iL (by exact rfl) (by exact ⟨_, iL⟩) (fun _ => rfl) (fun _ => ea3)) ?_
  refine AQ.step rfl rfl rfl (sp_move rfl iL) ?_
  refine AQ.step rfl rfl rfl (sp_move rfl iL) ?_
  refine AQ.step rfl rfl rfl (ms_len rfl tg_22.slice iL) ?_
  refine AQ.step rfl rfl rfl (ms_sub rfl iL iL (fun _ => ex27)) ?_
  refine ob1k h50 fun b3 eb3 h51 => ?_
  refine AQ.step rfl rfl rfl (ms_slice rfl tg_22.slice iL (by exact rfl) (by exact ⟨_, iL⟩) (fun _ => rfl) (fun _ => eb3)) ?_
  refine AQ.step rfl rfl rfl (sp_assign rfl iL) ?_
  refine AQ.step rfl rfl rfl (sp_assign rfl iL) ?_
  refine AQ.nil ?_
  exact wK4 _ _ ((by exact Weak.cv ⟨jL, jL, jL, trivial⟩ ⟨.inl rfl, trivial⟩ nL)) (J1 _ _ _ (vec [n1, (n1 + 1)]) (Option.some.inj h51).symm)
 ·have h44 := ite_f hc4 hp1
  refine AW.skip ?_
  exact wK4 _ _ (Weak.trans (Weak.trans (Weak.adopt 6 62 31 4 (by decide) rfl) (by exact Weak.cv (e' := [(0, .r (.sl (a1.map GElem.row))), (1, .r (.sl (b1.map GElem.row))), (5, .r (.bool ((((decide (0 < (a1.length : Int))) && (decide (0 < (b1.length : Int)))) && (decide (x2.Char = 10))) && (decide (x4.Char = 10))))), (6, .own 62 n0), (43, .r (.bool ((((decide (0 < (a1.length : Int))) && (decide (0 < (b1.length : Int)))) && (decide (x2.Char = 10))) && (decide (x4.Char = 10)))))]) (h' := [(62, some (.arr n0 31 4 (([] : List GStep).map GStep.row)))]) ⟨jL, jL, jL, jL, jL, trivial⟩ ⟨.inl rfl, trivial⟩ nL)) (by exact Weak.cv ⟨jL, jL, jL, trivial⟩ ⟨.inl rfl, trivial⟩ nL)) (J1 _ _ _ (vec [n0, (n0 + 1)]) (Option.some.inj h44).symm)
end Go.Proofs.Ytfkolgjapajekaa.Al
