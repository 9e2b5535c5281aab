/- Walks, as printed. -/
import Derived.Test.YtfkolgjapajekaaWlkMFx2
import Derived.Test.YtfkolgjapajekaaProg
set_option linter.unusedVariables false
namespace Go.Proofs.Ytfkolgjapajekaa.Al
open Go.Proofs
set_option maxHeartbeats 4000000 in
set_option maxRecDepth 20000 in
theorem w_ref_DiffAct {a1 : List GElem} {b1 : List GElem} {r : Ref_Act} (h : ref_DiffAct a1 b1 = some r) : ARO Try.prog 16 [.r (.sl (a1.map GElem.row)), .r (.sl (b1.map GElem.row))] (.agg [.r (.sl (r.Adds.map (rSl GElem.row))), .r (.sl (r.Cuts.map rBool)), .r (.sl (r.Attrs.map (rSl GAttr.row)))]) := by
 unfold ref_DiffAct at h
 refine ARO.mkF Try.func16 rfl rfl Try.ntmps16 rfl (Nat.le_of_ble_eq_true rfl) fun n0 => ?_
 refine AW.seq_w fun K1 hK1 wK1 => ?_
 refine AW.region ?_
 refine AOps.step rfl rfl rfl (ms_alloc (cs := [.cst (.slice none 0 0), .cst (.slice none 0 0), .cst (.slice none 0 0)]) 4 rfl t0_41 rfl rfl) ?_
 refine AOps.nil (hK1 _ ?_)
 refine AW.seq_w fun K2 hK2 wK2 => ?_
 refine AW.region ?_
 refine AOps.step rfl rfl rfl (ms_lit 12 rfl tg_37 (f := (rSl GElem.row)) (l := ([[]] : List (List GElem))) ⟨rfl, ⟨_, iL, rfl⟩, trivial⟩ rfl (fun _ => rfl) rfl) ?_
 refine sQ rfl (sp_build rfl tb_41 (q := [(0, _)]) (by exact ⟨rfl, rfl, rfl, iL, trivial⟩) (cs := [.own 12 (n0 + 1), .cst (.slice none 0 0), .cst (.slice none 0 0)]) (by rfl)) ?_
 refine AOps.step rfl rfl rfl (ms_alloc (cs := [.cst (.slice none 0 0), .cst (.slice none 0 0), .cst (.slice none 0 0)]) 5 rfl t0_41 rfl rfl) ?_
 refine AOps.step0 rfl rfl (ms_store_box (ds := [.own 12 (n0 + 1), .cst (.slice none 0 0), .cst (.slice none 0 0)]) rfl tz_41 iL rfl iL rfl rfl rfl rfl) ?_
 refine AOps.nil (hK2 _ ?_)
 refine AW.seq_w fun K3 hK3 wK3 => ?_
 refine AW.region ?_
 refine sM rfl rfl ?_
 refine sM rfl rfl ?_
 refine ob1k h fun tied1 etied1 h1 => ?_
 refine AOps.step rfl rfl rfl (sp_call (r := .r (.bool tied1)) (caps := []) (bs := [.r (.sl (a1.map GElem.row)), .r (.sl (b1.map GElem.row))]) rfl iL rfl ⟨⟨_, iL, .d rfl⟩, ⟨_, iL, .d rfl⟩, trivial⟩ (fun _ => w_ref_Tied (etied1)) rfl) ?_
 refine sQ rfl (sp_assign rfl iL) ?_
 refine AOps.nil (hK3 _ ?_)
 refine AW.seq_w fun K4 hK4 wK4 => ?_
 refine AW.block ?_
 refine jc1k h1 fun o1 hit1 hk1 he1 => ?_
 have J1 : ∀ (out4 : Ref_Act) (i5 : Nat → Nat), o1 = .nrm out4 → K4 ⟨[(4, .ptr 4 n0 0 0), (5, .ptr 5 (n0 + 2) 0 0)], [(4, some (.box n0 41 [.cst (.slice none 0 0), .cst (.slice none 0 0), .cst (.slice none 0 0)])), (5, some (.box (n0 + 2) 41 [.own 12 (i5 0), .own 9081 (i5 1), .own 9082 (i5 2)])), (12, some (.arr (i5 0) 22 1 (out4.Adds.map (rSl GElem.row)))), (9081, some (.arr (i5 1) 4 1 (out4.Cuts.map rBool))), (9082, some (.arr (i5 2) 29 1 (out4.Attrs.map (rSl GAttr.row))))], (i5 3), 219⟩ := by
  intro out4 i5 e
  have h2 := hk1 _ e
  refine hK4 _ ?_
  refine AW.seq_w fun K5 hK5 wK5 => ?_
  refine AW.region ?_
  refine sQ rfl (ms_loadA_box rfl ta_41 iL rfl rfl) ?_
  refine AOps.step0 rfl rfl (ms_store_box (ds := [.own 12 (i5 0), .own 9081 (i5 1), .own 9082 (i5 2)]) rfl tz_41 iL rfl iL rfl rfl rfl rfl) ?_
  refine AOps.nil (hK5 _ ?_)
  refine AW.ret ?_
  exact retf1 (P := Try.prog) (fun (r : Ref_Act) => .agg [.r (.sl (r.Adds.map (rSl GElem.row))), .r (.sl (r.Cuts.map rBool)), .r (.sl (r.Attrs.map (rSl GAttr.row)))]) h2 iL (.a ta_41 rfl rfl rfl (.agg (by exact ⟨.own rfl, .own rfl, .own rfl, trivial⟩)))
 refine AW.iter3 (fun (a3 : List GElem) (b3 : List GElem) (out2 : Ref_Act) i3 => ⟨[(0, .r (.sl (a3.map GElem.row))), (1, .r (.sl (b3.map GElem.row))), (4, .ptr 4 n0 0 0), (5, .ptr 5 (n0 + 2) 0 0), (6, .r (.bool tied1))], [(4, some (.box n0 41 [.cst (.slice none 0 0), .cst (.slice none 0 0), .cst (.slice none 0 0)])), (5, some (.box (n0 + 2) 41 [.own 12 (i3 0), .own 9081 (i3 1), .own 9082 (i3 2)])), (12, some (.arr (i3 0) 22 1 (out2.Adds.map (rSl GElem.row)))), (9081, some (.arr (i3 1) 4 1 (out2.Cuts.map rBool))), (9082, some (.arr (i3 2) 29 1 (out2.Attrs.map (rSl GAttr.row))))], (i3 3), 219⟩) (vec [(n0 + 1), (n0 + 3), (n0 + 4), (n0 + 5)]) hit1 (Weak.trans (Weak.trans (Weak.adoptBox 5 1 9081 4 1 (by decide) rfl rfl (by decide)) (by exact Weak.cv (e' := [(0, .r (.sl (a1.map GElem.row))), (1, .r (.sl (b1.map GElem.row))), (4, .ptr 4 n0 0 0), (5, .ptr 5 (n0 + 2) 0 0), (6, .r (.bool tied1)), (12, .own 12 (n0 + 1)), (13, .agg [.own 12 (n0 + 1), .cst (.slice none 0 0), .cst (.slice none 0 0)]), (14, .r (.sl (a1.map GElem.row))), (15, .r (.sl (b1.map GElem.row))), (16, .r (.bool tied1))]) (h' := [(4, some (.box n0 41 [.cst (.slice none 0 0), .cst (.slice none 0 0), .cst (.slice none 0 0)])), (5, some (.box (n0 + 2) 41 [.own 12 (n0 + 1), .own 9081 (n0 + 3), .cst (.slice none 0 0)])), (12, some (.arr (n0 + 1) 22 1 ([[]].map (rSl GElem.row)))), (9081, some (.arr (n0 + 3) 4 1 (([] : List Bool).map rBool)))]) ⟨jL, jL, jL, jL, jL, jL, jL, jL, jL, jL, trivial⟩ ⟨.inl rfl, .inl rfl, .inl rfl, .inl rfl, trivial⟩ nL)) (Weak.trans (Weak.trans (Weak.adoptBox 5 2 9082 29 1 (by decide) rfl rfl (by decide)) (by exact Weak.cv (e' := [(0, .r (.sl (a1.map GElem.row))), (1, .r (.sl (b1.map GElem.row))), (4, .ptr 4 n0 0 0), (5, .ptr 5 (n0 + 2) 0 0), (6, .r (.bool tied1)), (12, .own 12 (n0 + 1)), (13, .agg [.own 12 (n0 + 1), .cst (.slice none 0 0), .cst (.slice none 0 0)]), (14, .r (.sl (a1.map GElem.row))), (15, .r (.sl (b1.map GElem.row))), (16, .r (.bool tied1))]) (h' := [(4, some (.box n0 41 [.cst (.slice none 0 0), .cst (.slice none 0 0), .cst (.slice none 0 0)])), (5, some (.box (n0 + 2) 41 [.own 12 (n0 + 1), .own 9081 (n0 + 3), .own 9082 (n0 + 4)])), (12, some (.arr (n0 + 1) 22 1 ([[]].map (rSl GElem.row)))), (9081, some (.arr (n0 + 3) 4 1 (([] : List Bool).map rBool))), (9082, some (.arr (n0 + 4) 29 1 (([] : List (List GAttr)).map (rSl GAttr.row))))]) ⟨jL, jL, jL, jL, jL, jL, jL, jL, jL, jL, trivial⟩ ⟨.inl rfl, .inl rfl, .inl rfl, .inl rfl, .inl rfl, trivial⟩ nL)) (by exact Weak.cv ⟨jL, jL, jL, jL, jL, trivial⟩ ⟨.inl rfl, .inl rfl, .inl rfl, .inl rfl, .inl rfl, trivial⟩ nL))) ?_
 intro a3 b3 out2 i3 v1 hv1 hx1
 have h3 : ref_DiffAct_L1 tied1 a3 b3 out2 = some v1 := hv1; unfold ref_DiffAct_L1 at h3
 refine AW.seq_w fun K6 hK6 wK6 => ?_
 refine AW.seq_w fun K7 hK7 wK7 => ?_
 refine AW.region ?_
 refine sM rfl rfl ?_
 refine sQ rfl (ms_len rfl tg_22.slice iL) ?_
 refine sQ rfl (sp_gtr rfl iL iL) ?_
 refine sM rfl rfl ?_
 refine sV rfl rfl rfl (sp_move rfl iL) ?_
 refine sV rfl rfl rfl (ms_len rfl tg_22.slice (iR rfl)) ?_
 refine sV rfl rfl rfl (sp_gtr rfl (iR rfl) iL) ?_
 refine sQ rfl (sp_or rfl iL (iR rfl)) ?_
 refine AOps.nil (hK7 _ ?_)
 refine AW.cond rfl (fun hc1 => ?_) (fun hc1 => ?_)
 ·have h4 := ite_t hc1 h3
  refine AW.skip ?_
  refine hK6 _ ?_
  refine AW.block ?_
  refine AW.seq_w fun K8 hK8 wK8 => ?_
  refine AW.region ?_
  refine sM rfl rfl ?_
  refine sM rfl rfl ?_
  refine sV rfl rfl rfl (sp_move rfl iL) ?_
  refine sV rfl rfl rfl (ms_len rfl tg_22.slice (iR rfl)) ?_
  refine sV rfl rfl rfl (sp_eql rfl (iR rfl) iL) ?_
  refine sQ rfl (sp_and rfl iL (iR rfl)) ?_
  refine sM rfl rfl ?_
  refine sV rfl rfl rfl (sp_move rfl iL) ?_
  refine sV rfl rfl rfl (ms_len rfl tg_22.slice (iR rfl)) ?_
  refine sV rfl rfl rfl (sp_eql rfl (iR rfl) iL) ?_
  refine sQ rfl (sp_and rfl iL (iR rfl)) ?_
  refine sQ rfl (sp_assign rfl iL) ?_
  refine AOps.nil (hK8 _ ?_)
  refine AW.seq_w fun K9 hK9 wK9 => ?_
  refine AW.weak (s' := ⟨[(0, .r (.sl (a3.map GElem.row))), (1, .r (.sl (b3.map GElem.row))), (4, .ptr 4 n0 0 0), (5, .ptr 5 (n0 + 2) 0 0), (6, .r (.bool tied1)), (7, .r (.bool ((tied1 && (decide ((a3.length : Int) = 1))) && (decide ((b3.length : Int) = 1)))))], [(4, some (.box n0 41 [.cst (.slice none 0 0), .cst (.slice none 0 0), .cst (.slice none 0 0)])), (5, some (.box (n0 + 2) 41 [.own 12 (i3 0), .own 9081 (i3 1), .own 9082 (i3 2)])), (12, some (.arr (i3 0) 22 1 (out2.Adds.map (rSl GElem.row)))), (9081, some (.arr (i3 1) 4 1 (out2.Cuts.map rBool))), (9082, some (.arr (i3 2) 29 1 (out2.Attrs.map (rSl GAttr.row))))], (i3 3), 219⟩) (by exact Weak.cv ⟨jL, jL, jL, jL, jL, jL, trivial⟩ ⟨.inl rfl, .inl rfl, .inl rfl, .inl rfl, .inl rfl, trivial⟩ nL) ?_
  refine AW.region ?_
  refine sM rfl rfl ?_
  refine sM rfl rfl ?_
  refine sM rfl rfl ?_
  refine ob1k h4 fun rest1 erest1 h5 => ?_
  refine AOps.step rfl rfl rfl (sp_call (r := .r (.int .i64 rest1)) (caps := []) (bs := [.r (.sl (a3.map GElem.row)), .r (.sl (b3.map GElem.row)), .r (.bool tied1)]) rfl iL rfl ⟨⟨_, iL, .d rfl⟩, ⟨_, iL, .d rfl⟩, ⟨_, iL, .d rfl⟩, trivial⟩ (fun _ => w_ref_DiffCost (erest1)) rfl) ?_
  refine sQ rfl (sp_assign rfl iL) ?_
  refine AOps.nil (hK9 _ ?_)
  refine AW.seq_w fun K10 hK10 wK10 => ?_
  refine AW.regionQ hmix (by kernel_rfl) ?_
  refine AQ.step rfl rfl rfl (sp_move rfl iL) ?_
  refine AQ.step rfl rfl rfl (ms_len rfl tg_22.slice iL) ?_
  refine AQ.step rfl rfl rfl (sp_gtr rfl iL iL) ?_
  refine AQ.step rfl rfl rfl (sp_move rfl iL) ?_
  refine AQ.stepW (.one rfl rfl rfl) rfl rfl (sp_move rfl iL) ?_
  refine AQ.stepW (.one rfl rfl rfl) rfl rfl (ms_len rfl tg_22.slice (iR rfl)) ?_
  refine AQ.stepW (.one rfl rfl rfl) rfl rfl (sp_gtr rfl (iR rfl) iL) ?_
  refine AQ.step rfl rfl rfl (sp_and rfl iL (iR rfl)) ?_
  refine AQ.step rfl rfl rfl (sp_move rfl iL) ?_
  refine AQ.stepW (.one rfl rfl rfl) rfl rfl (sp_move rfl iL) ?_
  refine ob1k h5 fun x1 ex1 h6 => ?_
  refine AQ.stepW (.one rfl rfl rfl) rfl rfl (ms_idx rfl tg_22.slice (iR rfl) iL (fun _ => rfl) (gdt ex1)) ?_
  refine AQ.stepW (.one rfl rfl rfl) rfl rfl (sp_fieldAddr_ro rfl tf_82_0 (iR rfl)) ?_
  refine AQ.stepW (.one rfl rfl rfl) rfl rfl (ms_load (d := .int .i64 x1.Char) rfl ts_3 (iR rfl) rfl) ?_
  refine AQ.stepW (.one rfl rfl rfl) rfl rfl (sp_move rfl iL) ?_
  refine ob1k h6 fun x2 ex2 h7 => ?_
  refine AQ.stepW (.one rfl rfl rfl) rfl rfl (ms_idx rfl tg_22.slice (iR rfl) iL (fun _ => rfl) (gdt ex2)) ?_
  refine AQ.stepW (.one rfl rfl rfl) rfl rfl (sp_fieldAddr_ro rfl tf_82_0 (iR rfl)) ?_
  refine AQ.stepW (.one rfl rfl rfl) rfl rfl (ms_load (d := .int .i64 x2.Char) rfl ts_3 (iR rfl) rfl) ?_
  refine AQ.stepW (.one rfl rfl rfl) rfl rfl (sp_eql rfl (iR rfl) (iR rfl)) ?_
  refine AQ.step rfl rfl rfl (sp_and rfl iL (iR rfl)) ?_
  refine AQ.step rfl rfl rfl (sp_move rfl iL) ?_
  refine AQ.stepW (.one rfl rfl rfl) rfl rfl (sp_move rfl iL) ?_
  refine ob1k h7 fun x3 ex3 h8 => ?_
  refine AQ.stepW (.one rfl rfl rfl) rfl rfl (ms_idx rfl tg_22.slice (iR rfl) iL (fun _ => rfl) (gdt ex3)) ?_
  refine AQ.stepW (.one rfl rfl rfl) rfl rfl (sp_fieldAddr_ro rfl tf_82_1 (iR rfl)) ?_
  refine AQ.stepW (.one rfl rfl rfl) rfl rfl (ms_load (d := .int .i64 x3.Ref) rfl ts_3 (iR rfl) rfl) ?_
  refine AQ.stepW (.one rfl rfl rfl) rfl rfl (sp_move rfl iL) ?_
  refine ob1k h8 fun x4 ex4 h9 => ?_
  refine AQ.stepW (.one rfl rfl rfl) rfl rfl (ms_idx rfl tg_22.slice (iR rfl) iL (fun _ => rfl) (gdt ex4)) ?_
  refine AQ.stepW (.one rfl rfl rfl) rfl rfl (sp_fieldAddr_ro rfl tf_82_1 (iR rfl)) ?_
  refine AQ.stepW (.one rfl rfl rfl) rfl rfl (ms_load (d := .int .i64 x4.Ref) rfl ts_3 (iR rfl) rfl) ?_
  refine AQ.stepW (.one rfl rfl rfl) rfl rfl (sp_eql rfl (iR rfl) (iR rfl)) ?_
  refine AQ.step rfl rfl rfl (sp_and rfl iL (iR rfl)) ?_
  refine AQ.step rfl rfl rfl (sp_move rfl iL) ?_
  refine AQ.stepW (.one rfl rfl rfl) rfl rfl (sp_move rfl iL) ?_
  refine AQ.stepW (.one rfl rfl rfl) rfl rfl (sp_not rfl (iR rfl)) ?_
  refine AQ.stepW (.one rfl rfl rfl) rfl rfl (sp_move rfl (iR rfl)) ?_
  refine AQ.stepW (.two rfl rfl rfl) rfl rfl (sp_move rfl iL) ?_
  refine AQ.stepW (.one rfl rfl rfl) rfl rfl (sp_or rfl (iR rfl) (iR rfl)) ?_
  refine AQ.stepW (.one rfl rfl rfl) rfl rfl (sp_move rfl (iR rfl)) ?_
  refine AQ.stepW (.two rfl rfl rfl) rfl rfl (sp_move rfl iL) ?_
  refine AQ.stepW (.two rfl rfl rfl) rfl rfl (ms_len rfl tg_22.slice (iR rfl)) ?_
  refine AQ.stepW (.two rfl rfl rfl) rfl rfl (sp_gtr rfl (iR rfl) iL) ?_
  refine AQ.stepW (.two rfl rfl rfl) rfl rfl (sp_move rfl (iR rfl)) ?_
  refine AQ.stepW (.two rfl rfl rfl) rfl rfl (sp_move rfl iL) ?_
  refine AQ.stepW (.two rfl rfl rfl) rfl rfl (ms_len rfl tg_22.slice (iR rfl)) ?_
  refine AQ.stepW (.two rfl rfl rfl) rfl rfl (sp_gtr rfl (iR rfl) iL) ?_
  refine AQ.stepW (.two rfl rfl rfl) rfl rfl (sp_and rfl (iR rfl) (iR rfl)) ?_
  refine AQ.stepW (.one rfl rfl rfl) rfl rfl (sp_or rfl (iR rfl) (iR rfl)) ?_
  refine AQ.step rfl rfl rfl (sp_and rfl iL (iR rfl)) ?_
  refine AQ.step rfl rfl rfl (sp_assign rfl iL) ?_
  refine AQ.nil ?_
  refine hK10 _ ?_
  refine AW.seq_w fun K11 hK11 wK11 => ?_
  refine AW.seq_w fun K12 hK12 wK12 => ?_
  refine AW.weak (s' := ⟨[(0, .r (.sl (a3.map GElem.row))), (1, .r (.sl (b3.map GElem.row))), (4, .ptr 4 n0 0 0), (5, .ptr 5 (n0 + 2) 0 0), (6, .r (.bool tied1)), (7, .r (.bool ((tied1 && (decide ((a3.length : Int) = 1))) && (decide ((b3.length : Int) = 1))))), (8, .r (.int .i64 rest1)), (9, .r (.bool (((((decide (0 < (a3.length : Int))) && (decide (0 < (b3.length : Int)))) && (decide (x1.Char = x2.Char))) && (decide (x3.Ref = x4.Ref))) && (((!tied1) || ((tied1 && (decide ((a3.length : Int) = 1))) && (decide ((b3.length : Int) = 1)))) || ((decide (1 < (a3.length : Int))) && (decide (1 < (b3.length : Int))))))))], [(4, some (.box n0 41 [.cst (.slice none 0 0), .cst (.slice none 0 0), .cst (.slice none 0 0)])), (5, some (.box (n0 + 2) 41 [.own 12 (i3 0), .own 9081 (i3 1), .own 9082 (i3 2)])), (12, some (.arr (i3 0) 22 1 (out2.Adds.map (rSl GElem.row)))), (9081, some (.arr (i3 1) 4 1 (out2.Cuts.map rBool))), (9082, some (.arr (i3 2) 29 1 (out2.Attrs.map (rSl GAttr.row))))], (i3 3), 219⟩) (by exact Weak.cv ⟨jL, jL, jL, jL, jL, jL, jL, jL, trivial⟩ ⟨.inl rfl, .inl rfl, .inl rfl, .inl rfl, .inl rfl, trivial⟩ nL) ?_
  refine AW.region ?_
  refine sM rfl rfl ?_
  refine sM rfl rfl ?_
  refine sV rfl rfl rfl (sp_move rfl iL) ?_
  refine sV rfl rfl rfl (sp_not rfl (iR rfl)) ?_
  refine sQ rfl (sp_and rfl iL (iR rfl)) ?_
  refine AOps.nil (hK12 _ ?_)
  refine jb1k h9 fun p1 hp1 hk2 => ?_
  have J2 : ∀ (keep1 : Bool) (i6 : Nat → Nat), p1 = keep1 → K11 ⟨[(0, .r (.sl (a3.map GElem.row))), (1, .r (.sl (b3.map GElem.row))), (4, .ptr 4 n0 0 0), (5, .ptr 5 (n0 + 2) 0 0), (6, .r (.bool tied1)), (7, .r (.bool ((tied1 && (decide ((a3.length : Int) = 1))) && (decide ((b3.length : Int) = 1))))), (8, .r (.int .i64 rest1)), (9, .r (.bool keep1))], [(4, some (.box n0 41 [.cst (.slice none 0 0), .cst (.slice none 0 0), .cst (.slice none 0 0)])), (5, some (.box (n0 + 2) 41 [.own 12 (i3 0), .own 9081 (i3 1), .own 9082 (i3 2)])), (12, some (.arr (i3 0) 22 1 (out2.Adds.map (rSl GElem.row)))), (9081, some (.arr (i3 1) 4 1 (out2.Cuts.map rBool))), (9082, some (.arr (i3 2) 29 1 (out2.Attrs.map (rSl GAttr.row))))], (i6 0), 219⟩ := by
   intro keep1 i6 e
   have h10 := hk2 _ e
   refine hK11 _ ?_
   refine AW.seq_w fun K13 hK13 wK13 => ?_
   refine AW.region ?_
   refine sQ rfl (sp_fieldAddr_own (ob := .box _ _ _) rfl tf_41_0 iL fR rfl) ?_
   refine sQ rfl (ms_load_box (a := .own 12 (i3 0)) rfl ts_37 iL rfl rfl) ?_
   refine sQ rfl (ms_len_own rfl tg_37.slice iL rfl) ?_
   refine ob1k h10 fun k1 ek1 h11 => ?_
   refine sQ rfl (ms_sub rfl iL iL (fun _ => ek1)) ?_
   refine sQ rfl (sp_assign rfl iL) ?_
   refine AOps.nil (hK13 _ ?_)
   refine AW.block ?_
   refine AW.seq_w fun K14 hK14 wK14 => ?_
   refine AW.region ?_
   refine sM rfl rfl ?_
   refine sQ rfl (sp_assign rfl iL) ?_
   refine AOps.nil (hK14 _ ?_)
   refine AW.cond rfl (fun hc2 => ?_) (fun hc2 => ?_)
   ·have h12 := ite_t hc2 h11
    refine AW.seq_w fun K15 hK15 wK15 => ?_
    refine AW.weak (s' := ⟨[(0, .r (.sl (a3.map GElem.row))), (1, .r (.sl (b3.map GElem.row))), (4, .ptr 4 n0 0 0), (5, .ptr 5 (n0 + 2) 0 0), (6, .r (.bool tied1)), (7, .r (.bool ((tied1 && (decide ((a3.length : Int) = 1))) && (decide ((b3.length : Int) = 1)))))], [(4, some (.box n0 41 [.cst (.slice none 0 0), .cst (.slice none 0 0), .cst (.slice none 0 0)])), (5, some (.box (n0 + 2) 41 [.own 12 (i3 0), .own 9081 (i3 1), .own 9082 (i3 2)])), (12, some (.arr (i3 0) 22 1 (out2.Adds.map (rSl GElem.row)))), (9081, some (.arr (i3 1) 4 1 (out2.Cuts.map rBool))), (9082, some (.arr (i3 2) 29 1 (out2.Attrs.map (rSl GAttr.row))))], (i6 0), 219⟩) (by exact Weak.cv ⟨jL, jL, jL, jL, jL, jL, trivial⟩ ⟨.inl rfl, .inl rfl, .inl rfl, .inl rfl, .inl rfl, trivial⟩ nL) ?_
    refine ob1k h12 fun l1 el1 h13 => ?_
    refine ob1k h13 fun l2 el2 h14 => ?_
    refine ob1k h14 fun x5 ex5 h15 => ?_
    refine ob1k h15 fun x6 ex6 h16 => ?_
    refine ob1k h16 fun r1 er1 h17 => ?_
    refine ob1k h17 fun l3 el3 h18 => ?_
    refine AW.regionP 22 [⟨some 148, (fun _ => .ptr 5 (n0 + 2) 0 0), none, []⟩, ⟨some 149, (fun _ => .own 12 (i3 0)), none, []⟩, ⟨some 150, (fun G1 => .own 150 (G1 2)), some (150, (fun G1 => some (.arr (G1 2) 22 1 ([[]].map (rSl GElem.row))))), [2]⟩, ⟨some 151, (fun G1 => .own 12 (G1 3)), some (12, (fun G1 => some (.arr (G1 3) 22 1 (l1.map (rSl GElem.row))))), [3]⟩, ⟨some 152, (fun _ => .ptr 5 (n0 + 2) 0 1), none, []⟩, ⟨some 153, (fun _ => .own 9081 (i3 1)), none, []⟩, ⟨some 154, (fun G1 => .own 154 (G1 6)), some (154, (fun G1 => some (.arr (G1 6) 4 1 ([false].map rBool)))), [6]⟩, ⟨some 155, (fun G1 => .own 9081 (G1 7)), some (9081, (fun G1 => some (.arr (G1 7) 4 1 (l2.map rBool)))), [7]⟩, ⟨some 156, (fun _ => .ptr 5 (n0 + 2) 0 2), none, []⟩, ⟨some 157, (fun _ => .own 9082 (i3 2)), none, []⟩, ⟨some 158, (fun _ => .r (.sl (a3.map GElem.row))), none, []⟩, ⟨some 159, (fun _ => .rop (GElem.row x5) 0), none, []⟩, ⟨some 160, (fun _ => .rop (GElem.row x5) 2), none, []⟩, ⟨some 161, (fun _ => .r (.sl (x5.Attrs.map GAttr.row))), none, []⟩, ⟨some 162, (fun _ => .r (.sl (b3.map GElem.row))), none, []⟩, ⟨some 163, (fun _ => .rop (GElem.row x6) 0), none, []⟩, ⟨some 164, (fun _ => .rop (GElem.row x6) 2), none, []⟩, ⟨some 165, (fun _ => .r (.sl (x6.Attrs.map GAttr.row))), none, []⟩, ⟨some 166, (fun _ => .r (.sl (r1.map GAttr.row))), none, []⟩, ⟨some 167, (fun G1 => .own 167 (G1 19)), some (167, (fun G1 => some (.arr (G1 19) 29 1 ([r1].map (rSl GAttr.row))))), [19]⟩, ⟨some 168, (fun G1 => .own 9082 (G1 20)), some (9082, (fun G1 => some (.arr (G1 20) 29 1 (l3.map (rSl GAttr.row))))), [20]⟩, ⟨some 169, (fun _ => .ptr 5 (n0 + 2) 0 0), none, []⟩] hmix (by kernel_rfl) (by exact ⟨fun _ _ h => ⟨rfl, fun _ _ e => by cases e⟩, fun _ _ h => ⟨rfl, fun _ _ e => by cases e⟩, fun _ _ h => ⟨by simp only [h 2 rfl], fun _ _ e => by cases e; simp only [h 2 rfl]⟩, fun _ _ h => ⟨by simp only [h 3 rfl], fun _ _ e => by cases e; simp only [h 3 rfl]⟩, fun _ _ h => ⟨rfl, fun _ _ e => by cases e⟩, fun _ _ h => ⟨rfl, fun _ _ e => by cases e⟩, fun _ _ h => ⟨by simp only [h 6 rfl], fun _ _ e => by cases e; simp only [h 6 rfl]⟩, fun _ _ h => ⟨by simp only [h 7 rfl], fun _ _ e => by cases e; simp only [h 7 rfl]⟩, fun _ _ h => ⟨rfl, fun _ _ e => by cases e⟩, fun _ _ h => ⟨rfl, fun _ _ e => by cases e⟩, fun _ _ h => ⟨rfl, fun _ _ e => by cases e⟩, fun _ _ h => ⟨rfl, fun _ _ e => by cases e⟩, fun _ _ h => ⟨rfl, fun _ _ e => by cases e⟩, fun _ _ h => ⟨rfl, fun _ _ e => by cases e⟩, fun _ _ h => ⟨rfl, fun _ _ e => by cases e⟩, fun _ _ h => ⟨rfl, fun _ _ e => by cases e⟩, fun _ _ h => ⟨rfl, fun _ _ e => by cases e⟩, fun _ _ h => ⟨rfl, fun _ _ e => by cases e⟩, fun _ _ h => ⟨rfl, fun _ _ e => by cases e⟩, fun _ _ h => ⟨by simp only [h 19 rfl], fun _ _ e => by cases e; simp only [h 19 rfl]⟩, fun _ _ h => ⟨by simp only [h 20 rfl], fun _ _ e => by cases e; simp only [h 20 rfl]⟩, fun _ _ h => ⟨rfl, fun _ _ e => by cases e⟩, trivial⟩) rfl (by exact ⟨Ob.quiet (n1 := fun n => n) rfl rfl (by intro d h; cases h; rfl) rfl (fun _ => [(5, .ptr 5 (n0 + 2) 0 0)]) (fun _ => [(5, some (.box (n0 + 2) 41 [.own 12 (i3 0), .own 9081 (i3 1), .own 9082 (i3 2)]))]) (fun D G1 hr => ⟨inE_base rfl rfl, trivial⟩) (fun D G1 hr => ⟨inH_base rfl rfl, trivial⟩) (fun _ _ => rfl) (fun G1 e h' n => OpQ.spec (v := .ptr 5 (n0 + 2) 0 0) (sp_fieldAddr_own (ob := .box _ _ _) rfl tf_41_0 (.inl rfl) (fun _ => rfl) rfl) _),
      Ob.quiet (n1 := fun n => n) rfl rfl (by intro d h; cases h; rfl) rfl (fun _ => [(148, .ptr 5 (n0 + 2) 0 0)]) (fun _ => [(5, some (.box (n0 + 2) 41 [.own 12 (i3 0), .own 9081 (i3 1), .own 9082 (i3 2)]))]) (fun D G1 hr => ⟨inE_op hr 0 rfl rfl (by kernel_rfl) rfl rfl, trivial⟩) (fun D G1 hr => ⟨inH_base rfl rfl, trivial⟩) (fun _ _ => rfl) (fun G1 e h' n => OpQ.spec (v := .own 12 (i3 0)) (ms_load_box (a := .own 12 (i3 0)) rfl ts_37 (.inl rfl) rfl rfl) _),
      Ob.make (n1 := fun n => n + 1) rfl rfl (by intro d h; cases h; rfl) rfl (fun _ => []) (fun _ => []) (fun D G1 hr => trivial) (fun D G1 hr => trivial) (fun G1 e h' n => ms_lit 150 rfl tg_37 (f := (rSl GElem.row)) (l := ([[]] : List (List GElem))) ⟨rfl, ⟨_, (.inl rfl), rfl⟩, trivial⟩ rfl (fun _ => rfl) rfl),
      Ob.make (n1 := fun n => n + 1) rfl rfl (by intro d h; cases h; rfl) rfl (fun G1 => [(149, .own 12 (i3 0)), (150, .own 150 (G1 2))]) (fun G1 => [(12, some (.arr (i3 0) 22 1 (out2.Adds.map (rSl GElem.row)))), (150, some (.arr (G1 2) 22 1 ([[]].map (rSl GElem.row))))]) (fun D G1 hr => ⟨inE_op hr 1 rfl rfl (by kernel_rfl) rfl rfl, inE_op hr 2 rfl rfl (by kernel_rfl) rfl rfl, trivial⟩) (fun D G1 hr => ⟨inH_baseL hr (by kernel_rfl) rfl, inH_op hr 2 rfl rfl (by kernel_rfl) (by kernel_rfl) rfl, trivial⟩) (fun G1 e h' n => ms_app rfl tg_37 (.inl rfl) rfl (.inr (.inl ⟨_, _, (.inl rfl), rfl⟩)) el1),
      Ob.quiet (n1 := fun n => n) rfl rfl (by intro d h; cases h; rfl) rfl (fun _ => [(5, .ptr 5 (n0 + 2) 0 0)]) (fun _ => [(5, some (.box (n0 + 2) 41 [.own 12 (i3 0), .own 9081 (i3 1), .own 9082 (i3 2)]))]) (fun D G1 hr => ⟨inE_base rfl rfl, trivial⟩) (fun D G1 hr => ⟨inH_base rfl rfl, trivial⟩) (fun _ _ => rfl) (fun G1 e h' n => OpQ.spec (v := .ptr 5 (n0 + 2) 0 1) (sp_fieldAddr_own (ob := .box _ _ _) rfl tf_41_1 (.inl rfl) (fun _ => rfl) rfl) _),
      Ob.quiet (n1 := fun n => n) rfl rfl (by intro d h; cases h; rfl) rfl (fun _ => [(152, .ptr 5 (n0 + 2) 0 1)]) (fun _ => [(5, some (.box (n0 + 2) 41 [.own 12 (i3 0), .own 9081 (i3 1), .own 9082 (i3 2)]))]) (fun D G1 hr => ⟨inE_op hr 4 rfl rfl (by kernel_rfl) rfl rfl, trivial⟩) (fun D G1 hr => ⟨inH_base rfl rfl, trivial⟩) (fun _ _ => rfl) (fun G1 e h' n => OpQ.spec (v := .own 9081 (i3 1)) (ms_load_box (a := .own 9081 (i3 1)) rfl ts_38 (.inl rfl) rfl rfl) _),
      Ob.make (n1 := fun n => n + 1) rfl rfl (by intro d h; cases h; rfl) rfl (fun _ => []) (fun _ => []) (fun D G1 hr => trivial) (fun D G1 hr => trivial) (fun G1 e h' n => ms_lit 154 rfl tg_38 (f := rBool) (l := ([false] : List Bool)) ⟨rfl, ⟨_, (.inl rfl), rfl⟩, trivial⟩ rfl (fun _ => rfl) rfl),
      Ob.make (n1 := fun n => n + 1) rfl rfl (by intro d h; cases h; rfl) rfl (fun G1 => [(153, .own 9081 (i3 1)), (154, .own 154 (G1 6))]) (fun G1 => [(154, some (.arr (G1 6) 4 1 ([false].map rBool))), (9081, some (.arr (i3 1) 4 1 (out2.Cuts.map rBool)))]) (fun D G1 hr => ⟨inE_op hr 5 rfl rfl (by kernel_rfl) rfl rfl, inE_op hr 6 rfl rfl (by kernel_rfl) rfl rfl, trivial⟩) (fun D G1 hr => ⟨inH_op hr 6 rfl rfl (by kernel_rfl) (by kernel_rfl) rfl, inH_baseL hr (by kernel_rfl) rfl, trivial⟩) (fun G1 e h' n => ms_app rfl tg_38 (.inl rfl) rfl (.inr (.inl ⟨_, _, (.inl rfl), rfl⟩)) el2),
      Ob.quiet (n1 := fun n => n) rfl rfl (by intro d h; cases h; rfl) rfl (fun _ => [(5, .ptr 5 (n0 + 2) 0 0)]) (fun _ => [(5, some (.box (n0 + 2) 41 [.own 12 (i3 0), .own 9081 (i3 1), .own 9082 (i3 2)]))]) (fun D G1 hr => ⟨inE_base rfl rfl, trivial⟩) (fun D G1 hr => ⟨inH_base rfl rfl, trivial⟩) (fun _ _ => rfl) (fun G1 e h' n => OpQ.spec (v := .ptr 5 (n0 + 2) 0 2) (sp_fieldAddr_own (ob := .box _ _ _) rfl tf_41_2 (.inl rfl) (fun _ => rfl) rfl) _),
      Ob.quiet (n1 := fun n => n) rfl rfl (by intro d h; cases h; rfl) rfl (fun _ => [(156, .ptr 5 (n0 + 2) 0 2)]) (fun _ => [(5, some (.box (n0 + 2) 41 [.own 12 (i3 0), .own 9081 (i3 1), .own 9082 (i3 2)]))]) (fun D G1 hr => ⟨inE_op hr 8 rfl rfl (by kernel_rfl) rfl rfl, trivial⟩) (fun D G1 hr => ⟨inH_base rfl rfl, trivial⟩) (fun _ _ => rfl) (fun G1 e h' n => OpQ.spec (v := .own 9082 (i3 2)) (ms_load_box (a := .own 9082 (i3 2)) rfl ts_39 (.inl rfl) rfl rfl) _),
      Ob.quiet (n1 := fun n => n) rfl rfl (by intro d h; cases h; rfl) rfl (fun _ => [(0, .r (.sl (a3.map GElem.row)))]) (fun _ => []) (fun D G1 hr => ⟨inE_base rfl rfl, trivial⟩) (fun D G1 hr => trivial) (fun _ _ => rfl) (fun G1 e h' n => OpQ.spec (v := .r (.sl (a3.map GElem.row))) (sp_move rfl (.inl rfl)) _),
      Ob.quiet (n1 := fun n => n) rfl rfl (by intro d h; cases h; rfl) rfl (fun _ => [(158, .r (.sl (a3.map GElem.row)))]) (fun _ => []) (fun D G1 hr => ⟨inE_op hr 10 rfl rfl (by kernel_rfl) rfl rfl, trivial⟩) (fun D G1 hr => trivial) (fun _ _ => rfl) (fun G1 e h' n => OpQ.spec (v := .rop (GElem.row x5) 0) (ms_idx rfl tg_22.slice (.inl rfl) (.inl rfl) (fun _ => rfl) (fun _ => ex5)) _),
      Ob.quiet (n1 := fun n => n) rfl rfl (by intro d h; cases h; rfl) rfl (fun _ => [(159, .rop (GElem.row x5) 0)]) (fun _ => []) (fun D G1 hr => ⟨inE_op hr 11 rfl rfl (by kernel_rfl) rfl rfl, trivial⟩) (fun D G1 hr => trivial) (fun _ _ => rfl) (fun G1 e h' n => OpQ.spec (v := .rop (GElem.row x5) 2) (sp_fieldAddr_ro rfl tf_82_2 (.inl rfl)) _),
      Ob.quiet (n1 := fun n => n) rfl rfl (by intro d h; cases h; rfl) rfl (fun _ => [(160, .rop (GElem.row x5) 2)]) (fun _ => []) (fun D G1 hr => ⟨inE_op hr 12 rfl rfl (by kernel_rfl) rfl rfl, trivial⟩) (fun D G1 hr => trivial) (fun _ _ => rfl) (fun G1 e h' n => OpQ.spec (v := .r (.sl (x5.Attrs.map GAttr.row))) (ms_load (d := .sl (x5.Attrs.map GAttr.row)) rfl ts_29 (.inl rfl) rfl) _),
      Ob.quiet (n1 := fun n => n) rfl rfl (by intro d h; cases h; rfl) rfl (fun _ => [(1, .r (.sl (b3.map GElem.row)))]) (fun _ => []) (fun D G1 hr => ⟨inE_base rfl rfl, trivial⟩) (fun D G1 hr => trivial) (fun _ _ => rfl) (fun G1 e h' n => OpQ.spec (v := .r (.sl (b3.map GElem.row))) (sp_move rfl (.inl rfl)) _),
      Ob.quiet (n1 := fun n => n) rfl rfl (by intro d h; cases h; rfl) rfl (fun _ => [(162, .r (.sl (b3.map GElem.row)))]) (fun _ => []) (fun D G1 hr => ⟨inE_op hr 14 rfl rfl (by kernel_rfl) rfl rfl, trivial⟩) (fun D G1 hr => trivial) (fun _ _ => rfl) (fun G1 e h' n => OpQ.spec (v := .rop (GElem.row x6) 0) (ms_idx rfl tg_22.slice (.inl rfl) (.inl rfl) (fun _ => rfl) (fun _ => ex6)) _),
      Ob.quiet (n1 := fun n => n) rfl rfl (by intro d h; cases h; rfl) rfl (fun _ => [(163, .rop (GElem.row x6) 0)]) (fun _ => []) (fun D G1 hr => ⟨inE_op hr 15 rfl rfl (by kernel_rfl) rfl rfl, trivial⟩) (fun D G1 hr => trivial) (fun _ _ => rfl) (fun G1 e h' n => OpQ.spec (v := .rop (GElem.row x6) 2) (sp_fieldAddr_ro rfl tf_82_2 (.inl rfl)) _),
      Ob.quiet (n1 := fun n => n) rfl rfl (by intro d h; cases h; rfl) rfl (fun _ => [(164, .rop (GElem.row x6) 2)]) (fun _ => []) (fun D G1 hr => ⟨inE_op hr 16 rfl rfl (by kernel_rfl) rfl rfl, trivial⟩) (fun D G1 hr => trivial) (fun _ _ => rfl) (fun G1 e h' n => OpQ.spec (v := .r (.sl (x6.Attrs.map GAttr.row))) (ms_load (d := .sl (x6.Attrs.map GAttr.row)) rfl ts_29 (.inl rfl) rfl) _),
      Ob.quiet (n1 := fun n => n) rfl rfl (by intro d h; cases h; rfl) rfl (fun _ => [(161, .r (.sl (x5.Attrs.map GAttr.row))), (165, .r (.sl (x6.Attrs.map GAttr.row)))]) (fun _ => []) (fun D G1 hr => ⟨inE_op hr 13 rfl rfl (by kernel_rfl) rfl rfl, inE_op hr 17 rfl rfl (by kernel_rfl) rfl rfl, trivial⟩) (fun D G1 hr => trivial) (fun _ _ => rfl) (fun G1 e h' n => sp_callS (r := .r (.sl (r1.map GAttr.row))) (caps := []) (bs := [.r (.sl (x5.Attrs.map GAttr.row)), .r (.sl (x6.Attrs.map GAttr.row))]) rfl (.inl rfl) rfl ⟨.inl ⟨(.inl rfl), rfl⟩, .inl ⟨(.inl rfl), rfl⟩, trivial⟩ (fun _ => w_ref_Between (er1))),
      Ob.make (n1 := fun n => n + 1) rfl rfl (by intro d h; cases h; rfl) rfl (fun _ => [(166, .r (.sl (r1.map GAttr.row)))]) (fun _ => []) (fun D G1 hr => ⟨inE_op hr 18 rfl rfl (by kernel_rfl) rfl rfl, trivial⟩) (fun D G1 hr => trivial) (fun G1 e h' n => ms_lit 167 rfl tg_39 (f := (rSl GAttr.row)) (l := ([r1] : List (List GAttr))) ⟨rfl, ⟨_, (.inl rfl), rfl⟩, trivial⟩ rfl (fun _ => rfl) rfl),
      Ob.make (n1 := fun n => n + 1) rfl rfl (by intro d h; cases h; rfl) rfl (fun G1 => [(157, .own 9082 (i3 2)), (167, .own 167 (G1 19))]) (fun G1 => [(167, some (.arr (G1 19) 29 1 ([r1].map (rSl GAttr.row)))), (9082, some (.arr (i3 2) 29 1 (out2.Attrs.map (rSl GAttr.row))))]) (fun D G1 hr => ⟨inE_op hr 9 rfl rfl (by kernel_rfl) rfl rfl, inE_op hr 19 rfl rfl (by kernel_rfl) rfl rfl, trivial⟩) (fun D G1 hr => ⟨inH_op hr 19 rfl rfl (by kernel_rfl) (by kernel_rfl) rfl, inH_baseL hr (by kernel_rfl) rfl, trivial⟩) (fun G1 e h' n => ms_app rfl tg_39 (.inl rfl) rfl (.inr (.inl ⟨_, _, (.inl rfl), rfl⟩)) el3),
      Ob.quiet (n1 := fun n => n) rfl rfl (by intro d h; cases h; rfl) rfl (fun _ => [(5, .ptr 5 (n0 + 2) 0 0)]) (fun _ => [(5, some (.box (n0 + 2) 41 [.own 12 (i3 0), .own 9081 (i3 1), .own 9082 (i3 2)]))]) (fun D G1 hr => ⟨inE_base rfl rfl, trivial⟩) (fun D G1 hr => ⟨inH_base rfl rfl, trivial⟩) (fun _ _ => rfl) (fun G1 e h' n => OpQ.spec (v := .ptr 5 (n0 + 2) 0 0) (sp_fieldAddr_own (ob := .box _ _ _) rfl tf_41_0 (.inl rfl) (fun _ => rfl) rfl) _),
      trivial⟩) fun G1 n1 => ?_
    refine AOps.weak (s' := ⟨[(0, .r (.sl (a3.map GElem.row))), (1, .r (.sl (b3.map GElem.row))), (4, .ptr 4 n0 0 0), (5, .ptr 5 (n0 + 2) 0 0), (6, .r (.bool tied1)), (7, .r (.bool ((tied1 && (decide ((a3.length : Int) = 1))) && (decide ((b3.length : Int) = 1))))), (148, .ptr 5 (n0 + 2) 0 0), (150, .own 150 (G1 2)), (151, .own 12 (G1 3)), (152, .ptr 5 (n0 + 2) 0 1), (154, .own 154 (G1 6)), (155, .own 9081 (G1 7)), (156, .ptr 5 (n0 + 2) 0 2), (158, .r (.sl (a3.map GElem.row))), (159, .rop (GElem.row x5) 0), (160, .rop (GElem.row x5) 2), (161, .r (.sl (x5.Attrs.map GAttr.row))), (162, .r (.sl (b3.map GElem.row))), (163, .rop (GElem.row x6) 0), (164, .rop (GElem.row x6) 2), (165, .r (.sl (x6.Attrs.map GAttr.row))), (166, .r (.sl (r1.map GAttr.row))), (167, .own 167 (G1 19)), (168, .own 9082 (G1 20)), (169, .ptr 5 (n0 + 2) 0 0)], [(4, some (.box n0 41 [.cst (.slice none 0 0), .cst (.slice none 0 0), .cst (.slice none 0 0)])), (5, some (.box (n0 + 2) 41 [.own 12 (i3 0), .own 9081 (i3 1), .own 9082 (i3 2)])), (12, some (.arr (G1 3) 22 1 (l1.map (rSl GElem.row)))), (150, some (.arr (G1 2) 22 1 ([[]].map (rSl GElem.row)))), (154, some (.arr (G1 6) 4 1 ([false].map rBool))), (167, some (.arr (G1 19) 29 1 ([r1].map (rSl GAttr.row)))), (9081, some (.arr (G1 7) 4 1 (l2.map rBool))), (9082, some (.arr (G1 20) 29 1 (l3.map (rSl GAttr.row))))], n1, 219⟩) (by exact Weak.cv ⟨jL, jL, jL, jL, jL, jL, jL, jL, jL, jL, jL, jL, jL, jL, jL, jL, jL, jL, jL, jL, jL, jL, jL, jL, jL, trivial⟩ ⟨.inl rfl, .inl rfl, .inl rfl, .inl rfl, .inl rfl, .inl rfl, .inl rfl, .inl rfl, trivial⟩ nL) ?_
    refine AOps.step0 rfl rfl (ms_store_box (ds := [.own 12 (G1 3), .own 9081 (i3 1), .own 9082 (i3 2)]) rfl tz_37 iL rfl iL rfl rfl rfl rfl) ?_
    refine sQ rfl (sp_fieldAddr_own (ob := .box _ _ _) rfl tf_41_1 iL fR rfl) ?_
    refine AOps.step0 rfl rfl (ms_store_box (ds := [.own 12 (G1 3), .own 9081 (G1 7), .own 9082 (i3 2)]) rfl tz_38 iL rfl iL rfl rfl rfl rfl) ?_
    refine sQ rfl (sp_fieldAddr_own (ob := .box _ _ _) rfl tf_41_2 iL fR rfl) ?_
    refine AOps.step0 rfl rfl (ms_store_box (ds := [.own 12 (G1 3), .own 9081 (G1 7), .own 9082 (G1 20)]) rfl tz_39 iL rfl iL rfl rfl rfl rfl) ?_
    refine AOps.nil (hK15 _ ?_)
    refine AW.seq_w fun K16 hK16 wK16 => ?_
    refine AW.weak (s' := ⟨[(0, .r (.sl (a3.map GElem.row))), (1, .r (.sl (b3.map GElem.row))), (4, .ptr 4 n0 0 0), (5, .ptr 5 (n0 + 2) 0 0), (6, .r (.bool tied1)), (7, .r (.bool ((tied1 && (decide ((a3.length : Int) = 1))) && (decide ((b3.length : Int) = 1)))))], [(4, some (.box n0 41 [.cst (.slice none 0 0), .cst (.slice none 0 0), .cst (.slice none 0 0)])), (5, some (.box (n0 + 2) 41 [.own 12 (G1 3), .own 9081 (G1 7), .own 9082 (G1 20)])), (12, some (.arr (G1 3) 22 1 (l1.map (rSl GElem.row)))), (9081, some (.arr (G1 7) 4 1 (l2.map rBool))), (9082, some (.arr (G1 20) 29 1 (l3.map (rSl GAttr.row))))], n1, 219⟩) (by exact Weak.cv ⟨jL, jL, jL, jL, jL, jL, trivial⟩ ⟨.inl rfl, .inl rfl, .inl rfl, .inl rfl, .inl rfl, trivial⟩ nL) ?_
    refine AW.regionQ hmix (by kernel_rfl) ?_
    refine AQ.step rfl rfl rfl (sp_move rfl iL) ?_
    refine ob1k h18 fun a5 ea5 h19 => ?_
    refine AQ.step rfl rfl rfl (ms_slice rfl tg_22.slice iL (by exact ⟨_, iL⟩) (by exact rfl) (fun _ => rfl) (fun _ => ea5)) ?_
    refine AQ.step rfl rfl rfl (sp_move rfl iL) ?_
    refine ob1k h19 fun b5 eb5 h20 => ?_
    refine AQ.step rfl rfl rfl (ms_slice rfl tg_22.slice iL (by exact ⟨_, iL⟩) (by exact rfl) (fun _ => rfl) (fun _ => eb5)) ?_
    refine AQ.step rfl rfl rfl (sp_assign rfl iL) ?_
    refine AQ.step rfl rfl rfl (sp_assign rfl iL) ?_
    refine AQ.nil ?_
    refine hK16 _ ?_
    refine AW.seq_w fun K17 hK17 wK17 => ?_
    refine AW.region ?_
    refine sM rfl rfl ?_
    refine AOps.nil (hK17 _ ?_)
    refine AW.cond rfl (fun hc3 => ?_) (fun hc3 => ?_)
    ·have h21 := ite_t hc3 h20
     refine AW.seq_w fun K18 hK18 wK18 => ?_
     refine AW.weak (s' := ⟨[(4, .ptr 4 n0 0 0), (5, .ptr 5 (n0 + 2) 0 0)], [(4, some (.box n0 41 [.cst (.slice none 0 0), .cst (.slice none 0 0), .cst (.slice none 0 0)])), (5, some (.box (n0 + 2) 41 [.own 12 (G1 3), .own 9081 (G1 7), .own 9082 (G1 20)])), (12, some (.arr (G1 3) 22 1 (l1.map (rSl GElem.row)))), (9081, some (.arr (G1 7) 4 1 (l2.map rBool))), (9082, some (.arr (G1 20) 29 1 (l3.map (rSl GAttr.row))))], n1, 219⟩) (by exact Weak.cv ⟨jL, jL, trivial⟩ ⟨.inl rfl, .inl rfl, .inl rfl, .inl rfl, .inl rfl, trivial⟩ nL) ?_
     refine AW.region ?_
     refine sQ rfl (ms_loadA_box rfl ta_41 iL rfl rfl) ?_
     refine AOps.step0 rfl rfl (ms_store_box (ds := [.own 12 (G1 3), .own 9081 (G1 7), .own 9082 (G1 20)]) rfl tz_41 iL rfl iL rfl rfl rfl rfl) ?_
     refine AOps.nil (hK18 _ ?_)
     refine AW.ret ?_
     exact retf1 (P := Try.prog) (fun (r : Ref_Act) => .agg [.r (.sl (r.Adds.map (rSl GElem.row))), .r (.sl (r.Cuts.map rBool)), .r (.sl (r.Attrs.map (rSl GAttr.row)))]) (he1 _ (hx1 _ (Option.some.inj h21).symm)) iL (.a ta_41 rfl rfl rfl (.agg (by exact ⟨.own rfl, .own rfl, .own rfl, trivial⟩)))
    ·have h21 := ite_f hc3 h20
     refine AW.skip ?_
     exact NextQ3.mk h21 (vec [(G1 3), (G1 7), (G1 20), n1]) ((by exact Weak.cv ⟨jL, jL, jL, jL, jL, trivial⟩ ⟨.inl rfl, .inl rfl, .inl rfl, .inl rfl, .inl rfl, trivial⟩ nL))
   ·have h12 := ite_f hc2 h11
    refine AW.seq_w fun K19 hK19 wK19 => ?_
    refine AW.region ?_
    refine sM rfl rfl ?_
    refine sQ rfl (ms_len rfl tg_22.slice iL) ?_
    refine sQ rfl (sp_gtr rfl iL iL) ?_
    refine sM rfl rfl ?_
    refine sV rfl rfl rfl (sp_move rfl iL) ?_
    refine sV rfl rfl rfl (sp_not rfl (iR rfl)) ?_
    refine sV rfl rfl rfl (sp_move rfl (iR rfl)) ?_
    refine sW (.two rfl rfl rfl) rfl (sp_move rfl iL) ?_
    refine sW (.two rfl rfl rfl) rfl (ms_len rfl tg_22.slice (iR rfl)) ?_
    refine sW (.two rfl rfl rfl) rfl (sp_gtr rfl (iR rfl) iL) ?_
    refine sV rfl rfl rfl (sp_or rfl (iR rfl) (iR rfl)) ?_
    refine sQ rfl (sp_and rfl iL (iR rfl)) ?_
    refine sM rfl rfl ?_
    refine sV rfl rfl rfl (sp_move rfl iL) ?_
    refine sV rfl rfl rfl (sp_move rfl iL) ?_
    refine ob1k h12 fun l4 el4 h22 => ?_
    refine sV rfl rfl rfl (ms_slice rfl tg_22.slice (iR rfl) (by exact ⟨_, iL⟩) (by exact rfl) (fun _ => rfl) (gdt el4)) ?_
    refine sV rfl rfl rfl (sp_move rfl iL) ?_
    refine sV rfl rfl rfl (sp_move rfl iL) ?_
    refine ob1k h22 fun r2 er2 h23 => ?_
    refine AOps.stepW (.one rfl rfl rfl) rfl rfl (sp_call (r := .r (.int .i64 r2)) (caps := []) (bs := [.r (.sl (l4.map GElem.row)), .r (.sl (b3.map GElem.row)), .r (.bool tied1)]) rfl iL rfl ⟨⟨_, (iR rfl), .d rfl⟩, ⟨_, (iR rfl), .d rfl⟩, ⟨_, (iR rfl), .d rfl⟩, trivial⟩ (fun hg => w_ref_DiffCost (gdt er2 hg)) rfl) ?_
    refine ob1k h23 fun x7 ex7 h24 => ?_
    refine sV rfl rfl rfl (ms_add rfl iL (iR rfl) (gdt ex7)) ?_
    refine sV rfl rfl rfl (sp_eql rfl (iR rfl) (iR rfl)) ?_
    refine sQ rfl (sp_and rfl iL (iR rfl)) ?_
    refine sQ rfl (sp_assign rfl iL) ?_
    refine AOps.nil (hK19 _ ?_)
    refine AW.cond rfl (fun hc4 => ?_) (fun hc4 => ?_)
    ·have h25 := ite_t hc4 h24
     refine AW.seq_w fun K20 hK20 wK20 => ?_
     refine AW.weak (s' := ⟨[(0, .r (.sl (a3.map GElem.row))), (1, .r (.sl (b3.map GElem.row))), (4, .ptr 4 n0 0 0), (5, .ptr 5 (n0 + 2) 0 0), (6, .r (.bool tied1))], [(4, some (.box n0 41 [.cst (.slice none 0 0), .cst (.slice none 0 0), .cst (.slice none 0 0)])), (5, some (.box (n0 + 2) 41 [.own 12 (i3 0), .own 9081 (i3 1), .own 9082 (i3 2)])), (12, some (.arr (i3 0) 22 1 (out2.Adds.map (rSl GElem.row)))), (9081, some (.arr (i3 1) 4 1 (out2.Cuts.map rBool))), (9082, some (.arr (i3 2) 29 1 (out2.Attrs.map (rSl GAttr.row))))], (i6 0), 219⟩) (by exact Weak.cv ⟨jL, jL, jL, jL, jL, trivial⟩ ⟨.inl rfl, .inl rfl, .inl rfl, .inl rfl, .inl rfl, trivial⟩ nL) ?_
     refine ob1k h25 fun l5 el5 h26 => ?_
     refine ob1k h26 fun l6 el6 h27 => ?_
     refine ob1k h27 fun l7 el7 h28 => ?_
     refine AW.regionP 13 [⟨some 201, (fun _ => .ptr 5 (n0 + 2) 0 0), none, []⟩, ⟨some 202, (fun _ => .own 12 (i3 0)), none, []⟩, ⟨some 203, (fun G2 => .own 203 (G2 2)), some (203, (fun G2 => some (.arr (G2 2) 22 1 ([[]].map (rSl GElem.row))))), [2]⟩, ⟨some 204, (fun G2 => .own 12 (G2 3)), some (12, (fun G2 => some (.arr (G2 3) 22 1 (l5.map (rSl GElem.row))))), [3]⟩, ⟨some 205, (fun _ => .ptr 5 (n0 + 2) 0 1), none, []⟩, ⟨some 206, (fun _ => .own 9081 (i3 1)), none, []⟩, ⟨some 207, (fun G2 => .own 207 (G2 6)), some (207, (fun G2 => some (.arr (G2 6) 4 1 ([true].map rBool)))), [6]⟩, ⟨some 208, (fun G2 => .own 9081 (G2 7)), some (9081, (fun G2 => some (.arr (G2 7) 4 1 (l6.map rBool)))), [7]⟩, ⟨some 209, (fun _ => .ptr 5 (n0 + 2) 0 2), none, []⟩, ⟨some 210, (fun _ => .own 9082 (i3 2)), none, []⟩, ⟨some 211, (fun G2 => .own 211 (G2 10)), some (211, (fun G2 => some (.arr (G2 10) 29 1 ([[]].map (rSl GAttr.row))))), [10]⟩, ⟨some 212, (fun G2 => .own 9082 (G2 11)), some (9082, (fun G2 => some (.arr (G2 11) 29 1 (l7.map (rSl GAttr.row))))), [11]⟩, ⟨some 213, (fun _ => .ptr 5 (n0 + 2) 0 0), none, []⟩] hmix (by kernel_rfl) (by exact ⟨fun _ _ h => ⟨rfl, fun _ _ e => by cases e⟩, fun _ _ h => ⟨rfl, fun _ _ e => by cases e⟩, fun _ _ h => ⟨by simp only [h 2 rfl], fun _ _ e => by cases e; simp only [h 2 rfl]⟩, fun _ _ h => ⟨by simp only [h 3 rfl], fun _ _ e => by cases e; simp only [h 3 rfl]⟩, fun _ _ h => ⟨rfl, fun _ _ e => by cases e⟩, fun _ _ h => ⟨rfl, fun _ _ e => by cases e⟩, fun _ _ h => ⟨by simp only [h 6 rfl], fun _ _ e => by cases e; simp only [h 6 rfl]⟩, fun _ _ h => ⟨by simp only [h 7 rfl], fun _ _ e => by cases e; simp only [h 7 rfl]⟩, fun _ _ h => ⟨rfl, fun _ _ e => by cases e⟩, fun _ _ h => ⟨rfl, fun _ _ e => by cases e⟩, fun _ _ h => ⟨by simp only [h 10 rfl], fun _ _ e => by cases e; simp only [h 10 rfl]⟩, fun _ _ h => ⟨by simp only [h 11 rfl], fun _ _ e => by cases e; simp only [h 11 rfl]⟩, fun _ _ h => ⟨rfl, fun _ _ e => by cases e⟩, trivial⟩) rfl (by exact ⟨Ob.quiet (n1 := fun n => n) rfl rfl (by intro d h; cases h; rfl) rfl (fun _ => [(5, .ptr 5 (n0 + 2) 0 0)]) (fun _ => [(5, some (.box (n0 + 2) 41 [.own 12 (i3 0), .own 9081 (i3 1), .own 9082 (i3 2)]))]) (fun D G2 hr => ⟨inE_base rfl rfl, trivial⟩) (fun D G2 hr => ⟨inH_base rfl rfl, trivial⟩) (fun _ _ => rfl) (fun G2 e h' n => OpQ.spec (v := .ptr 5 (n0 + 2) 0 0) (sp_fieldAddr_own (ob := .box _ _ _) rfl tf_41_0 (.inl rfl) (fun _ => rfl) rfl) _),
       Ob.quiet (n1 := fun n => n) rfl rfl (by intro d h; cases h; rfl) rfl (fun _ => [(201, .ptr 5 (n0 + 2) 0 0)]) (fun _ => [(5, some (.box (n0 + 2) 41 [.own 12 (i3 0), .own 9081 (i3 1), .own 9082 (i3 2)]))]) (fun D G2 hr => ⟨inE_op hr 0 rfl rfl (by kernel_rfl) rfl rfl, trivial⟩) (fun D G2 hr => ⟨inH_base rfl rfl, trivial⟩) (fun _ _ => rfl) (fun G2 e h' n => OpQ.spec (v := .own 12 (i3 0)) (ms_load_box (a := .own 12 (i3 0)) rfl ts_37 (.inl rfl) rfl rfl) _),
       Ob.make (n1 := fun n => n + 1) rfl rfl (by intro d h; cases h; rfl) rfl (fun _ => []) (fun _ => []) (fun D G2 hr => trivial) (fun D G2 hr => trivial) (fun G2 e h' n => ms_lit 203 rfl tg_37 (f := (rSl GElem.row)) (l := ([[]] : List (List GElem))) ⟨rfl, ⟨_, (.inl rfl), rfl⟩, trivial⟩ rfl (fun _ => rfl) rfl),
       Ob.make (n1 := fun n => n + 1) rfl rfl (by intro d h; cases h; rfl) rfl (fun G2 => [(202, .own 12 (i3 0)), (203, .own 203 (G2 2))]) (fun G2 => [(12, some (.arr (i3 0) 22 1 (out2.Adds.map (rSl GElem.row)))), (203, some (.arr (G2 2) 22 1 ([[]].map (rSl GElem.row))))]) (fun D G2 hr => ⟨inE_op hr 1 rfl rfl (by kernel_rfl) rfl rfl, inE_op hr 2 rfl rfl (by kernel_rfl) rfl rfl, trivial⟩) (fun D G2 hr => ⟨inH_baseL hr (by kernel_rfl) rfl, inH_op hr 2 rfl rfl (by kernel_rfl) (by kernel_rfl) rfl, trivial⟩) (fun G2 e h' n => ms_app rfl tg_37 (.inl rfl) rfl (.inr (.inl ⟨_, _, (.inl rfl), rfl⟩)) el5),
       Ob.quiet (n1 := fun n => n) rfl rfl (by intro d h; cases h; rfl) rfl (fun _ => [(5, .ptr 5 (n0 + 2) 0 0)]) (fun _ => [(5, some (.box (n0 + 2) 41 [.own 12 (i3 0), .own 9081 (i3 1), .own 9082 (i3 2)]))]) (fun D G2 hr => ⟨inE_base rfl rfl, trivial⟩) (fun D G2 hr => ⟨inH_base rfl rfl, trivial⟩) (fun _ _ => rfl) (fun G2 e h' n => OpQ.spec (v := .ptr 5 (n0 + 2) 0 1) (sp_fieldAddr_own (ob := .box _ _ _) rfl tf_41_1 (.inl rfl) (fun _ => rfl) rfl) _),
       Ob.quiet (n1 := fun n => n) rfl rfl (by intro d h; cases h; rfl) rfl (fun _ => [(205, .ptr 5 (n0 + 2) 0 1)]) (fun _ => [(5, some (.box (n0 + 2) 41 [.own 12 (i3 0), .own 9081 (i3 1), .own 9082 (i3 2)]))]) (fun D G2 hr => ⟨inE_op hr 4 rfl rfl (by kernel_rfl) rfl rfl, trivial⟩) (fun D G2 hr => ⟨inH_base rfl rfl, trivial⟩) (fun _ _ => rfl) (fun G2 e h' n => OpQ.spec (v := .own 9081 (i3 1)) (ms_load_box (a := .own 9081 (i3 1)) rfl ts_38 (.inl rfl) rfl rfl) _),
       Ob.make (n1 := fun n => n + 1) rfl rfl (by intro d h; cases h; rfl) rfl (fun _ => []) (fun _ => []) (fun D G2 hr => trivial) (fun D G2 hr => trivial) (fun G2 e h' n => ms_lit 207 rfl tg_38 (f := rBool) (l := ([true] : List Bool)) ⟨rfl, ⟨_, (.inl rfl), rfl⟩, trivial⟩ rfl (fun _ => rfl) rfl),
       Ob.make (n1 := fun n => n + 1) rfl rfl (by intro d h; cases h; rfl) rfl (fun G2 => [(206, .own 9081 (i3 1)), (207, .own 207 (G2 6))]) (fun G2 => [(207, some (.arr (G2 6) 4 1 ([true].map rBool))), (9081, some (.arr (i3 1) 4 1 (out2.Cuts.map rBool)))]) (fun D G2 hr => ⟨inE_op hr 5 rfl rfl (by kernel_rfl) rfl rfl, inE_op hr 6 rfl rfl (by kernel_rfl) rfl rfl, trivial⟩) (fun D G2 hr => ⟨inH_op hr 6 rfl rfl (by kernel_rfl) (by kernel_rfl) rfl, inH_baseL hr (by kernel_rfl) rfl, trivial⟩) (fun G2 e h' n => ms_app rfl tg_38 (.inl rfl) rfl (.inr (.inl ⟨_, _, (.inl rfl), rfl⟩)) el6),
       Ob.quiet (n1 := fun n => n) rfl rfl (by intro d h; cases h; rfl) rfl (fun _ => [(5, .ptr 5 (n0 + 2) 0 0)]) (fun _ => [(5, some (.box (n0 + 2) 41 [.own 12 (i3 0), .own 9081 (i3 1), .own 9082 (i3 2)]))]) (fun D G2 hr => ⟨inE_base rfl rfl, trivial⟩) (fun D G2 hr => ⟨inH_base rfl rfl, trivial⟩) (fun _ _ => rfl) (fun G2 e h' n => OpQ.spec (v := .ptr 5 (n0 + 2) 0 2) (sp_fieldAddr_own (ob := .box _ _ _) rfl tf_41_2 (.inl rfl) (fun _ => rfl) rfl) _),
       Ob.quiet (n1 := fun n => n) rfl rfl (by intro d h; cases h; rfl) rfl (fun _ => [(209, .ptr 5 (n0 + 2) 0 2)]) (fun _ => [(5, some (.box (n0 + 2) 41 [.own 12 (i3 0), .own 9081 (i3 1), .own 9082 (i3 2)]))]) (fun D G2 hr => ⟨inE_op hr 8 rfl rfl (by kernel_rfl) rfl rfl, trivial⟩) (fun D G2 hr => ⟨inH_base rfl rfl, trivial⟩) (fun _ _ => rfl) (fun G2 e h' n => OpQ.spec (v := .own 9082 (i3 2)) (ms_load_box (a := .own 9082 (i3 2)) rfl ts_39 (.inl rfl) rfl rfl) _),
       Ob.make (n1 := fun n => n + 1) rfl rfl (by intro d h; cases h; rfl) rfl (fun _ => []) (fun _ => []) (fun D G2 hr => trivial) (fun D G2 hr => trivial) (fun G2 e h' n => ms_lit 211 rfl tg_39 (f := (rSl GAttr.row)) (l := ([[]] : List (List GAttr))) ⟨rfl, ⟨_, (.inl rfl), rfl⟩, trivial⟩ rfl (fun _ => rfl) rfl),
       Ob.make (n1 := fun n => n + 1) rfl rfl (by intro d h; cases h; rfl) rfl (fun G2 => [(210, .own 9082 (i3 2)), (211, .own 211 (G2 10))]) (fun G2 => [(211, some (.arr (G2 10) 29 1 ([[]].map (rSl GAttr.row)))), (9082, some (.arr (i3 2) 29 1 (out2.Attrs.map (rSl GAttr.row))))]) (fun D G2 hr => ⟨inE_op hr 9 rfl rfl (by kernel_rfl) rfl rfl, inE_op hr 10 rfl rfl (by kernel_rfl) rfl rfl, trivial⟩) (fun D G2 hr => ⟨inH_op hr 10 rfl rfl (by kernel_rfl) (by kernel_rfl) rfl, inH_baseL hr (by kernel_rfl) rfl, trivial⟩) (fun G2 e h' n => ms_app rfl tg_39 (.inl rfl) rfl (.inr (.inl ⟨_, _, (.inl rfl), rfl⟩)) el7),
       Ob.quiet (n1 := fun n => n) rfl rfl (by intro d h; cases h; rfl) rfl (fun _ => [(5, .ptr 5 (n0 + 2) 0 0)]) (fun _ => [(5, some (.box (n0 + 2) 41 [.own 12 (i3 0), .own 9081 (i3 1), .own 9082 (i3 2)]))]) (fun D G2 hr => ⟨inE_base rfl rfl, trivial⟩) (fun D G2 hr => ⟨inH_base rfl rfl, trivial⟩) (fun _ _ => rfl) (fun G2 e h' n => OpQ.spec (v := .ptr 5 (n0 + 2) 0 0) (sp_fieldAddr_own (ob := .box _ _ _) rfl tf_41_0 (.inl rfl) (fun _ => rfl) rfl) _),
       trivial⟩) fun G2 n2 => ?_
     refine AOps.weak (s' := ⟨[(0, .r (.sl (a3.map GElem.row))), (1, .r (.sl (b3.map GElem.row))), (4, .ptr 4 n0 0 0), (5, .ptr 5 (n0 + 2) 0 0), (6, .r (.bool tied1)), (201, .ptr 5 (n0 + 2) 0 0), (203, .own 203 (G2 2)), (204, .own 12 (G2 3)), (205, .ptr 5 (n0 + 2) 0 1), (207, .own 207 (G2 6)), (208, .own 9081 (G2 7)), (209, .ptr 5 (n0 + 2) 0 2), (211, .own 211 (G2 10)), (212, .own 9082 (G2 11)), (213, .ptr 5 (n0 + 2) 0 0)], [(4, some (.box n0 41 [.cst (.slice none 0 0), .cst (.slice none 0 0), .cst (.slice none 0 0)])), (5, some (.box (n0 + 2) 41 [.own 12 (i3 0), .own 9081 (i3 1), .own 9082 (i3 2)])), (12, some (.arr (G2 3) 22 1 (l5.map (rSl GElem.row)))), (203, some (.arr (G2 2) 22 1 ([[]].map (rSl GElem.row)))), (207, some (.arr (G2 6) 4 1 ([true].map rBool))), (211, some (.arr (G2 10) 29 1 ([[]].map (rSl GAttr.row)))), (9081, some (.arr (G2 7) 4 1 (l6.map rBool))), (9082, some (.arr (G2 11) 29 1 (l7.map (rSl GAttr.row))))], n2, 219⟩) (by exact Weak.cv ⟨jL, jL, jL, jL, jL, jL, jL, jL, jL, jL, jL, jL, jL, jL, jL, trivial⟩ ⟨.inl rfl, .inl rfl, .inl rfl, .inl rfl, .inl rfl, .inl rfl, .inl rfl, .inl rfl, trivial⟩ nL) ?_
     refine AOps.step0 rfl rfl (ms_store_box (ds := [.own 12 (G2 3), .own 9081 (i3 1), .own 9082 (i3 2)]) rfl tz_37 iL rfl iL rfl rfl rfl rfl) ?_
     refine sQ rfl (sp_fieldAddr_own (ob := .box _ _ _) rfl tf_41_1 iL fR rfl) ?_
     refine AOps.step0 rfl rfl (ms_store_box (ds := [.own 12 (G2 3), .own 9081 (G2 7), .own 9082 (i3 2)]) rfl tz_38 iL rfl iL rfl rfl rfl rfl) ?_
     refine sQ rfl (sp_fieldAddr_own (ob := .box _ _ _) rfl tf_41_2 iL fR rfl) ?_
     refine AOps.step0 rfl rfl (ms_store_box (ds := [.own 12 (G2 3), .own 9081 (G2 7), .own 9082 (G2 11)]) rfl tz_39 iL rfl iL rfl rfl rfl rfl) ?_
     refine AOps.nil (hK20 _ ?_)
     refine AW.weak (s' := ⟨[(0, .r (.sl (a3.map GElem.row))), (1, .r (.sl (b3.map GElem.row))), (4, .ptr 4 n0 0 0), (5, .ptr 5 (n0 + 2) 0 0), (6, .r (.bool tied1))], [(4, some (.box n0 41 [.cst (.slice none 0 0), .cst (.slice none 0 0), .cst (.slice none 0 0)])), (5, some (.box (n0 + 2) 41 [.own 12 (G2 3), .own 9081 (G2 7), .own 9082 (G2 11)])), (12, some (.arr (G2 3) 22 1 (l5.map (rSl GElem.row)))), (9081, some (.arr (G2 7) 4 1 (l6.map rBool))), (9082, some (.arr (G2 11) 29 1 (l7.map (rSl GAttr.row))))], n2, 219⟩) (by exact Weak.cv ⟨jL, jL, jL, jL, jL, trivial⟩ ⟨.inl rfl, .inl rfl, .inl rfl, .inl rfl, .inl rfl, trivial⟩ nL) ?_
     refine AW.region ?_
     refine sM rfl rfl ?_
     refine ob1k h28 fun a6 ea6 h29 => ?_
     refine sQ rfl (ms_slice rfl tg_22.slice iL (by exact ⟨_, iL⟩) (by exact rfl) (fun _ => rfl) (fun _ => ea6)) ?_
     refine sQ rfl (sp_assign rfl iL) ?_
     refine AOps.nil ?_
     exact NextQ3.mk h29 (vec [(G2 3), (G2 7), (G2 11), n2]) ((by exact Weak.cv ⟨jL, jL, jL, jL, jL, trivial⟩ ⟨.inl rfl, .inl rfl, .inl rfl, .inl rfl, .inl rfl, trivial⟩ nL))
    ·have h25 := ite_f hc4 h24
     refine AW.seq_w fun K21 hK21 wK21 => ?_
     refine AW.block ?_
     refine jb1k h25 fun o2 hit2 hk3 => ?_
     have J3 : ∀ (k5 : Int) (i11 : Nat → Nat), o2 = k5 → K21 ⟨[(0, .r (.sl (a3.map GElem.row))), (1, .r (.sl (b3.map GElem.row))), (4, .ptr 4 n0 0 0), (5, .ptr 5 (n0 + 2) 0 0), (6, .r (.bool tied1)), (11, .r (.int .i64 k5))], [(4, some (.box n0 41 [.cst (.slice none 0 0), .cst (.slice none 0 0), .cst (.slice none 0 0)])), (5, some (.box (n0 + 2) 41 [.own 12 (i3 0), .own 9081 (i3 1), .own 9082 (i3 2)])), (12, some (.arr (i3 0) 22 1 (out2.Adds.map (rSl GElem.row)))), (9081, some (.arr (i3 1) 4 1 (out2.Cuts.map rBool))), (9082, some (.arr (i3 2) 29 1 (out2.Attrs.map (rSl GAttr.row))))], (i11 0), 219⟩ := by
      intro k5 i11 e
      have h30 := hk3 _ e
      refine hK21 _ ?_
      refine AW.seq_w fun K22 hK22 wK22 => ?_
      refine ob1k h30 fun x8 ex8 h31 => ?_
      refine ob1k h31 fun l8 el8 h32 => ?_
      refine ob1k h32 fun x9 ex9 h33 => ?_
      refine ob1k h33 fun l9 el9 h34 => ?_
      refine AW.regionP 15 [⟨some 128, (fun _ => .ptr 5 (n0 + 2) 0 0), none, []⟩, ⟨some 129, (fun _ => .own 12 (i3 0)), none, []⟩, ⟨some 130, (fun _ => .r (.int .i64 k5)), none, []⟩, ⟨some 131, (fun G3 => .own 131 (G3 3)), some (131, (fun G3 => some (.arr (G3 3) 82 3 (([] : List GElem).map GElem.row)))), [3]⟩, ⟨some 132, (fun _ => .ptr 5 (n0 + 2) 0 0), none, []⟩, ⟨some 133, (fun _ => .own 12 (i3 0)), none, []⟩, ⟨some 134, (fun _ => .r (.int .i64 k5)), none, []⟩, ⟨some 135, (fun _ => .ptr 12 (i3 0) k5.toNat 0), none, []⟩, ⟨some 136, (fun _ => .r (.sl (x8.map GElem.row))), none, []⟩, ⟨some 137, (fun G3 => .own 131 (G3 9)), some (131, (fun G3 => some (.arr (G3 9) 82 3 (l8.map GElem.row)))), [9]⟩, ⟨some 138, (fun _ => .r (.sl (b3.map GElem.row))), none, []⟩, ⟨some 139, (fun _ => .rop (GElem.row x9) 0), none, []⟩, ⟨some 140, (fun _ => .agg [.r (.int .i64 x9.Char), .r (.int .i64 x9.Ref), .r (.sl (x9.Attrs.map GAttr.row))]), none, []⟩, ⟨some 141, (fun G3 => .own 141 (G3 13)), some (141, (fun G3 => some (.arr (G3 13) 82 3 ([x9].map GElem.row)))), [13]⟩, ⟨some 142, (fun G3 => .own 131 (G3 14)), some (131, (fun G3 => some (.arr (G3 14) 82 3 (l9.map GElem.row)))), [14]⟩] hmix (by kernel_rfl) (by exact ⟨fun _ _ h => ⟨rfl, fun _ _ e => by cases e⟩, fun _ _ h => ⟨rfl, fun _ _ e => by cases e⟩, fun _ _ h => ⟨rfl, fun _ _ e => by cases e⟩, fun _ _ h => ⟨by simp only [h 3 rfl], fun _ _ e => by cases e; simp only [h 3 rfl]⟩, fun _ _ h => ⟨rfl, fun _ _ e => by cases e⟩, fun _ _ h => ⟨rfl, fun _ _ e => by cases e⟩, fun _ _ h => ⟨rfl, fun _ _ e => by cases e⟩, fun _ _ h => ⟨rfl, fun _ _ e => by cases e⟩, fun _ _ h => ⟨rfl, fun _ _ e => by cases e⟩, fun _ _ h => ⟨by simp only [h 9 rfl], fun _ _ e => by cases e; simp only [h 9 rfl]⟩, fun _ _ h => ⟨rfl, fun _ _ e => by cases e⟩, fun _ _ h => ⟨rfl, fun _ _ e => by cases e⟩, fun _ _ h => ⟨rfl, fun _ _ e => by cases e⟩, fun _ _ h => ⟨by simp only [h 13 rfl], fun _ _ e => by cases e; simp only [h 13 rfl]⟩, fun _ _ h => ⟨by simp only [h 14 rfl], fun _ _ e => by cases e; simp only [h 14 rfl]⟩, trivial⟩) rfl (by exact ⟨Ob.quiet (n1 := fun n => n) rfl rfl (by intro d h; cases h; rfl) rfl (fun _ => [(5, .ptr 5 (n0 + 2) 0 0)]) (fun _ => [(5, some (.box (n0 + 2) 41 [.own 12 (i3 0), .own 9081 (i3 1), .own 9082 (i3 2)]))]) (fun D G3 hr => ⟨inE_base rfl rfl, trivial⟩) (fun D G3 hr => ⟨inH_base rfl rfl, trivial⟩) (fun _ _ => rfl) (fun G3 e h' n => OpQ.spec (v := .ptr 5 (n0 + 2) 0 0) (sp_fieldAddr_own (ob := .box _ _ _) rfl tf_41_0 (.inl rfl) (fun _ => rfl) rfl) _),
        Ob.quiet (n1 := fun n => n) rfl rfl (by intro d h; cases h; rfl) rfl (fun _ => [(128, .ptr 5 (n0 + 2) 0 0)]) (fun _ => [(5, some (.box (n0 + 2) 41 [.own 12 (i3 0), .own 9081 (i3 1), .own 9082 (i3 2)]))]) (fun D G3 hr => ⟨inE_op hr 0 rfl rfl (by kernel_rfl) rfl rfl, trivial⟩) (fun D G3 hr => ⟨inH_base rfl rfl, trivial⟩) (fun _ _ => rfl) (fun G3 e h' n => OpQ.spec (v := .own 12 (i3 0)) (ms_load_box (a := .own 12 (i3 0)) rfl ts_37 (.inl rfl) rfl rfl) _),
        Ob.quiet (n1 := fun n => n) rfl rfl (by intro d h; cases h; rfl) rfl (fun _ => [(11, .r (.int .i64 k5))]) (fun _ => []) (fun D G3 hr => ⟨inE_base rfl rfl, trivial⟩) (fun D G3 hr => trivial) (fun _ _ => rfl) (fun G3 e h' n => OpQ.spec (v := .r (.int .i64 k5)) (sp_move rfl (.inl rfl)) _),
        Ob.make (n1 := fun n => n + 1) rfl rfl (by intro d h; cases h; rfl) rfl (fun _ => []) (fun _ => []) (fun D G3 hr => trivial) (fun D G3 hr => trivial) (fun G3 e h' n => ms_lit 131 rfl tg_22 (f := GElem.row) (l := ([] : List GElem)) trivial rfl (fun _ => rfl) rfl),
        Ob.quiet (n1 := fun n => n) rfl rfl (by intro d h; cases h; rfl) rfl (fun _ => [(5, .ptr 5 (n0 + 2) 0 0)]) (fun _ => [(5, some (.box (n0 + 2) 41 [.own 12 (i3 0), .own 9081 (i3 1), .own 9082 (i3 2)]))]) (fun D G3 hr => ⟨inE_base rfl rfl, trivial⟩) (fun D G3 hr => ⟨inH_base rfl rfl, trivial⟩) (fun _ _ => rfl) (fun G3 e h' n => OpQ.spec (v := .ptr 5 (n0 + 2) 0 0) (sp_fieldAddr_own (ob := .box _ _ _) rfl tf_41_0 (.inl rfl) (fun _ => rfl) rfl) _),
        Ob.quiet (n1 := fun n => n) rfl rfl (by intro d h; cases h; rfl) rfl (fun _ => [(132, .ptr 5 (n0 + 2) 0 0)]) (fun _ => [(5, some (.box (n0 + 2) 41 [.own 12 (i3 0), .own 9081 (i3 1), .own 9082 (i3 2)]))]) (fun D G3 hr => ⟨inE_op hr 4 rfl rfl (by kernel_rfl) rfl rfl, trivial⟩) (fun D G3 hr => ⟨inH_base rfl rfl, trivial⟩) (fun _ _ => rfl) (fun G3 e h' n => OpQ.spec (v := .own 12 (i3 0)) (ms_load_box (a := .own 12 (i3 0)) rfl ts_37 (.inl rfl) rfl rfl) _),
        Ob.quiet (n1 := fun n => n) rfl rfl (by intro d h; cases h; rfl) rfl (fun _ => [(11, .r (.int .i64 k5))]) (fun _ => []) (fun D G3 hr => ⟨inE_base rfl rfl, trivial⟩) (fun D G3 hr => trivial) (fun _ _ => rfl) (fun G3 e h' n => OpQ.spec (v := .r (.int .i64 k5)) (sp_move rfl (.inl rfl)) _),
        Ob.quiet (n1 := fun n => n) rfl rfl (by intro d h; cases h; rfl) rfl (fun _ => [(133, .own 12 (i3 0)), (134, .r (.int .i64 k5))]) (fun _ => [(12, some (.arr (i3 0) 22 1 (out2.Adds.map (rSl GElem.row))))]) (fun D G3 hr => ⟨inE_op hr 5 rfl rfl (by kernel_rfl) rfl rfl, inE_op hr 6 rfl rfl (by kernel_rfl) rfl rfl, trivial⟩) (fun D G3 hr => ⟨inH_base rfl rfl, trivial⟩) (fun _ _ => rfl) (fun G3 e h' n => OpQ.spec (v := .ptr 12 (i3 0) k5.toNat 0) (ms_idx_own rfl tg_37.slice (.inl rfl) rfl (.inl rfl) (fun _ => ex8)) _),
        Ob.quiet (n1 := fun n => n) rfl rfl (by intro d h; cases h; rfl) rfl (fun _ => [(135, .ptr 12 (i3 0) k5.toNat 0)]) (fun _ => [(12, some (.arr (i3 0) 22 1 (out2.Adds.map (rSl GElem.row))))]) (fun D G3 hr => ⟨inE_op hr 7 rfl rfl (by kernel_rfl) rfl rfl, trivial⟩) (fun D G3 hr => ⟨inH_base rfl rfl, trivial⟩) (fun _ _ => rfl) (fun G3 e h' n => OpQ.spec (v := .r (.sl (x8.map GElem.row))) (ms_load_own (d := .sl (x8.map GElem.row)) rfl ts_22 (.inl rfl) (fun _ => rfl) (fun _ => ex8) rfl) _),
        Ob.make (n1 := fun n => n + 1) rfl rfl (by intro d h; cases h; rfl) rfl (fun G3 => [(131, .own 131 (G3 3)), (136, .r (.sl (x8.map GElem.row)))]) (fun G3 => [(131, some (.arr (G3 3) 82 3 (([] : List GElem).map GElem.row)))]) (fun D G3 hr => ⟨inE_op hr 3 rfl rfl (by kernel_rfl) rfl rfl, inE_op hr 8 rfl rfl (by kernel_rfl) rfl rfl, trivial⟩) (fun D G3 hr => ⟨inH_op hr 3 rfl rfl (by kernel_rfl) (by kernel_rfl) rfl, trivial⟩) (fun G3 e h' n => ms_app rfl tg_22 (.inl rfl) rfl (.inl ⟨(.inl rfl), fun _ => rfl⟩) el8),
        Ob.quiet (n1 := fun n => n) rfl rfl (by intro d h; cases h; rfl) rfl (fun _ => [(1, .r (.sl (b3.map GElem.row)))]) (fun _ => []) (fun D G3 hr => ⟨inE_base rfl rfl, trivial⟩) (fun D G3 hr => trivial) (fun _ _ => rfl) (fun G3 e h' n => OpQ.spec (v := .r (.sl (b3.map GElem.row))) (sp_move rfl (.inl rfl)) _),
        Ob.quiet (n1 := fun n => n) rfl rfl (by intro d h; cases h; rfl) rfl (fun _ => [(138, .r (.sl (b3.map GElem.row)))]) (fun _ => []) (fun D G3 hr => ⟨inE_op hr 10 rfl rfl (by kernel_rfl) rfl rfl, trivial⟩) (fun D G3 hr => trivial) (fun _ _ => rfl) (fun G3 e h' n => OpQ.spec (v := .rop (GElem.row x9) 0) (ms_idx rfl tg_22.slice (.inl rfl) (.inl rfl) (fun _ => rfl) (fun _ => ex9)) _),
        Ob.quiet (n1 := fun n => n) rfl rfl (by intro d h; cases h; rfl) rfl (fun _ => [(139, .rop (GElem.row x9) 0)]) (fun _ => []) (fun D G3 hr => ⟨inE_op hr 11 rfl rfl (by kernel_rfl) rfl rfl, trivial⟩) (fun D G3 hr => trivial) (fun _ _ => rfl) (fun G3 e h' n => OpQ.spec (v := .agg [.r (.int .i64 x9.Char), .r (.int .i64 x9.Ref), .r (.sl (x9.Attrs.map GAttr.row))]) (ms_loadA (cs := [.r (.int .i64 x9.Char), .r (.int .i64 x9.Ref), .r (.sl (x9.Attrs.map GAttr.row))]) rfl ta_82 (.inl rfl) rfl rfl) _),
        Ob.make (n1 := fun n => n + 1) rfl rfl (by intro d h; cases h; rfl) rfl (fun _ => [(140, .agg [.r (.int .i64 x9.Char), .r (.int .i64 x9.Ref), .r (.sl (x9.Attrs.map GAttr.row))])]) (fun _ => []) (fun D G3 hr => ⟨inE_op hr 12 rfl rfl (by kernel_rfl) rfl rfl, trivial⟩) (fun D G3 hr => trivial) (fun G3 e h' n => ms_lit 141 rfl tg_22 (f := GElem.row) (l := ([x9] : List GElem)) ⟨rfl, ⟨_, (.inl rfl), rfl⟩, trivial⟩ rfl (fun _ => rfl) rfl),
        Ob.make (n1 := fun n => n + 1) rfl rfl (by intro d h; cases h; rfl) rfl (fun G3 => [(137, .own 131 (G3 9)), (141, .own 141 (G3 13))]) (fun G3 => [(131, some (.arr (G3 9) 82 3 (l8.map GElem.row))), (141, some (.arr (G3 13) 82 3 ([x9].map GElem.row)))]) (fun D G3 hr => ⟨inE_op hr 9 rfl rfl (by kernel_rfl) rfl rfl, inE_op hr 13 rfl rfl (by kernel_rfl) rfl rfl, trivial⟩) (fun D G3 hr => ⟨inH_op hr 9 rfl rfl (by kernel_rfl) (by kernel_rfl) rfl, inH_op hr 13 rfl rfl (by kernel_rfl) (by kernel_rfl) rfl, trivial⟩) (fun G3 e h' n => ms_app rfl tg_22 (.inl rfl) rfl (.inr (.inl ⟨_, _, (.inl rfl), rfl⟩)) el9),
        trivial⟩) fun G3 n3 => ?_
      refine AOps.weak (s' := ⟨[(0, .r (.sl (a3.map GElem.row))), (1, .r (.sl (b3.map GElem.row))), (4, .ptr 4 n0 0 0), (5, .ptr 5 (n0 + 2) 0 0), (6, .r (.bool tied1)), (11, .r (.int .i64 k5)), (128, .ptr 5 (n0 + 2) 0 0), (129, .own 12 (i3 0)), (130, .r (.int .i64 k5)), (132, .ptr 5 (n0 + 2) 0 0), (133, .own 12 (i3 0)), (134, .r (.int .i64 k5)), (135, .ptr 12 (i3 0) k5.toNat 0), (136, .r (.sl (x8.map GElem.row))), (138, .r (.sl (b3.map GElem.row))), (139, .rop (GElem.row x9) 0), (140, .agg [.r (.int .i64 x9.Char), .r (.int .i64 x9.Ref), .r (.sl (x9.Attrs.map GAttr.row))]), (141, .own 141 (G3 13)), (142, .own 131 (G3 14))], [(4, some (.box n0 41 [.cst (.slice none 0 0), .cst (.slice none 0 0), .cst (.slice none 0 0)])), (5, some (.box (n0 + 2) 41 [.own 12 (i3 0), .own 9081 (i3 1), .own 9082 (i3 2)])), (12, some (.arr (i3 0) 22 1 (out2.Adds.map (rSl GElem.row)))), (131, some (.arr (G3 14) 82 3 (l9.map GElem.row))), (141, some (.arr (G3 13) 82 3 ([x9].map GElem.row))), (9081, some (.arr (i3 1) 4 1 (out2.Cuts.map rBool))), (9082, some (.arr (i3 2) 29 1 (out2.Attrs.map (rSl GAttr.row))))], n3, 219⟩) (by exact Weak.cv ⟨jL, jL, jL, jL, jL, jL, jL, jL, jL, jL, jL, jL, jL, jL, jL, jL, jL, jL, jL, trivial⟩ ⟨.inl rfl, .inl rfl, .inl rfl, .inl rfl, .inl rfl, .inl rfl, .inl rfl, trivial⟩ nL) ?_
      refine sQ rfl (ms_idx_own rfl tg_37.slice iL rfl iL (fun _ => ex8)) ?_
      refine AOps.weak (by exact Weak.frz (e' := [(0, .r (.sl (a3.map GElem.row))), (1, .r (.sl (b3.map GElem.row))), (4, .ptr 4 n0 0 0), (5, .ptr 5 (n0 + 2) 0 0), (6, .r (.bool tied1)), (11, .r (.int .i64 k5)), (128, .ptr 5 (n0 + 2) 0 0), (129, .own 12 (i3 0)), (130, .r (.int .i64 k5)), (132, .ptr 5 (n0 + 2) 0 0), (133, .own 12 (i3 0)), (134, .r (.int .i64 k5)), (135, .ptr 12 (i3 0) k5.toNat 0), (136, .r (.sl (x8.map GElem.row))), (138, .r (.sl (b3.map GElem.row))), (139, .rop (GElem.row x9) 0), (140, .agg [.r (.int .i64 x9.Char), .r (.int .i64 x9.Ref), .r (.sl (x9.Attrs.map GAttr.row))]), (141, .own 141 (G3 13)), (142, .r (.sl (l9.map GElem.row))), (143, .ptr 12 (i3 0) k5.toNat 0)]) (h' := [(4, some (.box n0 41 [.cst (.slice none 0 0), .cst (.slice none 0 0), .cst (.slice none 0 0)])), (5, some (.box (n0 + 2) 41 [.own 12 (i3 0), .own 9081 (i3 1), .own 9082 (i3 2)])), (12, some (.arr (i3 0) 22 1 (out2.Adds.map (rSl GElem.row)))), (141, some (.arr (G3 13) 82 3 ([x9].map GElem.row))), (9081, some (.arr (i3 1) 4 1 (out2.Cuts.map rBool))), (9082, some (.arr (i3 2) 29 1 (out2.Attrs.map (rSl GAttr.row))))]) 131 rfl ⟨jL, jL, jL, jL, jL, jL, jL, jL, jL, jL, jL, jL, jL, jL, jL, jL, jL, jL, .inl (.inr (.inr ⟨rfl, rfl⟩)), jL, trivial⟩ ⟨rfl, .inl rfl, rfl, .inl rfl, rfl, .inl rfl, rfl, .inl rfl, rfl, .inl rfl, rfl, .inl rfl, trivial⟩) ?_
      refine AOps.step0 rfl rfl (ms_store (v := l9) rfl tz_22 iL rfl ex8 iL rfl rfl rfl rfl) ?_
      refine AOps.nil (hK22 _ ?_)
      refine AW.weak (s' := ⟨[(0, .r (.sl (a3.map GElem.row))), (1, .r (.sl (b3.map GElem.row))), (4, .ptr 4 n0 0 0), (5, .ptr 5 (n0 + 2) 0 0), (6, .r (.bool tied1))], [(4, some (.box n0 41 [.cst (.slice none 0 0), .cst (.slice none 0 0), .cst (.slice none 0 0)])), (5, some (.box (n0 + 2) 41 [.own 12 (i3 0), .own 9081 (i3 1), .own 9082 (i3 2)])), (12, some (.arr (i3 0) 22 1 ((out2.Adds.set k5.toNat l9).map (rSl GElem.row)))), (9081, some (.arr (i3 1) 4 1 (out2.Cuts.map rBool))), (9082, some (.arr (i3 2) 29 1 (out2.Attrs.map (rSl GAttr.row))))], n3, 219⟩) (by exact Weak.cv ⟨jL, jL, jL, jL, jL, trivial⟩ ⟨.inl rfl, .inl rfl, .inl rfl, .inl rfl, .inl rfl, trivial⟩ nL) ?_
      refine AW.region ?_
      refine sM rfl rfl ?_
      refine ob1k h34 fun b6 eb6 h35 => ?_
      refine sQ rfl (ms_slice rfl tg_22.slice iL (by exact ⟨_, iL⟩) (by exact rfl) (fun _ => rfl) (fun _ => eb6)) ?_
      refine sQ rfl (sp_assign rfl iL) ?_
      refine AOps.nil ?_
      exact NextQ3.mk h35 (vec [(i3 0), (i3 1), (i3 2), n3]) ((by exact Weak.cv ⟨jL, jL, jL, jL, jL, trivial⟩ ⟨.inl rfl, .inl rfl, .inl rfl, .inl rfl, .inl rfl, trivial⟩ nL))
     refine AW.iter1 (fun (k3 : Int) i9 => ⟨[(0, .r (.sl (a3.map GElem.row))), (1, .r (.sl (b3.map GElem.row))), (4, .ptr 4 n0 0 0), (5, .ptr 5 (n0 + 2) 0 0), (6, .r (.bool tied1)), (11, .r (.int .i64 k3))], [(4, some (.box n0 41 [.cst (.slice none 0 0), .cst (.slice none 0 0), .cst (.slice none 0 0)])), (5, some (.box (n0 + 2) 41 [.own 12 (i3 0), .own 9081 (i3 1), .own 9082 (i3 2)])), (12, some (.arr (i3 0) 22 1 (out2.Adds.map (rSl GElem.row)))), (9081, some (.arr (i3 1) 4 1 (out2.Cuts.map rBool))), (9082, some (.arr (i3 2) 29 1 (out2.Attrs.map (rSl GAttr.row))))], (i9 0), 219⟩) (vec [(i6 0)]) hit2 ((by exact Weak.cv ⟨jL, jL, jL, jL, jL, jL, trivial⟩ ⟨.inl rfl, .inl rfl, .inl rfl, .inl rfl, .inl rfl, trivial⟩ nL)) ?_
     intro k3 i9 v2 hv2 hx2
     have h36 : ref_DiffAct_L2 out2 k3 = some v2 := hv2; unfold ref_DiffAct_L2 at h36
     refine AW.seq_w fun K23 hK23 wK23 => ?_
     refine AW.seq_w fun K24 hK24 wK24 => ?_
     refine AW.region ?_
     refine sM rfl rfl ?_
     refine sQ rfl (sp_gtr rfl iL iL) ?_
     refine sM rfl rfl ?_
     refine sV rfl rfl rfl (sp_fieldAddr_own (ob := .box _ _ _) rfl tf_41_1 iL fR rfl) ?_
     refine sV rfl rfl rfl (ms_load_box (a := .own 9081 (i3 1)) rfl ts_38 (iR rfl) rfl rfl) ?_
     refine sV rfl rfl rfl (sp_move rfl iL) ?_
     refine ob1k h36 fun x10 ex10 h37 => ?_
     refine sV rfl rfl rfl (ms_sub rfl (iR rfl) iL (gdt ex10)) ?_
     refine ob1k h37 fun x11 ex11 h38 => ?_
     refine sV rfl rfl rfl (ms_idx_own rfl tg_38.slice (iR rfl) rfl (iR rfl) (gdt ex11)) ?_
     refine sV rfl rfl rfl (ms_load_own (d := .bool x11) rfl ts_4 (iR rfl) fR (gdt ex11) rfl) ?_
     refine sQ rfl (sp_and rfl iL (iR rfl)) ?_
     refine AOps.nil (hK24 _ ?_)
     refine AW.cond rfl (fun hc5 => ?_) (fun hc5 => ?_)
     ·have h39 := ite_t hc5 h38
      refine AW.skip ?_
      refine hK23 _ ?_
      refine AW.block ?_
      refine AW.region ?_
      refine sM rfl rfl ?_
      refine ob1k h39 fun k6 ek6 h40 => ?_
      refine sQ rfl (ms_sub rfl iL iL (fun _ => ek6)) ?_
      refine sQ rfl (sp_assign rfl iL) ?_
      refine AOps.nil ?_
      exact NextQ1.mk h40 (vec [(i9 0)]) ((by exact Weak.cv ⟨jL, jL, jL, jL, jL, jL, trivial⟩ ⟨.inl rfl, .inl rfl, .inl rfl, .inl rfl, .inl rfl, trivial⟩ nL))
     ·have h39 := ite_f hc5 h38
      refine AW.exit ?_
      exact wK21 _ _ ((by exact Weak.cv ⟨jL, jL, jL, jL, jL, jL, trivial⟩ ⟨.inl rfl, .inl rfl, .inl rfl, .inl rfl, .inl rfl, trivial⟩ nL)) (J3 _ (vec [(i9 0)]) (hx2 _ (Option.some.inj h39).symm))
  refine AW.cond rfl (fun hc6 => ?_) (fun hc6 => ?_)
  ·have h41 := ite_t hc6 hp1
   refine AW.seq_w fun K25 hK25 wK25 => ?_
   refine AW.region ?_
   refine sQ rfl (sp_assign rfl iL) ?_
   refine AOps.nil (hK25 _ ?_)
   refine AW.seq_w fun K26 hK26 wK26 => ?_
   refine AW.seq_w fun K27 hK27 wK27 => ?_
   refine AW.regionQ hmix (by kernel_rfl) ?_
   refine AQ.step rfl rfl rfl (sp_move rfl iL) ?_
   refine ob1k h41 fun x12 ex12 h42 => ?_
   refine AQ.step rfl rfl rfl (ms_idx rfl tg_22.slice iL iL (fun _ => rfl) (fun _ => ex12)) ?_
   refine AQ.step rfl rfl rfl (sp_fieldAddr_ro rfl tf_82_2 iL) ?_
   refine AQ.step rfl rfl rfl (ms_load (d := .sl (x12.Attrs.map GAttr.row)) rfl ts_29 iL rfl) ?_
   refine AQ.step rfl rfl rfl (sp_move rfl iL) ?_
   refine ob1k h42 fun x13 ex13 h43 => ?_
   refine AQ.step rfl rfl rfl (ms_idx rfl tg_22.slice iL iL (fun _ => rfl) (fun _ => ex13)) ?_
   refine AQ.step rfl rfl rfl (sp_fieldAddr_ro rfl tf_82_2 iL) ?_
   refine AQ.step rfl rfl rfl (ms_load (d := .sl (x13.Attrs.map GAttr.row)) rfl ts_29 iL rfl) ?_
   refine ob1k h43 fun r3 er3 h44 => ?_
   refine AQ.stepC rfl rfl rfl (r := .r (.bool r3)) (caps := []) (bs := [.r (.sl (x12.Attrs.map GAttr.row)), .r (.sl (x13.Attrs.map GAttr.row))]) rfl iL rfl ⟨⟨_, iL, .d rfl⟩, ⟨_, iL, .d rfl⟩, trivial⟩ (fun _ => w_ref_SameAttrs (er3)) rfl ?_
   refine AQ.step rfl rfl rfl (sp_not rfl iL) ?_
   refine AQ.nil ?_
   refine hK27 _ ?_
   refine jb1k h44 fun p3 hp2 hk4 => ?_
   have J4 : ∀ (p2 : Int) (i12 : Nat → Nat), p3 = p2 → K26 ⟨[(0, .r (.sl (a3.map GElem.row))), (1, .r (.sl (b3.map GElem.row))), (4, .ptr 4 n0 0 0), (5, .ptr 5 (n0 + 2) 0 0), (6, .r (.bool tied1)), (7, .r (.bool ((tied1 && (decide ((a3.length : Int) = 1))) && (decide ((b3.length : Int) = 1))))), (8, .r (.int .i64 rest1)), (10, .r (.int .i64 p2))], [(4, some (.box n0 41 [.cst (.slice none 0 0), .cst (.slice none 0 0), .cst (.slice none 0 0)])), (5, some (.box (n0 + 2) 41 [.own 12 (i3 0), .own 9081 (i3 1), .own 9082 (i3 2)])), (12, some (.arr (i3 0) 22 1 (out2.Adds.map (rSl GElem.row)))), (9081, some (.arr (i3 1) 4 1 (out2.Cuts.map rBool))), (9082, some (.arr (i3 2) 29 1 (out2.Attrs.map (rSl GAttr.row))))], (i12 0), 219⟩ := by
    intro p2 i12 e
    have h45 := hk4 _ e
    refine hK26 _ ?_
    refine AW.regionQ hmix (by kernel_rfl) ?_
    refine AQ.step rfl rfl rfl (sp_move rfl iL) ?_
    refine AQ.step rfl rfl rfl (sp_move rfl iL) ?_
    refine AQ.step rfl rfl rfl (sp_move rfl iL) ?_
    refine ob1k h45 fun l10 el10 h46 => ?_
    refine AQ.step rfl rfl rfl (ms_slice rfl tg_22.slice iL (by exact ⟨_, iL⟩) (by exact rfl) (fun _ => rfl) (fun _ => el10)) ?_
    refine AQ.step rfl rfl rfl (sp_move rfl iL) ?_
    refine ob1k h46 fun l11 el11 h47 => ?_
    refine AQ.step rfl rfl rfl (ms_slice rfl tg_22.slice iL (by exact ⟨_, iL⟩) (by exact rfl) (fun _ => rfl) (fun _ => el11)) ?_
    refine AQ.step rfl rfl rfl (sp_move rfl iL) ?_
    refine ob1k h47 fun r4 er4 h48 => ?_
    refine AQ.stepC rfl rfl rfl (r := .r (.int .i64 r4)) (caps := []) (bs := [.r (.sl (l10.map GElem.row)), .r (.sl (l11.map GElem.row)), .r (.bool tied1)]) rfl iL rfl ⟨⟨_, iL, .d rfl⟩, ⟨_, iL, .d rfl⟩, ⟨_, iL, .d rfl⟩, trivial⟩ (fun _ => w_ref_DiffCost (er4)) rfl ?_
    refine ob1k h48 fun x14 ex14 h49 => ?_
    refine AQ.step rfl rfl rfl (ms_add rfl iL iL (fun _ => ex14)) ?_
    refine AQ.step rfl rfl rfl (sp_eql rfl iL iL) ?_
    refine AQ.step rfl rfl rfl (sp_assign rfl iL) ?_
    refine AQ.nil ?_
    exact wK11 _ _ ((by exact Weak.cv ⟨jL, jL, jL, jL, jL, jL, jL, jL, trivial⟩ ⟨.inl rfl, .inl rfl, .inl rfl, .inl rfl, .inl rfl, trivial⟩ nL)) (J2 _ (vec [(i12 0)]) (Option.some.inj h49).symm)
   refine AW.cond rfl (fun hc7 => ?_) (fun hc7 => ?_)
   ·have h50 := ite_t hc7 hp2
    refine AW.weak (s' := ⟨[(0, .r (.sl (a3.map GElem.row))), (1, .r (.sl (b3.map GElem.row))), (4, .ptr 4 n0 0 0), (5, .ptr 5 (n0 + 2) 0 0), (6, .r (.bool tied1)), (7, .r (.bool ((tied1 && (decide ((a3.length : Int) = 1))) && (decide ((b3.length : Int) = 1))))), (8, .r (.int .i64 rest1))], [(4, some (.box n0 41 [.cst (.slice none 0 0), .cst (.slice none 0 0), .cst (.slice none 0 0)])), (5, some (.box (n0 + 2) 41 [.own 12 (i3 0), .own 9081 (i3 1), .own 9082 (i3 2)])), (12, some (.arr (i3 0) 22 1 (out2.Adds.map (rSl GElem.row)))), (9081, some (.arr (i3 1) 4 1 (out2.Cuts.map rBool))), (9082, some (.arr (i3 2) 29 1 (out2.Attrs.map (rSl GAttr.row))))], (i3 3), 219⟩) (by exact Weak.cv ⟨jL, jL, jL, jL, jL, jL, jL, trivial⟩ ⟨.inl rfl, .inl rfl, .inl rfl, .inl rfl, .inl rfl, trivial⟩ nL) ?_
    refine AW.region ?_
    refine sQ rfl (sp_assign rfl iL) ?_
    refine AOps.nil ?_
    exact wK26 _ _ ((by exact Weak.cv ⟨jL, jL, jL, jL, jL, jL, jL, jL, trivial⟩ ⟨.inl rfl, .inl rfl, .inl rfl, .inl rfl, .inl rfl, trivial⟩ nL)) (J4 _ (vec [(i3 3)]) (Option.some.inj h50).symm)
   ·have h50 := ite_f hc7 hp2
    refine AW.skip ?_
    exact wK26 _ _ ((by exact Weak.cv ⟨jL, jL, jL, jL, jL, jL, jL, jL, trivial⟩ ⟨.inl rfl, .inl rfl, .inl rfl, .inl rfl, .inl rfl, trivial⟩ nL)) (J4 _ (vec [(i3 3)]) (Option.some.inj h50).symm)
  ·have h41 := ite_f hc6 hp1
   refine AW.skip ?_
   exact wK11 _ _ ((by exact Weak.cv ⟨jL, jL, jL, jL, jL, jL, jL, jL, trivial⟩ ⟨.inl rfl, .inl rfl, .inl rfl, .inl rfl, .inl rfl, trivial⟩ nL)) (J2 _ (vec [(i3 3)]) (Option.some.inj h41).symm)
 ·have h4 := ite_f hc1 h3
  refine AW.exit ?_
  exact wK4 _ _ ((by exact Weak.cv ⟨jL, jL, trivial⟩ ⟨.inl rfl, .inl rfl, .inl rfl, .inl rfl, .inl rfl, trivial⟩ nL)) (J1 _ (vec [(i3 0), (i3 1), (i3 2), (i3 3)]) (hx1 _ (Option.some.inj h4).symm))
set_option maxHeartbeats 4000000 in
set_option maxRecDepth 20000 in
theorem w_ref_Has {l1 : List GAttr} {name1 : List UInt8} {r : Bool} (h : ref_Has l1 name1 = some r) : ARO Try.prog 52 [.r (.sl (l1.map GAttr.row)), .r (.str name1)] (.r (.bool r)) := by
 unfold ref_Has at h
 refine ARO.mkF Try.func52 rfl rfl Try.ntmps52 rfl (Nat.le_of_ble_eq_true rfl) fun n0 => ?_
 refine AW.seq_w fun K1 hK1 wK1 => ?_
 refine AW.region ?_
 refine sQ rfl (sp_assign rfl iL) ?_
 refine AOps.nil (hK1 _ ?_)
 refine AW.seq_w fun K2 hK2 wK2 => ?_
 refine AW.seq_w fun K3 hK3 wK3 => ?_
 refine AW.region ?_
 refine sM rfl rfl ?_
 refine sQ rfl (ms_len rfl tg_29.slice iL) ?_
 refine sM rfl rfl ?_
 refine AOps.nil (hK3 _ ?_)
 refine AW.block ?_
 refine jc1k h fun o1 hit1 hk1 he1 => ?_
 have J1 : ∀ (u2 : Unit) (i5 : Nat → Nat), o1 = .nrm u2 → K2 ⟨[], [], (i5 0), 19⟩ := by
  intro u2 i5 e
  have h1 := hk1 _ e
  refine hK2 _ ?_
  refine AW.seq_w fun K4 hK4 wK4 => ?_
  refine AW.region ?_
  refine sQ rfl (sp_assign rfl iL) ?_
  refine AOps.nil (hK4 _ ?_)
  refine AW.ret ?_
  exact retf1 (P := Try.prog) (fun (r : Bool) => .r (.bool r)) h1 iL (.t (.d rfl))
 refine AW.iter1 (fun (x2 : Int) i3 => ⟨[(0, .r (.sl (l1.map GAttr.row))), (1, .r (.str name1)), (7, .r (.int .i64 (l1.length : Int))), (8, .r (.int .i64 x2))], [], (i3 0), 19⟩) (vec [n0]) hit1 ((by exact Weak.cv ⟨jL, jL, jL, jL, trivial⟩ trivial nL)) ?_
 intro x2 i3 v1 hv1 hx1
 have h2 : ref_Has_L1 l1 name1 x2 = some v1 := hv1; unfold ref_Has_L1 at h2
 refine AW.seq_w fun K5 hK5 wK5 => ?_
 refine AW.region ?_
 refine sQ rfl (sp_lss rfl iL iL) ?_
 refine AOps.nil (hK5 _ ?_)
 refine AW.seq_w fun K6 hK6 wK6 => ?_
 refine AW.cond rfl (fun hc1 => ?_) (fun hc1 => ?_)
 ·have h3 := ite_t hc1 h2
  refine AW.skip ?_
  refine hK6 _ ?_
  refine AW.seq_w fun K7 hK7 wK7 => ?_
  refine AW.block ?_
  refine AW.seq_w fun K8 hK8 wK8 => ?_
  refine AW.region ?_
  refine sM rfl rfl ?_
  refine sQ rfl (sp_assign rfl iL) ?_
  refine AOps.nil (hK8 _ ?_)
  refine AW.seq_w fun K9 hK9 wK9 => ?_
  refine AW.region ?_
  refine sM rfl rfl ?_
  refine sM rfl rfl ?_
  refine ob1k h3 fun x4 ex4 h4 => ?_
  refine sQ rfl (ms_idx rfl tg_29.slice iL iL (fun _ => rfl) (fun _ => ex4)) ?_
  refine sQ rfl (sp_fieldAddr_ro rfl tf_92_0 iL) ?_
  refine sQ rfl (ms_load (d := .str x4.Name) rfl ts_9 iL rfl) ?_
  refine sM rfl rfl ?_
  refine sQ rfl (sp_seql rfl iL iL) ?_
  refine AOps.nil (hK9 _ ?_)
  refine AW.cond rfl (fun hc2 => ?_) (fun hc2 => ?_)
  ·have h5 := ite_t hc2 h4
   refine AW.seq_w fun K10 hK10 wK10 => ?_
   refine AW.weak (s' := ⟨[], [], (i3 0), 19⟩) (by exact Weak.cv trivial trivial nL) ?_
   refine AW.region ?_
   refine sQ rfl (sp_assign rfl iL) ?_
   refine AOps.nil (hK10 _ ?_)
   refine AW.ret ?_
   exact retf1 (P := Try.prog) (fun (r : Bool) => .r (.bool r)) (he1 _ (hx1 _ (Option.some.inj h5).symm)) iL (.t (.d rfl))
  ·have h5 := ite_f hc2 h4
   refine AW.skip ?_
   refine hK7 _ ?_
   refine AW.weak (s' := ⟨[(0, .r (.sl (l1.map GAttr.row))), (1, .r (.str name1)), (7, .r (.int .i64 (l1.length : Int))), (8, .r (.int .i64 x2))], [], (i3 0), 19⟩) (by exact Weak.cv ⟨jL, jL, jL, jL, trivial⟩ trivial nL) ?_
   refine AW.region ?_
   refine ob1k h5 fun x5 ex5 h6 => ?_
   refine sQ rfl (ms_add rfl iL iL (fun _ => ex5)) ?_
   refine sM rfl rfl ?_
   refine AOps.nil ?_
   exact NextQ1.mk h6 (vec [(i3 0)]) ((by exact Weak.cv ⟨jL, jL, jL, jL, trivial⟩ trivial nL))
 ·have h3 := ite_f hc1 h2
  refine AW.exit ?_
  exact wK2 _ _ ((by exact Weak.cv trivial trivial nL)) (J1 _ (vec [(i3 0)]) (hx1 _ (Option.some.inj h3).symm))
set_option maxHeartbeats 4000000 in
set_option maxRecDepth 20000 in
theorem w_ref_Changed {l1 : List GAttr} {change1 : List GAttr} {r : (List GAttr)} (h : ref_Changed l1 change1 = some r) : ARO Try.prog 54 [.r (.sl (l1.map GAttr.row)), .r (.sl (change1.map GAttr.row))] (.r (.sl (r.map GAttr.row))) := by
 unfold ref_Changed at h
 refine ARO.mkF Try.func54 rfl rfl Try.ntmps54 rfl (Nat.le_of_ble_eq_true rfl) fun n0 => ?_
 refine AW.seq_w fun K1 hK1 wK1 => ?_
 refine AW.region ?_
 refine sQ rfl (sp_assign rfl iL) ?_
 refine AOps.nil (hK1 _ ?_)
 refine AW.seq_w fun K2 hK2 wK2 => ?_
 refine AW.region ?_
 refine sQ rfl (sp_assign rfl iL) ?_
 refine AOps.nil (hK2 _ ?_)
 refine AW.seq_w fun K3 hK3 wK3 => ?_
 refine AW.seq_w fun K4 hK4 wK4 => ?_
 refine AW.region ?_
 refine sM rfl rfl ?_
 refine sQ rfl (ms_len rfl tg_29.slice iL) ?_
 refine sM rfl rfl ?_
 refine AOps.nil (hK4 _ ?_)
 refine AW.block ?_
 refine jb1k h fun o1 hit1 hk1 => ?_
 have J1 : ∀ (out4 : List GAttr) (i5 : Nat → Nat), o1 = out4 → K3 ⟨[(1, .r (.sl (change1.map GAttr.row))), (5, .r (.sl (out4.map GAttr.row)))], [], (i5 0), 54⟩ := by
  intro out4 i5 e
  have h1 := hk1 _ e
  refine hK3 _ ?_
  refine AW.seq_w fun K5 hK5 wK5 => ?_
  refine AW.seq_w fun K6 hK6 wK6 => ?_
  refine AW.region ?_
  refine sM rfl rfl ?_
  refine sQ rfl (ms_len rfl tg_29.slice iL) ?_
  refine sM rfl rfl ?_
  refine AOps.nil (hK6 _ ?_)
  refine AW.block ?_
  refine jb1k h1 fun o2 hit2 hk2 => ?_
  have J2 : ∀ (out8 : List GAttr) (i10 : Nat → Nat), o2 = out8 → K5 ⟨[(5, .r (.sl (out8.map GAttr.row)))], [], (i10 0), 54⟩ := by
   intro out8 i10 e
   have h2 := hk2 _ e
   refine hK5 _ ?_
   refine AW.seq_w fun K7 hK7 wK7 => ?_
   refine AW.region ?_
   refine sQ rfl (sp_assign rfl iL) ?_
   refine AOps.nil (hK7 _ ?_)
   refine AW.seq_w fun K8 hK8 wK8 => ?_
   refine AW.seq_w fun K9 hK9 wK9 => ?_
   refine AW.region ?_
   refine sM rfl rfl ?_
   refine sQ rfl (ms_len rfl tg_29.slice iL) ?_
   refine sM rfl rfl ?_
   refine AOps.nil (hK9 _ ?_)
   refine AW.block ?_
   refine jb1k h2 fun o3 hit3 hk3 => ?_
   have J3 : ∀ (rest4 : List GAttr) (i15 : Nat → Nat), o3 = rest4 → K8 ⟨[(8, .own 5008 (i15 0))], [(5008, some (.arr (i15 0) 92 2 (rest4.map GAttr.row)))], (i15 1), 54⟩ := by
    intro rest4 i15 e
    have h3 := hk3 _ e
    refine hK8 _ ?_
    refine AW.seq_w fun K10 hK10 wK10 => ?_
    refine AW.region ?_
    refine sM rfl rfl ?_
    refine sQ rfl (sp_assign rfl iL) ?_
    refine AOps.nil (hK10 _ ?_)
    refine AW.ret ?_
    exact retf1 (P := Try.prog) (fun (r : (List GAttr)) => .r (.sl (r.map GAttr.row))) h3 iL (.t (.one (.own rfl)))
   refine AW.iter2 (fun (x8 : Int) (rest2 : List GAttr) i13 => ⟨[(5, .r (.sl (out8.map GAttr.row))), (8, .own 5008 (i13 0)), (35, .r (.int .i64 (out8.length : Int))), (36, .r (.int .i64 x8))], [(5008, some (.arr (i13 0) 92 2 (rest2.map GAttr.row)))], (i13 1), 54⟩) (vec [(i10 0), ((i10 0) + 1)]) hit3 (Weak.trans (Weak.trans (Weak.adopt 8 5008 92 2 (by decide) rfl) (by exact Weak.cv (e' := [(5, .r (.sl (out8.map GAttr.row))), (8, .own 5008 (i10 0)), (34, .r (.sl (out8.map GAttr.row))), (35, .r (.int .i64 (out8.length : Int))), (36, .r (.int .i64 0))]) (h' := [(5008, some (.arr (i10 0) 92 2 (([] : List GAttr).map GAttr.row)))]) ⟨jL, jL, jL, jL, jL, trivial⟩ ⟨.inl rfl, trivial⟩ nL)) (by exact Weak.cv ⟨jL, jL, jL, jL, trivial⟩ ⟨.inl rfl, trivial⟩ nL)) ?_
   intro x8 rest2 i13 v1 hv1 hx3
   have h4 : ref_Changed_L3 out8 x8 rest2 = some v1 := hv1; unfold ref_Changed_L3 at h4
   refine AW.seq_w fun K11 hK11 wK11 => ?_
   refine AW.region ?_
   refine sQ rfl (sp_lss rfl iL iL) ?_
   refine AOps.nil (hK11 _ ?_)
   refine AW.seq_w fun K12 hK12 wK12 => ?_
   refine AW.cond rfl (fun hc1 => ?_) (fun hc1 => ?_)
   ·have h5 := ite_t hc1 h4
    refine AW.skip ?_
    refine hK12 _ ?_
    refine AW.seq_w fun K13 hK13 wK13 => ?_
    refine AW.block ?_
    refine jb1k h5 fun p1 hp1 hk4 => ?_
    have J4 : ∀ (rest5 : List GAttr) (i16 : Nat → Nat), p1 = rest5 → K13 ⟨[(5, .r (.sl (out8.map GAttr.row))), (8, .own 5008 (i16 0)), (35, .r (.int .i64 (out8.length : Int))), (36, .r (.int .i64 x8))], [(5008, some (.arr (i16 0) 92 2 (rest5.map GAttr.row)))], (i16 1), 54⟩ := by
     intro rest5 i16 e
     have h6 := hk4 _ e
     refine hK13 _ ?_
     refine AW.region ?_
     refine ob1k h6 fun x10 ex10 h7 => ?_
     refine sQ rfl (ms_add rfl iL iL (fun _ => ex10)) ?_
     refine sM rfl rfl ?_
     refine AOps.nil ?_
     exact NextQ2.mk h7 (vec [(i16 0), (i16 1)]) ((by exact Weak.cv ⟨jL, jL, jL, jL, trivial⟩ ⟨.inl rfl, trivial⟩ nL))
    refine AW.seq_w fun K14 hK14 wK14 => ?_
    refine AW.region ?_
    refine sM rfl rfl ?_
    refine sQ rfl (sp_assign rfl iL) ?_
    refine AOps.nil (hK14 _ ?_)
    refine AW.seq_w fun K15 hK15 wK15 => ?_
    refine AW.region ?_
    refine sM rfl rfl ?_
    refine sM rfl rfl ?_
    refine ob1k hp1 fun x11 ex11 h8 => ?_
    refine sQ rfl (ms_idx rfl tg_29.slice iL iL (fun _ => rfl) (fun _ => ex11)) ?_
    refine sQ rfl (sp_fieldAddr_ro rfl tf_92_1 iL) ?_
    refine sQ rfl (ms_load (d := .str x11.Value) rfl ts_9 iL rfl) ?_
    refine sQ rfl (sp_sneq rfl iL iL) ?_
    refine AOps.nil (hK15 _ ?_)
    refine AW.cond rfl (fun hc2 => ?_) (fun hc2 => ?_)
    ·have h9 := ite_t hc2 h8
     refine AW.region ?_
     refine sM rfl rfl ?_
     refine sM rfl rfl ?_
     refine sM rfl rfl ?_
     refine sQ rfl (ms_idx rfl tg_29.slice iL iL (fun _ => rfl) (fun _ => ex11)) ?_
     refine sQ rfl (ms_loadA (cs := [.r (.str x11.Name), .r (.str x11.Value)]) rfl ta_92 iL rfl rfl) ?_
     refine AOps.step rfl rfl rfl (ms_lit 50 rfl tg_29 (f := GAttr.row) (l := ([x11] : List GAttr)) ⟨rfl, ⟨_, iL, rfl⟩, trivial⟩ rfl (fun _ => rfl) rfl) ?_
     refine ob1k h9 fun rest6 erest6 h10 => ?_
     refine AOps.step rfl rfl rfl (ms_app rfl tg_29 iL rfl (.inr (.inl ⟨_, _, iL, rfl⟩)) erest6) ?_
     refine sQ rfl (sp_assign rfl iL) ?_
     refine AOps.nil ?_
     exact wK13 _ _ ((by exact Weak.cv ⟨jL, jL, jL, jL, trivial⟩ ⟨.inl rfl, trivial⟩ nL)) (J4 _ (vec [((i13 1) + 1), ((i13 1) + 2)]) (Option.some.inj h10).symm)
    ·have h9 := ite_f hc2 h8
     refine AW.skip ?_
     exact wK13 _ _ ((by exact Weak.cv ⟨jL, jL, jL, jL, trivial⟩ ⟨.inl rfl, trivial⟩ nL)) (J4 _ (vec [(i13 0), (i13 1)]) (Option.some.inj h9).symm)
   ·have h5 := ite_f hc1 h4
    refine AW.exit ?_
    exact wK8 _ _ ((by exact Weak.cv ⟨jL, trivial⟩ ⟨.inl rfl, trivial⟩ nL)) (J3 _ (vec [(i13 0), (i13 1)]) (hx3 _ (Option.some.inj h5).symm))
  refine AW.iter2 (fun (out6 : List GAttr) (x5 : Int) i8 => ⟨[(1, .r (.sl (change1.map GAttr.row))), (5, .r (.sl (out6.map GAttr.row))), (23, .r (.int .i64 (change1.length : Int))), (24, .r (.int .i64 x5))], [], (i8 0), 54⟩) (vec [(i5 0)]) hit2 ((by exact Weak.cv ⟨jL, jL, jL, jL, trivial⟩ trivial nL)) ?_
  intro out6 x5 i8 v2 hv2 hx2
  have h11 : ref_Changed_L2 change1 out6 x5 = some v2 := hv2; unfold ref_Changed_L2 at h11
  refine AW.seq_w fun K16 hK16 wK16 => ?_
  refine AW.region ?_
  refine sQ rfl (sp_lss rfl iL iL) ?_
  refine AOps.nil (hK16 _ ?_)
  refine AW.seq_w fun K17 hK17 wK17 => ?_
  refine AW.cond rfl (fun hc3 => ?_) (fun hc3 => ?_)
  ·have h12 := ite_t hc3 h11
   refine AW.skip ?_
   refine hK17 _ ?_
   refine AW.seq_w fun K18 hK18 wK18 => ?_
   refine AW.block ?_
   refine AW.seq_w fun K19 hK19 wK19 => ?_
   refine AW.region ?_
   refine sM rfl rfl ?_
   refine sQ rfl (sp_assign rfl iL) ?_
   refine AOps.nil (hK19 _ ?_)
   refine AW.region ?_
   refine sM rfl rfl ?_
   refine sM rfl rfl ?_
   refine sM rfl rfl ?_
   refine ob1k h12 fun x12 ex12 h13 => ?_
   refine sQ rfl (ms_idx rfl tg_29.slice iL iL (fun _ => rfl) (fun _ => ex12)) ?_
   refine sQ rfl (ms_loadA (cs := [.r (.str x12.Name), .r (.str x12.Value)]) rfl ta_92 iL rfl rfl) ?_
   refine ob1k h13 fun out9 eout9 h14 => ?_
   refine AOps.step rfl rfl rfl (sp_callS (r := .r (.sl (out9.map GAttr.row))) (caps := []) (bs := [.r (.sl (out6.map GAttr.row)), .agg [.r (.str x12.Name), .r (.str x12.Value)]]) rfl iL rfl ⟨.inl ⟨iL, rfl⟩, .inl ⟨iL, rfl⟩, trivial⟩ (fun _ => w_ref_put (eout9))) ?_
   refine sQ rfl (sp_assign rfl iL) ?_
   refine AOps.nil (hK18 _ ?_)
   refine AW.weak (s' := ⟨[(1, .r (.sl (change1.map GAttr.row))), (5, .r (.sl (out9.map GAttr.row))), (23, .r (.int .i64 (change1.length : Int))), (24, .r (.int .i64 x5))], [], (i8 0), 54⟩) (by exact Weak.cv ⟨jL, jL, jL, jL, trivial⟩ trivial nL) ?_
   refine AW.region ?_
   refine ob1k h14 fun x13 ex13 h15 => ?_
   refine sQ rfl (ms_add rfl iL iL (fun _ => ex13)) ?_
   refine sM rfl rfl ?_
   refine AOps.nil ?_
   exact NextQ2.mk h15 (vec [(i8 0)]) ((by exact Weak.cv ⟨jL, jL, jL, jL, trivial⟩ trivial nL))
  ·have h12 := ite_f hc3 h11
   refine AW.exit ?_
   exact wK5 _ _ ((by exact Weak.cv ⟨jL, trivial⟩ trivial nL)) (J2 _ (vec [(i8 0)]) (hx2 _ (Option.some.inj h12).symm))
 refine AW.iter2 (fun (out2 : List GAttr) (x2 : Int) i3 => ⟨[(0, .r (.sl (l1.map GAttr.row))), (1, .r (.sl (change1.map GAttr.row))), (5, .r (.sl (out2.map GAttr.row))), (11, .r (.int .i64 (l1.length : Int))), (12, .r (.int .i64 x2))], [], (i3 0), 54⟩) (vec [n0]) hit1 ((by exact Weak.cv ⟨jL, jL, .inl (.inr (.inr ⟨rfl, rfl⟩)), jL, jL, trivial⟩ trivial nL)) ?_
 intro out2 x2 i3 v3 hv3 hx1
 have h16 : ref_Changed_L1 l1 out2 x2 = some v3 := hv3; unfold ref_Changed_L1 at h16
 refine AW.seq_w fun K20 hK20 wK20 => ?_
 refine AW.region ?_
 refine sQ rfl (sp_lss rfl iL iL) ?_
 refine AOps.nil (hK20 _ ?_)
 refine AW.seq_w fun K21 hK21 wK21 => ?_
 refine AW.cond rfl (fun hc4 => ?_) (fun hc4 => ?_)
 ·have h17 := ite_t hc4 h16
  refine AW.skip ?_
  refine hK21 _ ?_
  refine AW.seq_w fun K22 hK22 wK22 => ?_
  refine AW.block ?_
  refine AW.seq_w fun K23 hK23 wK23 => ?_
  refine AW.region ?_
  refine sM rfl rfl ?_
  refine sQ rfl (sp_assign rfl iL) ?_
  refine AOps.nil (hK23 _ ?_)
  refine AW.region ?_
  refine sM rfl rfl ?_
  refine sM rfl rfl ?_
  refine sM rfl rfl ?_
  refine ob1k h17 fun x14 ex14 h18 => ?_
  refine sQ rfl (ms_idx rfl tg_29.slice iL iL (fun _ => rfl) (fun _ => ex14)) ?_
  refine sQ rfl (ms_loadA (cs := [.r (.str x14.Name), .r (.str x14.Value)]) rfl ta_92 iL rfl rfl) ?_
  refine ob1k h18 fun out10 eout10 h19 => ?_
  refine AOps.step rfl rfl rfl (sp_callS (r := .r (.sl (out10.map GAttr.row))) (caps := []) (bs := [.r (.sl (out2.map GAttr.row)), .agg [.r (.str x14.Name), .r (.str x14.Value)]]) rfl iL rfl ⟨.inl ⟨iL, rfl⟩, .inl ⟨iL, rfl⟩, trivial⟩ (fun _ => w_ref_put (eout10))) ?_
  refine sQ rfl (sp_assign rfl iL) ?_
  refine AOps.nil (hK22 _ ?_)
  refine AW.weak (s' := ⟨[(0, .r (.sl (l1.map GAttr.row))), (1, .r (.sl (change1.map GAttr.row))), (5, .r (.sl (out10.map GAttr.row))), (11, .r (.int .i64 (l1.length : Int))), (12, .r (.int .i64 x2))], [], (i3 0), 54⟩) (by exact Weak.cv ⟨jL, jL, jL, jL, jL, trivial⟩ trivial nL) ?_
  refine AW.region ?_
  refine ob1k h19 fun x15 ex15 h20 => ?_
  refine sQ rfl (ms_add rfl iL iL (fun _ => ex15)) ?_
  refine sM rfl rfl ?_
  refine AOps.nil ?_
  exact NextQ2.mk h20 (vec [(i3 0)]) ((by exact Weak.cv ⟨jL, jL, jL, jL, jL, trivial⟩ trivial nL))
 ·have h17 := ite_f hc4 h16
  refine AW.exit ?_
  exact wK3 _ _ ((by exact Weak.cv ⟨jL, jL, trivial⟩ trivial nL)) (J1 _ (vec [(i3 0)]) (hx1 _ (Option.some.inj h17).symm))
set_option maxHeartbeats 4000000 in
set_option maxRecDepth 20000 in
theorem w_ref_Merged {o1 : List GElem} {a1 : List GElem} {b1 : List GElem} {r : (List GElem) × (List GConflict)} (h : ref_Merged o1 a1 b1 = some r) : ARO Try.prog 24 [.r (.sl (o1.map GElem.row)), .r (.sl (a1.map GElem.row)), .r (.sl (b1.map GElem.row))] (.tup [.r (.sl (r.1.map GElem.row)), .r (.sl (r.2.map GConflict.row))]) := by
 unfold ref_Merged at h
 refine ARO.mkF Try.func24 rfl rfl Try.ntmps24 rfl (Nat.le_of_ble_eq_true rfl) fun n0 => ?_
 refine AW.seq_w fun K1 hK1 wK1 => ?_
 refine AW.region ?_
 refine sQ rfl (sp_assign rfl iL) ?_
 refine sQ rfl (sp_assign rfl iL) ?_
 refine AOps.nil (hK1 _ ?_)
 refine AW.seq_w fun K2 hK2 wK2 => ?_
 refine AW.region ?_
 refine sM rfl rfl ?_
 refine sM rfl rfl ?_
 refine ob1k h fun r1 er1 h1 => ?_
 refine AOps.step rfl rfl rfl (sp_callS (r := .agg [.r (.sl (r1.Adds.map (rSl GElem.row))), .r (.sl (r1.Cuts.map rBool)), .r (.sl (r1.Attrs.map (rSl GAttr.row)))]) (caps := []) (bs := [.r (.sl (o1.map GElem.row)), .r (.sl (a1.map GElem.row))]) rfl iL rfl ⟨.inl ⟨iL, rfl⟩, .inl ⟨iL, rfl⟩, trivial⟩ (fun _ => w_ref_DiffAct (er1))) ?_
 refine sM rfl rfl ?_
 refine sM rfl rfl ?_
 refine ob1k h1 fun r2 er2 h2 => ?_
 refine AOps.step rfl rfl rfl (sp_callS (r := .agg [.r (.sl (r2.Adds.map (rSl GElem.row))), .r (.sl (r2.Cuts.map rBool)), .r (.sl (r2.Attrs.map (rSl GAttr.row)))]) (caps := []) (bs := [.r (.sl (o1.map GElem.row)), .r (.sl (b1.map GElem.row))]) rfl iL rfl ⟨.inl ⟨iL, rfl⟩, .inl ⟨iL, rfl⟩, trivial⟩ (fun _ => w_ref_DiffAct (er2))) ?_
 refine AOps.step rfl rfl rfl (ms_alloc (cs := [.cst (.slice none 0 0), .cst (.slice none 0 0), .cst (.slice none 0 0)]) 8 rfl t0_41 rfl rfl) ?_
 refine AOps.step rfl rfl rfl (ms_alloc (cs := [.cst (.slice none 0 0), .cst (.slice none 0 0), .cst (.slice none 0 0)]) 9 rfl t0_41 rfl rfl) ?_
 refine AOps.step0 rfl rfl (ms_store_box (ds := [.r (.sl (r1.Adds.map (rSl GElem.row))), .r (.sl (r1.Cuts.map rBool)), .r (.sl (r1.Attrs.map (rSl GAttr.row)))]) rfl tz_41 iL rfl iL rfl rfl rfl rfl) ?_
 refine AOps.step0 rfl rfl (ms_store_box (ds := [.r (.sl (r2.Adds.map (rSl GElem.row))), .r (.sl (r2.Cuts.map rBool)), .r (.sl (r2.Attrs.map (rSl GAttr.row)))]) rfl tz_41 iL rfl iL rfl rfl rfl rfl) ?_
 refine AOps.nil (hK2 _ ?_)
 refine AW.seq_w fun K3 hK3 wK3 => ?_
 refine AW.weak (s' := ⟨[(0, .r (.sl (o1.map GElem.row))), (8, .ptr 8 n0 0 0), (9, .ptr 9 (n0 + 1) 0 0)], [(8, some (.box n0 41 [.r (.sl (r1.Adds.map (rSl GElem.row))), .r (.sl (r1.Cuts.map rBool)), .r (.sl (r1.Attrs.map (rSl GAttr.row)))])), (9, some (.box (n0 + 1) 41 [.r (.sl (r2.Adds.map (rSl GElem.row))), .r (.sl (r2.Cuts.map rBool)), .r (.sl (r2.Attrs.map (rSl GAttr.row)))]))], (n0 + 2), 197⟩) (by exact Weak.cv ⟨jL, jL, jL, trivial⟩ ⟨.inl rfl, .inl rfl, trivial⟩ nL) ?_
 refine AW.region ?_
 refine sQ rfl (sp_assign rfl iL) ?_
 refine AOps.nil (hK3 _ ?_)
 refine AW.seq_w fun K4 hK4 wK4 => ?_
 refine AW.region ?_
 refine sQ rfl (sp_assign rfl iL) ?_
 refine AOps.nil (hK4 _ ?_)
 refine AW.seq_w fun K5 hK5 wK5 => ?_
 refine AW.seq_w fun K6 hK6 wK6 => ?_
 refine AW.region ?_
 refine sQ rfl (sp_assign rfl iL) ?_
 refine AOps.nil (hK6 _ ?_)
 refine AW.block ?_
 refine jb2k h2 fun o2 hit1 hk1 => ?_
 have J1 : ∀ (out4 : List GElem) (bad4 : List GConflict) (i8 : Nat → Nat), o2 = (out4, bad4) → K5 ⟨[(10, .own 5010 (i8 0)), (11, .own 5011 (i8 1))], [(5010, some (.arr (i8 0) 82 3 (out4.map GElem.row))), (5011, some (.arr (i8 1) 89 5 (bad4.map GConflict.row)))], (i8 2), 197⟩ := by
  intro out4 bad4 i8 e
  have h3 := hk1 _ _ e
  refine hK5 _ ?_
  refine AW.seq_w fun K7 hK7 wK7 => ?_
  refine AW.region ?_
  refine sM rfl rfl ?_
  refine sM rfl rfl ?_
  refine sQ rfl (sp_assign rfl iL) ?_
  refine sQ rfl (sp_assign rfl iL) ?_
  refine AOps.nil (hK7 _ ?_)
  refine AW.ret ?_
  exact retf2 (P := Try.prog) (fun (r : (List GElem) × (List GConflict)) => .r (.sl (r.1.map GElem.row))) (fun (r : (List GElem) × (List GConflict)) => .r (.sl (r.2.map GConflict.row))) h3 iL (.t (.one (.own rfl))) (.t (.one (.own rfl)))
 refine AW.iter3 (fun (i4 : Int) (out2 : List GElem) (bad2 : List GConflict) i5 => ⟨[(0, .r (.sl (o1.map GElem.row))), (8, .ptr 8 n0 0 0), (9, .ptr 9 (n0 + 1) 0 0), (10, .own 5010 (i5 0)), (11, .own 5011 (i5 1)), (12, .r (.int .i64 i4))], [(8, some (.box n0 41 [.r (.sl (r1.Adds.map (rSl GElem.row))), .r (.sl (r1.Cuts.map rBool)), .r (.sl (r1.Attrs.map (rSl GAttr.row)))])), (9, some (.box (n0 + 1) 41 [.r (.sl (r2.Adds.map (rSl GElem.row))), .r (.sl (r2.Cuts.map rBool)), .r (.sl (r2.Attrs.map (rSl GAttr.row)))])), (5010, some (.arr (i5 0) 82 3 (out2.map GElem.row))), (5011, some (.arr (i5 1) 89 5 (bad2.map GConflict.row)))], (i5 2), 197⟩) (vec [(n0 + 2), (n0 + 3), (n0 + 4)]) hit1 (Weak.trans (Weak.trans (Weak.adopt 10 5010 82 3 (by decide) rfl) (by exact Weak.cv (e' := [(0, .r (.sl (o1.map GElem.row))), (8, .ptr 8 n0 0 0), (9, .ptr 9 (n0 + 1) 0 0), (10, .own 5010 (n0 + 2)), (11, .cst (.slice none 0 0)), (12, .r (.int .i64 0))]) (h' := [(8, some (.box n0 41 [.r (.sl (r1.Adds.map (rSl GElem.row))), .r (.sl (r1.Cuts.map rBool)), .r (.sl (r1.Attrs.map (rSl GAttr.row)))])), (9, some (.box (n0 + 1) 41 [.r (.sl (r2.Adds.map (rSl GElem.row))), .r (.sl (r2.Cuts.map rBool)), .r (.sl (r2.Attrs.map (rSl GAttr.row)))])), (5010, some (.arr (n0 + 2) 82 3 (([] : List GElem).map GElem.row)))]) ⟨jL, jL, jL, jL, jL, jL, trivial⟩ ⟨.inl rfl, .inl rfl, .inl rfl, trivial⟩ nL)) (Weak.trans (Weak.trans (Weak.adopt 11 5011 89 5 (by decide) rfl) (by exact Weak.cv (e' := [(0, .r (.sl (o1.map GElem.row))), (8, .ptr 8 n0 0 0), (9, .ptr 9 (n0 + 1) 0 0), (10, .own 5010 (n0 + 2)), (11, .own 5011 (n0 + 3)), (12, .r (.int .i64 0))]) (h' := [(8, some (.box n0 41 [.r (.sl (r1.Adds.map (rSl GElem.row))), .r (.sl (r1.Cuts.map rBool)), .r (.sl (r1.Attrs.map (rSl GAttr.row)))])), (9, some (.box (n0 + 1) 41 [.r (.sl (r2.Adds.map (rSl GElem.row))), .r (.sl (r2.Cuts.map rBool)), .r (.sl (r2.Attrs.map (rSl GAttr.row)))])), (5010, some (.arr (n0 + 2) 82 3 (([] : List GElem).map GElem.row))), (5011, some (.arr (n0 + 3) 89 5 (([] : List GConflict).map GConflict.row)))]) ⟨jL, jL, jL, jL, jL, jL, trivial⟩ ⟨.inl rfl, .inl rfl, .inl rfl, .inl rfl, trivial⟩ nL)) (by exact Weak.cv ⟨jL, jL, jL, jL, jL, jL, trivial⟩ ⟨.inl rfl, .inl rfl, .inl rfl, .inl rfl, trivial⟩ nL))) ?_
 intro i4 out2 bad2 i5 v1 hv1 hx1
 have h4 : ref_Merged_L1 o1 r1 r2 i4 out2 bad2 = some v1 := hv1; unfold ref_Merged_L1 at h4
 refine AW.seq_w fun K8 hK8 wK8 => ?_
 refine AW.seq_w fun K9 hK9 wK9 => ?_
 refine AW.region ?_
 refine sM rfl rfl ?_
 refine sM rfl rfl ?_
 refine sQ rfl (ms_len rfl tg_22.slice iL) ?_
 refine sQ rfl (sp_leq rfl iL iL) ?_
 refine AOps.nil (hK9 _ ?_)
 refine AW.cond rfl (fun hc1 => ?_) (fun hc1 => ?_)
 ·have h5 := ite_t hc1 h4
  refine AW.skip ?_
  refine hK8 _ ?_
  refine AW.seq_w fun K10 hK10 wK10 => ?_
  refine AW.block ?_
  refine jc2k h5 fun p1 hp1 hk2 he2 => ?_
  have J2 : ∀ (out5 : List GElem) (bad5 : List GConflict) (i9 : Nat → Nat), p1 = .nrm (out5, bad5) → K10 ⟨[(0, .r (.sl (o1.map GElem.row))), (8, .ptr 8 n0 0 0), (9, .ptr 9 (n0 + 1) 0 0), (10, .own 5010 (i9 0)), (11, .own 5011 (i9 1)), (12, .r (.int .i64 i4))], [(8, some (.box n0 41 [.r (.sl (r1.Adds.map (rSl GElem.row))), .r (.sl (r1.Cuts.map rBool)), .r (.sl (r1.Attrs.map (rSl GAttr.row)))])), (9, some (.box (n0 + 1) 41 [.r (.sl (r2.Adds.map (rSl GElem.row))), .r (.sl (r2.Cuts.map rBool)), .r (.sl (r2.Attrs.map (rSl GAttr.row)))])), (5010, some (.arr (i9 0) 82 3 (out5.map GElem.row))), (5011, some (.arr (i9 1) 89 5 (bad5.map GConflict.row)))], (i9 2), 197⟩ := by
   intro out5 bad5 i9 e
   have h6 := hk2 _ _ e
   refine hK10 _ ?_
   refine AW.region ?_
   refine sM rfl rfl ?_
   refine ob1k h6 fun i10 ei10 h7 => ?_
   refine sQ rfl (ms_add rfl iL iL (fun _ => ei10)) ?_
   refine sQ rfl (sp_assign rfl iL) ?_
   refine AOps.nil ?_
   exact NextQ3.mk h7 (vec [(i9 0), (i9 1), (i9 2)]) ((by exact Weak.cv ⟨jL, jL, jL, jL, jL, jL, trivial⟩ ⟨.inl rfl, .inl rfl, .inl rfl, .inl rfl, trivial⟩ nL))
  refine AW.seq_w fun K11 hK11 wK11 => ?_
  refine AW.regionQ hmix (by kernel_rfl) ?_
  refine AQ.step rfl rfl rfl (sp_fieldAddr_own (ob := .box _ _ _) rfl tf_41_0 iL fR rfl) ?_
  refine AQ.step rfl rfl rfl (ms_load_box (a := .r (.sl (r1.Adds.map (rSl GElem.row)))) rfl ts_37 iL rfl rfl) ?_
  refine AQ.step rfl rfl rfl (sp_move rfl iL) ?_
  refine ob1k hp1 fun x1 ex1 h8 => ?_
  refine AQ.step rfl rfl rfl (ms_idx rfl tg_37.slice iL iL (fun _ => rfl) (fun _ => ex1)) ?_
  refine AQ.step rfl rfl rfl (ms_load (d := .sl (x1.map GElem.row)) rfl ts_22 iL rfl) ?_
  refine AQ.step rfl rfl rfl (sp_fieldAddr_own (ob := .box _ _ _) rfl tf_41_0 iL fR rfl) ?_
  refine AQ.step rfl rfl rfl (ms_load_box (a := .r (.sl (r2.Adds.map (rSl GElem.row)))) rfl ts_37 iL rfl rfl) ?_
  refine AQ.step rfl rfl rfl (sp_move rfl iL) ?_
  refine ob1k h8 fun x2 ex2 h9 => ?_
  refine AQ.step rfl rfl rfl (ms_idx rfl tg_37.slice iL iL (fun _ => rfl) (fun _ => ex2)) ?_
  refine AQ.step rfl rfl rfl (ms_load (d := .sl (x2.map GElem.row)) rfl ts_22 iL rfl) ?_
  refine AQ.step rfl rfl rfl (sp_assign rfl iL) ?_
  refine AQ.step rfl rfl rfl (sp_assign rfl iL) ?_
  refine AQ.nil ?_
  refine hK11 _ ?_
  refine AW.seq_w fun K12 hK12 wK12 => ?_
  refine AW.weak (s' := ⟨[(0, .r (.sl (o1.map GElem.row))), (8, .ptr 8 n0 0 0), (9, .ptr 9 (n0 + 1) 0 0), (10, .own 5010 (i5 0)), (11, .own 5011 (i5 1)), (12, .r (.int .i64 i4)), (13, .r (.sl (x1.map GElem.row))), (14, .r (.sl (x2.map GElem.row)))], [(8, some (.box n0 41 [.r (.sl (r1.Adds.map (rSl GElem.row))), .r (.sl (r1.Cuts.map rBool)), .r (.sl (r1.Attrs.map (rSl GAttr.row)))])), (9, some (.box (n0 + 1) 41 [.r (.sl (r2.Adds.map (rSl GElem.row))), .r (.sl (r2.Cuts.map rBool)), .r (.sl (r2.Attrs.map (rSl GAttr.row)))])), (5010, some (.arr (i5 0) 82 3 (out2.map GElem.row))), (5011, some (.arr (i5 1) 89 5 (bad2.map GConflict.row)))], (i5 2), 197⟩) (by exact Weak.cv ⟨jL, jL, jL, jL, jL, jL, jL, jL, trivial⟩ ⟨.inl rfl, .inl rfl, .inl rfl, .inl rfl, trivial⟩ nL) ?_
  refine AW.region ?_
  refine sM rfl rfl ?_
  refine sQ rfl (ms_len_own rfl tg_22.slice iL rfl) ?_
  refine sQ rfl (sp_assign rfl iL) ?_
  refine AOps.nil (hK12 _ ?_)
  refine AW.seq_w fun K13 hK13 wK13 => ?_
  refine AW.region ?_
  refine sM rfl rfl ?_
  refine sM rfl rfl ?_
  refine ob1k h9 fun out6 eout6 h10 => ?_
  refine AOps.step rfl rfl rfl (ms_app rfl tg_22 iL rfl (.inl ⟨iL, fun _ => rfl⟩) eout6) ?_
  refine sQ rfl (sp_assign rfl iL) ?_
  refine AOps.nil (hK13 _ ?_)
  refine AW.seq_w fun K14 hK14 wK14 => ?_
  refine AW.seq_w fun K15 hK15 wK15 => ?_
  refine AW.region ?_
  refine sM rfl rfl ?_
  refine sM rfl rfl ?_
  refine ob1k h10 fun r3 er3 h11 => ?_
  refine AOps.step rfl rfl rfl (sp_call (r := .r (.bool r3)) (caps := []) (bs := [.r (.sl (x1.map GElem.row)), .r (.sl (x2.map GElem.row))]) rfl iL rfl ⟨⟨_, iL, .d rfl⟩, ⟨_, iL, .d rfl⟩, trivial⟩ (fun _ => w_ref_SameFlow (er3)) rfl) ?_
  refine sQ rfl (sp_not rfl iL) ?_
  refine AOps.nil (hK15 _ ?_)
  refine jb2k h11 fun p2 hp2 hk3 => ?_
  have J3 : ∀ (out7 : List GElem) (bad6 : List GConflict) (i11 : Nat → Nat), p2 = (out7, bad6) → K14 ⟨[(0, .r (.sl (o1.map GElem.row))), (8, .ptr 8 n0 0 0), (9, .ptr 9 (n0 + 1) 0 0), (10, .own 5010 (i11 0)), (11, .own 5011 (i11 1)), (12, .r (.int .i64 i4))], [(8, some (.box n0 41 [.r (.sl (r1.Adds.map (rSl GElem.row))), .r (.sl (r1.Cuts.map rBool)), .r (.sl (r1.Attrs.map (rSl GAttr.row)))])), (9, some (.box (n0 + 1) 41 [.r (.sl (r2.Adds.map (rSl GElem.row))), .r (.sl (r2.Cuts.map rBool)), .r (.sl (r2.Attrs.map (rSl GAttr.row)))])), (5010, some (.arr (i11 0) 82 3 (out7.map GElem.row))), (5011, some (.arr (i11 1) 89 5 (bad6.map GConflict.row)))], (i11 2), 197⟩ := by
   intro out7 bad6 i11 e
   have h12 := hk3 _ _ e
   refine hK14 _ ?_
   refine AW.seq_w fun K16 hK16 wK16 => ?_
   refine AW.seq_w fun K17 hK17 wK17 => ?_
   refine AW.region ?_
   refine sM rfl rfl ?_
   refine sM rfl rfl ?_
   refine sQ rfl (ms_len rfl tg_22.slice iL) ?_
   refine sQ rfl (sp_eql rfl iL iL) ?_
   refine AOps.nil (hK17 _ ?_)
   refine AW.cond rfl (fun hc2 => ?_) (fun hc2 => ?_)
   ·have h13 := ite_t hc2 h12
    refine AW.exit ?_
    exact wK5 _ _ ((by exact Weak.cv ⟨jL, jL, trivial⟩ ⟨.inl rfl, .inl rfl, trivial⟩ nL)) (J1 _ _ (vec [(i11 0), (i11 1), (i11 2)]) (hx1 _ (Option.some.inj (he2 _ (Option.some.inj h13).symm)).symm))
   ·have h13 := ite_f hc2 h12
    refine AW.skip ?_
    refine hK16 _ ?_
    refine AW.seq_w fun K18 hK18 wK18 => ?_
    refine AW.region ?_
    refine sM rfl rfl ?_
    refine sQ rfl (ms_len_own rfl tg_22.slice iL rfl) ?_
    refine sQ rfl (sp_assign rfl iL) ?_
    refine AOps.nil (hK18 _ ?_)
    refine AW.seq_w fun K19 hK19 wK19 => ?_
    refine AW.seq_w fun K20 hK20 wK20 => ?_
    refine AW.region ?_
    refine sQ rfl (sp_fieldAddr_own (ob := .box _ _ _) rfl tf_41_1 iL fR rfl) ?_
    refine sQ rfl (ms_load_box (a := .r (.sl (r1.Cuts.map rBool))) rfl ts_38 iL rfl rfl) ?_
    refine sM rfl rfl ?_
    refine ob1k h13 fun x3 ex3 h14 => ?_
    refine sQ rfl (ms_idx rfl tg_38.slice iL iL (fun _ => rfl) (fun _ => ex3)) ?_
    refine sQ rfl (ms_load (d := .bool x3) rfl ts_4 iL rfl) ?_
    refine sM rfl rfl ?_
    refine sV rfl rfl rfl (sp_fieldAddr_own (ob := .box _ _ _) rfl tf_41_1 iL fR rfl) ?_
    refine sV rfl rfl rfl (ms_load_box (a := .r (.sl (r2.Cuts.map rBool))) rfl ts_38 (iR rfl) rfl rfl) ?_
    refine sV rfl rfl rfl (sp_move rfl iL) ?_
    refine ob1k h14 fun x4 ex4 h15 => ?_
    refine sV rfl rfl rfl (ms_idx rfl tg_38.slice (iR rfl) (iR rfl) (fun _ => rfl) (gdt ex4)) ?_
    refine sV rfl rfl rfl (ms_load (d := .bool x4) rfl ts_4 (iR rfl) rfl) ?_
    refine sQ rfl (sp_or rfl iL (iR rfl)) ?_
    refine AOps.nil (hK20 _ ?_)
    refine AW.cond rfl (fun hc3 => ?_) (fun hc3 => ?_)
    ·have h16 := ite_t hc3 h15
     refine AW.seq_w fun K21 hK21 wK21 => ?_
     refine AW.seq_w fun K22 hK22 wK22 => ?_
     refine AW.weak (s' := ⟨[(0, .r (.sl (o1.map GElem.row))), (8, .ptr 8 n0 0 0), (9, .ptr 9 (n0 + 1) 0 0), (10, .own 5010 (i11 0)), (11, .own 5011 (i11 1)), (12, .r (.int .i64 i4)), (15, .r (.int .i64 (out7.length : Int)))], [(8, some (.box n0 41 [.r (.sl (r1.Adds.map (rSl GElem.row))), .r (.sl (r1.Cuts.map rBool)), .r (.sl (r1.Attrs.map (rSl GAttr.row)))])), (9, some (.box (n0 + 1) 41 [.r (.sl (r2.Adds.map (rSl GElem.row))), .r (.sl (r2.Cuts.map rBool)), .r (.sl (r2.Attrs.map (rSl GAttr.row)))])), (5010, some (.arr (i11 0) 82 3 (out7.map GElem.row))), (5011, some (.arr (i11 1) 89 5 (bad6.map GConflict.row)))], (i11 2), 197⟩) (by exact Weak.cv ⟨jL, jL, jL, jL, jL, jL, jL, trivial⟩ ⟨.inl rfl, .inl rfl, .inl rfl, .inl rfl, trivial⟩ nL) ?_
     refine AW.region ?_
     refine sQ rfl (sp_fieldAddr_own (ob := .box _ _ _) rfl tf_41_1 iL fR rfl) ?_
     refine sQ rfl (ms_load_box (a := .r (.sl (r1.Cuts.map rBool))) rfl ts_38 iL rfl rfl) ?_
     refine sM rfl rfl ?_
     refine sQ rfl (ms_idx rfl tg_38.slice iL iL (fun _ => rfl) (fun _ => ex3)) ?_
     refine sQ rfl (ms_load (d := .bool x3) rfl ts_4 iL rfl) ?_
     refine sQ rfl (sp_not rfl iL) ?_
     refine sM rfl rfl ?_
     refine sV rfl rfl rfl (sp_fieldAddr_own (ob := .box _ _ _) rfl tf_41_2 iL fR rfl) ?_
     refine sV rfl rfl rfl (ms_load_box (a := .r (.sl (r1.Attrs.map (rSl GAttr.row)))) rfl ts_39 (iR rfl) rfl rfl) ?_
     refine sV rfl rfl rfl (sp_move rfl iL) ?_
     refine ob1k h16 fun x5 ex5 h17 => ?_
     refine sV rfl rfl rfl (ms_idx rfl tg_39.slice (iR rfl) (iR rfl) (fun _ => rfl) (gdt ex5)) ?_
     refine sV rfl rfl rfl (ms_load (d := .sl (x5.map GAttr.row)) rfl ts_29 (iR rfl) rfl) ?_
     refine sV rfl rfl rfl (ms_len rfl tg_29.slice (iR rfl)) ?_
     refine sV rfl rfl rfl (sp_gtr rfl (iR rfl) iL) ?_
     refine sQ rfl (sp_and rfl iL (iR rfl)) ?_
     refine sM rfl rfl ?_
     refine sV rfl rfl rfl (sp_fieldAddr_own (ob := .box _ _ _) rfl tf_41_1 iL fR rfl) ?_
     refine sV rfl rfl rfl (ms_load_box (a := .r (.sl (r2.Cuts.map rBool))) rfl ts_38 (iR rfl) rfl rfl) ?_
     refine sV rfl rfl rfl (sp_move rfl iL) ?_
     refine ob1k h17 fun x6 ex6 h18 => ?_
     refine sV rfl rfl rfl (ms_idx rfl tg_38.slice (iR rfl) (iR rfl) (fun _ => rfl) (gdt ex6)) ?_
     refine sV rfl rfl rfl (ms_load (d := .bool x6) rfl ts_4 (iR rfl) rfl) ?_
     refine sV rfl rfl rfl (sp_not rfl (iR rfl)) ?_
     refine sV rfl rfl rfl (sp_move rfl (iR rfl)) ?_
     refine sW (.two rfl rfl rfl) rfl (sp_fieldAddr_own (ob := .box _ _ _) rfl tf_41_2 iL fR rfl) ?_
     refine sW (.two rfl rfl rfl) rfl (ms_load_box (a := .r (.sl (r2.Attrs.map (rSl GAttr.row)))) rfl ts_39 (iR rfl) rfl rfl) ?_
     refine sW (.two rfl rfl rfl) rfl (sp_move rfl iL) ?_
     refine ob1k h18 fun x7 ex7 h19 => ?_
     refine sW (.two rfl rfl rfl) rfl (ms_idx rfl tg_39.slice (iR rfl) (iR rfl) (fun _ => rfl) (gdt ex7)) ?_
     refine sW (.two rfl rfl rfl) rfl (ms_load (d := .sl (x7.map GAttr.row)) rfl ts_29 (iR rfl) rfl) ?_
     refine sW (.two rfl rfl rfl) rfl (ms_len rfl tg_29.slice (iR rfl)) ?_
     refine sW (.two rfl rfl rfl) rfl (sp_gtr rfl (iR rfl) iL) ?_
     refine sV rfl rfl rfl (sp_and rfl (iR rfl) (iR rfl)) ?_
     refine sQ rfl (sp_or rfl iL (iR rfl)) ?_
     refine AOps.nil (hK22 _ ?_)
     refine jb1k h19 fun p3 hp3 hk4 => ?_
     have J4 : ∀ (bad7 : List GConflict) (i12 : Nat → Nat), p3 = bad7 → K21 ⟨[(0, .r (.sl (o1.map GElem.row))), (8, .ptr 8 n0 0 0), (9, .ptr 9 (n0 + 1) 0 0), (10, .own 5010 (i11 0)), (11, .own 5011 (i12 0)), (12, .r (.int .i64 i4))], [(8, some (.box n0 41 [.r (.sl (r1.Adds.map (rSl GElem.row))), .r (.sl (r1.Cuts.map rBool)), .r (.sl (r1.Attrs.map (rSl GAttr.row)))])), (9, some (.box (n0 + 1) 41 [.r (.sl (r2.Adds.map (rSl GElem.row))), .r (.sl (r2.Cuts.map rBool)), .r (.sl (r2.Attrs.map (rSl GAttr.row)))])), (5010, some (.arr (i11 0) 82 3 (out7.map GElem.row))), (5011, some (.arr (i12 0) 89 5 (bad7.map GConflict.row)))], (i12 1), 197⟩ := by
      intro bad7 i12 e
      have h20 := hk4 _ e
      refine hK21 _ ?_
      refine AW.exit ?_
      exact wK10 _ _ ((by exact Weak.cv ⟨jL, jL, jL, jL, jL, jL, trivial⟩ ⟨.inl rfl, .inl rfl, .inl rfl, .inl rfl, trivial⟩ nL)) (J2 _ _ (vec [(i11 0), (i12 0), (i12 1)]) (Option.some.inj h20).symm)
     refine AW.cond rfl (fun hc4 => ?_) (fun hc4 => ?_)
     ·have h21 := ite_t hc4 hp3
      refine AW.weak (s' := ⟨[(0, .r (.sl (o1.map GElem.row))), (8, .ptr 8 n0 0 0), (9, .ptr 9 (n0 + 1) 0 0), (10, .own 5010 (i11 0)), (11, .own 5011 (i11 1)), (12, .r (.int .i64 i4)), (15, .r (.int .i64 (out7.length : Int)))], [(8, some (.box n0 41 [.r (.sl (r1.Adds.map (rSl GElem.row))), .r (.sl (r1.Cuts.map rBool)), .r (.sl (r1.Attrs.map (rSl GAttr.row)))])), (9, some (.box (n0 + 1) 41 [.r (.sl (r2.Adds.map (rSl GElem.row))), .r (.sl (r2.Cuts.map rBool)), .r (.sl (r2.Attrs.map (rSl GAttr.row)))])), (5010, some (.arr (i11 0) 82 3 (out7.map GElem.row))), (5011, some (.arr (i11 1) 89 5 (bad6.map GConflict.row)))], (i11 2), 197⟩) (by exact Weak.cv ⟨jL, jL, jL, jL, jL, jL, jL, trivial⟩ ⟨.inl rfl, .inl rfl, .inl rfl, .inl rfl, trivial⟩ nL) ?_
      refine AW.region ?_
      refine sM rfl rfl ?_
      refine sM rfl rfl ?_
      refine sM rfl rfl ?_
      refine sQ rfl (sp_build rfl tb_89 (q := [(0, _), (2, _), (3, _)]) (by exact ⟨rfl, rfl, rfl, iL, rfl, rfl, rfl, iL, rfl, rfl, rfl, iL, trivial⟩) (cs := [.r (.int .i64 1), .r (.int .i64 0), .r (.int .i64 (out7.length : Int)), .r (.int .i64 (out7.length : Int)), .r (.str [])]) (by rfl)) ?_
      refine AOps.step rfl rfl rfl (ms_lit 122 rfl tg_48 (f := GConflict.row) (l := ([(GConflict.mk 1 0 (out7.length : Int) (out7.length : Int) [])] : List GConflict)) ⟨rfl, ⟨_, iL, rfl⟩, trivial⟩ rfl (fun _ => rfl) rfl) ?_
      refine ob1k h21 fun bad8 ebad8 h22 => ?_
      refine AOps.step rfl rfl rfl (ms_app rfl tg_48 iL rfl (.inr (.inl ⟨_, _, iL, rfl⟩)) ebad8) ?_
      refine sQ rfl (sp_assign rfl iL) ?_
      refine AOps.nil ?_
      exact wK21 _ _ ((by exact Weak.cv ⟨jL, jL, jL, jL, jL, jL, trivial⟩ ⟨.inl rfl, .inl rfl, .inl rfl, .inl rfl, trivial⟩ nL)) (J4 _ (vec [((i11 2) + 1), ((i11 2) + 2)]) (Option.some.inj h22).symm)
     ·have h21 := ite_f hc4 hp3
      refine AW.skip ?_
      exact wK21 _ _ ((by exact Weak.cv ⟨jL, jL, jL, jL, jL, jL, trivial⟩ ⟨.inl rfl, .inl rfl, .inl rfl, .inl rfl, trivial⟩ nL)) (J4 _ (vec [(i11 1), (i11 2)]) (Option.some.inj h21).symm)
    ·have h16 := ite_f hc3 h15
     refine AW.skip ?_
     refine hK19 _ ?_
     refine AW.seq_w fun K23 hK23 wK23 => ?_
     refine AW.seq_w fun K24 hK24 wK24 => ?_
     refine AW.weak (s' := ⟨[(0, .r (.sl (o1.map GElem.row))), (8, .ptr 8 n0 0 0), (9, .ptr 9 (n0 + 1) 0 0), (10, .own 5010 (i11 0)), (11, .own 5011 (i11 1)), (12, .r (.int .i64 i4)), (15, .r (.int .i64 (out7.length : Int)))], [(8, some (.box n0 41 [.r (.sl (r1.Adds.map (rSl GElem.row))), .r (.sl (r1.Cuts.map rBool)), .r (.sl (r1.Attrs.map (rSl GAttr.row)))])), (9, some (.box (n0 + 1) 41 [.r (.sl (r2.Adds.map (rSl GElem.row))), .r (.sl (r2.Cuts.map rBool)), .r (.sl (r2.Attrs.map (rSl GAttr.row)))])), (5010, some (.arr (i11 0) 82 3 (out7.map GElem.row))), (5011, some (.arr (i11 1) 89 5 (bad6.map GConflict.row)))], (i11 2), 197⟩) (by exact Weak.cv ⟨jL, jL, jL, jL, jL, jL, jL, trivial⟩ ⟨.inl rfl, .inl rfl, .inl rfl, .inl rfl, trivial⟩ nL) ?_
     refine AW.region ?_
     refine sQ rfl (sp_fieldAddr_own (ob := .box _ _ _) rfl tf_41_2 iL fR rfl) ?_
     refine sQ rfl (ms_load_box (a := .r (.sl (r1.Attrs.map (rSl GAttr.row)))) rfl ts_39 iL rfl rfl) ?_
     refine sM rfl rfl ?_
     refine ob1k h16 fun x8 ex8 h23 => ?_
     refine sQ rfl (ms_idx rfl tg_39.slice iL iL (fun _ => rfl) (fun _ => ex8)) ?_
     refine sQ rfl (ms_load (d := .sl (x8.map GAttr.row)) rfl ts_29 iL rfl) ?_
     refine sQ rfl (ms_len rfl tg_29.slice iL) ?_
     refine sM rfl rfl ?_
     refine AOps.nil (hK24 _ ?_)
     refine AW.block ?_
     refine jb1k h23 fun o3 hit2 hk5 => ?_
     have J5 : ∀ (bad12 : List GConflict) (i17 : Nat → Nat), o3 = bad12 → K23 ⟨[(0, .r (.sl (o1.map GElem.row))), (8, .ptr 8 n0 0 0), (9, .ptr 9 (n0 + 1) 0 0), (10, .own 5010 (i11 0)), (11, .own 5011 (i17 0)), (12, .r (.int .i64 i4))], [(8, some (.box n0 41 [.r (.sl (r1.Adds.map (rSl GElem.row))), .r (.sl (r1.Cuts.map rBool)), .r (.sl (r1.Attrs.map (rSl GAttr.row)))])), (9, some (.box (n0 + 1) 41 [.r (.sl (r2.Adds.map (rSl GElem.row))), .r (.sl (r2.Cuts.map rBool)), .r (.sl (r2.Attrs.map (rSl GAttr.row)))])), (5010, some (.arr (i11 0) 82 3 (out7.map GElem.row))), (5011, some (.arr (i17 0) 89 5 (bad12.map GConflict.row)))], (i17 1), 197⟩ := by
      intro bad12 i17 e
      have h24 := hk5 _ e
      refine hK23 _ ?_
      refine AW.seq_w fun K25 hK25 wK25 => ?_
      refine AW.region ?_
      refine sM rfl rfl ?_
      refine sM rfl rfl ?_
      refine ob1k h24 fun x12 ex12 h25 => ?_
      refine sQ rfl (ms_idx rfl tg_22.slice iL iL (fun _ => rfl) (fun _ => ex12)) ?_
      refine sQ rfl (ms_loadA (cs := [.r (.int .i64 x12.Char), .r (.int .i64 x12.Ref), .r (.sl (x12.Attrs.map GAttr.row))]) rfl ta_82 iL rfl rfl) ?_
      refine AOps.step rfl rfl rfl (ms_alloc (cs := [.r (.int .i64 0), .r (.int .i64 0), .cst (.slice none 0 0)]) 18 rfl t0_82 rfl rfl) ?_
      refine AOps.step0 rfl rfl (ms_store_box (ds := [.r (.int .i64 x12.Char), .r (.int .i64 x12.Ref), .r (.sl (x12.Attrs.map GAttr.row))]) rfl tz_82 iL rfl iL rfl rfl rfl rfl) ?_
      refine AOps.nil (hK25 _ ?_)
      refine AW.seq_w fun K26 hK26 wK26 => ?_
      refine ob1k h25 fun x13 ex13 h26 => ?_
      refine ob1k h26 fun r4 er4 h27 => ?_
      refine AW.regionP 13 [⟨some 176, (fun _ => .ptr 18 (i17 1) 0 2), none, []⟩, ⟨some 177, (fun _ => .r (.sl (x12.Attrs.map GAttr.row))), none, []⟩, ⟨some 178, (fun _ => .ptr 9 (n0 + 1) 0 2), none, []⟩, ⟨some 179, (fun _ => .r (.sl (r2.Attrs.map (rSl GAttr.row)))), none, []⟩, ⟨some 180, (fun _ => .r (.int .i64 i4)), none, []⟩, ⟨some 181, (fun _ => .rop ((rSl GAttr.row) x13) 0), none, []⟩, ⟨some 182, (fun _ => .r (.sl (x13.map GAttr.row))), none, []⟩, ⟨some 183, (fun _ => .r (.sl (r4.map GAttr.row))), none, []⟩, ⟨some 184, (fun _ => .ptr 8 n0 0 2), none, []⟩, ⟨some 185, (fun _ => .r (.sl (r1.Attrs.map (rSl GAttr.row)))), none, []⟩, ⟨some 186, (fun _ => .r (.int .i64 i4)), none, []⟩, ⟨some 187, (fun _ => .rop ((rSl GAttr.row) x8) 0), none, []⟩, ⟨some 188, (fun _ => .r (.sl (x8.map GAttr.row))), none, []⟩] hmix (by kernel_rfl) (by exact ⟨fun _ _ h => ⟨rfl, fun _ _ e => by cases e⟩, fun _ _ h => ⟨rfl, fun _ _ e => by cases e⟩, fun _ _ h => ⟨rfl, fun _ _ e => by cases e⟩, fun _ _ h => ⟨rfl, fun _ _ e => by cases e⟩, fun _ _ h => ⟨rfl, fun _ _ e => by cases e⟩, fun _ _ h => ⟨rfl, fun _ _ e => by cases e⟩, fun _ _ h => ⟨rfl, fun _ _ e => by cases e⟩, fun _ _ h => ⟨rfl, fun _ _ e => by cases e⟩, fun _ _ h => ⟨rfl, fun _ _ e => by cases e⟩, fun _ _ h => ⟨rfl, fun _ _ e => by cases e⟩, fun _ _ h => ⟨rfl, fun _ _ e => by cases e⟩, fun _ _ h => ⟨rfl, fun _ _ e => by cases e⟩, fun _ _ h => ⟨rfl, fun _ _ e => by cases e⟩, trivial⟩) rfl (by exact ⟨Ob.quiet (n1 := fun n => n) rfl rfl (by intro d h; cases h; rfl) rfl (fun _ => [(18, .ptr 18 (i17 1) 0 0)]) (fun _ => [(18, some (.box (i17 1) 82 [.r (.int .i64 x12.Char), .r (.int .i64 x12.Ref), .r (.sl (x12.Attrs.map GAttr.row))]))]) (fun D G1 hr => ⟨inE_base rfl rfl, trivial⟩) (fun D G1 hr => ⟨inH_base rfl rfl, trivial⟩) (fun _ _ => rfl) (fun G1 e h' n => OpQ.spec (v := .ptr 18 (i17 1) 0 2) (sp_fieldAddr_own (ob := .box _ _ _) rfl tf_82_2 (.inl rfl) (fun _ => rfl) rfl) _),
        Ob.quiet (n1 := fun n => n) rfl rfl (by intro d h; cases h; rfl) rfl (fun _ => [(176, .ptr 18 (i17 1) 0 2)]) (fun _ => [(18, some (.box (i17 1) 82 [.r (.int .i64 x12.Char), .r (.int .i64 x12.Ref), .r (.sl (x12.Attrs.map GAttr.row))]))]) (fun D G1 hr => ⟨inE_op hr 0 rfl rfl (by kernel_rfl) rfl rfl, trivial⟩) (fun D G1 hr => ⟨inH_base rfl rfl, trivial⟩) (fun _ _ => rfl) (fun G1 e h' n => OpQ.spec (v := .r (.sl (x12.Attrs.map GAttr.row))) (ms_load_box (a := .r (.sl (x12.Attrs.map GAttr.row))) rfl ts_29 (.inl rfl) rfl rfl) _),
        Ob.quiet (n1 := fun n => n) rfl rfl (by intro d h; cases h; rfl) rfl (fun _ => [(9, .ptr 9 (n0 + 1) 0 0)]) (fun _ => [(9, some (.box (n0 + 1) 41 [.r (.sl (r2.Adds.map (rSl GElem.row))), .r (.sl (r2.Cuts.map rBool)), .r (.sl (r2.Attrs.map (rSl GAttr.row)))]))]) (fun D G1 hr => ⟨inE_base rfl rfl, trivial⟩) (fun D G1 hr => ⟨inH_base rfl rfl, trivial⟩) (fun _ _ => rfl) (fun G1 e h' n => OpQ.spec (v := .ptr 9 (n0 + 1) 0 2) (sp_fieldAddr_own (ob := .box _ _ _) rfl tf_41_2 (.inl rfl) (fun _ => rfl) rfl) _),
        Ob.quiet (n1 := fun n => n) rfl rfl (by intro d h; cases h; rfl) rfl (fun _ => [(178, .ptr 9 (n0 + 1) 0 2)]) (fun _ => [(9, some (.box (n0 + 1) 41 [.r (.sl (r2.Adds.map (rSl GElem.row))), .r (.sl (r2.Cuts.map rBool)), .r (.sl (r2.Attrs.map (rSl GAttr.row)))]))]) (fun D G1 hr => ⟨inE_op hr 2 rfl rfl (by kernel_rfl) rfl rfl, trivial⟩) (fun D G1 hr => ⟨inH_base rfl rfl, trivial⟩) (fun _ _ => rfl) (fun G1 e h' n => OpQ.spec (v := .r (.sl (r2.Attrs.map (rSl GAttr.row)))) (ms_load_box (a := .r (.sl (r2.Attrs.map (rSl GAttr.row)))) rfl ts_39 (.inl rfl) rfl rfl) _),
        Ob.quiet (n1 := fun n => n) rfl rfl (by intro d h; cases h; rfl) rfl (fun _ => [(12, .r (.int .i64 i4))]) (fun _ => []) (fun D G1 hr => ⟨inE_base rfl rfl, trivial⟩) (fun D G1 hr => trivial) (fun _ _ => rfl) (fun G1 e h' n => OpQ.spec (v := .r (.int .i64 i4)) (sp_move rfl (.inl rfl)) _),
        Ob.quiet (n1 := fun n => n) rfl rfl (by intro d h; cases h; rfl) rfl (fun _ => [(179, .r (.sl (r2.Attrs.map (rSl GAttr.row)))), (180, .r (.int .i64 i4))]) (fun _ => []) (fun D G1 hr => ⟨inE_op hr 3 rfl rfl (by kernel_rfl) rfl rfl, inE_op hr 4 rfl rfl (by kernel_rfl) rfl rfl, trivial⟩) (fun D G1 hr => trivial) (fun _ _ => rfl) (fun G1 e h' n => OpQ.spec (v := .rop ((rSl GAttr.row) x13) 0) (ms_idx rfl tg_39.slice (.inl rfl) (.inl rfl) (fun _ => rfl) (fun _ => ex13)) _),
        Ob.quiet (n1 := fun n => n) rfl rfl (by intro d h; cases h; rfl) rfl (fun _ => [(181, .rop ((rSl GAttr.row) x13) 0)]) (fun _ => []) (fun D G1 hr => ⟨inE_op hr 5 rfl rfl (by kernel_rfl) rfl rfl, trivial⟩) (fun D G1 hr => trivial) (fun _ _ => rfl) (fun G1 e h' n => OpQ.spec (v := .r (.sl (x13.map GAttr.row))) (ms_load (d := .sl (x13.map GAttr.row)) rfl ts_29 (.inl rfl) rfl) _),
        Ob.quiet (n1 := fun n => n) rfl rfl (by intro d h; cases h; rfl) rfl (fun _ => [(177, .r (.sl (x12.Attrs.map GAttr.row))), (182, .r (.sl (x13.map GAttr.row)))]) (fun _ => []) (fun D G1 hr => ⟨inE_op hr 1 rfl rfl (by kernel_rfl) rfl rfl, inE_op hr 6 rfl rfl (by kernel_rfl) rfl rfl, trivial⟩) (fun D G1 hr => trivial) (fun _ _ => rfl) (fun G1 e h' n => sp_callS (r := .r (.sl (r4.map GAttr.row))) (caps := []) (bs := [.r (.sl (x12.Attrs.map GAttr.row)), .r (.sl (x13.map GAttr.row))]) rfl (.inl rfl) rfl ⟨.inl ⟨(.inl rfl), rfl⟩, .inl ⟨(.inl rfl), rfl⟩, trivial⟩ (fun _ => w_ref_Changed (er4))),
        Ob.quiet (n1 := fun n => n) rfl rfl (by intro d h; cases h; rfl) rfl (fun _ => [(8, .ptr 8 n0 0 0)]) (fun _ => [(8, some (.box n0 41 [.r (.sl (r1.Adds.map (rSl GElem.row))), .r (.sl (r1.Cuts.map rBool)), .r (.sl (r1.Attrs.map (rSl GAttr.row)))]))]) (fun D G1 hr => ⟨inE_base rfl rfl, trivial⟩) (fun D G1 hr => ⟨inH_base rfl rfl, trivial⟩) (fun _ _ => rfl) (fun G1 e h' n => OpQ.spec (v := .ptr 8 n0 0 2) (sp_fieldAddr_own (ob := .box _ _ _) rfl tf_41_2 (.inl rfl) (fun _ => rfl) rfl) _),
        Ob.quiet (n1 := fun n => n) rfl rfl (by intro d h; cases h; rfl) rfl (fun _ => [(184, .ptr 8 n0 0 2)]) (fun _ => [(8, some (.box n0 41 [.r (.sl (r1.Adds.map (rSl GElem.row))), .r (.sl (r1.Cuts.map rBool)), .r (.sl (r1.Attrs.map (rSl GAttr.row)))]))]) (fun D G1 hr => ⟨inE_op hr 8 rfl rfl (by kernel_rfl) rfl rfl, trivial⟩) (fun D G1 hr => ⟨inH_base rfl rfl, trivial⟩) (fun _ _ => rfl) (fun G1 e h' n => OpQ.spec (v := .r (.sl (r1.Attrs.map (rSl GAttr.row)))) (ms_load_box (a := .r (.sl (r1.Attrs.map (rSl GAttr.row)))) rfl ts_39 (.inl rfl) rfl rfl) _),
        Ob.quiet (n1 := fun n => n) rfl rfl (by intro d h; cases h; rfl) rfl (fun _ => [(12, .r (.int .i64 i4))]) (fun _ => []) (fun D G1 hr => ⟨inE_base rfl rfl, trivial⟩) (fun D G1 hr => trivial) (fun _ _ => rfl) (fun G1 e h' n => OpQ.spec (v := .r (.int .i64 i4)) (sp_move rfl (.inl rfl)) _),
        Ob.quiet (n1 := fun n => n) rfl rfl (by intro d h; cases h; rfl) rfl (fun _ => [(185, .r (.sl (r1.Attrs.map (rSl GAttr.row)))), (186, .r (.int .i64 i4))]) (fun _ => []) (fun D G1 hr => ⟨inE_op hr 9 rfl rfl (by kernel_rfl) rfl rfl, inE_op hr 10 rfl rfl (by kernel_rfl) rfl rfl, trivial⟩) (fun D G1 hr => trivial) (fun _ _ => rfl) (fun G1 e h' n => OpQ.spec (v := .rop ((rSl GAttr.row) x8) 0) (ms_idx rfl tg_39.slice (.inl rfl) (.inl rfl) (fun _ => rfl) (fun _ => ex8)) _),
        Ob.quiet (n1 := fun n => n) rfl rfl (by intro d h; cases h; rfl) rfl (fun _ => [(187, .rop ((rSl GAttr.row) x8) 0)]) (fun _ => []) (fun D G1 hr => ⟨inE_op hr 11 rfl rfl (by kernel_rfl) rfl rfl, trivial⟩) (fun D G1 hr => trivial) (fun _ _ => rfl) (fun G1 e h' n => OpQ.spec (v := .r (.sl (x8.map GAttr.row))) (ms_load (d := .sl (x8.map GAttr.row)) rfl ts_29 (.inl rfl) rfl) _),
        trivial⟩) fun G1 n1 => ?_
      refine AOps.weak (s' := ⟨[(0, .r (.sl (o1.map GElem.row))), (8, .ptr 8 n0 0 0), (9, .ptr 9 (n0 + 1) 0 0), (10, .own 5010 (i11 0)), (11, .own 5011 (i17 0)), (12, .r (.int .i64 i4)), (18, .ptr 18 (i17 1) 0 0), (172, .r (.sl (o1.map GElem.row))), (173, .r (.int .i64 i4)), (174, .rop (GElem.row x12) 0), (175, .agg [.r (.int .i64 x12.Char), .r (.int .i64 x12.Ref), .r (.sl (x12.Attrs.map GAttr.row))]), (176, .ptr 18 (i17 1) 0 2), (177, .r (.sl (x12.Attrs.map GAttr.row))), (178, .ptr 9 (n0 + 1) 0 2), (179, .r (.sl (r2.Attrs.map (rSl GAttr.row)))), (180, .r (.int .i64 i4)), (181, .rop ((rSl GAttr.row) x13) 0), (182, .r (.sl (x13.map GAttr.row))), (183, .r (.sl (r4.map GAttr.row))), (184, .ptr 8 n0 0 2), (185, .r (.sl (r1.Attrs.map (rSl GAttr.row)))), (186, .r (.int .i64 i4)), (187, .rop ((rSl GAttr.row) x8) 0), (188, .r (.sl (x8.map GAttr.row)))], [(8, some (.box n0 41 [.r (.sl (r1.Adds.map (rSl GElem.row))), .r (.sl (r1.Cuts.map rBool)), .r (.sl (r1.Attrs.map (rSl GAttr.row)))])), (9, some (.box (n0 + 1) 41 [.r (.sl (r2.Adds.map (rSl GElem.row))), .r (.sl (r2.Cuts.map rBool)), .r (.sl (r2.Attrs.map (rSl GAttr.row)))])), (18, some (.box (i17 1) 82 [.r (.int .i64 x12.Char), .r (.int .i64 x12.Ref), .r (.sl (x12.Attrs.map GAttr.row))])), (5010, some (.arr (i11 0) 82 3 (out7.map GElem.row))), (5011, some (.arr (i17 0) 89 5 (bad12.map GConflict.row)))], n1, 197⟩) (by exact Weak.cv ⟨jL, jL, jL, jL, jL, jL, jL, jL, jL, jL, jL, jL, jL, jL, jL, jL, jL, jL, jL, jL, jL, jL, jL, jL, trivial⟩ ⟨.inl rfl, .inl rfl, .inl rfl, .inl rfl, .inl rfl, trivial⟩ nL) ?_
      refine ob1k h27 fun r5 er5 h28 => ?_
      refine AOps.step rfl rfl rfl (sp_callS (r := .r (.sl (r5.map GAttr.row))) (caps := []) (bs := [.r (.sl (r4.map GAttr.row)), .r (.sl (x8.map GAttr.row))]) rfl iL rfl ⟨.inl ⟨iL, rfl⟩, .inl ⟨iL, rfl⟩, trivial⟩ (fun _ => w_ref_Changed (er5))) ?_
      refine sQ rfl (sp_fieldAddr_own (ob := .box _ _ _) rfl tf_82_2 iL fR rfl) ?_
      refine AOps.step0 rfl rfl (ms_store_box (ds := [.r (.int .i64 x12.Char), .r (.int .i64 x12.Ref), .r (.sl (r5.map GAttr.row))]) rfl tz_29 iL rfl iL rfl rfl rfl rfl) ?_
      refine AOps.nil (hK26 _ ?_)
      refine AW.weak (s' := ⟨[(0, .r (.sl (o1.map GElem.row))), (8, .ptr 8 n0 0 0), (9, .ptr 9 (n0 + 1) 0 0), (10, .own 5010 (i11 0)), (11, .own 5011 (i17 0)), (12, .r (.int .i64 i4)), (18, .ptr 18 (i17 1) 0 0)], [(8, some (.box n0 41 [.r (.sl (r1.Adds.map (rSl GElem.row))), .r (.sl (r1.Cuts.map rBool)), .r (.sl (r1.Attrs.map (rSl GAttr.row)))])), (9, some (.box (n0 + 1) 41 [.r (.sl (r2.Adds.map (rSl GElem.row))), .r (.sl (r2.Cuts.map rBool)), .r (.sl (r2.Attrs.map (rSl GAttr.row)))])), (18, some (.box (i17 1) 82 [.r (.int .i64 x12.Char), .r (.int .i64 x12.Ref), .r (.sl (r5.map GAttr.row))])), (5010, some (.arr (i11 0) 82 3 (out7.map GElem.row))), (5011, some (.arr (i17 0) 89 5 (bad12.map GConflict.row)))], n1, 197⟩) (by exact Weak.cv ⟨jL, jL, jL, jL, jL, jL, jL, trivial⟩ ⟨.inl rfl, .inl rfl, .inl rfl, .inl rfl, .inl rfl, trivial⟩ nL) ?_
      refine AW.region ?_
      refine sM rfl rfl ?_
      refine sQ rfl (ms_loadA_box rfl ta_82 iL rfl rfl) ?_
      refine AOps.step rfl rfl rfl (ms_lit 193 rfl tg_22 (f := GElem.row) (l := ([(GElem.mk x12.Char x12.Ref r5)] : List GElem)) ⟨rfl, ⟨_, iL, rfl⟩, trivial⟩ rfl (fun _ => rfl) rfl) ?_
      refine ob1k h28 fun out8 eout8 h29 => ?_
      refine AOps.step rfl rfl rfl (ms_app rfl tg_22 iL rfl (.inr (.inl ⟨_, _, iL, rfl⟩)) eout8) ?_
      refine sQ rfl (sp_assign rfl iL) ?_
      refine AOps.nil ?_
      exact wK10 _ _ ((by exact Weak.cv ⟨jL, jL, jL, jL, jL, jL, trivial⟩ ⟨.inl rfl, .inl rfl, .inl rfl, .inl rfl, trivial⟩ nL)) (J2 _ _ (vec [(n1 + 1), (i17 0), (n1 + 2)]) (Option.some.inj h29).symm)
     refine AW.iter2 (fun (x10 : Int) (bad10 : List GConflict) i15 => ⟨[(0, .r (.sl (o1.map GElem.row))), (8, .ptr 8 n0 0 0), (9, .ptr 9 (n0 + 1) 0 0), (10, .own 5010 (i11 0)), (11, .own 5011 (i15 0)), (12, .r (.int .i64 i4)), (15, .r (.int .i64 (out7.length : Int))), (129, .r (.int .i64 (x8.length : Int))), (130, .r (.int .i64 x10))], [(8, some (.box n0 41 [.r (.sl (r1.Adds.map (rSl GElem.row))), .r (.sl (r1.Cuts.map rBool)), .r (.sl (r1.Attrs.map (rSl GAttr.row)))])), (9, some (.box (n0 + 1) 41 [.r (.sl (r2.Adds.map (rSl GElem.row))), .r (.sl (r2.Cuts.map rBool)), .r (.sl (r2.Attrs.map (rSl GAttr.row)))])), (5010, some (.arr (i11 0) 82 3 (out7.map GElem.row))), (5011, some (.arr (i15 0) 89 5 (bad10.map GConflict.row)))], (i15 1), 197⟩) (vec [(i11 1), (i11 2)]) hit2 ((by exact Weak.cv ⟨jL, jL, jL, jL, jL, jL, jL, jL, jL, trivial⟩ ⟨.inl rfl, .inl rfl, .inl rfl, .inl rfl, trivial⟩ nL)) ?_
     intro x10 bad10 i15 v2 hv2 hx2
     have h30 : ref_Merged_L2 r2 i4 out7 x8 x10 bad10 = some v2 := hv2; unfold ref_Merged_L2 at h30
     refine AW.seq_w fun K27 hK27 wK27 => ?_
     refine AW.region ?_
     refine sQ rfl (sp_lss rfl iL iL) ?_
     refine AOps.nil (hK27 _ ?_)
     refine AW.seq_w fun K28 hK28 wK28 => ?_
     refine AW.cond rfl (fun hc5 => ?_) (fun hc5 => ?_)
     ·have h31 := ite_t hc5 h30
      refine AW.skip ?_
      refine hK28 _ ?_
      refine AW.seq_w fun K29 hK29 wK29 => ?_
      refine AW.block ?_
      refine jb1k h31 fun p4 hp4 hk6 => ?_
      have J6 : ∀ (bad13 : List GConflict) (i18 : Nat → Nat), p4 = bad13 → K29 ⟨[(0, .r (.sl (o1.map GElem.row))), (8, .ptr 8 n0 0 0), (9, .ptr 9 (n0 + 1) 0 0), (10, .own 5010 (i11 0)), (11, .own 5011 (i18 0)), (12, .r (.int .i64 i4)), (15, .r (.int .i64 (out7.length : Int))), (129, .r (.int .i64 (x8.length : Int))), (130, .r (.int .i64 x10))], [(8, some (.box n0 41 [.r (.sl (r1.Adds.map (rSl GElem.row))), .r (.sl (r1.Cuts.map rBool)), .r (.sl (r1.Attrs.map (rSl GAttr.row)))])), (9, some (.box (n0 + 1) 41 [.r (.sl (r2.Adds.map (rSl GElem.row))), .r (.sl (r2.Cuts.map rBool)), .r (.sl (r2.Attrs.map (rSl GAttr.row)))])), (5010, some (.arr (i11 0) 82 3 (out7.map GElem.row))), (5011, some (.arr (i18 0) 89 5 (bad13.map GConflict.row)))], (i18 1), 197⟩ := by
       intro bad13 i18 e
       have h32 := hk6 _ e
       refine hK29 _ ?_
       refine AW.region ?_
       refine ob1k h32 fun x14 ex14 h33 => ?_
       refine sQ rfl (ms_add rfl iL iL (fun _ => ex14)) ?_
       refine sM rfl rfl ?_
       refine AOps.nil ?_
       exact NextQ2.mk h33 (vec [(i18 0), (i18 1)]) ((by exact Weak.cv ⟨jL, jL, jL, jL, jL, jL, jL, jL, jL, trivial⟩ ⟨.inl rfl, .inl rfl, .inl rfl, .inl rfl, trivial⟩ nL))
      refine AW.seq_w fun K30 hK30 wK30 => ?_
      refine AW.region ?_
      refine sM rfl rfl ?_
      refine sQ rfl (sp_assign rfl iL) ?_
      refine AOps.nil (hK30 _ ?_)
      refine AW.seq_w fun K31 hK31 wK31 => ?_
      refine AW.region ?_
      refine sQ rfl (sp_fieldAddr_own (ob := .box _ _ _) rfl tf_41_2 iL fR rfl) ?_
      refine sQ rfl (ms_load_box (a := .r (.sl (r1.Attrs.map (rSl GAttr.row)))) rfl ts_39 iL rfl rfl) ?_
      refine sM rfl rfl ?_
      refine sQ rfl (ms_idx rfl tg_39.slice iL iL (fun _ => rfl) (fun _ => ex8)) ?_
      refine sQ rfl (ms_load (d := .sl (x8.map GAttr.row)) rfl ts_29 iL rfl) ?_
      refine sM rfl rfl ?_
      refine ob1k hp4 fun x15 ex15 h34 => ?_
      refine sQ rfl (ms_idx rfl tg_29.slice iL iL (fun _ => rfl) (fun _ => ex15)) ?_
      refine sQ rfl (ms_loadA (cs := [.r (.str x15.Name), .r (.str x15.Value)]) rfl ta_92 iL rfl rfl) ?_
      refine AOps.step rfl rfl rfl (ms_alloc (cs := [.r (.str []), .r (.str [])]) 17 rfl t0_92 rfl rfl) ?_
      refine AOps.step0 rfl rfl (ms_store_box (ds := [.r (.str x15.Name), .r (.str x15.Value)]) rfl tz_92 iL rfl iL rfl rfl rfl rfl) ?_
      refine AOps.nil (hK31 _ ?_)
      refine AW.seq_w fun K32 hK32 wK32 => ?_
      refine AW.weak (s' := ⟨[(0, .r (.sl (o1.map GElem.row))), (8, .ptr 8 n0 0 0), (9, .ptr 9 (n0 + 1) 0 0), (10, .own 5010 (i11 0)), (11, .own 5011 (i15 0)), (12, .r (.int .i64 i4)), (15, .r (.int .i64 (out7.length : Int))), (17, .ptr 17 (i15 1) 0 0), (129, .r (.int .i64 (x8.length : Int))), (130, .r (.int .i64 x10))], [(8, some (.box n0 41 [.r (.sl (r1.Adds.map (rSl GElem.row))), .r (.sl (r1.Cuts.map rBool)), .r (.sl (r1.Attrs.map (rSl GAttr.row)))])), (9, some (.box (n0 + 1) 41 [.r (.sl (r2.Adds.map (rSl GElem.row))), .r (.sl (r2.Cuts.map rBool)), .r (.sl (r2.Attrs.map (rSl GAttr.row)))])), (17, some (.box (i15 1) 92 [.r (.str x15.Name), .r (.str x15.Value)])), (5010, some (.arr (i11 0) 82 3 (out7.map GElem.row))), (5011, some (.arr (i15 0) 89 5 (bad10.map GConflict.row)))], ((i15 1) + 1), 197⟩) (by exact Weak.cv ⟨jL, jL, jL, jL, jL, jL, jL, jL, jL, jL, trivial⟩ ⟨.inl rfl, .inl rfl, .inl rfl, .inl rfl, .inl rfl, trivial⟩ nL) ?_
      refine AW.regionQ hmix (by kernel_rfl) ?_
      refine AQ.step rfl rfl rfl (sp_fieldAddr_own (ob := .box _ _ _) rfl tf_41_2 iL fR rfl) ?_
      refine AQ.step rfl rfl rfl (ms_load_box (a := .r (.sl (r2.Attrs.map (rSl GAttr.row)))) rfl ts_39 iL rfl rfl) ?_
      refine AQ.step rfl rfl rfl (sp_move rfl iL) ?_
      refine ob1k h34 fun x16 ex16 h35 => ?_
      refine AQ.step rfl rfl rfl (ms_idx rfl tg_39.slice iL iL (fun _ => rfl) (fun _ => ex16)) ?_
      refine AQ.step rfl rfl rfl (ms_load (d := .sl (x16.map GAttr.row)) rfl ts_29 iL rfl) ?_
      refine AQ.step rfl rfl rfl (sp_fieldAddr_own (ob := .box _ _ _) rfl tf_92_0 iL fR rfl) ?_
      refine AQ.step rfl rfl rfl (ms_load_box (a := .r (.str x15.Name)) rfl ts_9 iL rfl rfl) ?_
      refine ob1k h35 fun r6 er6 h36 => ?_
      refine AQ.stepC rfl rfl rfl (r := .r (.bool r6)) (caps := []) (bs := [.r (.sl (x16.map GAttr.row)), .r (.str x15.Name)]) rfl iL rfl ⟨⟨_, iL, .d rfl⟩, ⟨_, iL, .d rfl⟩, trivial⟩ (fun _ => w_ref_Has (er6)) rfl ?_
      refine AQ.step rfl rfl rfl (sp_move rfl iL) ?_
      refine AQ.stepW (.one rfl rfl rfl) rfl rfl (sp_fieldAddr_own (ob := .box _ _ _) rfl tf_41_2 iL fR rfl) ?_
      refine AQ.stepW (.one rfl rfl rfl) rfl rfl (ms_load_box (a := .r (.sl (r2.Attrs.map (rSl GAttr.row)))) rfl ts_39 (iR rfl) rfl rfl) ?_
      refine AQ.stepW (.one rfl rfl rfl) rfl rfl (sp_move rfl iL) ?_
      refine AQ.stepW (.one rfl rfl rfl) rfl rfl (ms_idx rfl tg_39.slice (iR rfl) (iR rfl) (fun _ => rfl) (fun _ => ex16)) ?_
      refine AQ.stepW (.one rfl rfl rfl) rfl rfl (ms_load (d := .sl (x16.map GAttr.row)) rfl ts_29 (iR rfl) rfl) ?_
      refine AQ.stepW (.one rfl rfl rfl) rfl rfl (sp_fieldAddr_own (ob := .box _ _ _) rfl tf_92_0 iL fR rfl) ?_
      refine AQ.stepW (.one rfl rfl rfl) rfl rfl (ms_load_box (a := .r (.str x15.Name)) rfl ts_9 (iR rfl) rfl rfl) ?_
      refine ob1k h36 fun r7 er7 h37 => ?_
      refine AQ.stepWC (.one rfl rfl rfl) rfl rfl (r := .r (.str r7)) (caps := []) (bs := [.r (.sl (x16.map GAttr.row)), .r (.str x15.Name)]) rfl iL rfl ⟨⟨_, (iR rfl), .d rfl⟩, ⟨_, (iR rfl), .d rfl⟩, trivial⟩ (fun hg => w_ref_Get (gdt er7 hg)) rfl ?_
      refine AQ.stepW (.one rfl rfl rfl) rfl rfl (sp_fieldAddr_own (ob := .box _ _ _) rfl tf_92_1 iL fR rfl) ?_
      refine AQ.stepW (.one rfl rfl rfl) rfl rfl (ms_load_box (a := .r (.str x15.Value)) rfl ts_9 (iR rfl) rfl rfl) ?_
      refine AQ.stepW (.one rfl rfl rfl) rfl rfl (sp_sneq rfl (iR rfl) (iR rfl)) ?_
      refine AQ.step rfl rfl rfl (sp_and rfl iL (iR rfl)) ?_
      refine AQ.nil ?_
      refine hK32 _ ?_
      refine AW.cond rfl (fun hc6 => ?_) (fun hc6 => ?_)
      ·have h38 := ite_t hc6 h37
       refine AW.weak (s' := ⟨[(0, .r (.sl (o1.map GElem.row))), (8, .ptr 8 n0 0 0), (9, .ptr 9 (n0 + 1) 0 0), (10, .own 5010 (i11 0)), (11, .own 5011 (i15 0)), (12, .r (.int .i64 i4)), (15, .r (.int .i64 (out7.length : Int))), (17, .ptr 17 (i15 1) 0 0), (129, .r (.int .i64 (x8.length : Int))), (130, .r (.int .i64 x10))], [(8, some (.box n0 41 [.r (.sl (r1.Adds.map (rSl GElem.row))), .r (.sl (r1.Cuts.map rBool)), .r (.sl (r1.Attrs.map (rSl GAttr.row)))])), (9, some (.box (n0 + 1) 41 [.r (.sl (r2.Adds.map (rSl GElem.row))), .r (.sl (r2.Cuts.map rBool)), .r (.sl (r2.Attrs.map (rSl GAttr.row)))])), (17, some (.box (i15 1) 92 [.r (.str x15.Name), .r (.str x15.Value)])), (5010, some (.arr (i11 0) 82 3 (out7.map GElem.row))), (5011, some (.arr (i15 0) 89 5 (bad10.map GConflict.row)))], ((i15 1) + 1), 197⟩) (by exact Weak.cv ⟨jL, jL, jL, jL, jL, jL, jL, jL, jL, jL, trivial⟩ ⟨.inl rfl, .inl rfl, .inl rfl, .inl rfl, .inl rfl, trivial⟩ nL) ?_
       refine AW.region ?_
       refine sM rfl rfl ?_
       refine sM rfl rfl ?_
       refine sM rfl rfl ?_
       refine ob1k h38 fun x17 ex17 h39 => ?_
       refine sQ rfl (ms_add rfl iL iL (fun _ => ex17)) ?_
       refine sQ rfl (sp_fieldAddr_own (ob := .box _ _ _) rfl tf_92_0 iL fR rfl) ?_
       refine sQ rfl (ms_load_box (a := .r (.str x15.Name)) rfl ts_9 iL rfl rfl) ?_
       refine sQ rfl (sp_build rfl tb_89 (q := [(0, _), (2, _), (3, _), (4, _)]) (by exact ⟨rfl, rfl, rfl, iL, rfl, rfl, rfl, iL, rfl, rfl, rfl, iL, rfl, rfl, rfl, iL, trivial⟩) (cs := [.r (.int .i64 2), .r (.int .i64 0), .r (.int .i64 (out7.length : Int)), .r (.int .i64 x17), .r (.str x15.Name)]) (by rfl)) ?_
       refine AOps.step rfl rfl rfl (ms_lit 169 rfl tg_48 (f := GConflict.row) (l := ([(GConflict.mk 2 0 (out7.length : Int) x17 x15.Name)] : List GConflict)) ⟨rfl, ⟨_, iL, rfl⟩, trivial⟩ rfl (fun _ => rfl) rfl) ?_
       refine ob1k h39 fun bad14 ebad14 h40 => ?_
       refine AOps.step rfl rfl rfl (ms_app rfl tg_48 iL rfl (.inr (.inl ⟨_, _, iL, rfl⟩)) ebad14) ?_
       refine sQ rfl (sp_assign rfl iL) ?_
       refine AOps.nil ?_
       exact wK29 _ _ ((by exact Weak.cv ⟨jL, jL, jL, jL, jL, jL, jL, jL, jL, trivial⟩ ⟨.inl rfl, .inl rfl, .inl rfl, .inl rfl, trivial⟩ nL)) (J6 _ (vec [((i15 1) + 2), ((i15 1) + 3)]) (Option.some.inj h40).symm)
      ·have h38 := ite_f hc6 h37
       refine AW.skip ?_
       exact wK29 _ _ ((by exact Weak.cv ⟨jL, jL, jL, jL, jL, jL, jL, jL, jL, trivial⟩ ⟨.inl rfl, .inl rfl, .inl rfl, .inl rfl, trivial⟩ nL)) (J6 _ (vec [(i15 0), ((i15 1) + 1)]) (Option.some.inj h38).symm)
     ·have h31 := ite_f hc5 h30
      refine AW.exit ?_
      exact wK23 _ _ ((by exact Weak.cv ⟨jL, jL, jL, jL, jL, jL, trivial⟩ ⟨.inl rfl, .inl rfl, .inl rfl, .inl rfl, trivial⟩ nL)) (J5 _ (vec [(i15 0), (i15 1)]) (hx2 _ (Option.some.inj h31).symm))
  refine AW.cond rfl (fun hc7 => ?_) (fun hc7 => ?_)
  ·have h41 := ite_t hc7 hp2
   refine AW.seq_w fun K33 hK33 wK33 => ?_
   refine AW.region ?_
   refine sM rfl rfl ?_
   refine sM rfl rfl ?_
   refine ob1k h41 fun out9 eout9 h42 => ?_
   refine AOps.step rfl rfl rfl (ms_app rfl tg_22 iL rfl (.inl ⟨iL, fun _ => rfl⟩) eout9) ?_
   refine sQ rfl (sp_assign rfl iL) ?_
   refine AOps.nil (hK33 _ ?_)
   refine AW.seq_w fun K34 hK34 wK34 => ?_
   refine AW.region ?_
   refine sM rfl rfl ?_
   refine sQ rfl (ms_len rfl tg_22.slice iL) ?_
   refine sQ rfl (sp_gtr rfl iL iL) ?_
   refine sM rfl rfl ?_
   refine sV rfl rfl rfl (sp_move rfl iL) ?_
   refine sV rfl rfl rfl (ms_len rfl tg_22.slice (iR rfl)) ?_
   refine sV rfl rfl rfl (sp_gtr rfl (iR rfl) iL) ?_
   refine sQ rfl (sp_and rfl iL (iR rfl)) ?_
   refine AOps.nil (hK34 _ ?_)
   refine AW.cond rfl (fun hc8 => ?_) (fun hc8 => ?_)
   ·have h43 := ite_t hc8 h42
    refine AW.weak (s' := ⟨[(0, .r (.sl (o1.map GElem.row))), (8, .ptr 8 n0 0 0), (9, .ptr 9 (n0 + 1) 0 0), (10, .own 5010 ((i5 2) + 1)), (11, .own 5011 (i5 1)), (12, .r (.int .i64 i4)), (15, .r (.int .i64 (out2.length : Int)))], [(8, some (.box n0 41 [.r (.sl (r1.Adds.map (rSl GElem.row))), .r (.sl (r1.Cuts.map rBool)), .r (.sl (r1.Attrs.map (rSl GAttr.row)))])), (9, some (.box (n0 + 1) 41 [.r (.sl (r2.Adds.map (rSl GElem.row))), .r (.sl (r2.Cuts.map rBool)), .r (.sl (r2.Attrs.map (rSl GAttr.row)))])), (5010, some (.arr ((i5 2) + 1) 82 3 (out9.map GElem.row))), (5011, some (.arr (i5 1) 89 5 (bad2.map GConflict.row)))], ((i5 2) + 2), 197⟩) (by exact Weak.cv ⟨jL, jL, jL, jL, jL, jL, jL, trivial⟩ ⟨.inl rfl, .inl rfl, .inl rfl, .inl rfl, trivial⟩ nL) ?_
    refine AW.region ?_
    refine sM rfl rfl ?_
    refine sM rfl rfl ?_
    refine sM rfl rfl ?_
    refine sQ rfl (ms_len_own rfl tg_22.slice iL rfl) ?_
    refine sQ rfl (sp_build rfl tb_89 (q := [(0, _), (2, _), (3, _)]) (by exact ⟨rfl, rfl, rfl, iL, rfl, rfl, rfl, iL, rfl, rfl, rfl, iL, trivial⟩) (cs := [.r (.int .i64 0), .r (.int .i64 0), .r (.int .i64 (out2.length : Int)), .r (.int .i64 (out9.length : Int)), .r (.str [])]) (by rfl)) ?_
    refine AOps.step rfl rfl rfl (ms_lit 66 rfl tg_48 (f := GConflict.row) (l := ([(GConflict.mk 0 0 (out2.length : Int) (out9.length : Int) [])] : List GConflict)) ⟨rfl, ⟨_, iL, rfl⟩, trivial⟩ rfl (fun _ => rfl) rfl) ?_
    refine ob1k h43 fun bad15 ebad15 h44 => ?_
    refine AOps.step rfl rfl rfl (ms_app rfl tg_48 iL rfl (.inr (.inl ⟨_, _, iL, rfl⟩)) ebad15) ?_
    refine sQ rfl (sp_assign rfl iL) ?_
    refine AOps.nil ?_
    exact wK14 _ _ ((by exact Weak.cv ⟨jL, jL, jL, jL, jL, jL, trivial⟩ ⟨.inl rfl, .inl rfl, .inl rfl, .inl rfl, trivial⟩ nL)) (J3 _ _ (vec [((i5 2) + 1), ((i5 2) + 3), ((i5 2) + 4)]) (Option.some.inj h44).symm)
   ·have h43 := ite_f hc8 h42
    refine AW.skip ?_
    exact wK14 _ _ ((by exact Weak.cv ⟨jL, jL, jL, jL, jL, jL, trivial⟩ ⟨.inl rfl, .inl rfl, .inl rfl, .inl rfl, trivial⟩ nL)) (J3 _ _ (vec [((i5 2) + 1), (i5 1), ((i5 2) + 2)]) (Option.some.inj h43).symm)
  ·have h41 := ite_f hc7 hp2
   refine AW.skip ?_
   exact wK14 _ _ ((by exact Weak.cv ⟨jL, jL, jL, jL, jL, jL, trivial⟩ ⟨.inl rfl, .inl rfl, .inl rfl, .inl rfl, trivial⟩ nL)) (J3 _ _ (vec [(i5 2), (i5 1), ((i5 2) + 1)]) (Option.some.inj h41).symm)
 ·have h5 := ite_f hc1 h4
  refine AW.exit ?_
  exact wK5 _ _ ((by exact Weak.cv ⟨jL, jL, trivial⟩ ⟨.inl rfl, .inl rfl, trivial⟩ nL)) (J1 _ _ (vec [(i5 0), (i5 1), (i5 2)]) (hx1 _ (Option.some.inj h5).symm))
set_option maxHeartbeats 4000000 in
set_option maxRecDepth 20000 in
theorem w_ref_SameConflicts {a1 : List GConflict} {b1 : List GConflict} {node1 : Int} {r : Bool} (h : ref_SameConflicts a1 b1 node1 = some r) : ARO Try.prog 25 [.r (.sl (a1.map GConflict.row)), .r (.sl (b1.map GConflict.row)), .r (.int .i64 node1)] (.r (.bool r)) := by
 unfold ref_SameConflicts at h
 refine ARO.mkF Try.func25 rfl rfl Try.ntmps25 rfl (Nat.le_of_ble_eq_true rfl) fun n0 => ?_
 refine AW.seq_w fun K1 hK1 wK1 => ?_
 refine AW.region ?_
 refine sQ rfl (sp_assign rfl iL) ?_
 refine AOps.nil (hK1 _ ?_)
 refine AW.seq_w fun K2 hK2 wK2 => ?_
 refine AW.seq_w fun K3 hK3 wK3 => ?_
 refine AW.region ?_
 refine sM rfl rfl ?_
 refine sQ rfl (ms_len rfl tg_48.slice iL) ?_
 refine sM rfl rfl ?_
 refine sQ rfl (ms_len rfl tg_48.slice iL) ?_
 refine sQ rfl (sp_neq rfl iL iL) ?_
 refine AOps.nil (hK3 _ ?_)
 refine AW.cond rfl (fun hc1 => ?_) (fun hc1 => ?_)
 ·have h1 := ite_t hc1 h
  refine AW.seq_w fun K4 hK4 wK4 => ?_
  refine AW.weak (s' := ⟨[], [], n0, 32⟩) (by exact Weak.cv trivial trivial nL) ?_
  refine AW.region ?_
  refine sQ rfl (sp_assign rfl iL) ?_
  refine AOps.nil (hK4 _ ?_)
  refine AW.ret ?_
  exact retf1 (P := Try.prog) (fun (r : Bool) => .r (.bool r)) h1 iL (.t (.d rfl))
 ·have h1 := ite_f hc1 h
  refine AW.skip ?_
  refine hK2 _ ?_
  refine AW.seq_w fun K5 hK5 wK5 => ?_
  refine AW.seq_w fun K6 hK6 wK6 => ?_
  refine AW.region ?_
  refine sM rfl rfl ?_
  refine sQ rfl (ms_len rfl tg_48.slice iL) ?_
  refine sM rfl rfl ?_
  refine AOps.nil (hK6 _ ?_)
  refine AW.block ?_
  refine jc1k h1 fun o1 hit1 hk1 he1 => ?_
  have J1 : ∀ (u2 : Unit) (i5 : Nat → Nat), o1 = .nrm u2 → K5 ⟨[], [], (i5 0), 32⟩ := by
   intro u2 i5 e
   have h2 := hk1 _ e
   refine hK5 _ ?_
   refine AW.seq_w fun K7 hK7 wK7 => ?_
   refine AW.region ?_
   refine sQ rfl (sp_assign rfl iL) ?_
   refine AOps.nil (hK7 _ ?_)
   refine AW.ret ?_
   exact retf1 (P := Try.prog) (fun (r : Bool) => .r (.bool r)) h2 iL (.t (.d rfl))
  refine AW.iter1 (fun (x2 : Int) i3 => ⟨[(0, .r (.sl (a1.map GConflict.row))), (1, .r (.sl (b1.map GConflict.row))), (2, .r (.int .i64 node1)), (15, .r (.int .i64 (a1.length : Int))), (16, .r (.int .i64 x2))], [], (i3 0), 32⟩) (vec [n0]) hit1 ((by exact Weak.cv ⟨jL, jL, jL, jL, jL, trivial⟩ trivial nL)) ?_
  intro x2 i3 v1 hv1 hx1
  have h3 : ref_SameConflicts_L1 a1 b1 node1 x2 = some v1 := hv1; unfold ref_SameConflicts_L1 at h3
  refine AW.seq_w fun K8 hK8 wK8 => ?_
  refine AW.region ?_
  refine sQ rfl (sp_lss rfl iL iL) ?_
  refine AOps.nil (hK8 _ ?_)
  refine AW.seq_w fun K9 hK9 wK9 => ?_
  refine AW.cond rfl (fun hc2 => ?_) (fun hc2 => ?_)
  ·have h4 := ite_t hc2 h3
   refine AW.skip ?_
   refine hK9 _ ?_
   refine AW.seq_w fun K10 hK10 wK10 => ?_
   refine AW.block ?_
   refine AW.seq_w fun K11 hK11 wK11 => ?_
   refine AW.region ?_
   refine sM rfl rfl ?_
   refine sQ rfl (sp_assign rfl iL) ?_
   refine AOps.nil (hK11 _ ?_)
   refine AW.seq_w fun K12 hK12 wK12 => ?_
   refine AW.region ?_
   refine sM rfl rfl ?_
   refine sM rfl rfl ?_
   refine ob1k h4 fun x4 ex4 h5 => ?_
   refine sQ rfl (ms_idx rfl tg_48.slice iL iL (fun _ => rfl) (fun _ => ex4)) ?_
   refine sQ rfl (ms_loadA (cs := [.r (.int .i64 x4.Kind), .r (.int .i64 x4.Node), .r (.int .i64 x4.From), .r (.int .i64 x4.To), .r (.str x4.Name)]) rfl ta_89 iL rfl rfl) ?_
   refine AOps.step rfl rfl rfl (ms_alloc (cs := [.r (.int .i64 0), .r (.int .i64 0), .r (.int .i64 0), .r (.int .i64 0), .r (.str [])]) 8 rfl t0_89 rfl rfl) ?_
   refine AOps.step0 rfl rfl (ms_store_box (ds := [.r (.int .i64 x4.Kind), .r (.int .i64 x4.Node), .r (.int .i64 x4.From), .r (.int .i64 x4.To), .r (.str x4.Name)]) rfl tz_89 iL rfl iL rfl rfl rfl rfl) ?_
   refine AOps.nil (hK12 _ ?_)
   refine AW.seq_w fun K13 hK13 wK13 => ?_
   refine AW.region ?_
   refine sM rfl rfl ?_
   refine sQ rfl (sp_fieldAddr_own (ob := .box _ _ _) rfl tf_89_1 iL fR rfl) ?_
   refine AOps.step0 rfl rfl (ms_store_box (ds := [.r (.int .i64 x4.Kind), .r (.int .i64 node1), .r (.int .i64 x4.From), .r (.int .i64 x4.To), .r (.str x4.Name)]) rfl tz_3 iL rfl iL rfl rfl rfl rfl) ?_
   refine AOps.nil (hK13 _ ?_)
   refine AW.seq_w fun K14 hK14 wK14 => ?_
   refine AW.regionQ hmix (by kernel_rfl) ?_
   refine AQ.step rfl rfl rfl (sp_move rfl iL) ?_
   refine AQ.step rfl rfl rfl (sp_move rfl iL) ?_
   refine ob1k h5 fun x5 ex5 h6 => ?_
   refine AQ.step rfl rfl rfl (ms_idx rfl tg_48.slice iL iL (fun _ => rfl) (fun _ => ex5)) ?_
   refine AQ.step rfl rfl rfl (ms_loadA (cs := [.r (.int .i64 x5.Kind), .r (.int .i64 x5.Node), .r (.int .i64 x5.From), .r (.int .i64 x5.To), .r (.str x5.Name)]) rfl ta_89 iL rfl rfl) ?_
   refine AQ.step rfl rfl rfl (ms_loadA_box rfl ta_89 iL rfl rfl) ?_
   refine AQ.step rfl rfl rfl (sp_aggneq rfl te_89 iL iL rfl) ?_
   refine AQ.nil ?_
   refine hK14 _ ?_
   refine AW.cond rfl (fun hc3 => ?_) (fun hc3 => ?_)
   ·have h7 := ite_t hc3 h6
    refine AW.seq_w fun K15 hK15 wK15 => ?_
    refine AW.weak (s' := ⟨[], [], ((i3 0) + 1), 32⟩) (by exact Weak.cv trivial trivial nL) ?_
    refine AW.region ?_
    refine sQ rfl (sp_assign rfl iL) ?_
    refine AOps.nil (hK15 _ ?_)
    refine AW.ret ?_
    exact retf1 (P := Try.prog) (fun (r : Bool) => .r (.bool r)) (he1 _ (hx1 _ (Option.some.inj h7).symm)) iL (.t (.d rfl))
   ·have h7 := ite_f hc3 h6
    refine AW.skip ?_
    refine hK10 _ ?_
    refine AW.weak (s' := ⟨[(0, .r (.sl (a1.map GConflict.row))), (1, .r (.sl (b1.map GConflict.row))), (2, .r (.int .i64 node1)), (15, .r (.int .i64 (a1.length : Int))), (16, .r (.int .i64 x2))], [], ((i3 0) + 1), 32⟩) (by exact Weak.cv ⟨jL, jL, jL, jL, jL, trivial⟩ trivial nL) ?_
    refine AW.region ?_
    refine ob1k h7 fun x6 ex6 h8 => ?_
    refine sQ rfl (ms_add rfl iL iL (fun _ => ex6)) ?_
    refine sM rfl rfl ?_
    refine AOps.nil ?_
    exact NextQ1.mk h8 (vec [((i3 0) + 1)]) ((by exact Weak.cv ⟨jL, jL, jL, jL, jL, trivial⟩ trivial nL))
  ·have h4 := ite_f hc2 h3
   refine AW.exit ?_
   exact wK5 _ _ ((by exact Weak.cv trivial trivial nL)) (J1 _ (vec [(i3 0)]) (hx1 _ (Option.some.inj h4).symm))
set_option maxHeartbeats 4000000 in
set_option maxRecDepth 20000 in
theorem w_law_MergeFlowsMatch {o1 : List GElem} {a1 : List GElem} {b1 : List GElem} {r : Bool} (h : law_MergeFlowsMatch o1 a1 b1 = some r) : ARO Try.prog 5 [.r (.sl (o1.map GElem.row)), .r (.sl (a1.map GElem.row)), .r (.sl (b1.map GElem.row))] (.r (.bool r)) := by
 unfold law_MergeFlowsMatch at h
 refine ARO.mkF Try.func5 rfl rfl Try.ntmps5 rfl (Nat.le_of_ble_eq_true rfl) fun n0 => ?_
 refine AW.seq_w fun K1 hK1 wK1 => ?_
 refine AW.region ?_
 refine sQ rfl (sp_assign rfl iL) ?_
 refine AOps.nil (hK1 _ ?_)
 refine AW.seq_w fun K2 hK2 wK2 => ?_
 refine AW.seq_w fun K3 hK3 wK3 => ?_
 refine AW.region ?_
 refine ob1k h fun r1 er1 h1 => ?_
 refine AOps.step rfl rfl rfl (sp_call (r := .r (.bool r1)) (caps := []) (bs := []) rfl iL rfl trivial (fun _ => w_law_merges (er1)) rfl) ?_
 refine sQ rfl (sp_not rfl iL) ?_
 refine AOps.nil (hK3 _ ?_)
 refine AW.cond rfl (fun hc1 => ?_) (fun hc1 => ?_)
 ·have h2 := ite_t hc1 h1
  refine AW.seq_w fun K4 hK4 wK4 => ?_
  refine AW.region ?_
  refine sQ rfl (sp_assign rfl iL) ?_
  refine AOps.nil (hK4 _ ?_)
  refine AW.ret ?_
  exact retf1 (P := Try.prog) (fun (r : Bool) => .r (.bool r)) h2 iL (.t (.d rfl))
 ·have h2 := ite_f hc1 h1
  refine AW.skip ?_
  refine hK2 _ ?_
  refine AW.seq_w fun K5 hK5 wK5 => ?_
  refine AW.seq_w fun K6 hK6 wK6 => ?_
  refine AW.region ?_
  refine sM rfl rfl ?_
  refine sQ rfl (ms_len rfl tg_22.slice iL) ?_
  refine sQ rfl (sp_gtr rfl iL iL) ?_
  refine AOps.nil (hK6 _ ?_)
  refine jb1k h2 fun p1 hp1 hk1 => ?_
  have J1 : ∀ (o2 : List GElem) (i1 : Nat → Nat), p1 = o2 → K5 ⟨[(0, .r (.sl (o2.map GElem.row))), (1, .r (.sl (a1.map GElem.row))), (2, .r (.sl (b1.map GElem.row)))], [], (i1 0), 82⟩ := by
   intro o2 i1 e
   have h3 := hk1 _ e
   refine hK5 _ ?_
   refine AW.seq_w fun K7 hK7 wK7 => ?_
   refine AW.seq_w fun K8 hK8 wK8 => ?_
   refine AW.region ?_
   refine sM rfl rfl ?_
   refine sQ rfl (ms_len rfl tg_22.slice iL) ?_
   refine sQ rfl (sp_gtr rfl iL iL) ?_
   refine AOps.nil (hK8 _ ?_)
   refine jb1k h3 fun p2 hp2 hk2 => ?_
   have J2 : ∀ (a2 : List GElem) (i2 : Nat → Nat), p2 = a2 → K7 ⟨[(0, .r (.sl (o2.map GElem.row))), (1, .r (.sl (a2.map GElem.row))), (2, .r (.sl (b1.map GElem.row)))], [], (i2 0), 82⟩ := by
    intro a2 i2 e
    have h4 := hk2 _ e
    refine hK7 _ ?_
    refine AW.seq_w fun K9 hK9 wK9 => ?_
    refine AW.seq_w fun K10 hK10 wK10 => ?_
    refine AW.region ?_
    refine sM rfl rfl ?_
    refine sQ rfl (ms_len rfl tg_22.slice iL) ?_
    refine sQ rfl (sp_gtr rfl iL iL) ?_
    refine AOps.nil (hK10 _ ?_)
    refine jb1k h4 fun p3 hp3 hk3 => ?_
    have J3 : ∀ (b2 : List GElem) (i3 : Nat → Nat), p3 = b2 → K9 ⟨[(0, .r (.sl (o2.map GElem.row))), (1, .r (.sl (a2.map GElem.row))), (2, .r (.sl (b2.map GElem.row)))], [], (i3 0), 82⟩ := by
     intro b2 i3 e
     have h5 := hk3 _ e
     refine hK9 _ ?_
     refine AW.seq_w fun K11 hK11 wK11 => ?_
     refine AW.region ?_
     refine sM rfl rfl ?_
     refine sM rfl rfl ?_
     refine sM rfl rfl ?_
     refine ob3k h5 fun r2 r3 r4 er2 h6 => ?_
     refine AOps.step rfl rfl rfl (sp_callS (r := .tup [.r (.sl (r2.map GElem.row)), .r (.sl (r3.map GConflict.row)), .r (.int .i64 r4)]) (caps := []) (bs := [.r (.sl (o2.map GElem.row)), .r (.sl (a2.map GElem.row)), .r (.sl (b2.map GElem.row))]) rfl iL rfl ⟨.inl ⟨iL, rfl⟩, .inl ⟨iL, rfl⟩, .inl ⟨iL, rfl⟩, trivial⟩ (fun _ => w_merge_Flows (er2))) ?_
     refine sM rfl rfl ?_
     refine sQ rfl (sp_extract (a := .r (.sl (r2.map GElem.row))) rfl iL rfl) ?_
     refine sQ rfl (sp_extract (a := .r (.sl (r3.map GConflict.row))) rfl iL rfl) ?_
     refine sQ rfl (sp_extract (a := .r (.int .i64 r4)) rfl iL rfl) ?_
     refine sQ rfl (sp_assign rfl iL) ?_
     refine sQ rfl (sp_assign rfl iL) ?_
     refine sQ rfl (sp_assign rfl iL) ?_
     refine AOps.nil (hK11 _ ?_)
     refine AW.seq_w fun K12 hK12 wK12 => ?_
     refine AW.seq_w fun K13 hK13 wK13 => ?_
     refine AW.region ?_
     refine sM rfl rfl ?_
     refine sM rfl rfl ?_
     refine sM rfl rfl ?_
     refine sQ rfl (sp_buildArr rfl tb_51 (q := [(0, _), (1, _), (2, _)]) (by exact ⟨rfl, rfl, rfl, iL, rfl, rfl, rfl, iL, rfl, rfl, rfl, iL, trivial⟩) (cs := [.r (.sl (o2.map GElem.row)), .r (.sl (a2.map GElem.row)), .r (.sl (b2.map GElem.row))]) (by rfl)) ?_
     refine sM rfl rfl ?_
     refine AOps.nil (hK13 _ ?_)
     refine AW.block ?_
     refine jc1k h6 fun o3 hit1 hk4 he4 => ?_
     have J4 : ∀ (u2 : Unit) (i8 : Nat → Nat), o3 = .nrm u2 → K12 ⟨[(0, .r (.sl (o2.map GElem.row))), (1, .r (.sl (a2.map GElem.row))), (2, .r (.sl (b2.map GElem.row))), (7, .r (.sl (r2.map GElem.row))), (8, .r (.sl (r3.map GConflict.row))), (9, .r (.int .i64 r4))], [], (i8 0), 82⟩ := by
      intro u2 i8 e
      have h7 := hk4 _ e
      refine hK12 _ ?_
      refine AW.seq_w fun K14 hK14 wK14 => ?_
      refine AW.region ?_
      refine sM rfl rfl ?_
      refine sM rfl rfl ?_
      refine sM rfl rfl ?_
      refine ob2k h7 fun r5 r6 er5 h8 => ?_
      refine AOps.step rfl rfl rfl (sp_callS (r := .tup [.r (.sl (r5.map GElem.row)), .r (.sl (r6.map GConflict.row))]) (caps := []) (bs := [.r (.sl (o2.map GElem.row)), .r (.sl (a2.map GElem.row)), .r (.sl (b2.map GElem.row))]) rfl iL rfl ⟨.inl ⟨iL, rfl⟩, .inl ⟨iL, rfl⟩, .inl ⟨iL, rfl⟩, trivial⟩ (fun _ => w_ref_Merged (er5))) ?_
      refine sM rfl rfl ?_
      refine sQ rfl (sp_extract (a := .r (.sl (r5.map GElem.row))) rfl iL rfl) ?_
      refine sQ rfl (sp_extract (a := .r (.sl (r6.map GConflict.row))) rfl iL rfl) ?_
      refine sQ rfl (sp_assign rfl iL) ?_
      refine sQ rfl (sp_assign rfl iL) ?_
      refine AOps.nil (hK14 _ ?_)
      refine AW.seq_w fun K15 hK15 wK15 => ?_
      refine AW.weak (s' := ⟨[(7, .r (.sl (r2.map GElem.row))), (8, .r (.sl (r3.map GConflict.row))), (9, .r (.int .i64 r4)), (13, .r (.sl (r5.map GElem.row))), (14, .r (.sl (r6.map GConflict.row)))], [], (i8 0), 82⟩) (by exact Weak.cv ⟨jL, jL, jL, jL, jL, trivial⟩ trivial nL) ?_
      refine AW.region ?_
      refine sM rfl rfl ?_
      refine sQ rfl (sp_eql rfl iL iL) ?_
      refine sM rfl rfl ?_
      refine sV rfl rfl rfl (sp_move rfl iL) ?_
      refine sV rfl rfl rfl (sp_move rfl iL) ?_
      refine ob1k h8 fun r7 er7 h9 => ?_
      refine AOps.stepW (.one rfl rfl rfl) rfl rfl (sp_call (r := .r (.bool r7)) (caps := []) (bs := [.r (.sl (r2.map GElem.row)), .r (.sl (r5.map GElem.row))]) rfl iL rfl ⟨⟨_, (iR rfl), .d rfl⟩, ⟨_, (iR rfl), .d rfl⟩, trivial⟩ (fun hg => w_ref_SameFlow (gdt er7 hg)) rfl) ?_
      refine sQ rfl (sp_and rfl iL (iR rfl)) ?_
      refine sM rfl rfl ?_
      refine sV rfl rfl rfl (sp_move rfl iL) ?_
      refine sV rfl rfl rfl (sp_move rfl iL) ?_
      refine ob1k h9 fun r8 er8 h10 => ?_
      refine AOps.stepW (.one rfl rfl rfl) rfl rfl (sp_call (r := .r (.bool r8)) (caps := []) (bs := [.r (.sl (r3.map GConflict.row)), .r (.sl (r6.map GConflict.row)), .r (.int .i64 0)]) rfl iL rfl ⟨⟨_, (iR rfl), .d rfl⟩, ⟨_, (iR rfl), .d rfl⟩, ⟨_, iL, .d rfl⟩, trivial⟩ (fun hg => w_ref_SameConflicts (gdt er8 hg)) rfl) ?_
      refine sQ rfl (sp_and rfl iL (iR rfl)) ?_
      refine sQ rfl (sp_assign rfl iL) ?_
      refine AOps.nil (hK15 _ ?_)
      refine AW.ret ?_
      exact retf1 (P := Try.prog) (fun (r : Bool) => .r (.bool r)) h10 iL (.t (.d rfl))
     refine AW.iter1 (fun (x2 : Int) i6 => ⟨[(0, .r (.sl (o2.map GElem.row))), (1, .r (.sl (a2.map GElem.row))), (2, .r (.sl (b2.map GElem.row))), (7, .r (.sl (r2.map GElem.row))), (8, .r (.sl (r3.map GConflict.row))), (9, .r (.int .i64 r4)), (43, .agg [.r (.sl (o2.map GElem.row)), .r (.sl (a2.map GElem.row)), .r (.sl (b2.map GElem.row))]), (44, .r (.int .i64 x2))], [], (i6 0), 82⟩) (vec [(i3 0)]) hit1 ((by exact Weak.cv ⟨jL, jL, jL, jL, jL, jL, jL, jL, trivial⟩ trivial nL)) ?_
     intro x2 i6 v1 hv1 hx1
     have h11 : law_MergeFlowsMatch_L1 o2 a2 b2 r2 r3 r4 x2 = some v1 := hv1; unfold law_MergeFlowsMatch_L1 at h11
     refine AW.seq_w fun K16 hK16 wK16 => ?_
     refine AW.region ?_
     refine sQ rfl (sp_lss rfl iL iL) ?_
     refine AOps.nil (hK16 _ ?_)
     refine AW.seq_w fun K17 hK17 wK17 => ?_
     refine AW.cond rfl (fun hc2 => ?_) (fun hc2 => ?_)
     ·have h12 := ite_t hc2 h11
      refine AW.skip ?_
      refine hK17 _ ?_
      refine AW.seq_w fun K18 hK18 wK18 => ?_
      refine AW.block ?_
      refine AW.seq_w fun K19 hK19 wK19 => ?_
      refine AW.region ?_
      refine ob1k h12 fun x4 ex4 h13 => ?_
      refine sQ rfl (ms_idx_arr (f := fun a => .r (.sl (a.map GElem.row))) (l := [o2, a2, b2]) rfl tq_51 (.inl rfl) (.inl rfl) rfl (fun _ => ex4)) ?_
      refine sQ rfl (sp_assign rfl iL) ?_
      refine AOps.nil (hK19 _ ?_)
      refine AW.seq_w fun K20 hK20 wK20 => ?_
      refine AW.region ?_
      refine sM rfl rfl ?_
      refine ob1k h13 fun g1 eg1 h14 => ?_
      refine AOps.step rfl rfl rfl (sp_call (r := .r (.int .i64 g1)) (caps := []) (bs := [.r (.sl (x4.map GElem.row))]) rfl iL rfl ⟨⟨_, iL, .d rfl⟩, trivial⟩ (fun _ => w_ref_PartError (eg1)) rfl) ?_
      refine sQ rfl (sp_assign rfl iL) ?_
      refine AOps.nil (hK20 _ ?_)
      refine AW.seq_w fun K21 hK21 wK21 => ?_
      refine AW.region ?_
      refine sM rfl rfl ?_
      refine sQ rfl (sp_neq rfl iL iL) ?_
      refine AOps.nil (hK21 _ ?_)
      refine AW.cond rfl (fun hc3 => ?_) (fun hc3 => ?_)
      ·have h15 := ite_t hc3 h14
       refine AW.seq_w fun K22 hK22 wK22 => ?_
       refine AW.weak (s' := ⟨[(7, .r (.sl (r2.map GElem.row))), (8, .r (.sl (r3.map GConflict.row))), (9, .r (.int .i64 r4)), (12, .r (.int .i64 g1))], [], (i6 0), 82⟩) (by exact Weak.cv ⟨jL, jL, jL, jL, trivial⟩ trivial nL) ?_
       refine AW.region ?_
       refine sM rfl rfl ?_
       refine sM rfl rfl ?_
       refine sQ rfl (sp_eql rfl iL iL) ?_
       refine sM rfl rfl ?_
       refine sV rfl rfl rfl (sp_move rfl iL) ?_
       refine sV rfl rfl rfl (ms_len rfl tg_22.slice (iR rfl)) ?_
       refine sV rfl rfl rfl (sp_move rfl iL) ?_
       refine sV rfl rfl rfl (ms_len rfl tg_48.slice (iR rfl)) ?_
       refine ob1k h15 fun x5 ex5 h16 => ?_
       refine sV rfl rfl rfl (ms_add rfl (iR rfl) (iR rfl) (gdt ex5)) ?_
       refine sV rfl rfl rfl (sp_eql rfl (iR rfl) iL) ?_
       refine sQ rfl (sp_and rfl iL (iR rfl)) ?_
       refine sQ rfl (sp_assign rfl iL) ?_
       refine AOps.nil (hK22 _ ?_)
       refine AW.ret ?_
       exact retf1 (P := Try.prog) (fun (r : Bool) => .r (.bool r)) (he4 _ (hx1 _ (Option.some.inj h16).symm)) iL (.t (.d rfl))
      ·have h15 := ite_f hc3 h14
       refine AW.skip ?_
       refine hK18 _ ?_
       refine AW.region ?_
       refine ob1k h15 fun x6 ex6 h17 => ?_
       refine sQ rfl (ms_add rfl iL iL (fun _ => ex6)) ?_
       refine sM rfl rfl ?_
       refine AOps.nil ?_
       exact NextQ1.mk h17 (vec [(i6 0)]) ((by exact Weak.cv ⟨jL, jL, jL, jL, jL, jL, jL, jL, trivial⟩ trivial nL))
     ·have h12 := ite_f hc2 h11
      refine AW.exit ?_
      exact wK12 _ _ ((by exact Weak.cv ⟨jL, jL, jL, jL, jL, jL, trivial⟩ trivial nL)) (J4 _ (vec [(i6 0)]) (hx1 _ (Option.some.inj h12).symm))
    refine AW.cond rfl (fun hc4 => ?_) (fun hc4 => ?_)
    ·have h18 := ite_t hc4 hp3
     refine AW.region ?_
     refine sM rfl rfl ?_
     refine ob1k h18 fun b3 eb3 h19 => ?_
     refine sQ rfl (ms_slice rfl tg_22.slice iL (by exact rfl) (by exact ⟨_, iL⟩) (fun _ => rfl) (fun _ => eb3)) ?_
     refine sQ rfl (sp_assign rfl iL) ?_
     refine AOps.nil ?_
     exact wK9 _ _ ((by exact Weak.cv ⟨jL, jL, jL, trivial⟩ trivial nL)) (J3 _ (vec [(i2 0)]) (Option.some.inj h19).symm)
    ·have h18 := ite_f hc4 hp3
     refine AW.skip ?_
     exact wK9 _ _ ((by exact Weak.cv ⟨jL, jL, jL, trivial⟩ trivial nL)) (J3 _ (vec [(i2 0)]) (Option.some.inj h18).symm)
   refine AW.cond rfl (fun hc5 => ?_) (fun hc5 => ?_)
   ·have h20 := ite_t hc5 hp2
    refine AW.region ?_
    refine sM rfl rfl ?_
    refine ob1k h20 fun a3 ea3 h21 => ?_
    refine sQ rfl (ms_slice rfl tg_22.slice iL (by exact rfl) (by exact ⟨_, iL⟩) (fun _ => rfl) (fun _ => ea3)) ?_
    refine sQ rfl (sp_assign rfl iL) ?_
    refine AOps.nil ?_
    exact wK7 _ _ ((by exact Weak.cv ⟨jL, jL, jL, trivial⟩ trivial nL)) (J2 _ (vec [(i1 0)]) (Option.some.inj h21).symm)
   ·have h20 := ite_f hc5 hp2
    refine AW.skip ?_
    exact wK7 _ _ ((by exact Weak.cv ⟨jL, jL, jL, trivial⟩ trivial nL)) (J2 _ (vec [(i1 0)]) (Option.some.inj h20).symm)
  refine AW.cond rfl (fun hc6 => ?_) (fun hc6 => ?_)
  ·have h22 := ite_t hc6 hp1
   refine AW.region ?_
   refine sM rfl rfl ?_
   refine ob1k h22 fun o4 eo4 h23 => ?_
   refine sQ rfl (ms_slice rfl tg_22.slice iL (by exact rfl) (by exact ⟨_, iL⟩) (fun _ => rfl) (fun _ => eo4)) ?_
   refine sQ rfl (sp_assign rfl iL) ?_
   refine AOps.nil ?_
   exact wK5 _ _ ((by exact Weak.cv ⟨jL, jL, jL, trivial⟩ trivial nL)) (J1 _ (vec [n0]) (Option.some.inj h23).symm)
  ·have h22 := ite_f hc6 hp1
   refine AW.skip ?_
   exact wK5 _ _ ((by exact Weak.cv ⟨jL, jL, jL, trivial⟩ trivial nL)) (J1 _ (vec [n0]) (Option.some.inj h22).symm)
end Go.Proofs.Ytfkolgjapajekaa.Al
