/- Walks, as printed. -/
import Derived.Test.YtfkolgjapajekaaWlkDFx2
import Derived.Test.YtfkolgjapajekaaProg
set_option linter.unusedVariables false
namespace Go.Proofs.Ytfkolgjapajekaa.Al
open Go.Proofs
set_option maxHeartbeats 4000000 in
set_option maxRecDepth 20000 in
theorem w_ref_DiffAct {a1 : List GElem} {b1 : List GElem} {r : Ref_Act} (h : ref_DiffAct a1 b1 = some r) : ARO Try.prog 16 [.r (.sl (a1.map GElem.row)), .r (.sl (b1.map GElem.row))] (.agg [.r (.sl (r.Adds.map (rSl GElem.row))), .r (.sl (r.Cuts.map rBool)), .r (.sl (r.Attrs.map (rSl GAttr.row)))]) := by
 unfold ref_DiffAct at h
 refine ARO.mkF Try.func16 rfl rfl Try.ntmps16 rfl (Nat.le_of_ble_eq_true rfl) fun n0 => ?_
 refine AW.seq_w fun K1 hK1 wK1 => ?_
 refine AW.region ?_
 refine AOps.step rfl rfl rfl (ms_alloc (cs := [.cst (.slice none 0 0), .cst (.slice none 0 0), .cst (.slice none 0 0)]) 4 rfl t0_41 rfl rfl) ?_
 refine AOps.nil ?_
 refine hK1 _ ?_
 refine AW.seq_w fun K2 hK2 wK2 => ?_
 refine AW.region ?_
 refine AOps.step rfl rfl rfl (ms_lit 12 rfl tg_37 (f := (rSl GElem.row)) (l := ([[]] : List (List GElem))) ⟨rfl, ⟨_, iL, rfl⟩, trivial⟩ rfl (fun _ => rfl) rfl) ?_
 refine sQ rfl (sp_build rfl tb_41 (q := [(0, _)]) (by exact ⟨rfl, rfl, rfl, iL, trivial⟩) (cs := [.own 12 (n0 + 1), .cst (.slice none 0 0), .cst (.slice none 0 0)]) (by rfl)) ?_
 refine AOps.step rfl rfl rfl (ms_alloc (cs := [.cst (.slice none 0 0), .cst (.slice none 0 0), .cst (.slice none 0 0)]) 5 rfl t0_41 rfl rfl) ?_
 refine AOps.step0 rfl rfl (ms_store_box (ds := [.own 12 (n0 + 1), .cst (.slice none 0 0), .cst (.slice none 0 0)]) rfl tz_41 iL rfl iL rfl rfl rfl rfl) ?_
 refine AOps.nil ?_
 refine hK2 _ ?_
 refine AW.seq_w fun K3 hK3 wK3 => ?_
 refine AW.region ?_
 refine sQ rfl (sp_move rfl iL) ?_
 refine sQ rfl (sp_move rfl iL) ?_
 refine ob1k h fun tied1 etied1 h1 => ?_
 refine AOps.step rfl rfl rfl (sp_call (r := .r (.bool tied1)) (caps := []) (bs := [.r (.sl (a1.map GElem.row)), .r (.sl (b1.map GElem.row))]) rfl iL rfl ⟨⟨_, iL, .d rfl⟩, ⟨_, iL, .d rfl⟩, trivial⟩ (fun _ => w_ref_Tied (etied1)) rfl) ?_
 refine sQ rfl (sp_assign rfl iL) ?_
 refine AOps.nil ?_
 refine hK3 _ ?_
 refine AW.seq_w fun K4 hK4 wK4 => ?_
 refine AW.block ?_
 refine jc1k h1 fun o1 hit1 hk1 he1 => ?_
 have J1 : ∀ (out4 : Ref_Act) (i5 : Nat → Nat), o1 = .nrm out4 → K4 ⟨[(4, .ptr 4 n0 0 0), (5, .ptr 5 (n0 + 2) 0 0)], [(4, some (.box n0 41 [.cst (.slice none 0 0), .cst (.slice none 0 0), .cst (.slice none 0 0)])), (5, some (.box (n0 + 2) 41 [.own 12 (i5 0), .own 9081 (i5 1), .own 9082 (i5 2)])), (12, some (.arr (i5 0) 22 1 (out4.Adds.map (rSl GElem.row)))), (9081, some (.arr (i5 1) 4 1 (out4.Cuts.map rBool))), (9082, some (.arr (i5 2) 29 1 (out4.Attrs.map (rSl GAttr.row))))], (i5 3), 219⟩ := by
  intro out4 i5 e
  have h2 := hk1 _ e
  refine hK4 _ ?_
  refine AW.seq_w fun K5 hK5 wK5 => ?_
  refine AW.region ?_
  refine sQ rfl (ms_loadA_box rfl ta_41 iL rfl rfl) ?_
  refine AOps.step0 rfl rfl (ms_store_box (ds := [.own 12 (i5 0), .own 9081 (i5 1), .own 9082 (i5 2)]) rfl tz_41 iL rfl iL rfl rfl rfl rfl) ?_
  refine AOps.nil ?_
  refine hK5 _ ?_
  refine AW.ret ?_
  exact retf1 (P := Try.prog) (fun (r : Ref_Act) => .agg [.r (.sl (r.Adds.map (rSl GElem.row))), .r (.sl (r.Cuts.map rBool)), .r (.sl (r.Attrs.map (rSl GAttr.row)))]) h2 iL (.a ta_41 rfl rfl rfl (.agg (by exact ⟨.own rfl, .own rfl, .own rfl, trivial⟩)))
 refine AW.iter3 (fun (a3 : List GElem) (b3 : List GElem) (out2 : Ref_Act) i3 => ⟨[(0, .r (.sl (a3.map GElem.row))), (1, .r (.sl (b3.map GElem.row))), (4, .ptr 4 n0 0 0), (5, .ptr 5 (n0 + 2) 0 0), (6, .r (.bool tied1))], [(4, some (.box n0 41 [.cst (.slice none 0 0), .cst (.slice none 0 0), .cst (.slice none 0 0)])), (5, some (.box (n0 + 2) 41 [.own 12 (i3 0), .own 9081 (i3 1), .own 9082 (i3 2)])), (12, some (.arr (i3 0) 22 1 (out2.Adds.map (rSl GElem.row)))), (9081, some (.arr (i3 1) 4 1 (out2.Cuts.map rBool))), (9082, some (.arr (i3 2) 29 1 (out2.Attrs.map (rSl GAttr.row))))], (i3 3), 219⟩) (vec [(n0 + 1), (n0 + 3), (n0 + 4), (n0 + 5)]) hit1 (Weak.trans (Weak.trans (Weak.adoptBox 5 1 9081 4 1 (by decide) rfl rfl (by decide)) (by exact Weak.cv (e' := [(0, .r (.sl (a1.map GElem.row))), (1, .r (.sl (b1.map GElem.row))), (4, .ptr 4 n0 0 0), (5, .ptr 5 (n0 + 2) 0 0), (6, .r (.bool tied1)), (12, .own 12 (n0 + 1)), (13, .agg [.own 12 (n0 + 1), .cst (.slice none 0 0), .cst (.slice none 0 0)]), (14, .r (.sl (a1.map GElem.row))), (15, .r (.sl (b1.map GElem.row))), (16, .r (.bool tied1))]) (h' := [(4, some (.box n0 41 [.cst (.slice none 0 0), .cst (.slice none 0 0), .cst (.slice none 0 0)])), (5, some (.box (n0 + 2) 41 [.own 12 (n0 + 1), .own 9081 (n0 + 3), .cst (.slice none 0 0)])), (12, some (.arr (n0 + 1) 22 1 ([[]].map (rSl GElem.row)))), (9081, some (.arr (n0 + 3) 4 1 (([] : List Bool).map rBool)))]) ⟨.inl iL, .inl iL, .inl iL, .inl iL, .inl iL, .inl iL, .inl iL, .inl iL, .inl iL, .inl iL, trivial⟩ ⟨.inl rfl, .inl rfl, .inl rfl, .inl rfl, trivial⟩ (Nat.le_refl _))) (Weak.trans (Weak.trans (Weak.adoptBox 5 2 9082 29 1 (by decide) rfl rfl (by decide)) (by exact Weak.cv (e' := [(0, .r (.sl (a1.map GElem.row))), (1, .r (.sl (b1.map GElem.row))), (4, .ptr 4 n0 0 0), (5, .ptr 5 (n0 + 2) 0 0), (6, .r (.bool tied1)), (12, .own 12 (n0 + 1)), (13, .agg [.own 12 (n0 + 1), .cst (.slice none 0 0), .cst (.slice none 0 0)]), (14, .r (.sl (a1.map GElem.row))), (15, .r (.sl (b1.map GElem.row))), (16, .r (.bool tied1))]) (h' := [(4, some (.box n0 41 [.cst (.slice none 0 0), .cst (.slice none 0 0), .cst (.slice none 0 0)])), (5, some (.box (n0 + 2) 41 [.own 12 (n0 + 1), .own 9081 (n0 + 3), .own 9082 (n0 + 4)])), (12, some (.arr (n0 + 1) 22 1 ([[]].map (rSl GElem.row)))), (9081, some (.arr (n0 + 3) 4 1 (([] : List Bool).map rBool))), (9082, some (.arr (n0 + 4) 29 1 (([] : List (List GAttr)).map (rSl GAttr.row))))]) ⟨.inl iL, .inl iL, .inl iL, .inl iL, .inl iL, .inl iL, .inl iL, .inl iL, .inl iL, .inl iL, trivial⟩ ⟨.inl rfl, .inl rfl, .inl rfl, .inl rfl, .inl rfl, trivial⟩ (Nat.le_refl _))) (by exact Weak.cv ⟨.inl iL, .inl iL, .inl iL, .inl iL, .inl iL, trivial⟩ ⟨.inl rfl, .inl rfl, .inl rfl, .inl rfl, .inl rfl, trivial⟩ (Nat.le_refl _)))) ?_
 intro a3 b3 out2 i3 v1 hv1 hx1
 have h3 : ref_DiffAct_L1 tied1 a3 b3 out2 = some v1 := hv1; unfold ref_DiffAct_L1 at h3
 refine AW.seq_w fun K6 hK6 wK6 => ?_
 refine AW.seq_w fun K7 hK7 wK7 => ?_
 refine AW.region ?_
 refine sQ rfl (sp_move rfl iL) ?_
 refine sQ rfl (ms_len rfl tg_22.slice iL) ?_
 refine sQ rfl (sp_gtr rfl iL iL) ?_
 refine sQ rfl (sp_move rfl iL) ?_
 refine sW (.one rfl rfl rfl) rfl (sp_move rfl iL) ?_
 refine sW (.one rfl rfl rfl) rfl (ms_len rfl tg_22.slice (.inr ⟨_, (by exact id), rfl⟩)) ?_
 refine sW (.one rfl rfl rfl) rfl (sp_gtr rfl (.inr ⟨_, (by exact id), rfl⟩) iL) ?_
 refine sQ rfl (sp_or rfl iL (.inr ⟨_, (by exact id), rfl⟩)) ?_
 refine AOps.nil ?_
 refine hK7 _ ?_
 refine AW.cond rfl (fun hc1 => ?_) (fun hc1 => ?_)
 ·have h4 := ite_t hc1 h3
  refine AW.skip ?_
  refine hK6 _ ?_
  refine AW.block ?_
  refine AW.seq_w fun K8 hK8 wK8 => ?_
  refine AW.region ?_
  refine sQ rfl (sp_move rfl iL) ?_
  refine sQ rfl (sp_move rfl iL) ?_
  refine sW (.one rfl rfl rfl) rfl (sp_move rfl iL) ?_
  refine sW (.one rfl rfl rfl) rfl (ms_len rfl tg_22.slice (.inr ⟨_, (by exact id), rfl⟩)) ?_
  refine sW (.one rfl rfl rfl) rfl (sp_eql rfl (.inr ⟨_, (by exact id), rfl⟩) iL) ?_
  refine sQ rfl (sp_and rfl iL (.inr ⟨_, (by exact id), rfl⟩)) ?_
  refine sQ rfl (sp_move rfl iL) ?_
  refine sW (.one rfl rfl rfl) rfl (sp_move rfl iL) ?_
  refine sW (.one rfl rfl rfl) rfl (ms_len rfl tg_22.slice (.inr ⟨_, (by exact id), rfl⟩)) ?_
  refine sW (.one rfl rfl rfl) rfl (sp_eql rfl (.inr ⟨_, (by exact id), rfl⟩) iL) ?_
  refine sQ rfl (sp_and rfl iL (.inr ⟨_, (by exact id), rfl⟩)) ?_
  refine sQ rfl (sp_assign rfl iL) ?_
  refine AOps.nil ?_
  refine hK8 _ ?_
  refine AW.seq_w fun K9 hK9 wK9 => ?_
  refine AW.weak (s' := ⟨[(0, .r (.sl (a3.map GElem.row))), (1, .r (.sl (b3.map GElem.row))), (4, .ptr 4 n0 0 0), (5, .ptr 5 (n0 + 2) 0 0), (6, .r (.bool tied1)), (7, .r (.bool ((tied1 && (decide ((a3.length : Int) = 1))) && (decide ((b3.length : Int) = 1)))))], [(4, some (.box n0 41 [.cst (.slice none 0 0), .cst (.slice none 0 0), .cst (.slice none 0 0)])), (5, some (.box (n0 + 2) 41 [.own 12 (i3 0), .own 9081 (i3 1), .own 9082 (i3 2)])), (12, some (.arr (i3 0) 22 1 (out2.Adds.map (rSl GElem.row)))), (9081, some (.arr (i3 1) 4 1 (out2.Cuts.map rBool))), (9082, some (.arr (i3 2) 29 1 (out2.Attrs.map (rSl GAttr.row))))], (i3 3), 219⟩) (by exact Weak.cv ⟨.inl iL, .inl iL, .inl iL, .inl iL, .inl iL, .inl iL, trivial⟩ ⟨.inl rfl, .inl rfl, .inl rfl, .inl rfl, .inl rfl, trivial⟩ (Nat.le_refl _)) ?_
  refine AW.region ?_
  refine sQ rfl (sp_move rfl iL) ?_
  refine sQ rfl (sp_move rfl iL) ?_
  refine sQ rfl (sp_move rfl iL) ?_
  refine ob1k h4 fun rest1 erest1 h5 => ?_
  refine AOps.step rfl rfl rfl (sp_call (r := .r (.int .i64 rest1)) (caps := []) (bs := [.r (.sl (a3.map GElem.row)), .r (.sl (b3.map GElem.row)), .r (.bool tied1)]) rfl iL rfl ⟨⟨_, iL, .d rfl⟩, ⟨_, iL, .d rfl⟩, ⟨_, iL, .d rfl⟩, trivial⟩ (fun _ => w_ref_DiffCost (erest1)) rfl) ?_
  refine sQ rfl (sp_assign rfl iL) ?_
  refine AOps.nil ?_
  refine hK9 _ ?_
  refine AW.seq_w fun K10 hK10 wK10 => ?_
  refine AW.regionQ hmix (by kernel_rfl) ?_
  refine AQ.step rfl rfl rfl (sp_move rfl iL) ?_
  refine AQ.step rfl rfl rfl (ms_len rfl tg_22.slice iL) ?_
  refine AQ.step rfl rfl rfl (sp_gtr rfl iL iL) ?_
  refine AQ.step rfl rfl rfl (sp_move rfl iL) ?_
  refine AQ.stepW (.one rfl rfl rfl) rfl rfl (sp_move rfl iL) ?_
  refine AQ.stepW (.one rfl rfl rfl) rfl rfl (ms_len rfl tg_22.slice (.inr ⟨_, (by exact id), rfl⟩)) ?_
  refine AQ.stepW (.one rfl rfl rfl) rfl rfl (sp_gtr rfl (.inr ⟨_, (by exact id), rfl⟩) iL) ?_
  refine AQ.step rfl rfl rfl (sp_and rfl iL (.inr ⟨_, (by exact id), rfl⟩)) ?_
  refine AQ.step rfl rfl rfl (sp_move rfl iL) ?_
  refine AQ.stepW (.one rfl rfl rfl) rfl rfl (sp_move rfl iL) ?_
  refine ob1k h5 fun x1 ex1 h6 => ?_
  refine AQ.stepW (.one rfl rfl rfl) rfl rfl (ms_idx rfl tg_22.slice (.inr ⟨_, (by exact id), rfl⟩) iL (fun _ => rfl) (gdt ex1)) ?_
  refine AQ.stepW (.one rfl rfl rfl) rfl rfl (sp_fieldAddr_ro rfl tf_82_0 (.inr ⟨_, (by exact id), rfl⟩)) ?_
  refine AQ.stepW (.one rfl rfl rfl) rfl rfl (ms_load (d := .int .i64 x1.Char) rfl ts_3 (.inr ⟨_, (by exact id), rfl⟩) rfl) ?_
  refine AQ.stepW (.one rfl rfl rfl) rfl rfl (sp_move rfl iL) ?_
  refine ob1k h6 fun x2 ex2 h7 => ?_
  refine AQ.stepW (.one rfl rfl rfl) rfl rfl (ms_idx rfl tg_22.slice (.inr ⟨_, (by exact id), rfl⟩) iL (fun _ => rfl) (gdt ex2)) ?_
  refine AQ.stepW (.one rfl rfl rfl) rfl rfl (sp_fieldAddr_ro rfl tf_82_0 (.inr ⟨_, (by exact id), rfl⟩)) ?_
  refine AQ.stepW (.one rfl rfl rfl) rfl rfl (ms_load (d := .int .i64 x2.Char) rfl ts_3 (.inr ⟨_, (by exact id), rfl⟩) rfl) ?_
  refine AQ.stepW (.one rfl rfl rfl) rfl rfl (sp_eql rfl (.inr ⟨_, (by exact id), rfl⟩) (.inr ⟨_, (by exact id), rfl⟩)) ?_
  refine AQ.step rfl rfl rfl (sp_and rfl iL (.inr ⟨_, (by exact id), rfl⟩)) ?_
  refine AQ.step rfl rfl rfl (sp_move rfl iL) ?_
  refine AQ.stepW (.one rfl rfl rfl) rfl rfl (sp_move rfl iL) ?_
  refine ob1k h7 fun x3 ex3 h8 => ?_
  refine AQ.stepW (.one rfl rfl rfl) rfl rfl (ms_idx rfl tg_22.slice (.inr ⟨_, (by exact id), rfl⟩) iL (fun _ => rfl) (gdt ex3)) ?_
  refine AQ.stepW (.one rfl rfl rfl) rfl rfl (sp_fieldAddr_ro rfl tf_82_1 (.inr ⟨_, (by exact id), rfl⟩)) ?_
  refine AQ.stepW (.one rfl rfl rfl) rfl rfl (ms_load (d := .int .i64 x3.Ref) rfl ts_3 (.inr ⟨_, (by exact id), rfl⟩) rfl) ?_
  refine AQ.stepW (.one rfl rfl rfl) rfl rfl (sp_move rfl iL) ?_
  refine ob1k h8 fun x4 ex4 h9 => ?_
  refine AQ.stepW (.one rfl rfl rfl) rfl rfl (ms_idx rfl tg_22.slice (.inr ⟨_, (by exact id), rfl⟩) iL (fun _ => rfl) (gdt ex4)) ?_
  refine AQ.stepW (.one rfl rfl rfl) rfl rfl (sp_fieldAddr_ro rfl tf_82_1 (.inr ⟨_, (by exact id), rfl⟩)) ?_
  refine AQ.stepW (.one rfl rfl rfl) rfl rfl (ms_load (d := .int .i64 x4.Ref) rfl ts_3 (.inr ⟨_, (by exact id), rfl⟩) rfl) ?_
  refine AQ.stepW (.one rfl rfl rfl) rfl rfl (sp_eql rfl (.inr ⟨_, (by exact id), rfl⟩) (.inr ⟨_, (by exact id), rfl⟩)) ?_
  refine AQ.step rfl rfl rfl (sp_and rfl iL (.inr ⟨_, (by exact id), rfl⟩)) ?_
  refine AQ.step rfl rfl rfl (sp_move rfl iL) ?_
  refine AQ.stepW (.one rfl rfl rfl) rfl rfl (sp_move rfl iL) ?_
  refine AQ.stepW (.one rfl rfl rfl) rfl rfl (sp_not rfl (.inr ⟨_, (by exact id), rfl⟩)) ?_
  refine AQ.stepW (.one rfl rfl rfl) rfl rfl (sp_move rfl (.inr ⟨_, (by exact id), rfl⟩)) ?_
  refine AQ.stepW (.two rfl rfl rfl) rfl rfl (sp_move rfl iL) ?_
  refine AQ.stepW (.one rfl rfl rfl) rfl rfl (sp_or rfl (.inr ⟨_, (by exact id), rfl⟩) (.inr ⟨_, (by exact id), rfl⟩)) ?_
  refine AQ.stepW (.one rfl rfl rfl) rfl rfl (sp_move rfl (.inr ⟨_, (by exact id), rfl⟩)) ?_
  refine AQ.stepW (.two rfl rfl rfl) rfl rfl (sp_move rfl iL) ?_
  refine AQ.stepW (.two rfl rfl rfl) rfl rfl (ms_len rfl tg_22.slice (.inr ⟨_, (by exact id), rfl⟩)) ?_
  refine AQ.stepW (.two rfl rfl rfl) rfl rfl (sp_gtr rfl (.inr ⟨_, (by exact id), rfl⟩) iL) ?_
  refine AQ.stepW (.two rfl rfl rfl) rfl rfl (sp_move rfl (.inr ⟨_, (by exact id), rfl⟩)) ?_
  refine AQ.stepW (.two rfl rfl rfl) rfl rfl (sp_move rfl iL) ?_
  refine AQ.stepW (.two rfl rfl rfl) rfl rfl (ms_len rfl tg_22.slice (.inr ⟨_, (by exact id), rfl⟩)) ?_
  refine AQ.stepW (.two rfl rfl rfl) rfl rfl (sp_gtr rfl (.inr ⟨_, (by exact id), rfl⟩) iL) ?_
  refine AQ.stepW (.two rfl rfl rfl) rfl rfl (sp_and rfl (.inr ⟨_, (by exact id), rfl⟩) (.inr ⟨_, (by exact id), rfl⟩)) ?_
  refine AQ.stepW (.one rfl rfl rfl) rfl rfl (sp_or rfl (.inr ⟨_, (by exact id), rfl⟩) (.inr ⟨_, (by exact id), rfl⟩)) ?_
  refine AQ.step rfl rfl rfl (sp_and rfl iL (.inr ⟨_, (by exact id), rfl⟩)) ?_
  refine AQ.step rfl rfl rfl (sp_assign rfl iL) ?_
  refine AQ.nil ?_
  refine hK10 _ ?_
  refine AW.seq_w fun K11 hK11 wK11 => ?_
  refine AW.seq_w fun K12 hK12 wK12 => ?_
  refine AW.weak (s' := ⟨[(0, .r (.sl (a3.map GElem.row))), (1, .r (.sl (b3.map GElem.row))), (4, .ptr 4 n0 0 0), (5, .ptr 5 (n0 + 2) 0 0), (6, .r (.bool tied1)), (7, .r (.bool ((tied1 && (decide ((a3.length : Int) = 1))) && (decide ((b3.length : Int) = 1))))), (8, .r (.int .i64 rest1)), (9, .r (.bool (((((decide (0 < (a3.length : Int))) && (decide (0 < (b3.length : Int)))) && (decide (x1.Char = x2.Char))) && (decide (x3.Ref = x4.Ref))) && (((!tied1) || ((tied1 && (decide ((a3.length : Int) = 1))) && (decide ((b3.length : Int) = 1)))) || ((decide (1 < (a3.length : Int))) && (decide (1 < (b3.length : Int))))))))], [(4, some (.box n0 41 [.cst (.slice none 0 0), .cst (.slice none 0 0), .cst (.slice none 0 0)])), (5, some (.box (n0 + 2) 41 [.own 12 (i3 0), .own 9081 (i3 1), .own 9082 (i3 2)])), (12, some (.arr (i3 0) 22 1 (out2.Adds.map (rSl GElem.row)))), (9081, some (.arr (i3 1) 4 1 (out2.Cuts.map rBool))), (9082, some (.arr (i3 2) 29 1 (out2.Attrs.map (rSl GAttr.row))))], (i3 3), 219⟩) (by exact Weak.cv ⟨.inl iL, .inl iL, .inl iL, .inl iL, .inl iL, .inl iL, .inl iL, .inl iL, trivial⟩ ⟨.inl rfl, .inl rfl, .inl rfl, .inl rfl, .inl rfl, trivial⟩ (Nat.le_refl _)) ?_
  refine AW.region ?_
  refine sQ rfl (sp_move rfl iL) ?_
  refine sQ rfl (sp_move rfl iL) ?_
  refine sW (.one rfl rfl rfl) rfl (sp_move rfl iL) ?_
  refine sW (.one rfl rfl rfl) rfl (sp_not rfl (.inr ⟨_, (by exact id), rfl⟩)) ?_
  refine sQ rfl (sp_and rfl iL (.inr ⟨_, (by exact id), rfl⟩)) ?_
  refine AOps.nil ?_
  refine hK12 _ ?_
  refine jb1k h9 fun p1 hp1 hk2 => ?_
  have J2 : ∀ (keep1 : Bool) (i6 : Nat → Nat), p1 = keep1 → K11 ⟨[(0, .r (.sl (a3.map GElem.row))), (1, .r (.sl (b3.map GElem.row))), (4, .ptr 4 n0 0 0), (5, .ptr 5 (n0 + 2) 0 0), (6, .r (.bool tied1)), (7, .r (.bool ((tied1 && (decide ((a3.length : Int) = 1))) && (decide ((b3.length : Int) = 1))))), (8, .r (.int .i64 rest1)), (9, .r (.bool keep1))], [(4, some (.box n0 41 [.cst (.slice none 0 0), .cst (.slice none 0 0), .cst (.slice none 0 0)])), (5, some (.box (n0 + 2) 41 [.own 12 (i3 0), .own 9081 (i3 1), .own 9082 (i3 2)])), (12, some (.arr (i3 0) 22 1 (out2.Adds.map (rSl GElem.row)))), (9081, some (.arr (i3 1) 4 1 (out2.Cuts.map rBool))), (9082, some (.arr (i3 2) 29 1 (out2.Attrs.map (rSl GAttr.row))))], (i6 0), 219⟩ := by
   intro keep1 i6 e
   have h10 := hk2 _ e
   refine hK11 _ ?_
   refine AW.seq_w fun K13 hK13 wK13 => ?_
   refine AW.region ?_
   refine sQ rfl (sp_fieldAddr_own (ob := .box _ _ _) rfl tf_41_0 iL (fun _ => rfl) rfl) ?_
   refine sQ rfl (ms_load_box (a := .own 12 (i3 0)) rfl ts_37 iL rfl rfl) ?_
   refine sQ rfl (ms_len_own rfl tg_37.slice iL rfl) ?_
   refine ob1k h10 fun k1 ek1 h11 => ?_
   refine sQ rfl (ms_sub rfl iL iL (fun _ => ek1)) ?_
   refine sQ rfl (sp_assign rfl iL) ?_
   refine AOps.nil ?_
   refine hK13 _ ?_
   refine AW.block ?_
   refine AW.seq_w fun K14 hK14 wK14 => ?_
   refine AW.region ?_
   refine sQ rfl (sp_move rfl iL) ?_
   refine sQ rfl (sp_assign rfl iL) ?_
   refine AOps.nil ?_
   refine hK14 _ ?_
   refine AW.cond rfl (fun hc2 => ?_) (fun hc2 => ?_)
   ·have h12 := ite_t hc2 h11
    refine AW.seq_w fun K15 hK15 wK15 => ?_
    refine AW.weak (s' := ⟨[(0, .r (.sl (a3.map GElem.row))), (1, .r (.sl (b3.map GElem.row))), (4, .ptr 4 n0 0 0), (5, .ptr 5 (n0 + 2) 0 0), (6, .r (.bool tied1)), (7, .r (.bool ((tied1 && (decide ((a3.length : Int) = 1))) && (decide ((b3.length : Int) = 1)))))], [(4, some (.box n0 41 [.cst (.slice none 0 0), .cst (.slice none 0 0), .cst (.slice none 0 0)])), (5, some (.box (n0 + 2) 41 [.own 12 (i3 0), .own 9081 (i3 1), .own 9082 (i3 2)])), (12, some (.arr (i3 0) 22 1 (out2.Adds.map (rSl GElem.row)))), (9081, some (.arr (i3 1) 4 1 (out2.Cuts.map rBool))), (9082, some (.arr (i3 2) 29 1 (out2.Attrs.map (rSl GAttr.row))))], (i6 0), 219⟩) (by exact Weak.cv ⟨.inl iL, .inl iL, .inl iL, .inl iL, .inl iL, .inl iL, trivial⟩ ⟨.inl rfl, .inl rfl, .inl rfl, .inl rfl, .inl rfl, trivial⟩ (Nat.le_refl _)) ?_
    refine ob1k h12 fun l1 el1 h13 => ?_
    refine ob1k h13 fun l2 el2 h14 => ?_
    refine ob1k h14 fun x5 ex5 h15 => ?_
    refine ob1k h15 fun x6 ex6 h16 => ?_
    refine ob1k h16 fun r1 er1 h17 => ?_
    refine ob1k h17 fun l3 el3 h18 => ?_
    refine AW.regionP 22 [⟨some 148, (fun _ => .ptr 5 (n0 + 2) 0 0), none, []⟩, ⟨some 149, (fun _ => .own 12 (i3 0)), none, []⟩, ⟨some 150, (fun G1 => .own 150 (G1 2)), some (150, (fun G1 => some (.arr (G1 2) 22 1 ([[]].map (rSl GElem.row))))), [2]⟩, ⟨some 151, (fun G1 => .own 12 (G1 3)), some (12, (fun G1 => some (.arr (G1 3) 22 1 (l1.map (rSl GElem.row))))), [3]⟩, ⟨some 152, (fun _ => .ptr 5 (n0 + 2) 0 1), none, []⟩, ⟨some 153, (fun _ => .own 9081 (i3 1)), none, []⟩, ⟨some 154, (fun G1 => .own 154 (G1 6)), some (154, (fun G1 => some (.arr (G1 6) 4 1 ([false].map rBool)))), [6]⟩, ⟨some 155, (fun G1 => .own 9081 (G1 7)), some (9081, (fun G1 => some (.arr (G1 7) 4 1 (l2.map rBool)))), [7]⟩, ⟨some 156, (fun _ => .ptr 5 (n0 + 2) 0 2), none, []⟩, ⟨some 157, (fun _ => .own 9082 (i3 2)), none, []⟩, ⟨some 158, (fun _ => .r (.sl (a3.map GElem.row))), none, []⟩, ⟨some 159, (fun _ => .rop (GElem.row x5) 0), none, []⟩, ⟨some 160, (fun _ => .rop (GElem.row x5) 2), none, []⟩, ⟨some 161, (fun _ => .r (.sl (x5.Attrs.map GAttr.row))), none, []⟩, ⟨some 162, (fun _ => .r (.sl (b3.map GElem.row))), none, []⟩, ⟨some 163, (fun _ => .rop (GElem.row x6) 0), none, []⟩, ⟨some 164, (fun _ => .rop (GElem.row x6) 2), none, []⟩, ⟨some 165, (fun _ => .r (.sl (x6.Attrs.map GAttr.row))), none, []⟩, ⟨some 166, (fun _ => .r (.sl (r1.map GAttr.row))), none, []⟩, ⟨some 167, (fun G1 => .own 167 (G1 19)), some (167, (fun G1 => some (.arr (G1 19) 29 1 ([r1].map (rSl GAttr.row))))), [19]⟩, ⟨some 168, (fun G1 => .own 9082 (G1 20)), some (9082, (fun G1 => some (.arr (G1 20) 29 1 (l3.map (rSl GAttr.row))))), [20]⟩, ⟨some 169, (fun _ => .ptr 5 (n0 + 2) 0 0), none, []⟩] hmix (by kernel_rfl) (by exact ⟨fun _ _ h => ⟨rfl, fun _ _ e => by cases e⟩, fun _ _ h => ⟨rfl, fun _ _ e => by cases e⟩, fun _ _ h => ⟨by simp only [h 2 rfl], fun _ _ e => by cases e; simp only [h 2 rfl]⟩, fun _ _ h => ⟨by simp only [h 3 rfl], fun _ _ e => by cases e; simp only [h 3 rfl]⟩, fun _ _ h => ⟨rfl, fun _ _ e => by cases e⟩, fun _ _ h => ⟨rfl, fun _ _ e => by cases e⟩, fun _ _ h => ⟨by simp only [h 6 rfl], fun _ _ e => by cases e; simp only [h 6 rfl]⟩, fun _ _ h => ⟨by simp only [h 7 rfl], fun _ _ e => by cases e; simp only [h 7 rfl]⟩, fun _ _ h => ⟨rfl, fun _ _ e => by cases e⟩, fun _ _ h => ⟨rfl, fun _ _ e => by cases e⟩, fun _ _ h => ⟨rfl, fun _ _ e => by cases e⟩, fun _ _ h => ⟨rfl, fun _ _ e => by cases e⟩, fun _ _ h => ⟨rfl, fun _ _ e => by cases e⟩, fun _ _ h => ⟨rfl, fun _ _ e => by cases e⟩, fun _ _ h => ⟨rfl, fun _ _ e => by cases e⟩, fun _ _ h => ⟨rfl, fun _ _ e => by cases e⟩, fun _ _ h => ⟨rfl, fun _ _ e => by cases e⟩, fun _ _ h => ⟨rfl, fun _ _ e => by cases e⟩, fun _ _ h => ⟨rfl, fun _ _ e => by cases e⟩, fun _ _ h => ⟨by simp only [h 19 rfl], fun _ _ e => by cases e; simp only [h 19 rfl]⟩, fun _ _ h => ⟨by simp only [h 20 rfl], fun _ _ e => by cases e; simp only [h 20 rfl]⟩, fun _ _ h => ⟨rfl, fun _ _ e => by cases e⟩, trivial⟩) rfl (by exact ⟨Ob.quiet (n1 := fun n => n) rfl rfl (by intro d h; cases h; rfl) rfl (fun _ => [(5, .ptr 5 (n0 + 2) 0 0)]) (fun _ => [(5, some (.box (n0 + 2) 41 [.own 12 (i3 0), .own 9081 (i3 1), .own 9082 (i3 2)]))]) (fun D G1 hr => ⟨inE_base rfl rfl, trivial⟩) (fun D G1 hr => ⟨inH_base rfl rfl, trivial⟩) (fun _ _ => rfl) (fun G1 e h' n => OpQ.spec (v := .ptr 5 (n0 + 2) 0 0) (sp_fieldAddr_own (ob := .box _ _ _) rfl tf_41_0 (.inl rfl) (fun _ => rfl) rfl) _),
      Ob.quiet (n1 := fun n => n) rfl rfl (by intro d h; cases h; rfl) rfl (fun _ => [(148, .ptr 5 (n0 + 2) 0 0)]) (fun _ => [(5, some (.box (n0 + 2) 41 [.own 12 (i3 0), .own 9081 (i3 1), .own 9082 (i3 2)]))]) (fun D G1 hr => ⟨inE_op hr 0 rfl rfl (by kernel_rfl) rfl rfl, trivial⟩) (fun D G1 hr => ⟨inH_base rfl rfl, trivial⟩) (fun _ _ => rfl) (fun G1 e h' n => OpQ.spec (v := .own 12 (i3 0)) (ms_load_box (a := .own 12 (i3 0)) rfl ts_37 (.inl rfl) rfl rfl) _),
      Ob.make (n1 := fun n => n + 1) rfl rfl (by intro d h; cases h; rfl) rfl (fun _ => []) (fun _ => []) (fun D G1 hr => trivial) (fun D G1 hr => trivial) (fun G1 e h' n => ms_lit 150 rfl tg_37 (f := (rSl GElem.row)) (l := ([[]] : List (List GElem))) ⟨rfl, ⟨_, (.inl rfl), rfl⟩, trivial⟩ rfl (fun _ => rfl) rfl),
      Ob.make (n1 := fun n => n + 1) rfl rfl (by intro d h; cases h; rfl) rfl (fun G1 => [(149, .own 12 (i3 0)), (150, .own 150 (G1 2))]) (fun G1 => [(12, some (.arr (i3 0) 22 1 (out2.Adds.map (rSl GElem.row)))), (150, some (.arr (G1 2) 22 1 ([[]].map (rSl GElem.row))))]) (fun D G1 hr => ⟨inE_op hr 1 rfl rfl (by kernel_rfl) rfl rfl, inE_op hr 2 rfl rfl (by kernel_rfl) rfl rfl, trivial⟩) (fun D G1 hr => ⟨inH_baseL hr (by kernel_rfl) rfl, inH_op hr 2 rfl rfl (by kernel_rfl) (by kernel_rfl) rfl, trivial⟩) (fun G1 e h' n => ms_app rfl tg_37 (.inl rfl) rfl (.inr (.inl ⟨_, _, (.inl rfl), rfl⟩)) el1),
      Ob.quiet (n1 := fun n => n) rfl rfl (by intro d h; cases h; rfl) rfl (fun _ => [(5, .ptr 5 (n0 + 2) 0 0)]) (fun _ => [(5, some (.box (n0 + 2) 41 [.own 12 (i3 0), .own 9081 (i3 1), .own 9082 (i3 2)]))]) (fun D G1 hr => ⟨inE_base rfl rfl, trivial⟩) (fun D G1 hr => ⟨inH_base rfl rfl, trivial⟩) (fun _ _ => rfl) (fun G1 e h' n => OpQ.spec (v := .ptr 5 (n0 + 2) 0 1) (sp_fieldAddr_own (ob := .box _ _ _) rfl tf_41_1 (.inl rfl) (fun _ => rfl) rfl) _),
      Ob.quiet (n1 := fun n => n) rfl rfl (by intro d h; cases h; rfl) rfl (fun _ => [(152, .ptr 5 (n0 + 2) 0 1)]) (fun _ => [(5, some (.box (n0 + 2) 41 [.own 12 (i3 0), .own 9081 (i3 1), .own 9082 (i3 2)]))]) (fun D G1 hr => ⟨inE_op hr 4 rfl rfl (by kernel_rfl) rfl rfl, trivial⟩) (fun D G1 hr => ⟨inH_base rfl rfl, trivial⟩) (fun _ _ => rfl) (fun G1 e h' n => OpQ.spec (v := .own 9081 (i3 1)) (ms_load_box (a := .own 9081 (i3 1)) rfl ts_38 (.inl rfl) rfl rfl) _),
      Ob.make (n1 := fun n => n + 1) rfl rfl (by intro d h; cases h; rfl) rfl (fun _ => []) (fun _ => []) (fun D G1 hr => trivial) (fun D G1 hr => trivial) (fun G1 e h' n => ms_lit 154 rfl tg_38 (f := rBool) (l := ([false] : List Bool)) ⟨rfl, ⟨_, (.inl rfl), rfl⟩, trivial⟩ rfl (fun _ => rfl) rfl),
      Ob.make (n1 := fun n => n + 1) rfl rfl (by intro d h; cases h; rfl) rfl (fun G1 => [(153, .own 9081 (i3 1)), (154, .own 154 (G1 6))]) (fun G1 => [(154, some (.arr (G1 6) 4 1 ([false].map rBool))), (9081, some (.arr (i3 1) 4 1 (out2.Cuts.map rBool)))]) (fun D G1 hr => ⟨inE_op hr 5 rfl rfl (by kernel_rfl) rfl rfl, inE_op hr 6 rfl rfl (by kernel_rfl) rfl rfl, trivial⟩) (fun D G1 hr => ⟨inH_op hr 6 rfl rfl (by kernel_rfl) (by kernel_rfl) rfl, inH_baseL hr (by kernel_rfl) rfl, trivial⟩) (fun G1 e h' n => ms_app rfl tg_38 (.inl rfl) rfl (.inr (.inl ⟨_, _, (.inl rfl), rfl⟩)) el2),
      Ob.quiet (n1 := fun n => n) rfl rfl (by intro d h; cases h; rfl) rfl (fun _ => [(5, .ptr 5 (n0 + 2) 0 0)]) (fun _ => [(5, some (.box (n0 + 2) 41 [.own 12 (i3 0), .own 9081 (i3 1), .own 9082 (i3 2)]))]) (fun D G1 hr => ⟨inE_base rfl rfl, trivial⟩) (fun D G1 hr => ⟨inH_base rfl rfl, trivial⟩) (fun _ _ => rfl) (fun G1 e h' n => OpQ.spec (v := .ptr 5 (n0 + 2) 0 2) (sp_fieldAddr_own (ob := .box _ _ _) rfl tf_41_2 (.inl rfl) (fun _ => rfl) rfl) _),
      Ob.quiet (n1 := fun n => n) rfl rfl (by intro d h; cases h; rfl) rfl (fun _ => [(156, .ptr 5 (n0 + 2) 0 2)]) (fun _ => [(5, some (.box (n0 + 2) 41 [.own 12 (i3 0), .own 9081 (i3 1), .own 9082 (i3 2)]))]) (fun D G1 hr => ⟨inE_op hr 8 rfl rfl (by kernel_rfl) rfl rfl, trivial⟩) (fun D G1 hr => ⟨inH_base rfl rfl, trivial⟩) (fun _ _ => rfl) (fun G1 e h' n => OpQ.spec (v := .own 9082 (i3 2)) (ms_load_box (a := .own 9082 (i3 2)) rfl ts_39 (.inl rfl) rfl rfl) _),
      Ob.quiet (n1 := fun n => n) rfl rfl (by intro d h; cases h; rfl) rfl (fun _ => [(0, .r (.sl (a3.map GElem.row)))]) (fun _ => []) (fun D G1 hr => ⟨inE_base rfl rfl, trivial⟩) (fun D G1 hr => trivial) (fun _ _ => rfl) (fun G1 e h' n => OpQ.spec (v := .r (.sl (a3.map GElem.row))) (sp_move rfl (.inl rfl)) _),
      Ob.quiet (n1 := fun n => n) rfl rfl (by intro d h; cases h; rfl) rfl (fun _ => [(158, .r (.sl (a3.map GElem.row)))]) (fun _ => []) (fun D G1 hr => ⟨inE_op hr 10 rfl rfl (by kernel_rfl) rfl rfl, trivial⟩) (fun D G1 hr => trivial) (fun _ _ => rfl) (fun G1 e h' n => OpQ.spec (v := .rop (GElem.row x5) 0) (ms_idx rfl tg_22.slice (.inl rfl) (.inl rfl) (fun _ => rfl) (fun _ => ex5)) _),
      Ob.quiet (n1 := fun n => n) rfl rfl (by intro d h; cases h; rfl) rfl (fun _ => [(159, .rop (GElem.row x5) 0)]) (fun _ => []) (fun D G1 hr => ⟨inE_op hr 11 rfl rfl (by kernel_rfl) rfl rfl, trivial⟩) (fun D G1 hr => trivial) (fun _ _ => rfl) (fun G1 e h' n => OpQ.spec (v := .rop (GElem.row x5) 2) (sp_fieldAddr_ro rfl tf_82_2 (.inl rfl)) _),
      Ob.quiet (n1 := fun n => n) rfl rfl (by intro d h; cases h; rfl) rfl (fun _ => [(160, .rop (GElem.row x5) 2)]) (fun _ => []) (fun D G1 hr => ⟨inE_op hr 12 rfl rfl (by kernel_rfl) rfl rfl, trivial⟩) (fun D G1 hr => trivial) (fun _ _ => rfl) (fun G1 e h' n => OpQ.spec (v := .r (.sl (x5.Attrs.map GAttr.row))) (ms_load (d := .sl (x5.Attrs.map GAttr.row)) rfl ts_29 (.inl rfl) rfl) _),
      Ob.quiet (n1 := fun n => n) rfl rfl (by intro d h; cases h; rfl) rfl (fun _ => [(1, .r (.sl (b3.map GElem.row)))]) (fun _ => []) (fun D G1 hr => ⟨inE_base rfl rfl, trivial⟩) (fun D G1 hr => trivial) (fun _ _ => rfl) (fun G1 e h' n => OpQ.spec (v := .r (.sl (b3.map GElem.row))) (sp_move rfl (.inl rfl)) _),
      Ob.quiet (n1 := fun n => n) rfl rfl (by intro d h; cases h; rfl) rfl (fun _ => [(162, .r (.sl (b3.map GElem.row)))]) (fun _ => []) (fun D G1 hr => ⟨inE_op hr 14 rfl rfl (by kernel_rfl) rfl rfl, trivial⟩) (fun D G1 hr => trivial) (fun _ _ => rfl) (fun G1 e h' n => OpQ.spec (v := .rop (GElem.row x6) 0) (ms_idx rfl tg_22.slice (.inl rfl) (.inl rfl) (fun _ => rfl) (fun _ => ex6)) _),
      Ob.quiet (n1 := fun n => n) rfl rfl (by intro d h; cases h; rfl) rfl (fun _ => [(163, .rop (GElem.row x6) 0)]) (fun _ => []) (fun D G1 hr => ⟨inE_op hr 15 rfl rfl (by kernel_rfl) rfl rfl, trivial⟩) (fun D G1 hr => trivial) (fun _ _ => rfl) (fun G1 e h' n => OpQ.spec (v := .rop (GElem.row x6) 2) (sp_fieldAddr_ro rfl tf_82_2 (.inl rfl)) _),
      Ob.quiet (n1 := fun n => n) rfl rfl (by intro d h; cases h; rfl) rfl (fun _ => [(164, .rop (GElem.row x6) 2)]) (fun _ => []) (fun D G1 hr => ⟨inE_op hr 16 rfl rfl (by kernel_rfl) rfl rfl, trivial⟩) (fun D G1 hr => trivial) (fun _ _ => rfl) (fun G1 e h' n => OpQ.spec (v := .r (.sl (x6.Attrs.map GAttr.row))) (ms_load (d := .sl (x6.Attrs.map GAttr.row)) rfl ts_29 (.inl rfl) rfl) _),
      Ob.quiet (n1 := fun n => n) rfl rfl (by intro d h; cases h; rfl) rfl (fun _ => [(161, .r (.sl (x5.Attrs.map GAttr.row))), (165, .r (.sl (x6.Attrs.map GAttr.row)))]) (fun _ => []) (fun D G1 hr => ⟨inE_op hr 13 rfl rfl (by kernel_rfl) rfl rfl, inE_op hr 17 rfl rfl (by kernel_rfl) rfl rfl, trivial⟩) (fun D G1 hr => trivial) (fun _ _ => rfl) (fun G1 e h' n => sp_callS (r := .r (.sl (r1.map GAttr.row))) (caps := []) (bs := [.r (.sl (x5.Attrs.map GAttr.row)), .r (.sl (x6.Attrs.map GAttr.row))]) rfl (.inl rfl) rfl ⟨.inl ⟨(.inl rfl), rfl⟩, .inl ⟨(.inl rfl), rfl⟩, trivial⟩ (fun _ => w_ref_Between (er1))),
      Ob.make (n1 := fun n => n + 1) rfl rfl (by intro d h; cases h; rfl) rfl (fun _ => [(166, .r (.sl (r1.map GAttr.row)))]) (fun _ => []) (fun D G1 hr => ⟨inE_op hr 18 rfl rfl (by kernel_rfl) rfl rfl, trivial⟩) (fun D G1 hr => trivial) (fun G1 e h' n => ms_lit 167 rfl tg_39 (f := (rSl GAttr.row)) (l := ([r1] : List (List GAttr))) ⟨rfl, ⟨_, (.inl rfl), rfl⟩, trivial⟩ rfl (fun _ => rfl) rfl),
      Ob.make (n1 := fun n => n + 1) rfl rfl (by intro d h; cases h; rfl) rfl (fun G1 => [(157, .own 9082 (i3 2)), (167, .own 167 (G1 19))]) (fun G1 => [(167, some (.arr (G1 19) 29 1 ([r1].map (rSl GAttr.row)))), (9082, some (.arr (i3 2) 29 1 (out2.Attrs.map (rSl GAttr.row))))]) (fun D G1 hr => ⟨inE_op hr 9 rfl rfl (by kernel_rfl) rfl rfl, inE_op hr 19 rfl rfl (by kernel_rfl) rfl rfl, trivial⟩) (fun D G1 hr => ⟨inH_op hr 19 rfl rfl (by kernel_rfl) (by kernel_rfl) rfl, inH_baseL hr (by kernel_rfl) rfl, trivial⟩) (fun G1 e h' n => ms_app rfl tg_39 (.inl rfl) rfl (.inr (.inl ⟨_, _, (.inl rfl), rfl⟩)) el3),
      Ob.quiet (n1 := fun n => n) rfl rfl (by intro d h; cases h; rfl) rfl (fun _ => [(5, .ptr 5 (n0 + 2) 0 0)]) (fun _ => [(5, some (.box (n0 + 2) 41 [.own 12 (i3 0), .own 9081 (i3 1), .own 9082 (i3 2)]))]) (fun D G1 hr => ⟨inE_base rfl rfl, trivial⟩) (fun D G1 hr => ⟨inH_base rfl rfl, trivial⟩) (fun _ _ => rfl) (fun G1 e h' n => OpQ.spec (v := .ptr 5 (n0 + 2) 0 0) (sp_fieldAddr_own (ob := .box _ _ _) rfl tf_41_0 (.inl rfl) (fun _ => rfl) rfl) _),
      trivial⟩) fun G1 n1 => ?_
    refine AOps.weak (s' := ⟨[(0, .r (.sl (a3.map GElem.row))), (1, .r (.sl (b3.map GElem.row))), (4, .ptr 4 n0 0 0), (5, .ptr 5 (n0 + 2) 0 0), (6, .r (.bool tied1)), (7, .r (.bool ((tied1 && (decide ((a3.length : Int) = 1))) && (decide ((b3.length : Int) = 1))))), (148, .ptr 5 (n0 + 2) 0 0), (150, .own 150 (G1 2)), (151, .own 12 (G1 3)), (152, .ptr 5 (n0 + 2) 0 1), (154, .own 154 (G1 6)), (155, .own 9081 (G1 7)), (156, .ptr 5 (n0 + 2) 0 2), (158, .r (.sl (a3.map GElem.row))), (159, .rop (GElem.row x5) 0), (160, .rop (GElem.row x5) 2), (161, .r (.sl (x5.Attrs.map GAttr.row))), (162, .r (.sl (b3.map GElem.row))), (163, .rop (GElem.row x6) 0), (164, .rop (GElem.row x6) 2), (165, .r (.sl (x6.Attrs.map GAttr.row))), (166, .r (.sl (r1.map GAttr.row))), (167, .own 167 (G1 19)), (168, .own 9082 (G1 20)), (169, .ptr 5 (n0 + 2) 0 0)], [(4, some (.box n0 41 [.cst (.slice none 0 0), .cst (.slice none 0 0), .cst (.slice none 0 0)])), (5, some (.box (n0 + 2) 41 [.own 12 (i3 0), .own 9081 (i3 1), .own 9082 (i3 2)])), (12, some (.arr (G1 3) 22 1 (l1.map (rSl GElem.row)))), (150, some (.arr (G1 2) 22 1 ([[]].map (rSl GElem.row)))), (154, some (.arr (G1 6) 4 1 ([false].map rBool))), (167, some (.arr (G1 19) 29 1 ([r1].map (rSl GAttr.row)))), (9081, some (.arr (G1 7) 4 1 (l2.map rBool))), (9082, some (.arr (G1 20) 29 1 (l3.map (rSl GAttr.row))))], n1, 219⟩) (by exact Weak.cv ⟨.inl iL, .inl iL, .inl iL, .inl iL, .inl iL, .inl iL, .inl iL, .inl iL, .inl iL, .inl iL, .inl iL, .inl iL, .inl iL, .inl iL, .inl iL, .inl iL, .inl iL, .inl iL, .inl iL, .inl iL, .inl iL, .inl iL, .inl iL, .inl iL, .inl iL, trivial⟩ ⟨.inl rfl, .inl rfl, .inl rfl, .inl rfl, .inl rfl, .inl rfl, .inl rfl, .inl rfl, trivial⟩ (Nat.le_refl _)) ?_
    refine AOps.step0 rfl rfl (ms_store_box (ds := [.own 12 (G1 3), .own 9081 (i3 1), .own 9082 (i3 2)]) rfl tz_37 iL rfl iL rfl rfl rfl rfl) ?_
    refine sQ rfl (sp_fieldAddr_own (ob := .box _ _ _) rfl tf_41_1 iL (fun _ => rfl) rfl) ?_
    refine AOps.step0 rfl rfl (ms_store_box (ds := [.own 12 (G1 3), .own 9081 (G1 7), .own 9082 (i3 2)]) rfl tz_38 iL rfl iL rfl rfl rfl rfl) ?_
    refine sQ rfl (sp_fieldAddr_own (ob := .box _ _ _) rfl tf_41_2 iL (fun _ => rfl) rfl) ?_
    refine AOps.step0 rfl rfl (ms_store_box (ds := [.own 12 (G1 3), .own 9081 (G1 7), .own 9082 (G1 20)]) rfl tz_39 iL rfl iL rfl rfl rfl rfl) ?_
    refine AOps.nil ?_
    refine hK15 _ ?_
    refine AW.seq_w fun K16 hK16 wK16 => ?_
    refine AW.weak (s' := ⟨[(0, .r (.sl (a3.map GElem.row))), (1, .r (.sl (b3.map GElem.row))), (4, .ptr 4 n0 0 0), (5, .ptr 5 (n0 + 2) 0 0), (6, .r (.bool tied1)), (7, .r (.bool ((tied1 && (decide ((a3.length : Int) = 1))) && (decide ((b3.length : Int) = 1)))))], [(4, some (.box n0 41 [.cst (.slice none 0 0), .cst (.slice none 0 0), .cst (.slice none 0 0)])), (5, some (.box (n0 + 2) 41 [.own 12 (G1 3), .own 9081 (G1 7), .own 9082 (G1 20)])), (12, some (.arr (G1 3) 22 1 (l1.map (rSl GElem.row)))), (9081, some (.arr (G1 7) 4 1 (l2.map rBool))), (9082, some (.arr (G1 20) 29 1 (l3.map (rSl GAttr.row))))], n1, 219⟩) (by exact Weak.cv ⟨.inl iL, .inl iL, .inl iL, .inl iL, .inl iL, .inl iL, trivial⟩ ⟨.inl rfl, .inl rfl, .inl rfl, .inl rfl, .inl rfl, trivial⟩ (Nat.le_refl _)) ?_
    refine AW.regionQ hmix (by kernel_rfl) ?_
    refine AQ.step rfl rfl rfl (sp_move rfl iL) ?_
    refine ob1k h18 fun a5 ea5 h19 => ?_
    refine AQ.step rfl rfl rfl (ms_slice rfl tg_22.slice iL (by exact ⟨_, iL⟩) (by exact rfl) (fun _ => rfl) (fun _ => ea5)) ?_
    refine AQ.step rfl rfl rfl (sp_move rfl iL) ?_
    refine ob1k h19 fun b5 eb5 h20 => ?_
    refine AQ.step rfl rfl rfl (ms_slice rfl tg_22.slice iL (by exact ⟨_, iL⟩) (by exact rfl) (fun _ => rfl) (fun _ => eb5)) ?_
    refine AQ.step rfl rfl rfl (sp_assign rfl iL) ?_
    refine AQ.step rfl rfl rfl (sp_assign rfl iL) ?_
    refine AQ.nil ?_
    refine hK16 _ ?_
    refine AW.seq_w fun K17 hK17 wK17 => ?_
    refine AW.region ?_
    refine sQ rfl (sp_move rfl iL) ?_
    refine AOps.nil ?_
    refine hK17 _ ?_
    refine AW.cond rfl (fun hc3 => ?_) (fun hc3 => ?_)
    ·have h21 := ite_t hc3 h20
     refine AW.seq_w fun K18 hK18 wK18 => ?_
     refine AW.weak (s' := ⟨[(4, .ptr 4 n0 0 0), (5, .ptr 5 (n0 + 2) 0 0)], [(4, some (.box n0 41 [.cst (.slice none 0 0), .cst (.slice none 0 0), .cst (.slice none 0 0)])), (5, some (.box (n0 + 2) 41 [.own 12 (G1 3), .own 9081 (G1 7), .own 9082 (G1 20)])), (12, some (.arr (G1 3) 22 1 (l1.map (rSl GElem.row)))), (9081, some (.arr (G1 7) 4 1 (l2.map rBool))), (9082, some (.arr (G1 20) 29 1 (l3.map (rSl GAttr.row))))], n1, 219⟩) (by exact Weak.cv ⟨.inl iL, .inl iL, trivial⟩ ⟨.inl rfl, .inl rfl, .inl rfl, .inl rfl, .inl rfl, trivial⟩ (Nat.le_refl _)) ?_
     refine AW.region ?_
     refine sQ rfl (ms_loadA_box rfl ta_41 iL rfl rfl) ?_
     refine AOps.step0 rfl rfl (ms_store_box (ds := [.own 12 (G1 3), .own 9081 (G1 7), .own 9082 (G1 20)]) rfl tz_41 iL rfl iL rfl rfl rfl rfl) ?_
     refine AOps.nil ?_
     refine hK18 _ ?_
     refine AW.ret ?_
     exact retf1 (P := Try.prog) (fun (r : Ref_Act) => .agg [.r (.sl (r.Adds.map (rSl GElem.row))), .r (.sl (r.Cuts.map rBool)), .r (.sl (r.Attrs.map (rSl GAttr.row)))]) (he1 _ (hx1 _ (Option.some.inj h21).symm)) iL (.a ta_41 rfl rfl rfl (.agg (by exact ⟨.own rfl, .own rfl, .own rfl, trivial⟩)))
    ·have h21 := ite_f hc3 h20
     refine AW.skip ?_
     exact NextQ3.mk h21 (vec [(G1 3), (G1 7), (G1 20), n1]) ((by exact Weak.cv ⟨.inl iL, .inl iL, .inl iL, .inl iL, .inl iL, trivial⟩ ⟨.inl rfl, .inl rfl, .inl rfl, .inl rfl, .inl rfl, trivial⟩ (Nat.le_refl _)))
   ·have h12 := ite_f hc2 h11
    refine AW.seq_w fun K19 hK19 wK19 => ?_
    refine AW.region ?_
    refine sQ rfl (sp_move rfl iL) ?_
    refine sQ rfl (ms_len rfl tg_22.slice iL) ?_
    refine sQ rfl (sp_gtr rfl iL iL) ?_
    refine sQ rfl (sp_move rfl iL) ?_
    refine sW (.one rfl rfl rfl) rfl (sp_move rfl iL) ?_
    refine sW (.one rfl rfl rfl) rfl (sp_not rfl (.inr ⟨_, (by exact id), rfl⟩)) ?_
    refine sW (.one rfl rfl rfl) rfl (sp_move rfl (.inr ⟨_, (by exact id), rfl⟩)) ?_
    refine sW (.two rfl rfl rfl) rfl (sp_move rfl iL) ?_
    refine sW (.two rfl rfl rfl) rfl (ms_len rfl tg_22.slice (.inr ⟨_, (by exact id), rfl⟩)) ?_
    refine sW (.two rfl rfl rfl) rfl (sp_gtr rfl (.inr ⟨_, (by exact id), rfl⟩) iL) ?_
    refine sW (.one rfl rfl rfl) rfl (sp_or rfl (.inr ⟨_, (by exact id), rfl⟩) (.inr ⟨_, (by exact id), rfl⟩)) ?_
    refine sQ rfl (sp_and rfl iL (.inr ⟨_, (by exact id), rfl⟩)) ?_
    refine sQ rfl (sp_move rfl iL) ?_
    refine sW (.one rfl rfl rfl) rfl (sp_move rfl iL) ?_
    refine sW (.one rfl rfl rfl) rfl (sp_move rfl iL) ?_
    refine ob1k h12 fun l4 el4 h22 => ?_
    refine sW (.one rfl rfl rfl) rfl (ms_slice rfl tg_22.slice (.inr ⟨_, (by exact id), rfl⟩) (by exact ⟨_, iL⟩) (by exact rfl) (fun _ => rfl) (gdt el4)) ?_
    refine sW (.one rfl rfl rfl) rfl (sp_move rfl iL) ?_
    refine sW (.one rfl rfl rfl) rfl (sp_move rfl iL) ?_
    refine ob1k h22 fun r2 er2 h23 => ?_
    refine AOps.stepW (.one rfl rfl rfl) rfl rfl (sp_call (r := .r (.int .i64 r2)) (caps := []) (bs := [.r (.sl (l4.map GElem.row)), .r (.sl (b3.map GElem.row)), .r (.bool tied1)]) rfl iL rfl ⟨⟨_, (.inr ⟨_, (by exact id), rfl⟩), .d rfl⟩, ⟨_, (.inr ⟨_, (by exact id), rfl⟩), .d rfl⟩, ⟨_, (.inr ⟨_, (by exact id), rfl⟩), .d rfl⟩, trivial⟩ (fun hg => w_ref_DiffCost (gdt er2 hg)) rfl) ?_
    refine ob1k h23 fun x7 ex7 h24 => ?_
    refine sW (.one rfl rfl rfl) rfl (ms_add rfl iL (.inr ⟨_, (by exact id), rfl⟩) (gdt ex7)) ?_
    refine sW (.one rfl rfl rfl) rfl (sp_eql rfl (.inr ⟨_, (by exact id), rfl⟩) (.inr ⟨_, (by exact id), rfl⟩)) ?_
    refine sQ rfl (sp_and rfl iL (.inr ⟨_, (by exact id), rfl⟩)) ?_
    refine sQ rfl (sp_assign rfl iL) ?_
    refine AOps.nil ?_
    refine hK19 _ ?_
    refine AW.cond rfl (fun hc4 => ?_) (fun hc4 => ?_)
    ·have h25 := ite_t hc4 h24
     refine AW.seq_w fun K20 hK20 wK20 => ?_
     refine AW.weak (s' := ⟨[(0, .r (.sl (a3.map GElem.row))), (1, .r (.sl (b3.map GElem.row))), (4, .ptr 4 n0 0 0), (5, .ptr 5 (n0 + 2) 0 0), (6, .r (.bool tied1))], [(4, some (.box n0 41 [.cst (.slice none 0 0), .cst (.slice none 0 0), .cst (.slice none 0 0)])), (5, some (.box (n0 + 2) 41 [.own 12 (i3 0), .own 9081 (i3 1), .own 9082 (i3 2)])), (12, some (.arr (i3 0) 22 1 (out2.Adds.map (rSl GElem.row)))), (9081, some (.arr (i3 1) 4 1 (out2.Cuts.map rBool))), (9082, some (.arr (i3 2) 29 1 (out2.Attrs.map (rSl GAttr.row))))], (i6 0), 219⟩) (by exact Weak.cv ⟨.inl iL, .inl iL, .inl iL, .inl iL, .inl iL, trivial⟩ ⟨.inl rfl, .inl rfl, .inl rfl, .inl rfl, .inl rfl, trivial⟩ (Nat.le_refl _)) ?_
     refine ob1k h25 fun l5 el5 h26 => ?_
     refine ob1k h26 fun l6 el6 h27 => ?_
     refine ob1k h27 fun l7 el7 h28 => ?_
     refine AW.regionP 13 [⟨some 201, (fun _ => .ptr 5 (n0 + 2) 0 0), none, []⟩, ⟨some 202, (fun _ => .own 12 (i3 0)), none, []⟩, ⟨some 203, (fun G2 => .own 203 (G2 2)), some (203, (fun G2 => some (.arr (G2 2) 22 1 ([[]].map (rSl GElem.row))))), [2]⟩, ⟨some 204, (fun G2 => .own 12 (G2 3)), some (12, (fun G2 => some (.arr (G2 3) 22 1 (l5.map (rSl GElem.row))))), [3]⟩, ⟨some 205, (fun _ => .ptr 5 (n0 + 2) 0 1), none, []⟩, ⟨some 206, (fun _ => .own 9081 (i3 1)), none, []⟩, ⟨some 207, (fun G2 => .own 207 (G2 6)), some (207, (fun G2 => some (.arr (G2 6) 4 1 ([true].map rBool)))), [6]⟩, ⟨some 208, (fun G2 => .own 9081 (G2 7)), some (9081, (fun G2 => some (.arr (G2 7) 4 1 (l6.map rBool)))), [7]⟩, ⟨some 209, (fun _ => .ptr 5 (n0 + 2) 0 2), none, []⟩, ⟨some 210, (fun _ => .own 9082 (i3 2)), none, []⟩, ⟨some 211, (fun G2 => .own 211 (G2 10)), some (211, (fun G2 => some (.arr (G2 10) 29 1 ([[]].map (rSl GAttr.row))))), [10]⟩, ⟨some 212, (fun G2 => .own 9082 (G2 11)), some (9082, (fun G2 => some (.arr (G2 11) 29 1 (l7.map (rSl GAttr.row))))), [11]⟩, ⟨some 213, (fun _ => .ptr 5 (n0 + 2) 0 0), none, []⟩] hmix (by kernel_rfl) (by exact ⟨fun _ _ h => ⟨rfl, fun _ _ e => by cases e⟩, fun _ _ h => ⟨rfl, fun _ _ e => by cases e⟩, fun _ _ h => ⟨by simp only [h 2 rfl], fun _ _ e => by cases e; simp only [h 2 rfl]⟩, fun _ _ h => ⟨by simp only [h 3 rfl], fun _ _ e => by cases e; simp only [h 3 rfl]⟩, fun _ _ h => ⟨rfl, fun _ _ e => by cases e⟩, fun _ _ h => ⟨rfl, fun _ _ e => by cases e⟩, fun _ _ h => ⟨by simp only [h 6 rfl], fun _ _ e => by cases e; simp only [h 6 rfl]⟩, fun _ _ h => ⟨by simp only [h 7 rfl], fun _ _ e => by cases e; simp only [h 7 rfl]⟩, fun _ _ h => ⟨rfl, fun _ _ e => by cases e⟩, fun _ _ h => ⟨rfl, fun _ _ e => by cases e⟩, fun _ _ h => ⟨by simp only [h 10 rfl], fun _ _ e => by cases e; simp only [h 10 rfl]⟩, fun _ _ h => ⟨by simp only [h 11 rfl], fun _ _ e => by cases e; simp only [h 11 rfl]⟩, fun _ _ h => ⟨rfl, fun _ _ e => by cases e⟩, trivial⟩) rfl (by exact ⟨Ob.quiet (n1 := fun n => n) rfl rfl (by intro d h; cases h; rfl) rfl (fun _ => [(5, .ptr 5 (n0 + 2) 0 0)]) (fun _ => [(5, some (.box (n0 + 2) 41 [.own 12 (i3 0), .own 9081 (i3 1), .own 9082 (i3 2)]))]) (fun D G2 hr => ⟨inE_base rfl rfl, trivial⟩) (fun D G2 hr => ⟨inH_base rfl rfl, trivial⟩) (fun _ _ => rfl) (fun G2 e h' n => OpQ.spec (v := .ptr 5 (n0 + 2) 0 0) (sp_fieldAddr_own (ob := .box _ _ _) rfl tf_41_0 (.inl rfl) (fun _ => rfl) rfl) _),
       Ob.quiet (n1 := fun n => n) rfl rfl (by intro d h; cases h; rfl) rfl (fun _ => [(201, .ptr 5 (n0 + 2) 0 0)]) (fun _ => [(5, some (.box (n0 + 2) 41 [.own 12 (i3 0), .own 9081 (i3 1), .own 9082 (i3 2)]))]) (fun D G2 hr => ⟨inE_op hr 0 rfl rfl (by kernel_rfl) rfl rfl, trivial⟩) (fun D G2 hr => ⟨inH_base rfl rfl, trivial⟩) (fun _ _ => rfl) (fun G2 e h' n => OpQ.spec (v := .own 12 (i3 0)) (ms_load_box (a := .own 12 (i3 0)) rfl ts_37 (.inl rfl) rfl rfl) _),
       Ob.make (n1 := fun n => n + 1) rfl rfl (by intro d h; cases h; rfl) rfl (fun _ => []) (fun _ => []) (fun D G2 hr => trivial) (fun D G2 hr => trivial) (fun G2 e h' n => ms_lit 203 rfl tg_37 (f := (rSl GElem.row)) (l := ([[]] : List (List GElem))) ⟨rfl, ⟨_, (.inl rfl), rfl⟩, trivial⟩ rfl (fun _ => rfl) rfl),
       Ob.make (n1 := fun n => n + 1) rfl rfl (by intro d h; cases h; rfl) rfl (fun G2 => [(202, .own 12 (i3 0)), (203, .own 203 (G2 2))]) (fun G2 => [(12, some (.arr (i3 0) 22 1 (out2.Adds.map (rSl GElem.row)))), (203, some (.arr (G2 2) 22 1 ([[]].map (rSl GElem.row))))]) (fun D G2 hr => ⟨inE_op hr 1 rfl rfl (by kernel_rfl) rfl rfl, inE_op hr 2 rfl rfl (by kernel_rfl) rfl rfl, trivial⟩) (fun D G2 hr => ⟨inH_baseL hr (by kernel_rfl) rfl, inH_op hr 2 rfl rfl (by kernel_rfl) (by kernel_rfl) rfl, trivial⟩) (fun G2 e h' n => ms_app rfl tg_37 (.inl rfl) rfl (.inr (.inl ⟨_, _, (.inl rfl), rfl⟩)) el5),
       Ob.quiet (n1 := fun n => n) rfl rfl (by intro d h; cases h; rfl) rfl (fun _ => [(5, .ptr 5 (n0 + 2) 0 0)]) (fun _ => [(5, some (.box (n0 + 2) 41 [.own 12 (i3 0), .own 9081 (i3 1), .own 9082 (i3 2)]))]) (fun D G2 hr => ⟨inE_base rfl rfl, trivial⟩) (fun D G2 hr => ⟨inH_base rfl rfl, trivial⟩) (fun _ _ => rfl) (fun G2 e h' n => OpQ.spec (v := .ptr 5 (n0 + 2) 0 1) (sp_fieldAddr_own (ob := .box _ _ _) rfl tf_41_1 (.inl rfl) (fun _ => rfl) rfl) _),
       Ob.quiet (n1 := fun n => n) rfl rfl (by intro d h; cases h; rfl) rfl (fun _ => [(205, .ptr 5 (n0 + 2) 0 1)]) (fun _ => [(5, some (.box (n0 + 2) 41 [.own 12 (i3 0), .own 9081 (i3 1), .own 9082 (i3 2)]))]) (fun D G2 hr => ⟨inE_op hr 4 rfl rfl (by kernel_rfl) rfl rfl, trivial⟩) (fun D G2 hr => ⟨inH_base rfl rfl, trivial⟩) (fun _ _ => rfl) (fun G2 e h' n => OpQ.spec (v := .own 9081 (i3 1)) (ms_load_box (a := .own 9081 (i3 1)) rfl ts_38 (.inl rfl) rfl rfl) _),
       Ob.make (n1 := fun n => n + 1) rfl rfl (by intro d h; cases h; rfl) rfl (fun _ => []) (fun _ => []) (fun D G2 hr => trivial) (fun D G2 hr => trivial) (fun G2 e h' n => ms_lit 207 rfl tg_38 (f := rBool) (l := ([true] : List Bool)) ⟨rfl, ⟨_, (.inl rfl), rfl⟩, trivial⟩ rfl (fun _ => rfl) rfl),
       Ob.make (n1 := fun n => n + 1) rfl rfl (by intro d h; cases h; rfl) rfl (fun G2 => [(206, .own 9081 (i3 1)), (207, .own 207 (G2 6))]) (fun G2 => [(207, some (.arr (G2 6) 4 1 ([true].map rBool))), (9081, some (.arr (i3 1) 4 1 (out2.Cuts.map rBool)))]) (fun D G2 hr => ⟨inE_op hr 5 rfl rfl (by kernel_rfl) rfl rfl, inE_op hr 6 rfl rfl (by kernel_rfl) rfl rfl, trivial⟩) (fun D G2 hr => ⟨inH_op hr 6 rfl rfl (by kernel_rfl) (by kernel_rfl) rfl, inH_baseL hr (by kernel_rfl) rfl, trivial⟩) (fun G2 e h' n => ms_app rfl tg_38 (.inl rfl) rfl (.inr (.inl ⟨_, _, (.inl rfl), rfl⟩)) el6),
       Ob.quiet (n1 := fun n => n) rfl rfl (by intro d h; cases h; rfl) rfl (fun _ => [(5, .ptr 5 (n0 + 2) 0 0)]) (fun _ => [(5, some (.box (n0 + 2) 41 [.own 12 (i3 0), .own 9081 (i3 1), .own 9082 (i3 2)]))]) (fun D G2 hr => ⟨inE_base rfl rfl, trivial⟩) (fun D G2 hr => ⟨inH_base rfl rfl, trivial⟩) (fun _ _ => rfl) (fun G2 e h' n => OpQ.spec (v := .ptr 5 (n0 + 2) 0 2) (sp_fieldAddr_own (ob := .box _ _ _) rfl tf_41_2 (.inl rfl) (fun _ => rfl) rfl) _),
       Ob.quiet (n1 := fun n => n) rfl rfl (by intro d h; cases h; rfl) rfl (fun _ => [(209, .ptr 5 (n0 + 2) 0 2)]) (fun _ => [(5, some (.box (n0 + 2) 41 [.own 12 (i3 0), .own 9081 (i3 1), .own 9082 (i3 2)]))]) (fun D G2 hr => ⟨inE_op hr 8 rfl rfl (by kernel_rfl) rfl rfl, trivial⟩) (fun D G2 hr => ⟨inH_base rfl rfl, trivial⟩) (fun _ _ => rfl) (fun G2 e h' n => OpQ.spec (v := .own 9082 (i3 2)) (ms_load_box (a := .own 9082 (i3 2)) rfl ts_39 (.inl rfl) rfl rfl) _),
       Ob.make (n1 := fun n => n + 1) rfl rfl (by intro d h; cases h; rfl) rfl (fun _ => []) (fun _ => []) (fun D G2 hr => trivial) (fun D G2 hr => trivial) (fun G2 e h' n => ms_lit 211 rfl tg_39 (f := (rSl GAttr.row)) (l := ([[]] : List (List GAttr))) ⟨rfl, ⟨_, (.inl rfl), rfl⟩, trivial⟩ rfl (fun _ => rfl) rfl),
       Ob.make (n1 := fun n => n + 1) rfl rfl (by intro d h; cases h; rfl) rfl (fun G2 => [(210, .own 9082 (i3 2)), (211, .own 211 (G2 10))]) (fun G2 => [(211, some (.arr (G2 10) 29 1 ([[]].map (rSl GAttr.row)))), (9082, some (.arr (i3 2) 29 1 (out2.Attrs.map (rSl GAttr.row))))]) (fun D G2 hr => ⟨inE_op hr 9 rfl rfl (by kernel_rfl) rfl rfl, inE_op hr 10 rfl rfl (by kernel_rfl) rfl rfl, trivial⟩) (fun D G2 hr => ⟨inH_op hr 10 rfl rfl (by kernel_rfl) (by kernel_rfl) rfl, inH_baseL hr (by kernel_rfl) rfl, trivial⟩) (fun G2 e h' n => ms_app rfl tg_39 (.inl rfl) rfl (.inr (.inl ⟨_, _, (.inl rfl), rfl⟩)) el7),
       Ob.quiet (n1 := fun n => n) rfl rfl (by intro d h; cases h; rfl) rfl (fun _ => [(5, .ptr 5 (n0 + 2) 0 0)]) (fun _ => [(5, some (.box (n0 + 2) 41 [.own 12 (i3 0), .own 9081 (i3 1), .own 9082 (i3 2)]))]) (fun D G2 hr => ⟨inE_base rfl rfl, trivial⟩) (fun D G2 hr => ⟨inH_base rfl rfl, trivial⟩) (fun _ _ => rfl) (fun G2 e h' n => OpQ.spec (v := .ptr 5 (n0 + 2) 0 0) (sp_fieldAddr_own (ob := .box _ _ _) rfl tf_41_0 (.inl rfl) (fun _ => rfl) rfl) _),
       trivial⟩) fun G2 n2 => ?_
     refine AOps.weak (s' := ⟨[(0, .r (.sl (a3.map GElem.row))), (1, .r (.sl (b3.map GElem.row))), (4, .ptr 4 n0 0 0), (5, .ptr 5 (n0 + 2) 0 0), (6, .r (.bool tied1)), (201, .ptr 5 (n0 + 2) 0 0), (203, .own 203 (G2 2)), (204, .own 12 (G2 3)), (205, .ptr 5 (n0 + 2) 0 1), (207, .own 207 (G2 6)), (208, .own 9081 (G2 7)), (209, .ptr 5 (n0 + 2) 0 2), (211, .own 211 (G2 10)), (212, .own 9082 (G2 11)), (213, .ptr 5 (n0 + 2) 0 0)], [(4, some (.box n0 41 [.cst (.slice none 0 0), .cst (.slice none 0 0), .cst (.slice none 0 0)])), (5, some (.box (n0 + 2) 41 [.own 12 (i3 0), .own 9081 (i3 1), .own 9082 (i3 2)])), (12, some (.arr (G2 3) 22 1 (l5.map (rSl GElem.row)))), (203, some (.arr (G2 2) 22 1 ([[]].map (rSl GElem.row)))), (207, some (.arr (G2 6) 4 1 ([true].map rBool))), (211, some (.arr (G2 10) 29 1 ([[]].map (rSl GAttr.row)))), (9081, some (.arr (G2 7) 4 1 (l6.map rBool))), (9082, some (.arr (G2 11) 29 1 (l7.map (rSl GAttr.row))))], n2, 219⟩) (by exact Weak.cv ⟨.inl iL, .inl iL, .inl iL, .inl iL, .inl iL, .inl iL, .inl iL, .inl iL, .inl iL, .inl iL, .inl iL, .inl iL, .inl iL, .inl iL, .inl iL, trivial⟩ ⟨.inl rfl, .inl rfl, .inl rfl, .inl rfl, .inl rfl, .inl rfl, .inl rfl, .inl rfl, trivial⟩ (Nat.le_refl _)) ?_
     refine AOps.step0 rfl rfl (ms_store_box (ds := [.own 12 (G2 3), .own 9081 (i3 1), .own 9082 (i3 2)]) rfl tz_37 iL rfl iL rfl rfl rfl rfl) ?_
     refine sQ rfl (sp_fieldAddr_own (ob := .box _ _ _) rfl tf_41_1 iL (fun _ => rfl) rfl) ?_
     refine AOps.step0 rfl rfl (ms_store_box (ds := [.own 12 (G2 3), .own 9081 (G2 7), .own 9082 (i3 2)]) rfl tz_38 iL rfl iL rfl rfl rfl rfl) ?_
     refine sQ rfl (sp_fieldAddr_own (ob := .box _ _ _) rfl tf_41_2 iL (fun _ => rfl) rfl) ?_
     refine AOps.step0 rfl rfl (ms_store_box (ds := [.own 12 (G2 3), .own 9081 (G2 7), .own 9082 (G2 11)]) rfl tz_39 iL rfl iL rfl rfl rfl rfl) ?_
     refine AOps.nil ?_
     refine hK20 _ ?_
     refine AW.weak (s' := ⟨[(0, .r (.sl (a3.map GElem.row))), (1, .r (.sl (b3.map GElem.row))), (4, .ptr 4 n0 0 0), (5, .ptr 5 (n0 + 2) 0 0), (6, .r (.bool tied1))], [(4, some (.box n0 41 [.cst (.slice none 0 0), .cst (.slice none 0 0), .cst (.slice none 0 0)])), (5, some (.box (n0 + 2) 41 [.own 12 (G2 3), .own 9081 (G2 7), .own 9082 (G2 11)])), (12, some (.arr (G2 3) 22 1 (l5.map (rSl GElem.row)))), (9081, some (.arr (G2 7) 4 1 (l6.map rBool))), (9082, some (.arr (G2 11) 29 1 (l7.map (rSl GAttr.row))))], n2, 219⟩) (by exact Weak.cv ⟨.inl iL, .inl iL, .inl iL, .inl iL, .inl iL, trivial⟩ ⟨.inl rfl, .inl rfl, .inl rfl, .inl rfl, .inl rfl, trivial⟩ (Nat.le_refl _)) ?_
     refine AW.region ?_
     refine sQ rfl (sp_move rfl iL) ?_
     refine ob1k h28 fun a6 ea6 h29 => ?_
     refine sQ rfl (ms_slice rfl tg_22.slice iL (by exact ⟨_, iL⟩) (by exact rfl) (fun _ => rfl) (fun _ => ea6)) ?_
     refine sQ rfl (sp_assign rfl iL) ?_
     refine AOps.nil ?_
     exact NextQ3.mk h29 (vec [(G2 3), (G2 7), (G2 11), n2]) ((by exact Weak.cv ⟨.inl iL, .inl iL, .inl iL, .inl iL, .inl iL, trivial⟩ ⟨.inl rfl, .inl rfl, .inl rfl, .inl rfl, .inl rfl, trivial⟩ (Nat.le_refl _)))
    ·have h25 := ite_f hc4 h24
     refine AW.seq_w fun K21 hK21 wK21 => ?_
     refine AW.block ?_
     refine jb1k h25 fun o2 hit2 hk3 => ?_
     have J3 : ∀ (k5 : Int) (i11 : Nat → Nat), o2 = k5 → K21 ⟨[(0, .r (.sl (a3.map GElem.row))), (1, .r (.sl (b3.map GElem.row))), (4, .ptr 4 n0 0 0), (5, .ptr 5 (n0 + 2) 0 0), (6, .r (.bool tied1)), (11, .r (.int .i64 k5))], [(4, some (.box n0 41 [.cst (.slice none 0 0), .cst (.slice none 0 0), .cst (.slice none 0 0)])), (5, some (.box (n0 + 2) 41 [.own 12 (i3 0), .own 9081 (i3 1), .own 9082 (i3 2)])), (12, some (.arr (i3 0) 22 1 (out2.Adds.map (rSl GElem.row)))), (9081, some (.arr (i3 1) 4 1 (out2.Cuts.map rBool))), (9082, some (.arr (i3 2) 29 1 (out2.Attrs.map (rSl GAttr.row))))], (i11 0), 219⟩ := by
      intro k5 i11 e
      have h30 := hk3 _ e
      refine hK21 _ ?_
      refine AW.seq_w fun K22 hK22 wK22 => ?_
      refine ob1k h30 fun x8 ex8 h31 => ?_
      refine ob1k h31 fun l8 el8 h32 => ?_
      refine ob1k h32 fun x9 ex9 h33 => ?_
      refine ob1k h33 fun l9 el9 h34 => ?_
      refine AW.regionP 15 [⟨some 128, (fun _ => .ptr 5 (n0 + 2) 0 0), none, []⟩, ⟨some 129, (fun _ => .own 12 (i3 0)), none, []⟩, ⟨some 130, (fun _ => .r (.int .i64 k5)), none, []⟩, ⟨some 131, (fun G3 => .own 131 (G3 3)), some (131, (fun G3 => some (.arr (G3 3) 82 3 (([] : List GElem).map GElem.row)))), [3]⟩, ⟨some 132, (fun _ => .ptr 5 (n0 + 2) 0 0), none, []⟩, ⟨some 133, (fun _ => .own 12 (i3 0)), none, []⟩, ⟨some 134, (fun _ => .r (.int .i64 k5)), none, []⟩, ⟨some 135, (fun _ => .ptr 12 (i3 0) k5.toNat 0), none, []⟩, ⟨some 136, (fun _ => .r (.sl (x8.map GElem.row))), none, []⟩, ⟨some 137, (fun G3 => .own 131 (G3 9)), some (131, (fun G3 => some (.arr (G3 9) 82 3 (l8.map GElem.row)))), [9]⟩, ⟨some 138, (fun _ => .r (.sl (b3.map GElem.row))), none, []⟩, ⟨some 139, (fun _ => .rop (GElem.row x9) 0), none, []⟩, ⟨some 140, (fun _ => .agg [.r (.int .i64 x9.Char), .r (.int .i64 x9.Ref), .r (.sl (x9.Attrs.map GAttr.row))]), none, []⟩, ⟨some 141, (fun G3 => .own 141 (G3 13)), some (141, (fun G3 => some (.arr (G3 13) 82 3 ([x9].map GElem.row)))), [13]⟩, ⟨some 142, (fun G3 => .own 131 (G3 14)), some (131, (fun G3 => some (.arr (G3 14) 82 3 (l9.map GElem.row)))), [14]⟩] hmix (by kernel_rfl) (by exact ⟨fun _ _ h => ⟨rfl, fun _ _ e => by cases e⟩, fun _ _ h => ⟨rfl, fun _ _ e => by cases e⟩, fun _ _ h => ⟨rfl, fun _ _ e => by cases e⟩, fun _ _ h => ⟨by simp only [h 3 rfl], fun _ _ e => by cases e; simp only [h 3 rfl]⟩, fun _ _ h => ⟨rfl, fun _ _ e => by cases e⟩, fun _ _ h => ⟨rfl, fun _ _ e => by cases e⟩, fun _ _ h => ⟨rfl, fun _ _ e => by cases e⟩, fun _ _ h => ⟨rfl, fun _ _ e => by cases e⟩, fun _ _ h => ⟨rfl, fun _ _ e => by cases e⟩, fun _ _ h => ⟨by simp only [h 9 rfl], fun _ _ e => by cases e; simp only [h 9 rfl]⟩, fun _ _ h => ⟨rfl, fun _ _ e => by cases e⟩, fun _ _ h => ⟨rfl, fun _ _ e => by cases e⟩, fun _ _ h => ⟨rfl, fun _ _ e => by cases e⟩, fun _ _ h => ⟨by simp only [h 13 rfl], fun _ _ e => by cases e; simp only [h 13 rfl]⟩, fun _ _ h => ⟨by simp only [h 14 rfl], fun _ _ e => by cases e; simp only [h 14 rfl]⟩, trivial⟩) rfl (by exact ⟨Ob.quiet (n1 := fun n => n) rfl rfl (by intro d h; cases h; rfl) rfl (fun _ => [(5, .ptr 5 (n0 + 2) 0 0)]) (fun _ => [(5, some (.box (n0 + 2) 41 [.own 12 (i3 0), .own 9081 (i3 1), .own 9082 (i3 2)]))]) (fun D G3 hr => ⟨inE_base rfl rfl, trivial⟩) (fun D G3 hr => ⟨inH_base rfl rfl, trivial⟩) (fun _ _ => rfl) (fun G3 e h' n => OpQ.spec (v := .ptr 5 (n0 + 2) 0 0) (sp_fieldAddr_own (ob := .box _ _ _) rfl tf_41_0 (.inl rfl) (fun _ => rfl) rfl) _),
        Ob.quiet (n1 := fun n => n) rfl rfl (by intro d h; cases h; rfl) rfl (fun _ => [(128, .ptr 5 (n0 + 2) 0 0)]) (fun _ => [(5, some (.box (n0 + 2) 41 [.own 12 (i3 0), .own 9081 (i3 1), .own 9082 (i3 2)]))]) (fun D G3 hr => ⟨inE_op hr 0 rfl rfl (by kernel_rfl) rfl rfl, trivial⟩) (fun D G3 hr => ⟨inH_base rfl rfl, trivial⟩) (fun _ _ => rfl) (fun G3 e h' n => OpQ.spec (v := .own 12 (i3 0)) (ms_load_box (a := .own 12 (i3 0)) rfl ts_37 (.inl rfl) rfl rfl) _),
        Ob.quiet (n1 := fun n => n) rfl rfl (by intro d h; cases h; rfl) rfl (fun _ => [(11, .r (.int .i64 k5))]) (fun _ => []) (fun D G3 hr => ⟨inE_base rfl rfl, trivial⟩) (fun D G3 hr => trivial) (fun _ _ => rfl) (fun G3 e h' n => OpQ.spec (v := .r (.int .i64 k5)) (sp_move rfl (.inl rfl)) _),
        Ob.make (n1 := fun n => n + 1) rfl rfl (by intro d h; cases h; rfl) rfl (fun _ => []) (fun _ => []) (fun D G3 hr => trivial) (fun D G3 hr => trivial) (fun G3 e h' n => ms_lit 131 rfl tg_22 (f := GElem.row) (l := ([] : List GElem)) trivial rfl (fun _ => rfl) rfl),
        Ob.quiet (n1 := fun n => n) rfl rfl (by intro d h; cases h; rfl) rfl (fun _ => [(5, .ptr 5 (n0 + 2) 0 0)]) (fun _ => [(5, some (.box (n0 + 2) 41 [.own 12 (i3 0), .own 9081 (i3 1), .own 9082 (i3 2)]))]) (fun D G3 hr => ⟨inE_base rfl rfl, trivial⟩) (fun D G3 hr => ⟨inH_base rfl rfl, trivial⟩) (fun _ _ => rfl) (fun G3 e h' n => OpQ.spec (v := .ptr 5 (n0 + 2) 0 0) (sp_fieldAddr_own (ob := .box _ _ _) rfl tf_41_0 (.inl rfl) (fun _ => rfl) rfl) _),
        Ob.quiet (n1 := fun n => n) rfl rfl (by intro d h; cases h; rfl) rfl (fun _ => [(132, .ptr 5 (n0 + 2) 0 0)]) (fun _ => [(5, some (.box (n0 + 2) 41 [.own 12 (i3 0), .own 9081 (i3 1), .own 9082 (i3 2)]))]) (fun D G3 hr => ⟨inE_op hr 4 rfl rfl (by kernel_rfl) rfl rfl, trivial⟩) (fun D G3 hr => ⟨inH_base rfl rfl, trivial⟩) (fun _ _ => rfl) (fun G3 e h' n => OpQ.spec (v := .own 12 (i3 0)) (ms_load_box (a := .own 12 (i3 0)) rfl ts_37 (.inl rfl) rfl rfl) _),
        Ob.quiet (n1 := fun n => n) rfl rfl (by intro d h; cases h; rfl) rfl (fun _ => [(11, .r (.int .i64 k5))]) (fun _ => []) (fun D G3 hr => ⟨inE_base rfl rfl, trivial⟩) (fun D G3 hr => trivial) (fun _ _ => rfl) (fun G3 e h' n => OpQ.spec (v := .r (.int .i64 k5)) (sp_move rfl (.inl rfl)) _),
        Ob.quiet (n1 := fun n => n) rfl rfl (by intro d h; cases h; rfl) rfl (fun _ => [(133, .own 12 (i3 0)), (134, .r (.int .i64 k5))]) (fun _ => [(12, some (.arr (i3 0) 22 1 (out2.Adds.map (rSl GElem.row))))]) (fun D G3 hr => ⟨inE_op hr 5 rfl rfl (by kernel_rfl) rfl rfl, inE_op hr 6 rfl rfl (by kernel_rfl) rfl rfl, trivial⟩) (fun D G3 hr => ⟨inH_base rfl rfl, trivial⟩) (fun _ _ => rfl) (fun G3 e h' n => OpQ.spec (v := .ptr 12 (i3 0) k5.toNat 0) (ms_idx_own rfl tg_37.slice (.inl rfl) rfl (.inl rfl) (fun _ => ex8)) _),
        Ob.quiet (n1 := fun n => n) rfl rfl (by intro d h; cases h; rfl) rfl (fun _ => [(135, .ptr 12 (i3 0) k5.toNat 0)]) (fun _ => [(12, some (.arr (i3 0) 22 1 (out2.Adds.map (rSl GElem.row))))]) (fun D G3 hr => ⟨inE_op hr 7 rfl rfl (by kernel_rfl) rfl rfl, trivial⟩) (fun D G3 hr => ⟨inH_base rfl rfl, trivial⟩) (fun _ _ => rfl) (fun G3 e h' n => OpQ.spec (v := .r (.sl (x8.map GElem.row))) (ms_load_own (d := .sl (x8.map GElem.row)) rfl ts_22 (.inl rfl) (fun _ => rfl) (fun _ => ex8) rfl) _),
        Ob.make (n1 := fun n => n + 1) rfl rfl (by intro d h; cases h; rfl) rfl (fun G3 => [(131, .own 131 (G3 3)), (136, .r (.sl (x8.map GElem.row)))]) (fun G3 => [(131, some (.arr (G3 3) 82 3 (([] : List GElem).map GElem.row)))]) (fun D G3 hr => ⟨inE_op hr 3 rfl rfl (by kernel_rfl) rfl rfl, inE_op hr 8 rfl rfl (by kernel_rfl) rfl rfl, trivial⟩) (fun D G3 hr => ⟨inH_op hr 3 rfl rfl (by kernel_rfl) (by kernel_rfl) rfl, trivial⟩) (fun G3 e h' n => ms_app rfl tg_22 (.inl rfl) rfl (.inl ⟨(.inl rfl), fun _ => rfl⟩) el8),
        Ob.quiet (n1 := fun n => n) rfl rfl (by intro d h; cases h; rfl) rfl (fun _ => [(1, .r (.sl (b3.map GElem.row)))]) (fun _ => []) (fun D G3 hr => ⟨inE_base rfl rfl, trivial⟩) (fun D G3 hr => trivial) (fun _ _ => rfl) (fun G3 e h' n => OpQ.spec (v := .r (.sl (b3.map GElem.row))) (sp_move rfl (.inl rfl)) _),
        Ob.quiet (n1 := fun n => n) rfl rfl (by intro d h; cases h; rfl) rfl (fun _ => [(138, .r (.sl (b3.map GElem.row)))]) (fun _ => []) (fun D G3 hr => ⟨inE_op hr 10 rfl rfl (by kernel_rfl) rfl rfl, trivial⟩) (fun D G3 hr => trivial) (fun _ _ => rfl) (fun G3 e h' n => OpQ.spec (v := .rop (GElem.row x9) 0) (ms_idx rfl tg_22.slice (.inl rfl) (.inl rfl) (fun _ => rfl) (fun _ => ex9)) _),
        Ob.quiet (n1 := fun n => n) rfl rfl (by intro d h; cases h; rfl) rfl (fun _ => [(139, .rop (GElem.row x9) 0)]) (fun _ => []) (fun D G3 hr => ⟨inE_op hr 11 rfl rfl (by kernel_rfl) rfl rfl, trivial⟩) (fun D G3 hr => trivial) (fun _ _ => rfl) (fun G3 e h' n => OpQ.spec (v := .agg [.r (.int .i64 x9.Char), .r (.int .i64 x9.Ref), .r (.sl (x9.Attrs.map GAttr.row))]) (ms_loadA (cs := [.r (.int .i64 x9.Char), .r (.int .i64 x9.Ref), .r (.sl (x9.Attrs.map GAttr.row))]) rfl ta_82 (.inl rfl) rfl rfl) _),
        Ob.make (n1 := fun n => n + 1) rfl rfl (by intro d h; cases h; rfl) rfl (fun _ => [(140, .agg [.r (.int .i64 x9.Char), .r (.int .i64 x9.Ref), .r (.sl (x9.Attrs.map GAttr.row))])]) (fun _ => []) (fun D G3 hr => ⟨inE_op hr 12 rfl rfl (by kernel_rfl) rfl rfl, trivial⟩) (fun D G3 hr => trivial) (fun G3 e h' n => ms_lit 141 rfl tg_22 (f := GElem.row) (l := ([x9] : List GElem)) ⟨rfl, ⟨_, (.inl rfl), rfl⟩, trivial⟩ rfl (fun _ => rfl) rfl),
        Ob.make (n1 := fun n => n + 1) rfl rfl (by intro d h; cases h; rfl) rfl (fun G3 => [(137, .own 131 (G3 9)), (141, .own 141 (G3 13))]) (fun G3 => [(131, some (.arr (G3 9) 82 3 (l8.map GElem.row))), (141, some (.arr (G3 13) 82 3 ([x9].map GElem.row)))]) (fun D G3 hr => ⟨inE_op hr 9 rfl rfl (by kernel_rfl) rfl rfl, inE_op hr 13 rfl rfl (by kernel_rfl) rfl rfl, trivial⟩) (fun D G3 hr => ⟨inH_op hr 9 rfl rfl (by kernel_rfl) (by kernel_rfl) rfl, inH_op hr 13 rfl rfl (by kernel_rfl) (by kernel_rfl) rfl, trivial⟩) (fun G3 e h' n => ms_app rfl tg_22 (.inl rfl) rfl (.inr (.inl ⟨_, _, (.inl rfl), rfl⟩)) el9),
        trivial⟩) fun G3 n3 => ?_
      refine AOps.weak (s' := ⟨[(0, .r (.sl (a3.map GElem.row))), (1, .r (.sl (b3.map GElem.row))), (4, .ptr 4 n0 0 0), (5, .ptr 5 (n0 + 2) 0 0), (6, .r (.bool tied1)), (11, .r (.int .i64 k5)), (128, .ptr 5 (n0 + 2) 0 0), (129, .own 12 (i3 0)), (130, .r (.int .i64 k5)), (132, .ptr 5 (n0 + 2) 0 0), (133, .own 12 (i3 0)), (134, .r (.int .i64 k5)), (135, .ptr 12 (i3 0) k5.toNat 0), (136, .r (.sl (x8.map GElem.row))), (138, .r (.sl (b3.map GElem.row))), (139, .rop (GElem.row x9) 0), (140, .agg [.r (.int .i64 x9.Char), .r (.int .i64 x9.Ref), .r (.sl (x9.Attrs.map GAttr.row))]), (141, .own 141 (G3 13)), (142, .own 131 (G3 14))], [(4, some (.box n0 41 [.cst (.slice none 0 0), .cst (.slice none 0 0), .cst (.slice none 0 0)])), (5, some (.box (n0 + 2) 41 [.own 12 (i3 0), .own 9081 (i3 1), .own 9082 (i3 2)])), (12, some (.arr (i3 0) 22 1 (out2.Adds.map (rSl GElem.row)))), (131, some (.arr (G3 14) 82 3 (l9.map GElem.row))), (141, some (.arr (G3 13) 82 3 ([x9].map GElem.row))), (9081, some (.arr (i3 1) 4 1 (out2.Cuts.map rBool))), (9082, some (.arr (i3 2) 29 1 (out2.Attrs.map (rSl GAttr.row))))], n3, 219⟩) (by exact Weak.cv ⟨.inl iL, .inl iL, .inl iL, .inl iL, .inl iL, .inl iL, .inl iL, .inl iL, .inl iL, .inl iL, .inl iL, .inl iL, .inl iL, .inl iL, .inl iL, .inl iL, .inl iL, .inl iL, .inl iL, trivial⟩ ⟨.inl rfl, .inl rfl, .inl rfl, .inl rfl, .inl rfl, .inl rfl, .inl rfl, trivial⟩ (Nat.le_refl _)) ?_
      refine sQ rfl (ms_idx_own rfl tg_37.slice iL rfl iL (fun _ => ex8)) ?_
      refine AOps.weak (by exact Weak.frz (e' := [(0, .r (.sl (a3.map GElem.row))), (1, .r (.sl (b3.map GElem.row))), (4, .ptr 4 n0 0 0), (5, .ptr 5 (n0 + 2) 0 0), (6, .r (.bool tied1)), (11, .r (.int .i64 k5)), (128, .ptr 5 (n0 + 2) 0 0), (129, .own 12 (i3 0)), (130, .r (.int .i64 k5)), (132, .ptr 5 (n0 + 2) 0 0), (133, .own 12 (i3 0)), (134, .r (.int .i64 k5)), (135, .ptr 12 (i3 0) k5.toNat 0), (136, .r (.sl (x8.map GElem.row))), (138, .r (.sl (b3.map GElem.row))), (139, .rop (GElem.row x9) 0), (140, .agg [.r (.int .i64 x9.Char), .r (.int .i64 x9.Ref), .r (.sl (x9.Attrs.map GAttr.row))]), (141, .own 141 (G3 13)), (142, .r (.sl (l9.map GElem.row))), (143, .ptr 12 (i3 0) k5.toNat 0)]) (h' := [(4, some (.box n0 41 [.cst (.slice none 0 0), .cst (.slice none 0 0), .cst (.slice none 0 0)])), (5, some (.box (n0 + 2) 41 [.own 12 (i3 0), .own 9081 (i3 1), .own 9082 (i3 2)])), (12, some (.arr (i3 0) 22 1 (out2.Adds.map (rSl GElem.row)))), (141, some (.arr (G3 13) 82 3 ([x9].map GElem.row))), (9081, some (.arr (i3 1) 4 1 (out2.Cuts.map rBool))), (9082, some (.arr (i3 2) 29 1 (out2.Attrs.map (rSl GAttr.row))))]) 131 rfl ⟨.inl iL, .inl iL, .inl iL, .inl iL, .inl iL, .inl iL, .inl iL, .inl iL, .inl iL, .inl iL, .inl iL, .inl iL, .inl iL, .inl iL, .inl iL, .inl iL, .inl iL, .inl iL, .inl (.inr (.inr ⟨rfl, rfl⟩)), .inl iL, trivial⟩ ⟨rfl, .inl rfl, rfl, .inl rfl, rfl, .inl rfl, rfl, .inl rfl, rfl, .inl rfl, rfl, .inl rfl, trivial⟩) ?_
      refine AOps.step0 rfl rfl (ms_store (v := l9) rfl tz_22 iL rfl ex8 iL rfl rfl rfl rfl) ?_
      refine AOps.nil ?_
      refine hK22 _ ?_
      refine AW.weak (s' := ⟨[(0, .r (.sl (a3.map GElem.row))), (1, .r (.sl (b3.map GElem.row))), (4, .ptr 4 n0 0 0), (5, .ptr 5 (n0 + 2) 0 0), (6, .r (.bool tied1))], [(4, some (.box n0 41 [.cst (.slice none 0 0), .cst (.slice none 0 0), .cst (.slice none 0 0)])), (5, some (.box (n0 + 2) 41 [.own 12 (i3 0), .own 9081 (i3 1), .own 9082 (i3 2)])), (12, some (.arr (i3 0) 22 1 ((out2.Adds.set k5.toNat l9).map (rSl GElem.row)))), (9081, some (.arr (i3 1) 4 1 (out2.Cuts.map rBool))), (9082, some (.arr (i3 2) 29 1 (out2.Attrs.map (rSl GAttr.row))))], n3, 219⟩) (by exact Weak.cv ⟨.inl iL, .inl iL, .inl iL, .inl iL, .inl iL, trivial⟩ ⟨.inl rfl, .inl rfl, .inl rfl, .inl rfl, .inl rfl, trivial⟩ (Nat.le_refl _)) ?_
      refine AW.region ?_
      refine sQ rfl (sp_move rfl iL) ?_
      refine ob1k h34 fun b6 eb6 h35 => ?_
      refine sQ rfl (ms_slice rfl tg_22.slice iL (by exact ⟨_, iL⟩) (by exact rfl) (fun _ => rfl) (fun _ => eb6)) ?_
      refine sQ rfl (sp_assign rfl iL) ?_
      refine AOps.nil ?_
      exact NextQ3.mk h35 (vec [(i3 0), (i3 1), (i3 2), n3]) ((by exact Weak.cv ⟨.inl iL, .inl iL, .inl iL, .inl iL, .inl iL, trivial⟩ ⟨.inl rfl, .inl rfl, .inl rfl, .inl rfl, .inl rfl, trivial⟩ (Nat.le_refl _)))
     refine AW.iter1 (fun (k3 : Int) i9 => ⟨[(0, .r (.sl (a3.map GElem.row))), (1, .r (.sl (b3.map GElem.row))), (4, .ptr 4 n0 0 0), (5, .ptr 5 (n0 + 2) 0 0), (6, .r (.bool tied1)), (11, .r (.int .i64 k3))], [(4, some (.box n0 41 [.cst (.slice none 0 0), .cst (.slice none 0 0), .cst (.slice none 0 0)])), (5, some (.box (n0 + 2) 41 [.own 12 (i3 0), .own 9081 (i3 1), .own 9082 (i3 2)])), (12, some (.arr (i3 0) 22 1 (out2.Adds.map (rSl GElem.row)))), (9081, some (.arr (i3 1) 4 1 (out2.Cuts.map rBool))), (9082, some (.arr (i3 2) 29 1 (out2.Attrs.map (rSl GAttr.row))))], (i9 0), 219⟩) (vec [(i6 0)]) hit2 ((by exact Weak.cv ⟨.inl iL, .inl iL, .inl iL, .inl iL, .inl iL, .inl iL, trivial⟩ ⟨.inl rfl, .inl rfl, .inl rfl, .inl rfl, .inl rfl, trivial⟩ (Nat.le_refl _))) ?_
     intro k3 i9 v2 hv2 hx2
     have h36 : ref_DiffAct_L2 out2 k3 = some v2 := hv2; unfold ref_DiffAct_L2 at h36
     refine AW.seq_w fun K23 hK23 wK23 => ?_
     refine AW.seq_w fun K24 hK24 wK24 => ?_
     refine AW.region ?_
     refine sQ rfl (sp_move rfl iL) ?_
     refine sQ rfl (sp_gtr rfl iL iL) ?_
     refine sQ rfl (sp_move rfl iL) ?_
     refine sW (.one rfl rfl rfl) rfl (sp_fieldAddr_own (ob := .box _ _ _) rfl tf_41_1 iL (fun _ => rfl) rfl) ?_
     refine sW (.one rfl rfl rfl) rfl (ms_load_box (a := .own 9081 (i3 1)) rfl ts_38 (.inr ⟨_, (by exact id), rfl⟩) rfl rfl) ?_
     refine sW (.one rfl rfl rfl) rfl (sp_move rfl iL) ?_
     refine ob1k h36 fun x10 ex10 h37 => ?_
     refine sW (.one rfl rfl rfl) rfl (ms_sub rfl (.inr ⟨_, (by exact id), rfl⟩) iL (gdt ex10)) ?_
     refine ob1k h37 fun x11 ex11 h38 => ?_
     refine sW (.one rfl rfl rfl) rfl (ms_idx_own rfl tg_38.slice (.inr ⟨_, (by exact id), rfl⟩) rfl (.inr ⟨_, (by exact id), rfl⟩) (gdt ex11)) ?_
     refine sW (.one rfl rfl rfl) rfl (ms_load_own (d := .bool x11) rfl ts_4 (.inr ⟨_, (by exact id), rfl⟩) (fun _ => rfl) (gdt ex11) rfl) ?_
     refine sQ rfl (sp_and rfl iL (.inr ⟨_, (by exact id), rfl⟩)) ?_
     refine AOps.nil ?_
     refine hK24 _ ?_
     refine AW.cond rfl (fun hc5 => ?_) (fun hc5 => ?_)
     ·have h39 := ite_t hc5 h38
      refine AW.skip ?_
      refine hK23 _ ?_
      refine AW.block ?_
      refine AW.region ?_
      refine sQ rfl (sp_move rfl iL) ?_
      refine ob1k h39 fun k6 ek6 h40 => ?_
      refine sQ rfl (ms_sub rfl iL iL (fun _ => ek6)) ?_
      refine sQ rfl (sp_assign rfl iL) ?_
      refine AOps.nil ?_
      exact NextQ1.mk h40 (vec [(i9 0)]) ((by exact Weak.cv ⟨.inl iL, .inl iL, .inl iL, .inl iL, .inl iL, .inl iL, trivial⟩ ⟨.inl rfl, .inl rfl, .inl rfl, .inl rfl, .inl rfl, trivial⟩ (Nat.le_refl _)))
     ·have h39 := ite_f hc5 h38
      refine AW.exit ?_
      exact wK21 _ _ ((by exact Weak.cv ⟨.inl iL, .inl iL, .inl iL, .inl iL, .inl iL, .inl iL, trivial⟩ ⟨.inl rfl, .inl rfl, .inl rfl, .inl rfl, .inl rfl, trivial⟩ (Nat.le_refl _))) (J3 _ (vec [(i9 0)]) (hx2 _ (Option.some.inj h39).symm))
  refine AW.cond rfl (fun hc6 => ?_) (fun hc6 => ?_)
  ·have h41 := ite_t hc6 hp1
   refine AW.seq_w fun K25 hK25 wK25 => ?_
   refine AW.region ?_
   refine sQ rfl (sp_assign rfl iL) ?_
   refine AOps.nil ?_
   refine hK25 _ ?_
   refine AW.seq_w fun K26 hK26 wK26 => ?_
   refine AW.seq_w fun K27 hK27 wK27 => ?_
   refine AW.regionQ hmix (by kernel_rfl) ?_
   refine AQ.step rfl rfl rfl (sp_move rfl iL) ?_
   refine ob1k h41 fun x12 ex12 h42 => ?_
   refine AQ.step rfl rfl rfl (ms_idx rfl tg_22.slice iL iL (fun _ => rfl) (fun _ => ex12)) ?_
   refine AQ.step rfl rfl rfl (sp_fieldAddr_ro rfl tf_82_2 iL) ?_
   refine AQ.step rfl rfl rfl (ms_load (d := .sl (x12.Attrs.map GAttr.row)) rfl ts_29 iL rfl) ?_
   refine AQ.step rfl rfl rfl (sp_move rfl iL) ?_
   refine ob1k h42 fun x13 ex13 h43 => ?_
   refine AQ.step rfl rfl rfl (ms_idx rfl tg_22.slice iL iL (fun _ => rfl) (fun _ => ex13)) ?_
   refine AQ.step rfl rfl rfl (sp_fieldAddr_ro rfl tf_82_2 iL) ?_
   refine AQ.step rfl rfl rfl (ms_load (d := .sl (x13.Attrs.map GAttr.row)) rfl ts_29 iL rfl) ?_
   refine ob1k h43 fun r3 er3 h44 => ?_
   refine AQ.stepC rfl rfl rfl (r := .r (.bool r3)) (caps := []) (bs := [.r (.sl (x12.Attrs.map GAttr.row)), .r (.sl (x13.Attrs.map GAttr.row))]) rfl iL rfl ⟨⟨_, iL, .d rfl⟩, ⟨_, iL, .d rfl⟩, trivial⟩ (fun _ => w_ref_SameAttrs (er3)) rfl ?_
   refine AQ.step rfl rfl rfl (sp_not rfl iL) ?_
   refine AQ.nil ?_
   refine hK27 _ ?_
   refine jb1k h44 fun p3 hp2 hk4 => ?_
   have J4 : ∀ (p2 : Int) (i12 : Nat → Nat), p3 = p2 → K26 ⟨[(0, .r (.sl (a3.map GElem.row))), (1, .r (.sl (b3.map GElem.row))), (4, .ptr 4 n0 0 0), (5, .ptr 5 (n0 + 2) 0 0), (6, .r (.bool tied1)), (7, .r (.bool ((tied1 && (decide ((a3.length : Int) = 1))) && (decide ((b3.length : Int) = 1))))), (8, .r (.int .i64 rest1)), (10, .r (.int .i64 p2))], [(4, some (.box n0 41 [.cst (.slice none 0 0), .cst (.slice none 0 0), .cst (.slice none 0 0)])), (5, some (.box (n0 + 2) 41 [.own 12 (i3 0), .own 9081 (i3 1), .own 9082 (i3 2)])), (12, some (.arr (i3 0) 22 1 (out2.Adds.map (rSl GElem.row)))), (9081, some (.arr (i3 1) 4 1 (out2.Cuts.map rBool))), (9082, some (.arr (i3 2) 29 1 (out2.Attrs.map (rSl GAttr.row))))], (i12 0), 219⟩ := by
    intro p2 i12 e
    have h45 := hk4 _ e
    refine hK26 _ ?_
    refine AW.regionQ hmix (by kernel_rfl) ?_
    refine AQ.step rfl rfl rfl (sp_move rfl iL) ?_
    refine AQ.step rfl rfl rfl (sp_move rfl iL) ?_
    refine AQ.step rfl rfl rfl (sp_move rfl iL) ?_
    refine ob1k h45 fun l10 el10 h46 => ?_
    refine AQ.step rfl rfl rfl (ms_slice rfl tg_22.slice iL (by exact ⟨_, iL⟩) (by exact rfl) (fun _ => rfl) (fun _ => el10)) ?_
    refine AQ.step rfl rfl rfl (sp_move rfl iL) ?_
    refine ob1k h46 fun l11 el11 h47 => ?_
    refine AQ.step rfl rfl rfl (ms_slice rfl tg_22.slice iL (by exact ⟨_, iL⟩) (by exact rfl) (fun _ => rfl) (fun _ => el11)) ?_
    refine AQ.step rfl rfl rfl (sp_move rfl iL) ?_
    refine ob1k h47 fun r4 er4 h48 => ?_
    refine AQ.stepC rfl rfl rfl (r := .r (.int .i64 r4)) (caps := []) (bs := [.r (.sl (l10.map GElem.row)), .r (.sl (l11.map GElem.row)), .r (.bool tied1)]) rfl iL rfl ⟨⟨_, iL, .d rfl⟩, ⟨_, iL, .d rfl⟩, ⟨_, iL, .d rfl⟩, trivial⟩ (fun _ => w_ref_DiffCost (er4)) rfl ?_
    refine ob1k h48 fun x14 ex14 h49 => ?_
    refine AQ.step rfl rfl rfl (ms_add rfl iL iL (fun _ => ex14)) ?_
    refine AQ.step rfl rfl rfl (sp_eql rfl iL iL) ?_
    refine AQ.step rfl rfl rfl (sp_assign rfl iL) ?_
    refine AQ.nil ?_
    exact wK11 _ _ ((by exact Weak.cv ⟨.inl iL, .inl iL, .inl iL, .inl iL, .inl iL, .inl iL, .inl iL, .inl iL, trivial⟩ ⟨.inl rfl, .inl rfl, .inl rfl, .inl rfl, .inl rfl, trivial⟩ (Nat.le_refl _))) (J2 _ (vec [(i12 0)]) (Option.some.inj h49).symm)
   refine AW.cond rfl (fun hc7 => ?_) (fun hc7 => ?_)
   ·have h50 := ite_t hc7 hp2
    refine AW.weak (s' := ⟨[(0, .r (.sl (a3.map GElem.row))), (1, .r (.sl (b3.map GElem.row))), (4, .ptr 4 n0 0 0), (5, .ptr 5 (n0 + 2) 0 0), (6, .r (.bool tied1)), (7, .r (.bool ((tied1 && (decide ((a3.length : Int) = 1))) && (decide ((b3.length : Int) = 1))))), (8, .r (.int .i64 rest1))], [(4, some (.box n0 41 [.cst (.slice none 0 0), .cst (.slice none 0 0), .cst (.slice none 0 0)])), (5, some (.box (n0 + 2) 41 [.own 12 (i3 0), .own 9081 (i3 1), .own 9082 (i3 2)])), (12, some (.arr (i3 0) 22 1 (out2.Adds.map (rSl GElem.row)))), (9081, some (.arr (i3 1) 4 1 (out2.Cuts.map rBool))), (9082, some (.arr (i3 2) 29 1 (out2.Attrs.map (rSl GAttr.row))))], (i3 3), 219⟩) (by exact Weak.cv ⟨.inl iL, .inl iL, .inl iL, .inl iL, .inl iL, .inl iL, .inl iL, trivial⟩ ⟨.inl rfl, .inl rfl, .inl rfl, .inl rfl, .inl rfl, trivial⟩ (Nat.le_refl _)) ?_
    refine AW.region ?_
    refine sQ rfl (sp_assign rfl iL) ?_
    refine AOps.nil ?_
    exact wK26 _ _ ((by exact Weak.cv ⟨.inl iL, .inl iL, .inl iL, .inl iL, .inl iL, .inl iL, .inl iL, .inl iL, trivial⟩ ⟨.inl rfl, .inl rfl, .inl rfl, .inl rfl, .inl rfl, trivial⟩ (Nat.le_refl _))) (J4 _ (vec [(i3 3)]) (Option.some.inj h50).symm)
   ·have h50 := ite_f hc7 hp2
    refine AW.skip ?_
    exact wK26 _ _ ((by exact Weak.cv ⟨.inl iL, .inl iL, .inl iL, .inl iL, .inl iL, .inl iL, .inl iL, .inl iL, trivial⟩ ⟨.inl rfl, .inl rfl, .inl rfl, .inl rfl, .inl rfl, trivial⟩ (Nat.le_refl _))) (J4 _ (vec [(i3 3)]) (Option.some.inj h50).symm)
  ·have h41 := ite_f hc6 hp1
   refine AW.skip ?_
   exact wK11 _ _ ((by exact Weak.cv ⟨.inl iL, .inl iL, .inl iL, .inl iL, .inl iL, .inl iL, .inl iL, .inl iL, trivial⟩ ⟨.inl rfl, .inl rfl, .inl rfl, .inl rfl, .inl rfl, trivial⟩ (Nat.le_refl _))) (J2 _ (vec [(i3 3)]) (Option.some.inj h41).symm)
 ·have h4 := ite_f hc1 h3
  refine AW.exit ?_
  exact wK4 _ _ ((by exact Weak.cv ⟨.inl iL, .inl iL, trivial⟩ ⟨.inl rfl, .inl rfl, .inl rfl, .inl rfl, .inl rfl, trivial⟩ (Nat.le_refl _))) (J1 _ (vec [(i3 0), (i3 1), (i3 2), (i3 3)]) (hx1 _ (Option.some.inj h4).symm))
set_option maxHeartbeats 4000000 in
set_option maxRecDepth 20000 in
theorem w_ref_DeltaOf {a1 : Ref_Act} {r : (List GStep)} (h : ref_DeltaOf a1 = some r) : ARO Try.prog 15 [.agg [.r (.sl (a1.Adds.map (rSl GElem.row))), .r (.sl (a1.Cuts.map rBool)), .r (.sl (a1.Attrs.map (rSl GAttr.row)))]] (.r (.sl (r.map GStep.row))) := by
 unfold ref_DeltaOf at h
 refine ARO.mkF Try.func15 rfl rfl Try.ntmps15 rfl (Nat.le_of_ble_eq_true rfl) fun n0 => ?_
 refine AW.seq_w fun K1 hK1 wK1 => ?_
 refine AW.region ?_
 refine AOps.step rfl rfl rfl (ms_box (cs := [.r (.sl (a1.Adds.map (rSl GElem.row))), .r (.sl (a1.Cuts.map rBool)), .r (.sl (a1.Attrs.map (rSl GAttr.row)))]) 1 rfl iL rfl rfl) ?_
 refine sQ rfl (sp_assign rfl iL) ?_
 refine AOps.nil ?_
 refine hK1 _ ?_
 refine AW.seq_w fun K2 hK2 wK2 => ?_
 refine AW.region ?_
 refine sQ rfl (sp_assign rfl iL) ?_
 refine AOps.nil ?_
 refine hK2 _ ?_
 refine AW.seq_w fun K3 hK3 wK3 => ?_
 refine AW.region ?_
 refine sQ rfl (sp_assign rfl iL) ?_
 refine AOps.nil ?_
 refine hK3 _ ?_
 refine AW.seq_w fun K4 hK4 wK4 => ?_
 refine AW.region ?_
 refine sQ rfl (sp_assign rfl iL) ?_
 refine AOps.nil ?_
 refine hK4 _ ?_
 refine AW.seq_w fun K5 hK5 wK5 => ?_
 refine AW.seq_w fun K6 hK6 wK6 => ?_
 refine AW.region ?_
 refine sQ rfl (sp_assign rfl iL) ?_
 refine AOps.nil ?_
 refine hK6 _ ?_
 refine AW.block ?_
 refine jb1k h fun o1 hit1 hk1 => ?_
 have J1 : ∀ (out4 : List GStep) (i8 : Nat → Nat), o1 = out4 → K5 ⟨[(3, .own 5003 (i8 0))], [(5003, some (.arr (i8 0) 31 4 (out4.map GStep.row)))], (i8 1), 100⟩ := by
  intro out4 i8 e
  have h1 := hk1 _ e
  refine hK5 _ ?_
  refine AW.seq_w fun K7 hK7 wK7 => ?_
  refine AW.region ?_
  refine sQ rfl (sp_move rfl iL) ?_
  refine sQ rfl (sp_assign rfl iL) ?_
  refine AOps.nil ?_
  refine hK7 _ ?_
  refine AW.ret ?_
  exact retf1 (P := Try.prog) (fun (r : (List GStep)) => .r (.sl (r.map GStep.row))) h1 iL (.t (.one (.own rfl)))
 refine AW.iter4 (fun (cuts2 : Int) (i4 : Int) (out2 : List GStep) (adds2 : List GElem) i5 => ⟨[(1, .ptr 1 n0 0 0), (3, .own 5003 (i5 0)), (4, .own 5004 (i5 1)), (5, .r (.int .i64 cuts2)), (6, .r (.int .i64 i4))], [(1, some (.box n0 41 [.r (.sl (a1.Adds.map (rSl GElem.row))), .r (.sl (a1.Cuts.map rBool)), .r (.sl (a1.Attrs.map (rSl GAttr.row)))])), (5003, some (.arr (i5 0) 31 4 (out2.map GStep.row))), (5004, some (.arr (i5 1) 82 3 (adds2.map GElem.row)))], (i5 2), 100⟩) (vec [(n0 + 1), (n0 + 2), (n0 + 3)]) hit1 (Weak.trans (Weak.trans (Weak.adopt 3 5003 31 4 (by decide) rfl) (by exact Weak.cv (e' := [(0, .agg [.r (.sl (a1.Adds.map (rSl GElem.row))), .r (.sl (a1.Cuts.map rBool)), .r (.sl (a1.Attrs.map (rSl GAttr.row)))]), (1, .ptr 1 n0 0 0), (2, .cst (.slice none 0 0)), (3, .own 5003 (n0 + 1)), (4, .cst (.slice none 0 0)), (5, .r (.int .i64 0)), (6, .r (.int .i64 0))]) (h' := [(1, some (.box n0 41 [.r (.sl (a1.Adds.map (rSl GElem.row))), .r (.sl (a1.Cuts.map rBool)), .r (.sl (a1.Attrs.map (rSl GAttr.row)))])), (5003, some (.arr (n0 + 1) 31 4 (([] : List GStep).map GStep.row)))]) ⟨.inl iL, .inl iL, .inl iL, .inl iL, .inl iL, .inl iL, .inl iL, trivial⟩ ⟨.inl rfl, .inl rfl, trivial⟩ (Nat.le_refl _))) (Weak.trans (Weak.trans (Weak.adopt 4 5004 82 3 (by decide) rfl) (by exact Weak.cv (e' := [(0, .agg [.r (.sl (a1.Adds.map (rSl GElem.row))), .r (.sl (a1.Cuts.map rBool)), .r (.sl (a1.Attrs.map (rSl GAttr.row)))]), (1, .ptr 1 n0 0 0), (2, .cst (.slice none 0 0)), (3, .own 5003 (n0 + 1)), (4, .own 5004 (n0 + 2)), (5, .r (.int .i64 0)), (6, .r (.int .i64 0))]) (h' := [(1, some (.box n0 41 [.r (.sl (a1.Adds.map (rSl GElem.row))), .r (.sl (a1.Cuts.map rBool)), .r (.sl (a1.Attrs.map (rSl GAttr.row)))])), (5003, some (.arr (n0 + 1) 31 4 (([] : List GStep).map GStep.row))), (5004, some (.arr (n0 + 2) 82 3 (([] : List GElem).map GElem.row)))]) ⟨.inl iL, .inl iL, .inl iL, .inl iL, .inl iL, .inl iL, .inl iL, trivial⟩ ⟨.inl rfl, .inl rfl, .inl rfl, trivial⟩ (Nat.le_refl _))) (by exact Weak.cv ⟨.inl iL, .inl iL, .inl iL, .inl iL, .inl iL, trivial⟩ ⟨.inl rfl, .inl rfl, .inl rfl, trivial⟩ (Nat.le_refl _)))) ?_
 intro cuts2 i4 out2 adds2 i5 v1 hv1 hx1
 have h2 : ref_DeltaOf_L1 a1 cuts2 i4 out2 adds2 = some v1 := hv1; unfold ref_DeltaOf_L1 at h2
 refine AW.seq_w fun K8 hK8 wK8 => ?_
 refine AW.seq_w fun K9 hK9 wK9 => ?_
 refine AW.region ?_
 refine sQ rfl (sp_move rfl iL) ?_
 refine sQ rfl (sp_fieldAddr_own (ob := .box _ _ _) rfl tf_41_1 iL (fun _ => rfl) rfl) ?_
 refine sQ rfl (ms_load_box (a := .r (.sl (a1.Cuts.map rBool))) rfl ts_38 iL rfl rfl) ?_
 refine sQ rfl (ms_len rfl tg_38.slice iL) ?_
 refine sQ rfl (sp_leq rfl iL iL) ?_
 refine AOps.nil ?_
 refine hK9 _ ?_
 refine AW.cond rfl (fun hc1 => ?_) (fun hc1 => ?_)
 ·have h3 := ite_t hc1 h2
  refine AW.skip ?_
  refine hK8 _ ?_
  refine AW.seq_w fun K10 hK10 wK10 => ?_
  refine AW.block ?_
  refine jc3k h3 fun p1 hp1 hk2 he2 => ?_
  have J2 : ∀ (cuts4 : Int) (out5 : List GStep) (adds4 : List GElem) (i9 : Nat → Nat), p1 = .nrm (cuts4, out5, adds4) → K10 ⟨[(1, .ptr 1 n0 0 0), (3, .own 5003 (i9 0)), (4, .own 5004 (i9 1)), (5, .r (.int .i64 cuts4)), (6, .r (.int .i64 i4))], [(1, some (.box n0 41 [.r (.sl (a1.Adds.map (rSl GElem.row))), .r (.sl (a1.Cuts.map rBool)), .r (.sl (a1.Attrs.map (rSl GAttr.row)))])), (5003, some (.arr (i9 0) 31 4 (out5.map GStep.row))), (5004, some (.arr (i9 1) 82 3 (adds4.map GElem.row)))], (i9 2), 100⟩ := by
   intro cuts4 out5 adds4 i9 e
   have h4 := hk2 _ _ _ e
   refine hK10 _ ?_
   refine AW.region ?_
   refine sQ rfl (sp_move rfl iL) ?_
   refine ob1k h4 fun i10 ei10 h5 => ?_
   refine sQ rfl (ms_add rfl iL iL (fun _ => ei10)) ?_
   refine sQ rfl (sp_assign rfl iL) ?_
   refine AOps.nil ?_
   exact NextQ4.mk h5 (vec [(i9 0), (i9 1), (i9 2)]) ((by exact Weak.cv ⟨.inl iL, .inl iL, .inl iL, .inl iL, .inl iL, trivial⟩ ⟨.inl rfl, .inl rfl, .inl rfl, trivial⟩ (Nat.le_refl _)))
  refine AW.seq_w fun K11 hK11 wK11 => ?_
  refine AW.region ?_
  refine sQ rfl (sp_move rfl iL) ?_
  refine sQ rfl (sp_fieldAddr_own (ob := .box _ _ _) rfl tf_41_0 iL (fun _ => rfl) rfl) ?_
  refine sQ rfl (ms_load_box (a := .r (.sl (a1.Adds.map (rSl GElem.row)))) rfl ts_37 iL rfl rfl) ?_
  refine sQ rfl (sp_move rfl iL) ?_
  refine ob1k hp1 fun x1 ex1 h6 => ?_
  refine sQ rfl (ms_idx rfl tg_37.slice iL iL (fun _ => rfl) (fun _ => ex1)) ?_
  refine sQ rfl (ms_load (d := .sl (x1.map GElem.row)) rfl ts_22 iL rfl) ?_
  refine ob1k h6 fun adds5 eadds5 h7 => ?_
  refine AOps.step rfl rfl rfl (ms_app rfl tg_22 iL rfl (.inl ⟨iL, fun _ => rfl⟩) eadds5) ?_
  refine sQ rfl (sp_assign rfl iL) ?_
  refine AOps.nil ?_
  refine hK11 _ ?_
  refine AW.seq_w fun K12 hK12 wK12 => ?_
  refine AW.seq_w fun K13 hK13 wK13 => ?_
  refine AW.weak (s' := ⟨[(1, .ptr 1 n0 0 0), (3, .own 5003 (i5 0)), (4, .own 5004 (i5 2)), (5, .r (.int .i64 cuts2)), (6, .r (.int .i64 i4))], [(1, some (.box n0 41 [.r (.sl (a1.Adds.map (rSl GElem.row))), .r (.sl (a1.Cuts.map rBool)), .r (.sl (a1.Attrs.map (rSl GAttr.row)))])), (5003, some (.arr (i5 0) 31 4 (out2.map GStep.row))), (5004, some (.arr (i5 2) 82 3 (adds5.map GElem.row)))], ((i5 2) + 1), 100⟩) (by exact Weak.cv ⟨.inl iL, .inl iL, .inl iL, .inl iL, .inl iL, trivial⟩ ⟨.inl rfl, .inl rfl, .inl rfl, trivial⟩ (Nat.le_refl _)) ?_
  refine AW.region ?_
  refine sQ rfl (sp_move rfl iL) ?_
  refine sQ rfl (sp_fieldAddr_own (ob := .box _ _ _) rfl tf_41_1 iL (fun _ => rfl) rfl) ?_
  refine sQ rfl (ms_load_box (a := .r (.sl (a1.Cuts.map rBool))) rfl ts_38 iL rfl rfl) ?_
  refine sQ rfl (ms_len rfl tg_38.slice iL) ?_
  refine sQ rfl (sp_lss rfl iL iL) ?_
  refine sQ rfl (sp_move rfl iL) ?_
  refine sW (.one rfl rfl rfl) rfl (sp_fieldAddr_own (ob := .box _ _ _) rfl tf_41_1 iL (fun _ => rfl) rfl) ?_
  refine sW (.one rfl rfl rfl) rfl (ms_load_box (a := .r (.sl (a1.Cuts.map rBool))) rfl ts_38 (.inr ⟨_, (by exact id), rfl⟩) rfl rfl) ?_
  refine sW (.one rfl rfl rfl) rfl (sp_move rfl iL) ?_
  refine ob1k h7 fun x2 ex2 h8 => ?_
  refine sW (.one rfl rfl rfl) rfl (ms_idx rfl tg_38.slice (.inr ⟨_, (by exact id), rfl⟩) (.inr ⟨_, (by exact id), rfl⟩) (fun _ => rfl) (gdt ex2)) ?_
  refine sW (.one rfl rfl rfl) rfl (ms_load (d := .bool x2) rfl ts_4 (.inr ⟨_, (by exact id), rfl⟩) rfl) ?_
  refine sQ rfl (sp_and rfl iL (.inr ⟨_, (by exact id), rfl⟩)) ?_
  refine AOps.nil ?_
  refine hK13 _ ?_
  refine AW.cond rfl (fun hc2 => ?_) (fun hc2 => ?_)
  ·have h9 := ite_t hc2 h8
   refine AW.seq_w fun K14 hK14 wK14 => ?_
   refine AW.region ?_
   refine sQ rfl (sp_move rfl iL) ?_
   refine ob1k h9 fun cuts5 ecuts5 h10 => ?_
   refine sQ rfl (ms_add rfl iL iL (fun _ => ecuts5)) ?_
   refine sQ rfl (sp_assign rfl iL) ?_
   refine AOps.nil ?_
   refine hK14 _ ?_
   refine AW.exit ?_
   exact wK10 _ _ ((by exact Weak.cv ⟨.inl iL, .inl iL, .inl iL, .inl iL, .inl iL, trivial⟩ ⟨.inl rfl, .inl rfl, .inl rfl, trivial⟩ (Nat.le_refl _))) (J2 _ _ _ (vec [(i5 0), (i5 2), ((i5 2) + 1)]) (Option.some.inj h10).symm)
  ·have h9 := ite_f hc2 h8
   refine AW.skip ?_
   refine hK12 _ ?_
   refine AW.seq_w fun K15 hK15 wK15 => ?_
   refine AW.seq_w fun K16 hK16 wK16 => ?_
   refine AW.region ?_
   refine sQ rfl (sp_move rfl iL) ?_
   refine sQ rfl (ms_len_own rfl tg_22.slice iL rfl) ?_
   refine sQ rfl (sp_gtr rfl iL iL) ?_
   refine AOps.nil ?_
   refine hK16 _ ?_
   refine jb1k h9 fun p2 hp2 hk3 => ?_
   have J3 : ∀ (out6 : List GStep) (i11 : Nat → Nat), p2 = out6 → K15 ⟨[(1, .ptr 1 n0 0 0), (3, .own 5003 (i11 0)), (5, .r (.int .i64 cuts2)), (6, .r (.int .i64 i4))], [(1, some (.box n0 41 [.r (.sl (a1.Adds.map (rSl GElem.row))), .r (.sl (a1.Cuts.map rBool)), .r (.sl (a1.Attrs.map (rSl GAttr.row)))])), (5003, some (.arr (i11 0) 31 4 (out6.map GStep.row)))], (i11 1), 100⟩ := by
    intro out6 i11 e
    have h11 := hk3 _ e
    refine hK15 _ ?_
    refine AW.seq_w fun K17 hK17 wK17 => ?_
    refine AW.seq_w fun K18 hK18 wK18 => ?_
    refine AW.region ?_
    refine sQ rfl (sp_move rfl iL) ?_
    refine sQ rfl (sp_gtr rfl iL iL) ?_
    refine AOps.nil ?_
    refine hK18 _ ?_
    refine jb1k h11 fun p3 hp3 hk4 => ?_
    have J4 : ∀ (out7 : List GStep) (i12 : Nat → Nat), p3 = out7 → K17 ⟨[(1, .ptr 1 n0 0 0), (3, .own 5003 (i12 0)), (6, .r (.int .i64 i4))], [(1, some (.box n0 41 [.r (.sl (a1.Adds.map (rSl GElem.row))), .r (.sl (a1.Cuts.map rBool)), .r (.sl (a1.Attrs.map (rSl GAttr.row)))])), (5003, some (.arr (i12 0) 31 4 (out7.map GStep.row)))], (i12 1), 100⟩ := by
     intro out7 i12 e
     have h12 := hk4 _ e
     refine hK17 _ ?_
     refine AW.seq_w fun K19 hK19 wK19 => ?_
     refine AW.region ?_
     refine sQ rfl (sp_assign rfl iL) ?_
     refine sQ rfl (sp_assign rfl iL) ?_
     refine AOps.nil ?_
     refine hK19 _ ?_
     refine AW.seq_w fun K20 hK20 wK20 => ?_
     refine AW.seq_w fun K21 hK21 wK21 => ?_
     refine AW.region ?_
     refine sQ rfl (sp_move rfl iL) ?_
     refine sQ rfl (sp_fieldAddr_own (ob := .box _ _ _) rfl tf_41_1 iL (fun _ => rfl) rfl) ?_
     refine sQ rfl (ms_load_box (a := .r (.sl (a1.Cuts.map rBool))) rfl ts_38 iL rfl rfl) ?_
     refine sQ rfl (ms_len rfl tg_38.slice iL) ?_
     refine sQ rfl (sp_eql rfl iL iL) ?_
     refine AOps.nil ?_
     refine hK21 _ ?_
     refine AW.cond rfl (fun hc3 => ?_) (fun hc3 => ?_)
     ·have h13 := ite_t hc3 h12
      refine AW.exit ?_
      exact wK5 _ _ ((by exact Weak.cv ⟨.inl iL, trivial⟩ ⟨.inl rfl, trivial⟩ (Nat.le_refl _))) (J1 _ (vec [(i12 0), (i12 1)]) (hx1 _ (Option.some.inj (he2 _ (Option.some.inj h13).symm)).symm))
     ·have h13 := ite_f hc3 h12
      refine AW.skip ?_
      refine hK20 _ ?_
      refine AW.seq_w fun K22 hK22 wK22 => ?_
      refine AW.region ?_
      refine sQ rfl (sp_move rfl iL) ?_
      refine sQ rfl (ms_len_own rfl tg_23.slice iL rfl) ?_
      refine ob1k h13 fun k1 ek1 h14 => ?_
      refine sQ rfl (ms_sub rfl iL iL (fun _ => ek1)) ?_
      refine sQ rfl (sp_assign rfl iL) ?_
      refine AOps.nil ?_
      refine hK22 _ ?_
      refine AW.seq_w fun K23 hK23 wK23 => ?_
      refine AW.regionQ hmix (by kernel_rfl) ?_
      refine AQ.step rfl rfl rfl (sp_move rfl iL) ?_
      refine AQ.step rfl rfl rfl (sp_geq rfl iL iL) ?_
      refine AQ.step rfl rfl rfl (sp_move rfl iL) ?_
      refine AQ.stepW (.one rfl rfl rfl) rfl rfl (sp_move rfl iL) ?_
      refine AQ.stepW (.one rfl rfl rfl) rfl rfl (sp_move rfl iL) ?_
      refine ob1k h14 fun x3 ex3 h15 => ?_
      refine AQ.stepW (.one rfl rfl rfl) rfl rfl (ms_idx_own rfl tg_23.slice (.inr ⟨_, (by exact id), rfl⟩) rfl (.inr ⟨_, (by exact id), rfl⟩) (gdt ex3)) ?_
      refine AQ.stepW (.one rfl rfl rfl) rfl rfl (sp_fieldAddr_own (ob := .arr _ _ _ _) rfl tf_31_0 (.inr ⟨_, (by exact id), rfl⟩) (fun _ => rfl) rfl) ?_
      refine AQ.stepW (.one rfl rfl rfl) rfl rfl (ms_load_own (d := .int .i64 x3.Kind) rfl ts_3 (.inr ⟨_, (by exact id), rfl⟩) (fun _ => rfl) (gdt ex3) rfl) ?_
      refine AQ.stepW (.one rfl rfl rfl) rfl rfl (sp_eql rfl (.inr ⟨_, (by exact id), rfl⟩) iL) ?_
      refine AQ.step rfl rfl rfl (sp_and rfl iL (.inr ⟨_, (by exact id), rfl⟩)) ?_
      refine AQ.step rfl rfl rfl (sp_move rfl iL) ?_
      refine AQ.stepW (.one rfl rfl rfl) rfl rfl (sp_move rfl iL) ?_
      refine AQ.stepW (.one rfl rfl rfl) rfl rfl (sp_move rfl iL) ?_
      refine ob1k h15 fun x4 ex4 h16 => ?_
      refine AQ.stepW (.one rfl rfl rfl) rfl rfl (ms_idx_own rfl tg_23.slice (.inr ⟨_, (by exact id), rfl⟩) rfl (.inr ⟨_, (by exact id), rfl⟩) (gdt ex4)) ?_
      refine AQ.stepW (.one rfl rfl rfl) rfl rfl (sp_fieldAddr_own (ob := .arr _ _ _ _) rfl tf_31_2 (.inr ⟨_, (by exact id), rfl⟩) (fun _ => rfl) rfl) ?_
      refine AQ.stepW (.one rfl rfl rfl) rfl rfl (ms_load_own (d := .sl (x4.Attrs.map GAttr.row)) rfl ts_29 (.inr ⟨_, (by exact id), rfl⟩) (fun _ => rfl) (gdt ex4) rfl) ?_
      refine AQ.stepW (.one rfl rfl rfl) rfl rfl (sp_fieldAddr_own (ob := .box _ _ _) rfl tf_41_2 iL (fun _ => rfl) rfl) ?_
      refine AQ.stepW (.one rfl rfl rfl) rfl rfl (ms_load_box (a := .r (.sl (a1.Attrs.map (rSl GAttr.row)))) rfl ts_39 (.inr ⟨_, (by exact id), rfl⟩) rfl rfl) ?_
      refine AQ.stepW (.one rfl rfl rfl) rfl rfl (sp_move rfl iL) ?_
      refine ob1k h16 fun x5 ex5 h17 => ?_
      refine AQ.stepW (.one rfl rfl rfl) rfl rfl (ms_idx rfl tg_39.slice (.inr ⟨_, (by exact id), rfl⟩) (.inr ⟨_, (by exact id), rfl⟩) (fun _ => rfl) (gdt ex5)) ?_
      refine AQ.stepW (.one rfl rfl rfl) rfl rfl (ms_load (d := .sl (x5.map GAttr.row)) rfl ts_29 (.inr ⟨_, (by exact id), rfl⟩) rfl) ?_
      refine ob1k h17 fun r1 er1 h18 => ?_
      refine AQ.stepWC (.one rfl rfl rfl) rfl rfl (r := .r (.bool r1)) (caps := []) (bs := [.r (.sl (x4.Attrs.map GAttr.row)), .r (.sl (x5.map GAttr.row))]) rfl iL rfl ⟨⟨_, (.inr ⟨_, (by exact id), rfl⟩), .d rfl⟩, ⟨_, (.inr ⟨_, (by exact id), rfl⟩), .d rfl⟩, trivial⟩ (fun hg => w_ref_SameAttrs (gdt er1 hg)) rfl ?_
      refine AQ.step rfl rfl rfl (sp_and rfl iL (.inr ⟨_, (by exact id), rfl⟩)) ?_
      refine AQ.nil ?_
      refine hK23 _ ?_
      refine AW.cond rfl (fun hc4 => ?_) (fun hc4 => ?_)
      ·have h19 := ite_t hc4 h18
       refine AW.weak (s' := ⟨[(1, .ptr 1 n0 0 0), (3, .own 5003 (i12 0)), (4, .cst (.slice none 0 0)), (5, .r (.int .i64 0)), (6, .r (.int .i64 i4)), (7, .r (.int .i64 k1))], [(1, some (.box n0 41 [.r (.sl (a1.Adds.map (rSl GElem.row))), .r (.sl (a1.Cuts.map rBool)), .r (.sl (a1.Attrs.map (rSl GAttr.row)))])), (5003, some (.arr (i12 0) 31 4 (out7.map GStep.row)))], (i12 1), 100⟩) (by exact Weak.cv ⟨.inl iL, .inl iL, .inl iL, .inl iL, .inl iL, .inl iL, trivial⟩ ⟨.inl rfl, .inl rfl, trivial⟩ (Nat.le_refl _)) ?_
       refine AW.region ?_
       refine sQ rfl (sp_move rfl iL) ?_
       refine sQ rfl (sp_move rfl iL) ?_
       refine ob1k h19 fun x6 ex6 h20 => ?_
       refine sQ rfl (ms_idx_own rfl tg_23.slice iL rfl iL (fun _ => ex6)) ?_
       refine sQ rfl (sp_fieldAddr_own (ob := .arr _ _ _ _) rfl tf_31_1 iL (fun _ => rfl) rfl) ?_
       refine sQ rfl (ms_load_own (d := .int .i64 x6.N) rfl ts_3 iL (fun _ => rfl) (fun _ => ex6) rfl) ?_
       refine ob1k h20 fun x7 ex7 h21 => ?_
       refine sQ rfl (ms_add rfl iL iL (fun _ => ex7)) ?_
       refine sQ rfl (ms_idx_own rfl tg_23.slice iL rfl iL (fun _ => ex6)) ?_
       refine sQ rfl (sp_fieldAddr_own (ob := .arr _ _ _ _) rfl tf_31_1 iL (fun _ => rfl) rfl) ?_
       refine AOps.step0 rfl rfl (ms_store (v := (GStep.mk x6.Kind x7 x6.Attrs x6.Elems)) rfl tz_3 iL rfl ex6 iL rfl rfl rfl rfl) ?_
       refine AOps.nil ?_
       exact wK10 _ _ (Weak.trans (Weak.trans (Weak.adopt 4 5004 82 3 (by decide) rfl) (by exact Weak.cv (e' := [(1, .ptr 1 n0 0 0), (3, .own 5003 (i12 0)), (4, .own 5004 (i12 1)), (5, .r (.int .i64 0)), (6, .r (.int .i64 i4)), (7, .r (.int .i64 k1)), (82, .own 5003 (i12 0)), (83, .r (.int .i64 k1)), (84, .ptr 5003 (i12 0) k1.toNat 0), (85, .ptr 5003 (i12 0) k1.toNat 1), (86, .r (.int .i64 x6.N)), (87, .r (.int .i64 x7)), (88, .ptr 5003 (i12 0) k1.toNat 0), (89, .ptr 5003 (i12 0) k1.toNat 1)]) (h' := [(1, some (.box n0 41 [.r (.sl (a1.Adds.map (rSl GElem.row))), .r (.sl (a1.Cuts.map rBool)), .r (.sl (a1.Attrs.map (rSl GAttr.row)))])), (5003, some (.arr (i12 0) 31 4 ((out7.set k1.toNat (GStep.mk x6.Kind x7 x6.Attrs x6.Elems)).map GStep.row))), (5004, some (.arr (i12 1) 82 3 (([] : List GElem).map GElem.row)))]) ⟨.inl iL, .inl iL, .inl iL, .inl iL, .inl iL, .inl iL, .inl iL, .inl iL, .inl iL, .inl iL, .inl iL, .inl iL, .inl iL, .inl iL, trivial⟩ ⟨.inl rfl, .inl rfl, .inl rfl, trivial⟩ (Nat.le_refl _))) (by exact Weak.cv ⟨.inl iL, .inl iL, .inl iL, .inl iL, .inl iL, trivial⟩ ⟨.inl rfl, .inl rfl, .inl rfl, trivial⟩ (Nat.le_refl _))) (J2 _ _ _ (vec [(i12 0), (i12 1), ((i12 1) + 1)]) (Option.some.inj h21).symm)
      ·have h19 := ite_f hc4 h18
       refine AW.weak (s' := ⟨[(1, .ptr 1 n0 0 0), (3, .own 5003 (i12 0)), (4, .cst (.slice none 0 0)), (5, .r (.int .i64 0)), (6, .r (.int .i64 i4))], [(1, some (.box n0 41 [.r (.sl (a1.Adds.map (rSl GElem.row))), .r (.sl (a1.Cuts.map rBool)), .r (.sl (a1.Attrs.map (rSl GAttr.row)))])), (5003, some (.arr (i12 0) 31 4 (out7.map GStep.row)))], (i12 1), 100⟩) (by exact Weak.cv ⟨.inl iL, .inl iL, .inl iL, .inl iL, .inl iL, trivial⟩ ⟨.inl rfl, .inl rfl, trivial⟩ (Nat.le_refl _)) ?_
       refine AW.region ?_
       refine sQ rfl (sp_move rfl iL) ?_
       refine sQ rfl (sp_fieldAddr_own (ob := .box _ _ _) rfl tf_41_2 iL (fun _ => rfl) rfl) ?_
       refine sQ rfl (ms_load_box (a := .r (.sl (a1.Attrs.map (rSl GAttr.row)))) rfl ts_39 iL rfl rfl) ?_
       refine sQ rfl (sp_move rfl iL) ?_
       refine ob1k h19 fun x8 ex8 h22 => ?_
       refine sQ rfl (ms_idx rfl tg_39.slice iL iL (fun _ => rfl) (fun _ => ex8)) ?_
       refine sQ rfl (ms_load (d := .sl (x8.map GAttr.row)) rfl ts_29 iL rfl) ?_
       refine sQ rfl (sp_build rfl tb_31 (q := [(0, _), (1, _), (2, _)]) (by exact ⟨rfl, rfl, rfl, iL, rfl, rfl, rfl, iL, rfl, rfl, rfl, iL, trivial⟩) (cs := [.r (.int .i64 0), .r (.int .i64 1), .r (.sl (x8.map GAttr.row)), .cst (.slice none 0 0)]) (by rfl)) ?_
       refine AOps.step rfl rfl rfl (ms_lit 97 rfl tg_23 (f := GStep.row) (l := ([(GStep.mk 0 1 x8 [])] : List GStep)) ⟨rfl, ⟨_, iL, rfl⟩, trivial⟩ rfl (fun _ => rfl) rfl) ?_
       refine ob1k h22 fun out8 eout8 h23 => ?_
       refine AOps.step rfl rfl rfl (ms_app rfl tg_23 iL rfl (.inr (.inl ⟨_, _, iL, rfl⟩)) eout8) ?_
       refine sQ rfl (sp_assign rfl iL) ?_
       refine AOps.nil ?_
       exact wK10 _ _ (Weak.trans (Weak.trans (Weak.adopt 4 5004 82 3 (by decide) rfl) (by exact Weak.cv (e' := [(1, .ptr 1 n0 0 0), (3, .own 5003 ((i12 1) + 1)), (4, .own 5004 ((i12 1) + 2)), (5, .r (.int .i64 0)), (6, .r (.int .i64 i4)), (91, .ptr 1 n0 0 2), (92, .r (.sl (a1.Attrs.map (rSl GAttr.row)))), (93, .r (.int .i64 i4)), (94, .rop ((rSl GAttr.row) x8) 0), (95, .r (.sl (x8.map GAttr.row))), (96, .agg [.r (.int .i64 0), .r (.int .i64 1), .r (.sl (x8.map GAttr.row)), .cst (.slice none 0 0)]), (97, .own 97 (i12 1)), (98, .own 5003 ((i12 1) + 1))]) (h' := [(1, some (.box n0 41 [.r (.sl (a1.Adds.map (rSl GElem.row))), .r (.sl (a1.Cuts.map rBool)), .r (.sl (a1.Attrs.map (rSl GAttr.row)))])), (97, some (.arr (i12 1) 31 4 ([(GStep.mk 0 1 x8 [])].map GStep.row))), (5003, some (.arr ((i12 1) + 1) 31 4 (out8.map GStep.row))), (5004, some (.arr ((i12 1) + 2) 82 3 (([] : List GElem).map GElem.row)))]) ⟨.inl iL, .inl iL, .inl iL, .inl iL, .inl iL, .inl iL, .inl iL, .inl iL, .inl iL, .inl iL, .inl iL, .inl iL, .inl iL, trivial⟩ ⟨.inl rfl, .inl rfl, .inl rfl, .inl rfl, trivial⟩ (Nat.le_refl _))) (by exact Weak.cv ⟨.inl iL, .inl iL, .inl iL, .inl iL, .inl iL, trivial⟩ ⟨.inl rfl, .inl rfl, .inl rfl, trivial⟩ (Nat.le_refl _))) (J2 _ _ _ (vec [((i12 1) + 1), ((i12 1) + 2), ((i12 1) + 3)]) (Option.some.inj h23).symm)
    refine AW.cond rfl (fun hc5 => ?_) (fun hc5 => ?_)
    ·have h24 := ite_t hc5 hp3
     refine AW.region ?_
     refine sQ rfl (sp_move rfl iL) ?_
     refine sQ rfl (sp_move rfl iL) ?_
     refine sQ rfl (sp_build rfl tb_31 (q := [(0, _), (1, _)]) (by exact ⟨rfl, rfl, rfl, iL, rfl, rfl, rfl, iL, trivial⟩) (cs := [.r (.int .i64 2), .r (.int .i64 cuts2), .cst (.slice none 0 0), .cst (.slice none 0 0)]) (by rfl)) ?_
     refine AOps.step rfl rfl rfl (ms_lit 49 rfl tg_23 (f := GStep.row) (l := ([(GStep.mk 2 cuts2 [] [])] : List GStep)) ⟨rfl, ⟨_, iL, rfl⟩, trivial⟩ rfl (fun _ => rfl) rfl) ?_
     refine ob1k h24 fun out9 eout9 h25 => ?_
     refine AOps.step rfl rfl rfl (ms_app rfl tg_23 iL rfl (.inr (.inl ⟨_, _, iL, rfl⟩)) eout9) ?_
     refine sQ rfl (sp_assign rfl iL) ?_
     refine AOps.nil ?_
     exact wK17 _ _ ((by exact Weak.cv ⟨.inl iL, .inl iL, .inl iL, trivial⟩ ⟨.inl rfl, .inl rfl, trivial⟩ (Nat.le_refl _))) (J4 _ (vec [((i11 1) + 1), ((i11 1) + 2)]) (Option.some.inj h25).symm)
    ·have h24 := ite_f hc5 hp3
     refine AW.skip ?_
     exact wK17 _ _ ((by exact Weak.cv ⟨.inl iL, .inl iL, .inl iL, trivial⟩ ⟨.inl rfl, .inl rfl, trivial⟩ (Nat.le_refl _))) (J4 _ (vec [(i11 0), (i11 1)]) (Option.some.inj h24).symm)
   refine AW.cond rfl (fun hc6 => ?_) (fun hc6 => ?_)
   ·have h26 := ite_t hc6 hp2
    refine AW.weak (s' := ⟨[(1, .ptr 1 n0 0 0), (3, .own 5003 (i5 0)), (4, .own 5004 (i5 2)), (5, .r (.int .i64 cuts2)), (6, .r (.int .i64 i4))], [(1, some (.box n0 41 [.r (.sl (a1.Adds.map (rSl GElem.row))), .r (.sl (a1.Cuts.map rBool)), .r (.sl (a1.Attrs.map (rSl GAttr.row)))])), (5003, some (.arr (i5 0) 31 4 (out2.map GStep.row))), (5004, some (.arr (i5 2) 82 3 (adds5.map GElem.row)))], ((i5 2) + 1), 100⟩) (by exact Weak.cv ⟨.inl iL, .inl iL, .inl iL, .inl iL, .inl iL, trivial⟩ ⟨.inl rfl, .inl rfl, .inl rfl, trivial⟩ (Nat.le_refl _)) ?_
    refine AW.region ?_
    refine sQ rfl (sp_move rfl iL) ?_
    refine sQ rfl (sp_move rfl iL) ?_
    refine sQ rfl (sp_build rfl tb_31 (q := [(0, _), (3, _)]) (by exact ⟨rfl, rfl, rfl, iL, rfl, rfl, rfl, iL, trivial⟩) (cs := [.r (.int .i64 1), .r (.int .i64 0), .cst (.slice none 0 0), .own 5004 (i5 2)]) (by rfl)) ?_
    refine AOps.weak (by exact Weak.frz (e' := [(1, .ptr 1 n0 0 0), (3, .own 5003 (i5 0)), (4, .r (.sl (adds5.map GElem.row))), (5, .r (.int .i64 cuts2)), (6, .r (.int .i64 i4)), (39, .own 5003 (i5 0)), (40, .r (.sl (adds5.map GElem.row))), (41, .agg [.r (.int .i64 1), .r (.int .i64 0), .cst (.slice none 0 0), .r (.sl (adds5.map GElem.row))])]) (h' := [(1, some (.box n0 41 [.r (.sl (a1.Adds.map (rSl GElem.row))), .r (.sl (a1.Cuts.map rBool)), .r (.sl (a1.Attrs.map (rSl GAttr.row)))])), (5003, some (.arr (i5 0) 31 4 (out2.map GStep.row)))]) 5004 rfl ⟨.inl iL, .inl iL, .inl (.inr (.inr ⟨rfl, rfl⟩)), .inl iL, .inl iL, .inl iL, .inl (.inr (.inr ⟨rfl, rfl⟩)), .inr ⟨_, _, rfl, rfl, ⟨.inl rfl, .inl rfl, .inl rfl, .inr (.inr ⟨rfl, rfl⟩), trivial⟩⟩, trivial⟩ ⟨rfl, .inl rfl, rfl, .inl rfl, trivial⟩) ?_
    refine AOps.step rfl rfl rfl (ms_lit 42 rfl tg_23 (f := GStep.row) (l := ([(GStep.mk 1 0 [] adds5)] : List GStep)) ⟨rfl, ⟨_, iL, rfl⟩, trivial⟩ rfl (fun _ => rfl) rfl) ?_
    refine ob1k h26 fun out10 eout10 h27 => ?_
    refine AOps.step rfl rfl rfl (ms_app rfl tg_23 iL rfl (.inr (.inl ⟨_, _, iL, rfl⟩)) eout10) ?_
    refine sQ rfl (sp_assign rfl iL) ?_
    refine AOps.nil ?_
    exact wK15 _ _ ((by exact Weak.cv ⟨.inl iL, .inl iL, .inl iL, .inl iL, trivial⟩ ⟨.inl rfl, .inl rfl, trivial⟩ (Nat.le_refl _))) (J3 _ (vec [((i5 2) + 2), ((i5 2) + 3)]) (Option.some.inj h27).symm)
   ·have h26 := ite_f hc6 hp2
    refine AW.skip ?_
    exact wK15 _ _ ((by exact Weak.cv ⟨.inl iL, .inl iL, .inl iL, .inl iL, trivial⟩ ⟨.inl rfl, .inl rfl, trivial⟩ (Nat.le_refl _))) (J3 _ (vec [(i5 0), ((i5 2) + 1)]) (Option.some.inj h26).symm)
 ·have h3 := ite_f hc1 h2
  refine AW.exit ?_
  exact wK5 _ _ ((by exact Weak.cv ⟨.inl iL, trivial⟩ ⟨.inl rfl, trivial⟩ (Nat.le_refl _))) (J1 _ (vec [(i5 0), (i5 2)]) (hx1 _ (Option.some.inj h3).symm))
set_option maxHeartbeats 4000000 in
set_option maxRecDepth 20000 in
theorem w_law_DiffFlowsMatch {a1 : List GElem} {b1 : List GElem} {d1 : List GStep} {r : Bool} (h : law_DiffFlowsMatch a1 b1 d1 = some r) : ARO Try.prog 3 [.r (.sl (a1.map GElem.row)), .r (.sl (b1.map GElem.row)), .r (.sl (d1.map GStep.row))] (.r (.bool r)) := by
 unfold law_DiffFlowsMatch at h
 refine ARO.mkF Try.func3 rfl rfl Try.ntmps3 rfl (Nat.le_of_ble_eq_true rfl) fun n0 => ?_
 refine AW.seq_w fun K1 hK1 wK1 => ?_
 refine AW.region ?_
 refine sQ rfl (sp_assign rfl iL) ?_
 refine AOps.nil ?_
 refine hK1 _ ?_
 refine AW.seq_w fun K2 hK2 wK2 => ?_
 refine AW.seq_w fun K3 hK3 wK3 => ?_
 refine AW.region ?_
 refine ob1k h fun r1 er1 h1 => ?_
 refine AOps.step rfl rfl rfl (sp_call (r := .r (.bool r1)) (caps := []) (bs := []) rfl iL rfl trivial (fun _ => w_law_diffs (er1)) rfl) ?_
 refine sQ rfl (sp_not rfl iL) ?_
 refine AOps.nil ?_
 refine hK3 _ ?_
 refine AW.cond rfl (fun hc1 => ?_) (fun hc1 => ?_)
 ·have h2 := ite_t hc1 h1
  refine AW.seq_w fun K4 hK4 wK4 => ?_
  refine AW.region ?_
  refine sQ rfl (sp_assign rfl iL) ?_
  refine AOps.nil ?_
  refine hK4 _ ?_
  refine AW.ret ?_
  exact retf1 (P := Try.prog) (fun (r : Bool) => .r (.bool r)) h2 iL (.t (.d rfl))
 ·have h2 := ite_f hc1 h1
  refine AW.skip ?_
  refine hK2 _ ?_
  refine AW.seq_w fun K5 hK5 wK5 => ?_
  refine AW.seq_w fun K6 hK6 wK6 => ?_
  refine AW.region ?_
  refine sQ rfl (sp_move rfl iL) ?_
  refine sQ rfl (ms_len rfl tg_22.slice iL) ?_
  refine sQ rfl (sp_gtr rfl iL iL) ?_
  refine AOps.nil ?_
  refine hK6 _ ?_
  refine jb1k h2 fun p1 hp1 hk1 => ?_
  have J1 : ∀ (a2 : List GElem) (i1 : Nat → Nat), p1 = a2 → K5 ⟨[(0, .r (.sl (a2.map GElem.row))), (1, .r (.sl (b1.map GElem.row))), (2, .r (.sl (d1.map GStep.row)))], [], (i1 0), 117⟩ := by
   intro a2 i1 e
   have h3 := hk1 _ e
   refine hK5 _ ?_
   refine AW.seq_w fun K7 hK7 wK7 => ?_
   refine AW.seq_w fun K8 hK8 wK8 => ?_
   refine AW.region ?_
   refine sQ rfl (sp_move rfl iL) ?_
   refine sQ rfl (ms_len rfl tg_22.slice iL) ?_
   refine sQ rfl (sp_gtr rfl iL iL) ?_
   refine AOps.nil ?_
   refine hK8 _ ?_
   refine jb1k h3 fun p2 hp2 hk2 => ?_
   have J2 : ∀ (b2 : List GElem) (i2 : Nat → Nat), p2 = b2 → K7 ⟨[(0, .r (.sl (a2.map GElem.row))), (1, .r (.sl (b2.map GElem.row))), (2, .r (.sl (d1.map GStep.row)))], [], (i2 0), 117⟩ := by
    intro b2 i2 e
    have h4 := hk2 _ e
    refine hK7 _ ?_
    refine AW.seq_w fun K9 hK9 wK9 => ?_
    refine AW.region ?_
    refine sQ rfl (sp_move rfl iL) ?_
    refine ob2k h4 fun r2 r3 er2 h5 => ?_
    refine AOps.step rfl rfl rfl (sp_call (r := .tup [.r (.int .i64 r2), .r (.int .i64 r3)]) (caps := []) (bs := [.r (.sl (d1.map GStep.row))]) rfl iL rfl ⟨⟨_, iL, .d rfl⟩, trivial⟩ (fun _ => w_diff_Cost (er2)) rfl) ?_
    refine sQ rfl (sp_move rfl iL) ?_
    refine sQ rfl (sp_extract (a := .r (.int .i64 r2)) rfl iL rfl) ?_
    refine sQ rfl (sp_extract (a := .r (.int .i64 r3)) rfl iL rfl) ?_
    refine sQ rfl (sp_assign rfl iL) ?_
    refine sQ rfl (sp_assign rfl iL) ?_
    refine AOps.nil ?_
    refine hK9 _ ?_
    refine AW.seq_w fun K10 hK10 wK10 => ?_
    refine AW.seq_w fun K11 hK11 wK11 => ?_
    refine AW.region ?_
    refine sQ rfl (sp_move rfl iL) ?_
    refine ob1k h5 fun f1 ef1 h6 => ?_
    refine AOps.step rfl rfl rfl (sp_call (r := .r (.int .i64 f1)) (caps := []) (bs := [.r (.sl (d1.map GStep.row))]) rfl iL rfl ⟨⟨_, iL, .d rfl⟩, trivial⟩ (fun _ => w_ref_DeltaError (ef1)) rfl) ?_
    refine sQ rfl (sp_assign rfl iL) ?_
    refine AOps.nil ?_
    refine hK11 _ ?_
    refine AW.seq_w fun K12 hK12 wK12 => ?_
    refine AW.region ?_
    refine sQ rfl (sp_move rfl iL) ?_
    refine sQ rfl (sp_neq rfl iL iL) ?_
    refine AOps.nil ?_
    refine hK12 _ ?_
    refine jc1k h6 fun p3 hp3 hk3 he3 => ?_
    have J3 : ∀ (u1 : Unit) (i3 : Nat → Nat), p3 = .nrm u1 → K10 ⟨[(0, .r (.sl (a2.map GElem.row))), (1, .r (.sl (b2.map GElem.row)))], [], (i3 0), 117⟩ := by
     intro u1 i3 e
     have h7 := hk3 _ e
     refine hK10 _ ?_
     refine AW.seq_w fun K13 hK13 wK13 => ?_
     refine AW.region ?_
     refine sQ rfl (sp_move rfl iL) ?_
     refine sQ rfl (sp_move rfl iL) ?_
     refine ob2k h7 fun r4 r5 er4 h8 => ?_
     refine AOps.step rfl rfl rfl (sp_callS (r := .tup [.r (.sl (r4.map GStep.row)), .r (.int .i64 r5)]) (caps := []) (bs := [.r (.sl (a2.map GElem.row)), .r (.sl (b2.map GElem.row))]) rfl iL rfl ⟨.inl ⟨iL, rfl⟩, .inl ⟨iL, rfl⟩, trivial⟩ (fun _ => w_diff_Flows (er4))) ?_
     refine sQ rfl (sp_move rfl iL) ?_
     refine sQ rfl (sp_extract (a := .r (.sl (r4.map GStep.row))) rfl iL rfl) ?_
     refine sQ rfl (sp_extract (a := .r (.int .i64 r5)) rfl iL rfl) ?_
     refine sQ rfl (sp_assign rfl iL) ?_
     refine sQ rfl (sp_assign rfl iL) ?_
     refine AOps.nil ?_
     refine hK13 _ ?_
     refine AW.seq_w fun K14 hK14 wK14 => ?_
     refine AW.region ?_
     refine sQ rfl (sp_move rfl iL) ?_
     refine ob1k h8 fun f2 ef2 h9 => ?_
     refine AOps.step rfl rfl rfl (sp_call (r := .r (.int .i64 f2)) (caps := []) (bs := [.r (.sl (a2.map GElem.row))]) rfl iL rfl ⟨⟨_, iL, .d rfl⟩, trivial⟩ (fun _ => w_ref_PartError (ef2)) rfl) ?_
     refine sQ rfl (sp_assign rfl iL) ?_
     refine AOps.nil ?_
     refine hK14 _ ?_
     refine AW.seq_w fun K15 hK15 wK15 => ?_
     refine AW.seq_w fun K16 hK16 wK16 => ?_
     refine AW.region ?_
     refine sQ rfl (sp_move rfl iL) ?_
     refine sQ rfl (sp_eql rfl iL iL) ?_
     refine AOps.nil ?_
     refine hK16 _ ?_
     refine jb1k h9 fun p4 hp4 hk4 => ?_
     have J4 : ∀ (f3 : Int) (i4 : Nat → Nat), p4 = f3 → K15 ⟨[(0, .r (.sl (a2.map GElem.row))), (1, .r (.sl (b2.map GElem.row))), (12, .r (.sl (r4.map GStep.row))), (13, .r (.int .i64 r5)), (14, .r (.int .i64 f3))], [], (i4 0), 117⟩ := by
      intro f3 i4 e
      have h10 := hk4 _ e
      refine hK15 _ ?_
      refine AW.seq_w fun K17 hK17 wK17 => ?_
      refine AW.seq_w fun K18 hK18 wK18 => ?_
      refine AW.region ?_
      refine sQ rfl (sp_move rfl iL) ?_
      refine sQ rfl (sp_neq rfl iL iL) ?_
      refine AOps.nil ?_
      refine hK18 _ ?_
      refine AW.cond rfl (fun hc2 => ?_) (fun hc2 => ?_)
      ·have h11 := ite_t hc2 h10
       refine AW.seq_w fun K19 hK19 wK19 => ?_
       refine AW.region ?_
       refine sQ rfl (sp_move rfl iL) ?_
       refine sQ rfl (sp_move rfl iL) ?_
       refine sQ rfl (sp_eql rfl iL iL) ?_
       refine sQ rfl (sp_move rfl iL) ?_
       refine sW (.one rfl rfl rfl) rfl (sp_move rfl iL) ?_
       refine sW (.one rfl rfl rfl) rfl (ms_len rfl tg_23.slice (.inr ⟨_, (by exact id), rfl⟩)) ?_
       refine sW (.one rfl rfl rfl) rfl (sp_eql rfl (.inr ⟨_, (by exact id), rfl⟩) iL) ?_
       refine sQ rfl (sp_and rfl iL (.inr ⟨_, (by exact id), rfl⟩)) ?_
       refine sQ rfl (sp_assign rfl iL) ?_
       refine AOps.nil ?_
       refine hK19 _ ?_
       refine AW.ret ?_
       exact retf1 (P := Try.prog) (fun (r : Bool) => .r (.bool r)) h11 iL (.t (.d rfl))
      ·have h11 := ite_f hc2 h10
       refine AW.skip ?_
       refine hK17 _ ?_
       refine AW.seq_w fun K20 hK20 wK20 => ?_
       refine AW.region ?_
       refine sQ rfl (sp_move rfl iL) ?_
       refine sQ rfl (sp_eql rfl iL iL) ?_
       refine sQ rfl (sp_move rfl iL) ?_
       refine sW (.one rfl rfl rfl) rfl (sp_move rfl iL) ?_
       refine sW (.one rfl rfl rfl) rfl (sp_move rfl iL) ?_
       refine sW (.one rfl rfl rfl) rfl (sp_move rfl iL) ?_
       refine jb1k h11 fun p5 hp5 hk5 => ?_
       have J5 : ∀ (x1 : Bool) (i5 : Nat → Nat), p5 = x1 → K20 ⟨[(6, .r (.bool x1))], [], (i5 0), 117⟩ := by
        intro x1 i5 e
        have h12 := hk5 _ e
        refine hK20 _ ?_
        refine AW.ret ?_
        exact retf1 (P := Try.prog) (fun (r : Bool) => .r (.bool r)) h12 iL (.t (.d rfl))
       refine AOps.split ((decide (r5 = 0)) == true) (fun hg1 => ?_) (fun hg1 => ?_)
       ·have h13 := ite_t hg1 hp5
        refine AOps.weak (by exact Weak.unw2 (e' := [(0, .r (.sl (a2.map GElem.row))), (1, .r (.sl (b2.map GElem.row))), (12, .r (.sl (r4.map GStep.row))), (13, .r (.int .i64 r5)), (14, .r (.int .i64 f3)), (97, .r (.int .i64 f3)), (98, .r (.bool (!decide (f3 = 0)))), (107, .r (.int .i64 r5)), (108, .r (.bool (decide (r5 = 0)))), (109, .r (.bool (decide (r5 = 0)))), (110, .r (.sl (r4.map GStep.row))), (111, .r (.sl (a2.map GElem.row))), (112, .r (.sl (b2.map GElem.row)))]) hg1 ⟨.inl rfl, .inl rfl, .inl rfl, .inl rfl, .inl rfl, .inl rfl, .inl rfl, .inl rfl, .inl rfl, .inl rfl, .inr iL, .inr iL, .inr iL, trivial⟩) ?_
        refine ob1k h13 fun r6 er6 h14 => ?_
        refine AOps.stepGT (.one rfl rfl rfl) hg1 rfl rfl (sp_callS (r := .agg [.r (.sl (r6.Adds.map (rSl GElem.row))), .r (.sl (r6.Cuts.map rBool)), .r (.sl (r6.Attrs.map (rSl GAttr.row)))]) (caps := []) (bs := [.r (.sl (a2.map GElem.row)), .r (.sl (b2.map GElem.row))]) rfl iL rfl ⟨.inl ⟨iL, rfl⟩, .inl ⟨iL, rfl⟩, trivial⟩ (fun _ => w_ref_DiffAct (er6))) ?_
        refine ob1k h14 fun r7 er7 h15 => ?_
        refine AOps.stepGT (.one rfl rfl rfl) hg1 rfl rfl (sp_callS (r := .r (.sl (r7.map GStep.row))) (caps := []) (bs := [.agg [.r (.sl (r6.Adds.map (rSl GElem.row))), .r (.sl (r6.Cuts.map rBool)), .r (.sl (r6.Attrs.map (rSl GAttr.row)))]]) rfl iL rfl ⟨.inl ⟨iL, rfl⟩, trivial⟩ (fun _ => w_ref_DeltaOf (er7))) ?_
        refine ob1k h15 fun r8 er8 h16 => ?_
        refine AOps.stepGT (.one rfl rfl rfl) hg1 rfl rfl (sp_call (r := .r (.bool r8)) (caps := []) (bs := [.r (.sl (r4.map GStep.row)), .r (.sl (r7.map GStep.row))]) rfl iL rfl ⟨⟨_, iL, .d rfl⟩, ⟨_, iL, .d rfl⟩, trivial⟩ (fun _ => w_ref_SameDelta (er8)) rfl) ?_
        refine sQ rfl (sp_and rfl iL iL) ?_
        refine sQ rfl (sp_assign rfl iL) ?_
        refine AOps.nil ?_
        exact wK20 _ _ ((by exact Weak.cv ⟨.inl iL, trivial⟩ trivial (Nat.le_refl _))) (J5 _ (vec [(i4 0)]) (Option.some.inj h16).symm)
       ·have h13 := ite_f hg1 hp5
        refine AOps.stepGF2 (.one rfl rfl rfl) hg1 rfl rfl ?_
        refine AOps.stepGF2 (.one rfl rfl rfl) hg1 rfl rfl ?_
        refine AOps.stepGF2 (.one rfl rfl rfl) hg1 rfl rfl ?_
        refine sQ rfl (sp_and rfl iL (.inr ⟨_, (by exact id), rfl⟩)) ?_
        refine sQ rfl (sp_assign rfl iL) ?_
        refine AOps.nil ?_
        exact wK20 _ _ ((by exact Weak.cv ⟨.inl iL, trivial⟩ trivial (Nat.le_refl _))) (J5 _ (vec [(i4 0)]) (Option.some.inj h13).symm)
     refine AW.cond rfl (fun hc3 => ?_) (fun hc3 => ?_)
     ·have h17 := ite_t hc3 hp4
      refine AW.weak (s' := ⟨[(0, .r (.sl (a2.map GElem.row))), (1, .r (.sl (b2.map GElem.row))), (12, .r (.sl (r4.map GStep.row))), (13, .r (.int .i64 r5))], [], (i3 0), 117⟩) (by exact Weak.cv ⟨.inl iL, .inl iL, .inl iL, .inl iL, trivial⟩ trivial (Nat.le_refl _)) ?_
      refine AW.region ?_
      refine sQ rfl (sp_move rfl iL) ?_
      refine ob1k h17 fun f4 ef4 h18 => ?_
      refine AOps.step rfl rfl rfl (sp_call (r := .r (.int .i64 f4)) (caps := []) (bs := [.r (.sl (b2.map GElem.row))]) rfl iL rfl ⟨⟨_, iL, .d rfl⟩, trivial⟩ (fun _ => w_ref_PartError (ef4)) rfl) ?_
      refine sQ rfl (sp_assign rfl iL) ?_
      refine AOps.nil ?_
      exact wK15 _ _ ((by exact Weak.cv ⟨.inl iL, .inl iL, .inl iL, .inl iL, .inl iL, trivial⟩ trivial (Nat.le_refl _))) (J4 _ (vec [(i3 0)]) (Option.some.inj h18).symm)
     ·have h17 := ite_f hc3 hp4
      refine AW.skip ?_
      exact wK15 _ _ ((by exact Weak.cv ⟨.inl iL, .inl iL, .inl iL, .inl iL, .inl iL, trivial⟩ trivial (Nat.le_refl _))) (J4 _ (vec [(i3 0)]) (Option.some.inj h17).symm)
    refine AW.cond rfl (fun hc4 => ?_) (fun hc4 => ?_)
    ·have h19 := ite_t hc4 hp3
     refine AW.seq_w fun K21 hK21 wK21 => ?_
     refine AW.weak (s' := ⟨[(0, .r (.sl (a2.map GElem.row))), (1, .r (.sl (b2.map GElem.row))), (7, .r (.int .i64 r2)), (8, .r (.int .i64 r3)), (9, .r (.int .i64 f1))], [], (i2 0), 117⟩) (by exact Weak.cv ⟨.inl iL, .inl iL, .inl iL, .inl iL, .inl iL, trivial⟩ trivial (Nat.le_refl _)) ?_
     refine AW.region ?_
     refine sQ rfl (sp_move rfl iL) ?_
     refine sQ rfl (sp_move rfl iL) ?_
     refine sQ rfl (sp_neq rfl iL iL) ?_
     refine sQ rfl (sp_move rfl iL) ?_
     refine sW (.one rfl rfl rfl) rfl (sp_move rfl iL) ?_
     refine sW (.one rfl rfl rfl) rfl (sp_neq rfl (.inr ⟨_, (by exact id), rfl⟩) iL) ?_
     refine sQ rfl (sp_or rfl iL (.inr ⟨_, (by exact id), rfl⟩)) ?_
     refine AOps.nil ?_
     refine hK21 _ ?_
     refine AW.cond rfl (fun hc5 => ?_) (fun hc5 => ?_)
     ·have h20 := ite_t hc5 h19
      refine AW.seq_w fun K22 hK22 wK22 => ?_
      refine AW.weak (s' := ⟨[], [], (i2 0), 117⟩) (by exact Weak.cv trivial trivial (Nat.le_refl _)) ?_
      refine AW.region ?_
      refine sQ rfl (sp_assign rfl iL) ?_
      refine AOps.nil ?_
      refine hK22 _ ?_
      refine AW.ret ?_
      exact retf1 (P := Try.prog) (fun (r : Bool) => .r (.bool r)) (he3 _ (Option.some.inj h20).symm) iL (.t (.d rfl))
     ·have h20 := ite_f hc5 h19
      refine AW.skip ?_
      exact wK10 _ _ ((by exact Weak.cv ⟨.inl iL, .inl iL, trivial⟩ trivial (Nat.le_refl _))) (J3 _ (vec [(i2 0)]) (Option.some.inj h20).symm)
    ·have h19 := ite_f hc4 hp3
     refine AW.seq_w fun K23 hK23 wK23 => ?_
     refine AW.weak (s' := ⟨[(0, .r (.sl (a2.map GElem.row))), (1, .r (.sl (b2.map GElem.row))), (2, .r (.sl (d1.map GStep.row))), (7, .r (.int .i64 r2)), (8, .r (.int .i64 r3))], [], (i2 0), 117⟩) (by exact Weak.cv ⟨.inl iL, .inl iL, .inl iL, .inl iL, .inl iL, trivial⟩ trivial (Nat.le_refl _)) ?_
     refine AW.region ?_
     refine sQ rfl (sp_assign rfl iL) ?_
     refine AOps.nil ?_
     refine hK23 _ ?_
     refine AW.seq_w fun K24 hK24 wK24 => ?_
     refine AW.seq_w fun K25 hK25 wK25 => ?_
     refine AW.region ?_
     refine sQ rfl (sp_move rfl iL) ?_
     refine sQ rfl (ms_len rfl tg_23.slice iL) ?_
     refine sQ rfl (sp_move rfl iL) ?_
     refine AOps.nil ?_
     refine hK25 _ ?_
     refine AW.block ?_
     refine jb1k h19 fun o1 hit1 hk6 => ?_
     have J6 : ∀ (want4 : Int) (i10 : Nat → Nat), o1 = want4 → K24 ⟨[(0, .r (.sl (a2.map GElem.row))), (1, .r (.sl (b2.map GElem.row))), (7, .r (.int .i64 r2)), (8, .r (.int .i64 r3)), (10, .r (.int .i64 want4))], [], (i10 0), 117⟩ := by
      intro want4 i10 e
      have h21 := hk6 _ e
      refine hK24 _ ?_
      refine AW.seq_w fun K26 hK26 wK26 => ?_
      refine AW.region ?_
      refine sQ rfl (sp_move rfl iL) ?_
      refine sQ rfl (sp_neq rfl iL iL) ?_
      refine sQ rfl (sp_move rfl iL) ?_
      refine sW (.one rfl rfl rfl) rfl (sp_move rfl iL) ?_
      refine sW (.one rfl rfl rfl) rfl (sp_move rfl iL) ?_
      refine sW (.one rfl rfl rfl) rfl (sp_neq rfl (.inr ⟨_, (by exact id), rfl⟩) (.inr ⟨_, (by exact id), rfl⟩)) ?_
      refine sQ rfl (sp_or rfl iL (.inr ⟨_, (by exact id), rfl⟩)) ?_
      refine AOps.nil ?_
      refine hK26 _ ?_
      refine AW.cond rfl (fun hc6 => ?_) (fun hc6 => ?_)
      ·have h22 := ite_t hc6 h21
       refine AW.seq_w fun K27 hK27 wK27 => ?_
       refine AW.weak (s' := ⟨[], [], (i10 0), 117⟩) (by exact Weak.cv trivial trivial (Nat.le_refl _)) ?_
       refine AW.region ?_
       refine sQ rfl (sp_assign rfl iL) ?_
       refine AOps.nil ?_
       refine hK27 _ ?_
       refine AW.ret ?_
       exact retf1 (P := Try.prog) (fun (r : Bool) => .r (.bool r)) (he3 _ (Option.some.inj h22).symm) iL (.t (.d rfl))
      ·have h22 := ite_f hc6 h21
       refine AW.skip ?_
       exact wK10 _ _ ((by exact Weak.cv ⟨.inl iL, .inl iL, trivial⟩ trivial (Nat.le_refl _))) (J3 _ (vec [(i10 0)]) (Option.some.inj h22).symm)
     refine AW.iter2 (fun (want2 : Int) (x3 : Int) i8 => ⟨[(0, .r (.sl (a2.map GElem.row))), (1, .r (.sl (b2.map GElem.row))), (2, .r (.sl (d1.map GStep.row))), (7, .r (.int .i64 r2)), (8, .r (.int .i64 r3)), (10, .r (.int .i64 want2)), (44, .r (.int .i64 (d1.length : Int))), (45, .r (.int .i64 x3))], [], (i8 0), 117⟩) (vec [(i2 0)]) hit1 ((by exact Weak.cv ⟨.inl iL, .inl iL, .inl iL, .inl iL, .inl iL, .inl iL, .inl iL, .inl iL, trivial⟩ trivial (Nat.le_refl _))) ?_
     intro want2 x3 i8 v1 hv1 hx1
     have h23 : law_DiffFlowsMatch_L1 d1 want2 x3 = some v1 := hv1; unfold law_DiffFlowsMatch_L1 at h23
     refine AW.seq_w fun K28 hK28 wK28 => ?_
     refine AW.region ?_
     refine sQ rfl (sp_lss rfl iL iL) ?_
     refine AOps.nil ?_
     refine hK28 _ ?_
     refine AW.seq_w fun K29 hK29 wK29 => ?_
     refine AW.cond rfl (fun hc7 => ?_) (fun hc7 => ?_)
     ·have h24 := ite_t hc7 h23
      refine AW.skip ?_
      refine hK29 _ ?_
      refine AW.seq_w fun K30 hK30 wK30 => ?_
      refine AW.block ?_
      refine jb1k h24 fun p6 hp6 hk7 => ?_
      have J7 : ∀ (want5 : Int) (i11 : Nat → Nat), p6 = want5 → K30 ⟨[(0, .r (.sl (a2.map GElem.row))), (1, .r (.sl (b2.map GElem.row))), (2, .r (.sl (d1.map GStep.row))), (7, .r (.int .i64 r2)), (8, .r (.int .i64 r3)), (10, .r (.int .i64 want5)), (44, .r (.int .i64 (d1.length : Int))), (45, .r (.int .i64 x3))], [], (i11 0), 117⟩ := by
       intro want5 i11 e
       have h25 := hk7 _ e
       refine hK30 _ ?_
       refine AW.region ?_
       refine ob1k h25 fun x5 ex5 h26 => ?_
       refine sQ rfl (ms_add rfl iL iL (fun _ => ex5)) ?_
       refine sQ rfl (sp_move rfl iL) ?_
       refine AOps.nil ?_
       exact NextQ2.mk h26 (vec [(i11 0)]) ((by exact Weak.cv ⟨.inl iL, .inl iL, .inl iL, .inl iL, .inl iL, .inl iL, .inl iL, .inl iL, trivial⟩ trivial (Nat.le_refl _)))
      refine AW.seq_w fun K31 hK31 wK31 => ?_
      refine AW.region ?_
      refine sQ rfl (sp_move rfl iL) ?_
      refine sQ rfl (sp_assign rfl iL) ?_
      refine AOps.nil ?_
      refine hK31 _ ?_
      refine AW.seq_w fun K32 hK32 wK32 => ?_
      refine AW.region ?_
      refine sQ rfl (sp_move rfl iL) ?_
      refine sQ rfl (sp_move rfl iL) ?_
      refine ob1k hp6 fun x6 ex6 h27 => ?_
      refine sQ rfl (ms_idx rfl tg_23.slice iL iL (fun _ => rfl) (fun _ => ex6)) ?_
      refine sQ rfl (sp_fieldAddr_ro rfl tf_31_0 iL) ?_
      refine sQ rfl (ms_load (d := .int .i64 x6.Kind) rfl ts_3 iL rfl) ?_
      refine sQ rfl (sp_neq rfl iL iL) ?_
      refine sQ rfl (sp_move rfl iL) ?_
      refine sW (.one rfl rfl rfl) rfl (sp_move rfl iL) ?_
      refine sW (.one rfl rfl rfl) rfl (sp_move rfl iL) ?_
      refine sW (.one rfl rfl rfl) rfl (ms_idx rfl tg_23.slice (.inr ⟨_, (by exact id), rfl⟩) (.inr ⟨_, (by exact id), rfl⟩) (fun _ => rfl) (fun _ => ex6)) ?_
      refine sW (.one rfl rfl rfl) rfl (sp_fieldAddr_ro rfl tf_31_2 (.inr ⟨_, (by exact id), rfl⟩)) ?_
      refine sW (.one rfl rfl rfl) rfl (ms_load (d := .sl (x6.Attrs.map GAttr.row)) rfl ts_29 (.inr ⟨_, (by exact id), rfl⟩) rfl) ?_
      refine sW (.one rfl rfl rfl) rfl (ms_len rfl tg_29.slice (.inr ⟨_, (by exact id), rfl⟩)) ?_
      refine sW (.one rfl rfl rfl) rfl (sp_gtr rfl (.inr ⟨_, (by exact id), rfl⟩) iL) ?_
      refine sQ rfl (sp_or rfl iL (.inr ⟨_, (by exact id), rfl⟩)) ?_
      refine AOps.nil ?_
      refine hK32 _ ?_
      refine AW.cond rfl (fun hc8 => ?_) (fun hc8 => ?_)
      ·have h28 := ite_t hc8 h27
       refine AW.weak (s' := ⟨[(0, .r (.sl (a2.map GElem.row))), (1, .r (.sl (b2.map GElem.row))), (2, .r (.sl (d1.map GStep.row))), (7, .r (.int .i64 r2)), (8, .r (.int .i64 r3)), (10, .r (.int .i64 want2)), (11, .r (.int .i64 x3)), (44, .r (.int .i64 (d1.length : Int))), (45, .r (.int .i64 x3))], [], (i8 0), 117⟩) (by exact Weak.cv ⟨.inl iL, .inl iL, .inl iL, .inl iL, .inl iL, .inl iL, .inl iL, .inl iL, .inl iL, trivial⟩ trivial (Nat.le_refl _)) ?_
       refine AW.regionQ hmix (by kernel_rfl) ?_
       refine AQ.step rfl rfl rfl (sp_move rfl iL) ?_
       refine AQ.step rfl rfl rfl (sp_move rfl iL) ?_
       refine AQ.step rfl rfl rfl (sp_move rfl iL) ?_
       refine AQ.step rfl rfl rfl (ms_idx rfl tg_23.slice iL iL (fun _ => rfl) (fun _ => ex6)) ?_
       refine AQ.step rfl rfl rfl (sp_fieldAddr_ro rfl tf_31_1 iL) ?_
       refine AQ.step rfl rfl rfl (ms_load (d := .int .i64 x6.N) rfl ts_3 iL rfl) ?_
       refine AQ.step rfl rfl rfl (sp_move rfl iL) ?_
       refine AQ.step rfl rfl rfl (sp_move rfl iL) ?_
       refine AQ.step rfl rfl rfl (ms_idx rfl tg_23.slice iL iL (fun _ => rfl) (fun _ => ex6)) ?_
       refine AQ.step rfl rfl rfl (sp_fieldAddr_ro rfl tf_31_3 iL) ?_
       refine AQ.step rfl rfl rfl (ms_load (d := .sl (x6.Elems.map GElem.row)) rfl ts_22 iL rfl) ?_
       refine AQ.step rfl rfl rfl (ms_len rfl tg_22.slice iL) ?_
       refine ob1k h28 fun x7 ex7 h29 => ?_
       refine AQ.step rfl rfl rfl (ms_add rfl iL iL (fun _ => ex7)) ?_
       refine ob1k h29 fun want6 ewant6 h30 => ?_
       refine AQ.step rfl rfl rfl (ms_add rfl iL iL (fun _ => ewant6)) ?_
       refine AQ.step rfl rfl rfl (sp_assign rfl iL) ?_
       refine AQ.nil ?_
       exact wK30 _ _ ((by exact Weak.cv ⟨.inl iL, .inl iL, .inl iL, .inl iL, .inl iL, .inl iL, .inl iL, .inl iL, trivial⟩ trivial (Nat.le_refl _))) (J7 _ (vec [(i8 0)]) (Option.some.inj h30).symm)
      ·have h28 := ite_f hc8 h27
       refine AW.skip ?_
       exact wK30 _ _ ((by exact Weak.cv ⟨.inl iL, .inl iL, .inl iL, .inl iL, .inl iL, .inl iL, .inl iL, .inl iL, trivial⟩ trivial (Nat.le_refl _))) (J7 _ (vec [(i8 0)]) (Option.some.inj h28).symm)
     ·have h24 := ite_f hc7 h23
      refine AW.exit ?_
      exact wK24 _ _ ((by exact Weak.cv ⟨.inl iL, .inl iL, .inl iL, .inl iL, .inl iL, trivial⟩ trivial (Nat.le_refl _))) (J6 _ (vec [(i8 0)]) (hx1 _ (Option.some.inj h24).symm))
   refine AW.cond rfl (fun hc9 => ?_) (fun hc9 => ?_)
   ·have h31 := ite_t hc9 hp2
    refine AW.region ?_
    refine sQ rfl (sp_move rfl iL) ?_
    refine ob1k h31 fun b3 eb3 h32 => ?_
    refine sQ rfl (ms_slice rfl tg_22.slice iL (by exact rfl) (by exact ⟨_, iL⟩) (fun _ => rfl) (fun _ => eb3)) ?_
    refine sQ rfl (sp_assign rfl iL) ?_
    refine AOps.nil ?_
    exact wK7 _ _ ((by exact Weak.cv ⟨.inl iL, .inl iL, .inl iL, trivial⟩ trivial (Nat.le_refl _))) (J2 _ (vec [(i1 0)]) (Option.some.inj h32).symm)
   ·have h31 := ite_f hc9 hp2
    refine AW.skip ?_
    exact wK7 _ _ ((by exact Weak.cv ⟨.inl iL, .inl iL, .inl iL, trivial⟩ trivial (Nat.le_refl _))) (J2 _ (vec [(i1 0)]) (Option.some.inj h31).symm)
  refine AW.cond rfl (fun hc10 => ?_) (fun hc10 => ?_)
  ·have h33 := ite_t hc10 hp1
   refine AW.region ?_
   refine sQ rfl (sp_move rfl iL) ?_
   refine ob1k h33 fun a3 ea3 h34 => ?_
   refine sQ rfl (ms_slice rfl tg_22.slice iL (by exact rfl) (by exact ⟨_, iL⟩) (fun _ => rfl) (fun _ => ea3)) ?_
   refine sQ rfl (sp_assign rfl iL) ?_
   refine AOps.nil ?_
   exact wK5 _ _ ((by exact Weak.cv ⟨.inl iL, .inl iL, .inl iL, trivial⟩ trivial (Nat.le_refl _))) (J1 _ (vec [n0]) (Option.some.inj h34).symm)
  ·have h33 := ite_f hc10 hp1
   refine AW.skip ?_
   exact wK5 _ _ ((by exact Weak.cv ⟨.inl iL, .inl iL, .inl iL, trivial⟩ trivial (Nat.le_refl _))) (J1 _ (vec [n0]) (Option.some.inj h33).symm)
end Go.Proofs.Ytfkolgjapajekaa.Al
