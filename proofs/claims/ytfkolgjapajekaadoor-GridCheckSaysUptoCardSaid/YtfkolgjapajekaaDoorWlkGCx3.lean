/- Walks, as printed. -/
import Derived.Test.YtfkolgjapajekaaDoorWlkGCx2
import Derived.Test.YtfkolgjapajekaaDoorProg
set_option linter.unusedVariables false
namespace Go.Proofs.YtfkolgjapajekaaDoor.Al
open Go.Proofs
set_option maxHeartbeats 4000000 in
set_option maxRecDepth 20000 in
theorem w_law_GridCheckSays {g1 : GGrid} {e1 : GGridEdit} {row1 : Int} {col1 : Int} {r : Bool} (h : law_GridCheckSays g1 e1 row1 col1 = some r) : ARO Tryd.prog 7 [.agg [.r (.int .i64 g1.Rows), .r (.int .i64 g1.Cols), .r (.sl (g1.Cells.map GCell.row)), .r (.sl (g1.Merges.map GRect.row))], .agg [.r (.sl (e1.Rows.map GAxisStep.row)), .r (.sl (e1.Cols.map GAxisStep.row)), .r (.sl (e1.Cells.map GCell.row)), .r (.sl (e1.Split.map GRect.row)), .r (.sl (e1.Merge.map GRect.row))], .r (.int .i64 row1), .r (.int .i64 col1)] (.r (.bool r)) := by
 unfold law_GridCheckSays at h
 refine ARO.mkF Tryd.func7 rfl rfl Tryd.ntmps7 rfl (Nat.le_of_ble_eq_true rfl) fun n0 => ?_
 refine AW.seq_w fun K1 hK1 wK1 => ?_
 refine AW.region ?_
 refine AOps.step rfl rfl rfl (ms_box (cs := [.r (.int .i64 g1.Rows), .r (.int .i64 g1.Cols), .r (.sl (g1.Cells.map GCell.row)), .r (.sl (g1.Merges.map GRect.row))]) 4 rfl iL rfl rfl) ?_
 refine AOps.step rfl rfl rfl (ms_box (cs := [.r (.sl (e1.Rows.map GAxisStep.row)), .r (.sl (e1.Cols.map GAxisStep.row)), .r (.sl (e1.Cells.map GCell.row)), .r (.sl (e1.Split.map GRect.row)), .r (.sl (e1.Merge.map GRect.row))]) 5 rfl iL rfl rfl) ?_
 refine sQ rfl (sp_assign rfl iL) ?_
 refine AOps.nil (hK1 _ ?_)
 refine AW.seq_w fun K2 hK2 wK2 => ?_
 refine AW.seq_w fun K3 hK3 wK3 => ?_
 refine AW.regionQ hmix (by kernel_rfl) ?_
 refine ob1k h fun r1 er1 h1 => ?_
 refine AQ.stepC rfl rfl rfl (r := .r (.bool r1)) (caps := []) (bs := []) rfl iL rfl trivial (fun _ => w_law_grids (er1)) rfl ?_
 refine AQ.step rfl rfl rfl (sp_not rfl iL) ?_
 refine AQ.step rfl rfl rfl (sp_move rfl iL) ?_
 refine AQ.stepW (.one rfl rfl rfl) rfl rfl (ms_loadA_box rfl ta_32 iL rfl rfl) ?_
 refine ob1k h1 fun r2 er2 h2 => ?_
 refine AQ.stepWC (.one rfl rfl rfl) rfl rfl (r := .r (.int .i64 r2)) (caps := []) (bs := [.agg [.r (.int .i64 g1.Rows), .r (.int .i64 g1.Cols), .r (.sl (g1.Cells.map GCell.row)), .r (.sl (g1.Merges.map GRect.row))]]) rfl iL rfl ⟨⟨_, (iR rfl), .g (cs := [.int .i64 g1.Rows, .int .i64 g1.Cols, .sl (g1.Cells.map GCell.row), .sl (g1.Merges.map GRect.row)]) rfl rfl⟩, trivial⟩ (fun hg => w_grid_Check (gdt er2 hg)) rfl ?_
 refine AQ.stepW (.one rfl rfl rfl) rfl rfl (ms_loadA_box rfl ta_32 iL rfl rfl) ?_
 refine ob1k h2 fun r3 er3 h3 => ?_
 refine AQ.stepWC (.one rfl rfl rfl) rfl rfl (r := .r (.int .i64 r3)) (caps := []) (bs := [.agg [.r (.int .i64 g1.Rows), .r (.int .i64 g1.Cols), .r (.sl (g1.Cells.map GCell.row)), .r (.sl (g1.Merges.map GRect.row))]]) rfl iL rfl ⟨⟨_, (iR rfl), .g (cs := [.int .i64 g1.Rows, .int .i64 g1.Cols, .sl (g1.Cells.map GCell.row), .sl (g1.Merges.map GRect.row)]) rfl rfl⟩, trivial⟩ (fun hg => w_ref_GridError (gdt er3 hg)) rfl ?_
 refine AQ.stepW (.one rfl rfl rfl) rfl rfl (sp_neq rfl (iR rfl) (iR rfl)) ?_
 refine AQ.step rfl rfl rfl (sp_or rfl iL (iR rfl)) ?_
 refine AQ.step rfl rfl rfl (sp_move rfl iL) ?_
 refine AQ.stepW (.one rfl rfl rfl) rfl rfl (ms_loadA_box rfl ta_49 iL rfl rfl) ?_
 refine ob1k h3 fun r4 er4 h4 => ?_
 refine AQ.stepWC (.one rfl rfl rfl) rfl rfl (r := .r (.int .i64 r4)) (caps := []) (bs := [.agg [.r (.sl (e1.Rows.map GAxisStep.row)), .r (.sl (e1.Cols.map GAxisStep.row)), .r (.sl (e1.Cells.map GCell.row)), .r (.sl (e1.Split.map GRect.row)), .r (.sl (e1.Merge.map GRect.row))]]) rfl iL rfl ⟨⟨_, (iR rfl), .g (cs := [.sl (e1.Rows.map GAxisStep.row), .sl (e1.Cols.map GAxisStep.row), .sl (e1.Cells.map GCell.row), .sl (e1.Split.map GRect.row), .sl (e1.Merge.map GRect.row)]) rfl rfl⟩, trivial⟩ (fun hg => w_grid_CheckEdit (gdt er4 hg)) rfl ?_
 refine AQ.stepW (.one rfl rfl rfl) rfl rfl (ms_loadA_box rfl ta_49 iL rfl rfl) ?_
 refine ob1k h4 fun r5 er5 h5 => ?_
 refine AQ.stepWC (.one rfl rfl rfl) rfl rfl (r := .r (.int .i64 r5)) (caps := []) (bs := [.agg [.r (.sl (e1.Rows.map GAxisStep.row)), .r (.sl (e1.Cols.map GAxisStep.row)), .r (.sl (e1.Cells.map GCell.row)), .r (.sl (e1.Split.map GRect.row)), .r (.sl (e1.Merge.map GRect.row))]]) rfl iL rfl ⟨⟨_, (iR rfl), .g (cs := [.sl (e1.Rows.map GAxisStep.row), .sl (e1.Cols.map GAxisStep.row), .sl (e1.Cells.map GCell.row), .sl (e1.Split.map GRect.row), .sl (e1.Merge.map GRect.row)]) rfl rfl⟩, trivial⟩ (fun hg => w_ref_EditError (gdt er5 hg)) rfl ?_
 refine AQ.stepW (.one rfl rfl rfl) rfl rfl (sp_neq rfl (iR rfl) (iR rfl)) ?_
 refine AQ.step rfl rfl rfl (sp_or rfl iL (iR rfl)) ?_
 refine AQ.nil ?_
 refine hK3 _ ?_
 refine AW.cond rfl (fun hc1 => ?_) (fun hc1 => ?_)
 ·have h6 := ite_t hc1 h5
  refine AW.seq_w fun K4 hK4 wK4 => ?_
  refine AW.weak (s' := ⟨[], [], (n0 + 2), 80⟩) (by exact Weak.cv trivial trivial nL) ?_
  refine AW.region ?_
  refine sQ rfl (sp_assign rfl iL) ?_
  refine AOps.nil (hK4 _ ?_)
  refine AW.ret ?_
  exact retf1 (P := Tryd.prog) (fun (r : Bool) => .r (.bool r)) h6 iL (.t (.d rfl))
 ·have h6 := ite_f hc1 h5
  refine AW.skip ?_
  refine hK2 _ ?_
  refine AW.seq_w fun K5 hK5 wK5 => ?_
  refine AW.seq_w fun K6 hK6 wK6 => ?_
  refine AW.weak (s' := ⟨[(2, .r (.int .i64 row1)), (3, .r (.int .i64 col1)), (4, .ptr 4 n0 0 0)], [(4, some (.box n0 32 [.r (.int .i64 g1.Rows), .r (.int .i64 g1.Cols), .r (.sl (g1.Cells.map GCell.row)), .r (.sl (g1.Merges.map GRect.row))]))], (n0 + 2), 80⟩) (by exact Weak.cv ⟨jL, jL, jL, trivial⟩ ⟨.inl rfl, trivial⟩ nL) ?_
  refine AW.region ?_
  refine sQ rfl (ms_loadA_box rfl ta_32 iL rfl rfl) ?_
  refine ob1k h6 fun r6 er6 h7 => ?_
  refine AOps.step rfl rfl rfl (sp_call (r := .r (.int .i64 r6)) (caps := []) (bs := [.agg [.r (.int .i64 g1.Rows), .r (.int .i64 g1.Cols), .r (.sl (g1.Cells.map GCell.row)), .r (.sl (g1.Merges.map GRect.row))]]) rfl iL rfl ⟨⟨_, iL, .g (cs := [.int .i64 g1.Rows, .int .i64 g1.Cols, .sl (g1.Cells.map GCell.row), .sl (g1.Merges.map GRect.row)]) rfl rfl⟩, trivial⟩ (fun _ => w_ref_GridError (er6)) rfl) ?_
  refine sQ rfl (sp_neq rfl iL iL) ?_
  refine AOps.nil (hK6 _ ?_)
  refine AW.cond rfl (fun hc2 => ?_) (fun hc2 => ?_)
  ·have h8 := ite_t hc2 h7
   refine AW.seq_w fun K7 hK7 wK7 => ?_
   refine AW.region ?_
   refine sQ rfl (sp_assign rfl iL) ?_
   refine AOps.nil (hK7 _ ?_)
   refine AW.ret ?_
   exact retf1 (P := Tryd.prog) (fun (r : Bool) => .r (.bool r)) h8 iL (.t (.d rfl))
  ·have h8 := ite_f hc2 h7
   refine AW.skip ?_
   refine hK5 _ ?_
   refine AW.seq_w fun K8 hK8 wK8 => ?_
   refine AW.region ?_
   refine sM rfl rfl ?_
   refine sM rfl rfl ?_
   refine sQ rfl (sp_build rfl tb_60 (q := [(0, _), (1, _)]) (by exact ⟨rfl, rfl, rfl, iL, rfl, rfl, rfl, iL, trivial⟩) (cs := [.r (.int .i64 row1), .r (.int .i64 col1), .r (.str []), .r (.int .i64 0), .cst (.slice none 0 0)]) (by rfl)) ?_
   refine AOps.step rfl rfl rfl (ms_alloc (cs := [.r (.int .i64 0), .r (.int .i64 0), .r (.str []), .r (.int .i64 0), .cst (.slice none 0 0)]) 9 rfl t0_60 rfl rfl) ?_
   refine AOps.step0 rfl rfl (ms_store_box (ds := [.r (.int .i64 row1), .r (.int .i64 col1), .r (.str []), .r (.int .i64 0), .cst (.slice none 0 0)]) rfl tz_60 iL rfl iL rfl rfl rfl rfl) ?_
   refine AOps.nil (hK8 _ ?_)
   refine AW.seq_w fun K9 hK9 wK9 => ?_
   refine AW.seq_w fun K10 hK10 wK10 => ?_
   refine AW.region ?_
   refine sQ rfl (sp_fieldAddr_own (ob := .box _ _ _) rfl tf_32_2 iL fR rfl) ?_
   refine sQ rfl (ms_load_box (a := .r (.sl (g1.Cells.map GCell.row))) rfl ts_29 iL rfl rfl) ?_
   refine sQ rfl (ms_len rfl tg_29.slice iL) ?_
   refine sM rfl rfl ?_
   refine AOps.nil (hK10 _ ?_)
   refine AW.block ?_
   refine jb1k h8 fun o1 hit1 hk1 => ?_
   have J1 : ∀ (want4 : GCell) (i5 : Nat → Nat), o1 = want4 → K9 ⟨[(2, .r (.int .i64 row1)), (3, .r (.int .i64 col1)), (4, .ptr 4 n0 0 0), (9, .ptr 9 (n0 + 2) 0 0)], [(4, some (.box n0 32 [.r (.int .i64 g1.Rows), .r (.int .i64 g1.Cols), .r (.sl (g1.Cells.map GCell.row)), .r (.sl (g1.Merges.map GRect.row))])), (9, some (.box (n0 + 2) 60 [.r (.int .i64 want4.Row), .r (.int .i64 want4.Col), .r (.str want4.Text), .r (.int .i64 want4.Ref), .r (.sl (want4.Attrs.map GAttr.row))]))], (i5 0), 80⟩ := by
    intro want4 i5 e
    have h9 := hk1 _ e
    refine hK9 _ ?_
    refine AW.seq_w fun K11 hK11 wK11 => ?_
    refine ob1k h9 fun r7 er7 h10 => ?_
    refine ob1k h10 fun r8 er8 h11 => ?_
    refine ob1k h11 fun r9 er9 h12 => ?_
    refine AW.regionP 14 [⟨some 63, (fun _ => .agg [.r (.int .i64 g1.Rows), .r (.int .i64 g1.Cols), .r (.sl (g1.Cells.map GCell.row)), .r (.sl (g1.Merges.map GRect.row))]), none, []⟩, ⟨some 64, (fun _ => .r (.int .i64 row1)), none, []⟩, ⟨some 65, (fun _ => .r (.int .i64 col1)), none, []⟩, ⟨some 66, (fun _ => .agg [.r (.int .i64 r7.Row), .r (.int .i64 r7.Col), .r (.str r7.Text), .r (.int .i64 r7.Ref), .r (.sl (r7.Attrs.map GAttr.row))]), none, []⟩, ⟨some 67, (fun _ => .agg [.r (.int .i64 want4.Row), .r (.int .i64 want4.Col), .r (.str want4.Text), .r (.int .i64 want4.Ref), .r (.sl (want4.Attrs.map GAttr.row))]), none, []⟩, ⟨some 68, (fun _ => .r (.bool r8)), none, []⟩, ⟨some 69, (fun _ => .r (.bool r8)), none, []⟩, ⟨some 70, (fun _ => .whn (r8 == true) (.agg [.r (.int .i64 g1.Rows), .r (.int .i64 g1.Cols), .r (.sl (g1.Cells.map GCell.row)), .r (.sl (g1.Merges.map GRect.row))])), none, []⟩, ⟨some 71, (fun _ => .whn (r8 == true) (.r (.int .i64 row1))), none, []⟩, ⟨some 72, (fun _ => .whn (r8 == true) (.r (.int .i64 col1))), none, []⟩, ⟨some 73, (fun _ => .whn (r8 == true) (.agg [.r (.int .i64 r9.Row), .r (.int .i64 r9.Col), .r (.int .i64 r9.H), .r (.int .i64 r9.W)])), none, []⟩, ⟨some 74, (fun _ => .whn (r8 == true) (.agg [.r (.int .i64 g1.Rows), .r (.int .i64 g1.Cols), .r (.sl (g1.Cells.map GCell.row)), .r (.sl (g1.Merges.map GRect.row))])), none, []⟩, ⟨some 75, (fun _ => .whn (r8 == true) (.r (.int .i64 row1))), none, []⟩, ⟨some 76, (fun _ => .whn (r8 == true) (.r (.int .i64 col1))), none, []⟩] hmix (by kernel_rfl) (by exact ⟨fun _ _ h => ⟨rfl, fun _ _ e => by cases e⟩, fun _ _ h => ⟨rfl, fun _ _ e => by cases e⟩, fun _ _ h => ⟨rfl, fun _ _ e => by cases e⟩, fun _ _ h => ⟨rfl, fun _ _ e => by cases e⟩, fun _ _ h => ⟨rfl, fun _ _ e => by cases e⟩, fun _ _ h => ⟨rfl, fun _ _ e => by cases e⟩, fun _ _ h => ⟨rfl, fun _ _ e => by cases e⟩, fun _ _ h => ⟨rfl, fun _ _ e => by cases e⟩, fun _ _ h => ⟨rfl, fun _ _ e => by cases e⟩, fun _ _ h => ⟨rfl, fun _ _ e => by cases e⟩, fun _ _ h => ⟨rfl, fun _ _ e => by cases e⟩, fun _ _ h => ⟨rfl, fun _ _ e => by cases e⟩, fun _ _ h => ⟨rfl, fun _ _ e => by cases e⟩, fun _ _ h => ⟨rfl, fun _ _ e => by cases e⟩, trivial⟩) rfl (by exact ⟨Ob.quiet (n1 := fun n => n) rfl rfl (by intro d h; cases h; rfl) rfl (fun _ => [(4, .ptr 4 n0 0 0)]) (fun _ => [(4, some (.box n0 32 [.r (.int .i64 g1.Rows), .r (.int .i64 g1.Cols), .r (.sl (g1.Cells.map GCell.row)), .r (.sl (g1.Merges.map GRect.row))]))]) (fun D G1 hr => ⟨inE_base rfl rfl, trivial⟩) (fun D G1 hr => ⟨inH_base rfl rfl, trivial⟩) (fun _ _ => rfl) (fun G1 e h' n => OpQ.spec (v := .agg [.r (.int .i64 g1.Rows), .r (.int .i64 g1.Cols), .r (.sl (g1.Cells.map GCell.row)), .r (.sl (g1.Merges.map GRect.row))]) (ms_loadA_box rfl ta_32 (.inl rfl) rfl rfl) _),
      Ob.quiet (n1 := fun n => n) rfl rfl (by intro d h; cases h; rfl) rfl (fun _ => [(2, .r (.int .i64 row1))]) (fun _ => []) (fun D G1 hr => ⟨inE_base rfl rfl, trivial⟩) (fun D G1 hr => trivial) (fun _ _ => rfl) (fun G1 e h' n => OpQ.spec (v := .r (.int .i64 row1)) (sp_move rfl (.inl rfl)) _),
      Ob.quiet (n1 := fun n => n) rfl rfl (by intro d h; cases h; rfl) rfl (fun _ => [(3, .r (.int .i64 col1))]) (fun _ => []) (fun D G1 hr => ⟨inE_base rfl rfl, trivial⟩) (fun D G1 hr => trivial) (fun _ _ => rfl) (fun G1 e h' n => OpQ.spec (v := .r (.int .i64 col1)) (sp_move rfl (.inl rfl)) _),
      Ob.quiet (n1 := fun n => n) rfl rfl (by intro d h; cases h; rfl) rfl (fun _ => [(63, .agg [.r (.int .i64 g1.Rows), .r (.int .i64 g1.Cols), .r (.sl (g1.Cells.map GCell.row)), .r (.sl (g1.Merges.map GRect.row))]), (64, .r (.int .i64 row1)), (65, .r (.int .i64 col1))]) (fun _ => []) (fun D G1 hr => ⟨inE_op hr 0 rfl rfl (by kernel_rfl) rfl rfl, inE_op hr 1 rfl rfl (by kernel_rfl) rfl rfl, inE_op hr 2 rfl rfl (by kernel_rfl) rfl rfl, trivial⟩) (fun D G1 hr => trivial) (fun _ _ => rfl) (fun G1 e h' n => sp_callS (r := .agg [.r (.int .i64 r7.Row), .r (.int .i64 r7.Col), .r (.str r7.Text), .r (.int .i64 r7.Ref), .r (.sl (r7.Attrs.map GAttr.row))]) (caps := []) (bs := [.agg [.r (.int .i64 g1.Rows), .r (.int .i64 g1.Cols), .r (.sl (g1.Cells.map GCell.row)), .r (.sl (g1.Merges.map GRect.row))], .r (.int .i64 row1), .r (.int .i64 col1)]) rfl (.inl rfl) rfl ⟨.inl ⟨(.inl rfl), rfl⟩, .inl ⟨(.inl rfl), rfl⟩, .inl ⟨(.inl rfl), rfl⟩, trivial⟩ (fun _ => w_grid_At (er7))),
      Ob.quiet (n1 := fun n => n) rfl rfl (by intro d h; cases h; rfl) rfl (fun _ => [(9, .ptr 9 (n0 + 2) 0 0)]) (fun _ => [(9, some (.box (n0 + 2) 60 [.r (.int .i64 want4.Row), .r (.int .i64 want4.Col), .r (.str want4.Text), .r (.int .i64 want4.Ref), .r (.sl (want4.Attrs.map GAttr.row))]))]) (fun D G1 hr => ⟨inE_base rfl rfl, trivial⟩) (fun D G1 hr => ⟨inH_base rfl rfl, trivial⟩) (fun _ _ => rfl) (fun G1 e h' n => OpQ.spec (v := .agg [.r (.int .i64 want4.Row), .r (.int .i64 want4.Col), .r (.str want4.Text), .r (.int .i64 want4.Ref), .r (.sl (want4.Attrs.map GAttr.row))]) (ms_loadA_box rfl ta_60 (.inl rfl) rfl rfl) _),
      Ob.quiet (n1 := fun n => n) rfl rfl (by intro d h; cases h; rfl) rfl (fun _ => [(66, .agg [.r (.int .i64 r7.Row), .r (.int .i64 r7.Col), .r (.str r7.Text), .r (.int .i64 r7.Ref), .r (.sl (r7.Attrs.map GAttr.row))]), (67, .agg [.r (.int .i64 want4.Row), .r (.int .i64 want4.Col), .r (.str want4.Text), .r (.int .i64 want4.Ref), .r (.sl (want4.Attrs.map GAttr.row))])]) (fun _ => []) (fun D G1 hr => ⟨inE_op hr 3 rfl rfl (by kernel_rfl) rfl rfl, inE_op hr 4 rfl rfl (by kernel_rfl) rfl rfl, trivial⟩) (fun D G1 hr => trivial) (fun _ _ => rfl) (fun G1 e h' n => sp_call (r := .r (.bool r8)) (caps := []) (bs := [.agg [.r (.int .i64 r7.Row), .r (.int .i64 r7.Col), .r (.str r7.Text), .r (.int .i64 r7.Ref), .r (.sl (r7.Attrs.map GAttr.row))], .agg [.r (.int .i64 want4.Row), .r (.int .i64 want4.Col), .r (.str want4.Text), .r (.int .i64 want4.Ref), .r (.sl (want4.Attrs.map GAttr.row))]]) rfl (.inl rfl) rfl ⟨⟨_, (.inl rfl), .g (cs := [.int .i64 r7.Row, .int .i64 r7.Col, .str r7.Text, .int .i64 r7.Ref, .sl (r7.Attrs.map GAttr.row)]) rfl rfl⟩, ⟨_, (.inl rfl), .g (cs := [.int .i64 want4.Row, .int .i64 want4.Col, .str want4.Text, .int .i64 want4.Ref, .sl (want4.Attrs.map GAttr.row)]) rfl rfl⟩, trivial⟩ (fun _ => w_ref_SameCell (er8)) rfl),
      Ob.quiet (n1 := fun n => n) rfl rfl (by intro d h; cases h; rfl) rfl (fun _ => [(68, .r (.bool r8))]) (fun _ => []) (fun D G1 hr => ⟨inE_op hr 5 rfl rfl (by kernel_rfl) rfl rfl, trivial⟩) (fun D G1 hr => trivial) (fun _ _ => rfl) (fun G1 e h' n => OpQ.spec (v := .r (.bool r8)) (sp_move rfl (.inl rfl)) _),
      Ob.quietG (n1 := fun n => n) (c := (r8 == true)) (v0 := fun _ => .agg [.r (.int .i64 g1.Rows), .r (.int .i64 g1.Cols), .r (.sl (g1.Cells.map GCell.row)), .r (.sl (g1.Merges.map GRect.row))]) rfl (by intro d h; cases h; rfl) rfl (fun _ => [(4, .ptr 4 n0 0 0), (69, .r (.bool r8))]) (fun _ => [(4, some (.box n0 32 [.r (.int .i64 g1.Rows), .r (.int .i64 g1.Cols), .r (.sl (g1.Cells.map GCell.row)), .r (.sl (g1.Merges.map GRect.row))]))]) (fun D G1 hr => ⟨inE_base rfl rfl, inE_op hr 6 rfl rfl (by kernel_rfl) rfl rfl, trivial⟩) (fun D G1 hr => ⟨inH_base rfl rfl, trivial⟩) (fun _ _ => rfl) (fun _ _ => (.one rfl rfl rfl)) (fun G1 e h' n => OpQ.spec (v := .agg [.r (.int .i64 g1.Rows), .r (.int .i64 g1.Cols), .r (.sl (g1.Cells.map GCell.row)), .r (.sl (g1.Merges.map GRect.row))]) (ms_loadA_box rfl ta_32 (.inl rfl) rfl rfl) _),
      Ob.quietG (n1 := fun n => n) (c := (r8 == true)) (v0 := fun _ => .r (.int .i64 row1)) rfl (by intro d h; cases h; rfl) rfl (fun _ => [(2, .r (.int .i64 row1)), (69, .r (.bool r8))]) (fun _ => []) (fun D G1 hr => ⟨inE_base rfl rfl, inE_op hr 6 rfl rfl (by kernel_rfl) rfl rfl, trivial⟩) (fun D G1 hr => trivial) (fun _ _ => rfl) (fun _ _ => (.one rfl rfl rfl)) (fun G1 e h' n => OpQ.spec (v := .r (.int .i64 row1)) (sp_move rfl (.inl rfl)) _),
      Ob.quietG (n1 := fun n => n) (c := (r8 == true)) (v0 := fun _ => .r (.int .i64 col1)) rfl (by intro d h; cases h; rfl) rfl (fun _ => [(3, .r (.int .i64 col1)), (69, .r (.bool r8))]) (fun _ => []) (fun D G1 hr => ⟨inE_base rfl rfl, inE_op hr 6 rfl rfl (by kernel_rfl) rfl rfl, trivial⟩) (fun D G1 hr => trivial) (fun _ _ => rfl) (fun _ _ => (.one rfl rfl rfl)) (fun G1 e h' n => OpQ.spec (v := .r (.int .i64 col1)) (sp_move rfl (.inl rfl)) _),
      Ob.quietG (n1 := fun n => n) (c := (r8 == true)) (v0 := fun _ => .agg [.r (.int .i64 r9.Row), .r (.int .i64 r9.Col), .r (.int .i64 r9.H), .r (.int .i64 r9.W)]) rfl (by intro d h; cases h; rfl) rfl (fun _ => [(69, .r (.bool r8)), (70, .whn (r8 == true) (.agg [.r (.int .i64 g1.Rows), .r (.int .i64 g1.Cols), .r (.sl (g1.Cells.map GCell.row)), .r (.sl (g1.Merges.map GRect.row))])), (71, .whn (r8 == true) (.r (.int .i64 row1))), (72, .whn (r8 == true) (.r (.int .i64 col1)))]) (fun _ => []) (fun D G1 hr => ⟨inE_op hr 6 rfl rfl (by kernel_rfl) rfl rfl, inE_op hr 7 rfl rfl (by kernel_rfl) rfl rfl, inE_op hr 8 rfl rfl (by kernel_rfl) rfl rfl, inE_op hr 9 rfl rfl (by kernel_rfl) rfl rfl, trivial⟩) (fun D G1 hr => trivial) (fun _ _ => rfl) (fun _ _ => (.one rfl rfl rfl)) (fun G1 e h' n => sp_callS (r := .agg [.r (.int .i64 r9.Row), .r (.int .i64 r9.Col), .r (.int .i64 r9.H), .r (.int .i64 r9.W)]) (caps := []) (bs := [.agg [.r (.int .i64 g1.Rows), .r (.int .i64 g1.Cols), .r (.sl (g1.Cells.map GCell.row)), .r (.sl (g1.Merges.map GRect.row))], .r (.int .i64 row1), .r (.int .i64 col1)]) rfl (.inl rfl) rfl ⟨.inl ⟨(.inr ⟨_, (by exact id), rfl⟩), rfl⟩, .inl ⟨(.inr ⟨_, (by exact id), rfl⟩), rfl⟩, .inl ⟨(.inr ⟨_, (by exact id), rfl⟩), rfl⟩, trivial⟩ (fun hg => w_grid_Cover (gdt er9 hg))),
      Ob.quietG (n1 := fun n => n) (c := (r8 == true)) (v0 := fun _ => .agg [.r (.int .i64 g1.Rows), .r (.int .i64 g1.Cols), .r (.sl (g1.Cells.map GCell.row)), .r (.sl (g1.Merges.map GRect.row))]) rfl (by intro d h; cases h; rfl) rfl (fun _ => [(4, .ptr 4 n0 0 0), (69, .r (.bool r8))]) (fun _ => [(4, some (.box n0 32 [.r (.int .i64 g1.Rows), .r (.int .i64 g1.Cols), .r (.sl (g1.Cells.map GCell.row)), .r (.sl (g1.Merges.map GRect.row))]))]) (fun D G1 hr => ⟨inE_base rfl rfl, inE_op hr 6 rfl rfl (by kernel_rfl) rfl rfl, trivial⟩) (fun D G1 hr => ⟨inH_base rfl rfl, trivial⟩) (fun _ _ => rfl) (fun _ _ => (.one rfl rfl rfl)) (fun G1 e h' n => OpQ.spec (v := .agg [.r (.int .i64 g1.Rows), .r (.int .i64 g1.Cols), .r (.sl (g1.Cells.map GCell.row)), .r (.sl (g1.Merges.map GRect.row))]) (ms_loadA_box rfl ta_32 (.inl rfl) rfl rfl) _),
      Ob.quietG (n1 := fun n => n) (c := (r8 == true)) (v0 := fun _ => .r (.int .i64 row1)) rfl (by intro d h; cases h; rfl) rfl (fun _ => [(2, .r (.int .i64 row1)), (69, .r (.bool r8))]) (fun _ => []) (fun D G1 hr => ⟨inE_base rfl rfl, inE_op hr 6 rfl rfl (by kernel_rfl) rfl rfl, trivial⟩) (fun D G1 hr => trivial) (fun _ _ => rfl) (fun _ _ => (.one rfl rfl rfl)) (fun G1 e h' n => OpQ.spec (v := .r (.int .i64 row1)) (sp_move rfl (.inl rfl)) _),
      Ob.quietG (n1 := fun n => n) (c := (r8 == true)) (v0 := fun _ => .r (.int .i64 col1)) rfl (by intro d h; cases h; rfl) rfl (fun _ => [(3, .r (.int .i64 col1)), (69, .r (.bool r8))]) (fun _ => []) (fun D G1 hr => ⟨inE_base rfl rfl, inE_op hr 6 rfl rfl (by kernel_rfl) rfl rfl, trivial⟩) (fun D G1 hr => trivial) (fun _ _ => rfl) (fun _ _ => (.one rfl rfl rfl)) (fun G1 e h' n => OpQ.spec (v := .r (.int .i64 col1)) (sp_move rfl (.inl rfl)) _),
      trivial⟩) fun G1 n1 => ?_
    refine AOps.weak (s' := ⟨[(2, .r (.int .i64 row1)), (3, .r (.int .i64 col1)), (4, .ptr 4 n0 0 0), (9, .ptr 9 (n0 + 2) 0 0), (63, .agg [.r (.int .i64 g1.Rows), .r (.int .i64 g1.Cols), .r (.sl (g1.Cells.map GCell.row)), .r (.sl (g1.Merges.map GRect.row))]), (64, .r (.int .i64 row1)), (65, .r (.int .i64 col1)), (66, .agg [.r (.int .i64 r7.Row), .r (.int .i64 r7.Col), .r (.str r7.Text), .r (.int .i64 r7.Ref), .r (.sl (r7.Attrs.map GAttr.row))]), (67, .agg [.r (.int .i64 want4.Row), .r (.int .i64 want4.Col), .r (.str want4.Text), .r (.int .i64 want4.Ref), .r (.sl (want4.Attrs.map GAttr.row))]), (68, .r (.bool r8)), (69, .r (.bool r8)), (70, .whn (r8 == true) (.agg [.r (.int .i64 g1.Rows), .r (.int .i64 g1.Cols), .r (.sl (g1.Cells.map GCell.row)), .r (.sl (g1.Merges.map GRect.row))])), (71, .whn (r8 == true) (.r (.int .i64 row1))), (72, .whn (r8 == true) (.r (.int .i64 col1))), (73, .whn (r8 == true) (.agg [.r (.int .i64 r9.Row), .r (.int .i64 r9.Col), .r (.int .i64 r9.H), .r (.int .i64 r9.W)])), (74, .whn (r8 == true) (.agg [.r (.int .i64 g1.Rows), .r (.int .i64 g1.Cols), .r (.sl (g1.Cells.map GCell.row)), .r (.sl (g1.Merges.map GRect.row))])), (75, .whn (r8 == true) (.r (.int .i64 row1))), (76, .whn (r8 == true) (.r (.int .i64 col1)))], [(4, some (.box n0 32 [.r (.int .i64 g1.Rows), .r (.int .i64 g1.Cols), .r (.sl (g1.Cells.map GCell.row)), .r (.sl (g1.Merges.map GRect.row))])), (9, some (.box (n0 + 2) 60 [.r (.int .i64 want4.Row), .r (.int .i64 want4.Col), .r (.str want4.Text), .r (.int .i64 want4.Ref), .r (.sl (want4.Attrs.map GAttr.row))]))], n1, 80⟩) (by exact Weak.cv ⟨jL, jL, jL, jL, jL, jL, jL, jL, jL, jL, jL, jL, jL, jL, jL, jL, jL, jL, trivial⟩ ⟨.inl rfl, .inl rfl, trivial⟩ nL) ?_
    refine jb1k h12 fun p1 hp1 hk2 => ?_
    have J2 : ∀ (x4 : Bool) (i6 : Nat → Nat), p1 = x4 → K11 ⟨[(8, .r (.bool x4))], [], (i6 0), 80⟩ := by
     intro x4 i6 e
     have h13 := hk2 _ e
     refine hK11 _ ?_
     refine AW.ret ?_
     exact retf1 (P := Tryd.prog) (fun (r : Bool) => .r (.bool r)) h13 iL (.t (.d rfl))
    refine AOps.split (r8 == true) (fun hg1 => ?_) (fun hg1 => ?_)
    ·have h14 := ite_t hg1 hp1
     refine AOps.weak (by exact Weak.unw2 (e' := [(2, .r (.int .i64 row1)), (3, .r (.int .i64 col1)), (4, .ptr 4 n0 0 0), (9, .ptr 9 (n0 + 2) 0 0), (63, .agg [.r (.int .i64 g1.Rows), .r (.int .i64 g1.Cols), .r (.sl (g1.Cells.map GCell.row)), .r (.sl (g1.Merges.map GRect.row))]), (64, .r (.int .i64 row1)), (65, .r (.int .i64 col1)), (66, .agg [.r (.int .i64 r7.Row), .r (.int .i64 r7.Col), .r (.str r7.Text), .r (.int .i64 r7.Ref), .r (.sl (r7.Attrs.map GAttr.row))]), (67, .agg [.r (.int .i64 want4.Row), .r (.int .i64 want4.Col), .r (.str want4.Text), .r (.int .i64 want4.Ref), .r (.sl (want4.Attrs.map GAttr.row))]), (68, .r (.bool r8)), (69, .r (.bool r8)), (70, .agg [.r (.int .i64 g1.Rows), .r (.int .i64 g1.Cols), .r (.sl (g1.Cells.map GCell.row)), .r (.sl (g1.Merges.map GRect.row))]), (71, .r (.int .i64 row1)), (72, .r (.int .i64 col1)), (73, .agg [.r (.int .i64 r9.Row), .r (.int .i64 r9.Col), .r (.int .i64 r9.H), .r (.int .i64 r9.W)]), (74, .agg [.r (.int .i64 g1.Rows), .r (.int .i64 g1.Cols), .r (.sl (g1.Cells.map GCell.row)), .r (.sl (g1.Merges.map GRect.row))]), (75, .r (.int .i64 row1)), (76, .r (.int .i64 col1))]) hg1 ⟨.inl rfl, .inl rfl, .inl rfl, .inl rfl, .inl rfl, .inl rfl, .inl rfl, .inl rfl, .inl rfl, .inl rfl, .inl rfl, .inr iL, .inr iL, .inr iL, .inr iL, .inr iL, .inr iL, .inr iL, trivial⟩) ?_
     refine ob1k h14 fun r10 er10 h15 => ?_
     refine AOps.stepGT (.one rfl rfl rfl) hg1 rfl rfl (sp_callS (r := .agg [.r (.int .i64 r10.Row), .r (.int .i64 r10.Col), .r (.int .i64 r10.H), .r (.int .i64 r10.W)]) (caps := []) (bs := [.agg [.r (.int .i64 g1.Rows), .r (.int .i64 g1.Cols), .r (.sl (g1.Cells.map GCell.row)), .r (.sl (g1.Merges.map GRect.row))], .r (.int .i64 row1), .r (.int .i64 col1)]) rfl iL rfl ⟨.inl ⟨iL, rfl⟩, .inl ⟨iL, rfl⟩, .inl ⟨iL, rfl⟩, trivial⟩ (fun _ => w_ref_Cover (er10))) ?_
     refine AOps.stepGT (.one rfl rfl rfl) hg1 rfl rfl (OpQ.spec (sp_aggeql rfl te_64 (.inl rfl) (.inl rfl) rfl) _) ?_
     refine sQ rfl (sp_and rfl iL iL) ?_
     refine sQ rfl (sp_assign rfl iL) ?_
     refine AOps.nil ?_
     exact wK11 _ _ ((by exact Weak.cv ⟨jL, trivial⟩ trivial nL)) (J2 _ (vec [n1]) (Option.some.inj h15).symm)
    ·have h14 := ite_f hg1 hp1
     refine AOps.stepGF2 (.one rfl rfl rfl) hg1 rfl rfl ?_
     refine AOps.stepGF2 (.one rfl rfl rfl) hg1 rfl rfl ?_
     refine sQ rfl (sp_and rfl iL (iR rfl)) ?_
     refine sQ rfl (sp_assign rfl iL) ?_
     refine AOps.nil ?_
     exact wK11 _ _ ((by exact Weak.cv ⟨jL, trivial⟩ trivial nL)) (J2 _ (vec [n1]) (Option.some.inj h14).symm)
   refine AW.iter2 (fun (x2 : Int) (want2 : GCell) i3 => ⟨[(2, .r (.int .i64 row1)), (3, .r (.int .i64 col1)), (4, .ptr 4 n0 0 0), (9, .ptr 9 (n0 + 2) 0 0), (35, .r (.int .i64 (g1.Cells.length : Int))), (36, .r (.int .i64 x2))], [(4, some (.box n0 32 [.r (.int .i64 g1.Rows), .r (.int .i64 g1.Cols), .r (.sl (g1.Cells.map GCell.row)), .r (.sl (g1.Merges.map GRect.row))])), (9, some (.box (n0 + 2) 60 [.r (.int .i64 want2.Row), .r (.int .i64 want2.Col), .r (.str want2.Text), .r (.int .i64 want2.Ref), .r (.sl (want2.Attrs.map GAttr.row))]))], (i3 0), 80⟩) (vec [(n0 + 3)]) hit1 ((by exact Weak.cv ⟨jL, jL, jL, jL, jL, jL, trivial⟩ ⟨.inl rfl, .inr (.inr ⟨_, _, _, _, rfl, rfl, ⟨.inl rfl, .inl rfl, .inl rfl, .inl rfl, .inr (.inr ⟨rfl, rfl⟩), trivial⟩⟩), trivial⟩ nL)) ?_
   intro x2 want2 i3 v1 hv1 hx1
   have h16 : law_GridCheckSays_L1 g1 row1 col1 x2 want2 = some v1 := hv1; unfold law_GridCheckSays_L1 at h16
   refine AW.seq_w fun K12 hK12 wK12 => ?_
   refine AW.region ?_
   refine sQ rfl (sp_lss rfl iL iL) ?_
   refine AOps.nil (hK12 _ ?_)
   refine AW.seq_w fun K13 hK13 wK13 => ?_
   refine AW.cond rfl (fun hc3 => ?_) (fun hc3 => ?_)
   ·have h17 := ite_t hc3 h16
    refine AW.skip ?_
    refine hK13 _ ?_
    refine AW.seq_w fun K14 hK14 wK14 => ?_
    refine AW.block ?_
    refine jb1k h17 fun p2 hp2 hk3 => ?_
    have J3 : ∀ (want5 : GCell) (i7 : Nat → Nat), p2 = want5 → K14 ⟨[(2, .r (.int .i64 row1)), (3, .r (.int .i64 col1)), (4, .ptr 4 n0 0 0), (9, .ptr 9 (n0 + 2) 0 0), (35, .r (.int .i64 (g1.Cells.length : Int))), (36, .r (.int .i64 x2))], [(4, some (.box n0 32 [.r (.int .i64 g1.Rows), .r (.int .i64 g1.Cols), .r (.sl (g1.Cells.map GCell.row)), .r (.sl (g1.Merges.map GRect.row))])), (9, some (.box (n0 + 2) 60 [.r (.int .i64 want5.Row), .r (.int .i64 want5.Col), .r (.str want5.Text), .r (.int .i64 want5.Ref), .r (.sl (want5.Attrs.map GAttr.row))]))], (i7 0), 80⟩ := by
     intro want5 i7 e
     have h18 := hk3 _ e
     refine hK14 _ ?_
     refine AW.region ?_
     refine ob1k h18 fun x5 ex5 h19 => ?_
     refine sQ rfl (ms_add rfl iL iL (fun _ => ex5)) ?_
     refine sM rfl rfl ?_
     refine AOps.nil ?_
     exact NextQ2.mk h19 (vec [(i7 0)]) ((by exact Weak.cv ⟨jL, jL, jL, jL, jL, jL, trivial⟩ ⟨.inl rfl, .inl rfl, trivial⟩ nL))
    refine AW.seq_w fun K15 hK15 wK15 => ?_
    refine AW.region ?_
    refine sM rfl rfl ?_
    refine sQ rfl (sp_assign rfl iL) ?_
    refine AOps.nil (hK15 _ ?_)
    refine AW.seq_w fun K16 hK16 wK16 => ?_
    refine AW.region ?_
    refine sQ rfl (sp_fieldAddr_own (ob := .box _ _ _) rfl tf_32_2 iL fR rfl) ?_
    refine sQ rfl (ms_load_box (a := .r (.sl (g1.Cells.map GCell.row))) rfl ts_29 iL rfl rfl) ?_
    refine sM rfl rfl ?_
    refine ob1k hp2 fun x6 ex6 h20 => ?_
    refine sQ rfl (ms_idx rfl tg_29.slice iL iL (fun _ => rfl) (fun _ => ex6)) ?_
    refine sQ rfl (sp_fieldAddr_ro rfl tf_60_0 iL) ?_
    refine sQ rfl (ms_load (d := .int .i64 x6.Row) rfl ts_3 iL rfl) ?_
    refine sM rfl rfl ?_
    refine sQ rfl (sp_eql rfl iL iL) ?_
    refine sM rfl rfl ?_
    refine sV rfl rfl rfl (sp_fieldAddr_own (ob := .box _ _ _) rfl tf_32_2 iL fR rfl) ?_
    refine sV rfl rfl rfl (ms_load_box (a := .r (.sl (g1.Cells.map GCell.row))) rfl ts_29 (iR rfl) rfl rfl) ?_
    refine sV rfl rfl rfl (sp_move rfl iL) ?_
    refine sV rfl rfl rfl (ms_idx rfl tg_29.slice (iR rfl) (iR rfl) (fun _ => rfl) (fun _ => ex6)) ?_
    refine sV rfl rfl rfl (sp_fieldAddr_ro rfl tf_60_1 (iR rfl)) ?_
    refine sV rfl rfl rfl (ms_load (d := .int .i64 x6.Col) rfl ts_3 (iR rfl) rfl) ?_
    refine sV rfl rfl rfl (sp_move rfl iL) ?_
    refine sV rfl rfl rfl (sp_eql rfl (iR rfl) (iR rfl)) ?_
    refine sQ rfl (sp_and rfl iL (iR rfl)) ?_
    refine AOps.nil (hK16 _ ?_)
    refine AW.cond rfl (fun hc4 => ?_) (fun hc4 => ?_)
    ·have h21 := ite_t hc4 h20
     refine AW.weak (s' := ⟨[(2, .r (.int .i64 row1)), (3, .r (.int .i64 col1)), (4, .ptr 4 n0 0 0), (9, .ptr 9 (n0 + 2) 0 0), (10, .r (.int .i64 x2)), (35, .r (.int .i64 (g1.Cells.length : Int))), (36, .r (.int .i64 x2))], [(4, some (.box n0 32 [.r (.int .i64 g1.Rows), .r (.int .i64 g1.Cols), .r (.sl (g1.Cells.map GCell.row)), .r (.sl (g1.Merges.map GRect.row))])), (9, some (.box (n0 + 2) 60 [.r (.int .i64 want2.Row), .r (.int .i64 want2.Col), .r (.str want2.Text), .r (.int .i64 want2.Ref), .r (.sl (want2.Attrs.map GAttr.row))]))], (i3 0), 80⟩) (by exact Weak.cv ⟨jL, jL, jL, jL, jL, jL, jL, trivial⟩ ⟨.inl rfl, .inl rfl, trivial⟩ nL) ?_
     refine AW.region ?_
     refine sQ rfl (sp_fieldAddr_own (ob := .box _ _ _) rfl tf_32_2 iL fR rfl) ?_
     refine sQ rfl (ms_load_box (a := .r (.sl (g1.Cells.map GCell.row))) rfl ts_29 iL rfl rfl) ?_
     refine sM rfl rfl ?_
     refine sQ rfl (ms_idx rfl tg_29.slice iL iL (fun _ => rfl) (fun _ => ex6)) ?_
     refine sQ rfl (ms_loadA (cs := [.r (.int .i64 x6.Row), .r (.int .i64 x6.Col), .r (.str x6.Text), .r (.int .i64 x6.Ref), .r (.sl (x6.Attrs.map GAttr.row))]) rfl ta_60 iL rfl rfl) ?_
     refine AOps.step0 rfl rfl (ms_store_box (ds := [.r (.int .i64 x6.Row), .r (.int .i64 x6.Col), .r (.str x6.Text), .r (.int .i64 x6.Ref), .r (.sl (x6.Attrs.map GAttr.row))]) rfl tz_60 iL rfl iL rfl rfl rfl rfl) ?_
     refine AOps.nil ?_
     exact wK14 _ _ ((by exact Weak.cv ⟨jL, jL, jL, jL, jL, jL, trivial⟩ ⟨.inl rfl, .inl rfl, trivial⟩ nL)) (J3 _ (vec [(i3 0)]) (Option.some.inj h21).symm)
    ·have h21 := ite_f hc4 h20
     refine AW.skip ?_
     exact wK14 _ _ ((by exact Weak.cv ⟨jL, jL, jL, jL, jL, jL, trivial⟩ ⟨.inl rfl, .inl rfl, trivial⟩ nL)) (J3 _ (vec [(i3 0)]) (Option.some.inj h21).symm)
   ·have h17 := ite_f hc3 h16
    refine AW.exit ?_
    exact wK9 _ _ ((by exact Weak.cv ⟨jL, jL, jL, jL, trivial⟩ ⟨.inl rfl, .inl rfl, trivial⟩ nL)) (J1 _ (vec [(i3 0)]) (hx1 _ (Option.some.inj h17).symm))
end Go.Proofs.YtfkolgjapajekaaDoor.Al
