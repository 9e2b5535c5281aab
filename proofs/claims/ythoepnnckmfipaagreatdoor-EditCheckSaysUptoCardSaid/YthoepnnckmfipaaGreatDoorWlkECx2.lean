/- Walks, as printed. -/
import Derived.Test.YthoepnnckmfipaaGreatDoorWlkEC
import Derived.Test.YthoepnnckmfipaaGreatDoorProg
set_option maxHeartbeats 4000000
set_option maxRecDepth 20000
set_option linter.unusedVariables false
namespace Go.Proofs.YthoepnnckmfipaaGreatDoor.Al
open Go.Proofs Go.Proofs.Tryz
theorem w_doc_SameNode {a1 : GNode} {b1 : GNode} {r : Bool} (h : doc_SameNode a1 b1 = some r) : ARO prog 101 [.agg [rI (a1.ID), rI (a1.Kind), qa a1.Attrs, qd a1.Flow, rI (a1.Grid.Rows), rI (a1.Grid.Cols), qc a1.Grid.Cells, qb a1.Grid.Merges, qe a1.Draw], .agg [rI (b1.ID), rI (b1.Kind), qa b1.Attrs, qd b1.Flow, rI (b1.Grid.Rows), rI (b1.Grid.Cols), qc b1.Grid.Cells, qb b1.Grid.Merges, qe b1.Draw]] (rB (r)) := by
 unfold doc_SameNode at h
 refine ARO.mkF func101 rfl rfl ntmps101 rfl (Nat.le_of_ble_eq_true rfl) fun n0 => ?_
 refine aS fun K1 hK1 wK1 => (aR (AOps.step rfl rfl rfl (ms_box (cs := [rI (a1.ID), rI (a1.Kind), qa a1.Attrs, qd a1.Flow, rI (a1.Grid.Rows), rI (a1.Grid.Cols), qc a1.Grid.Cells, qb a1.Grid.Merges, qe a1.Draw]) 2 rfl iL rfl rfl) (AOps.step rfl rfl rfl (ms_box (cs := [rI (b1.ID), rI (b1.Kind), qa b1.Attrs, qd b1.Flow, rI (b1.Grid.Rows), rI (b1.Grid.Cols), qc b1.Grid.Cells, qb b1.Grid.Merges, qe b1.Draw]) 3 rfl iL rfl rfl) (sA rfl rfl (aZ (hK1 _ ?_))))))
 refine aS fun K2 hK2 wK2 => (aR (sQ rfl (fB rfl tf_34_0 iL fR rfl) (sQ rfl (ms_load_box (a := rI (a1.ID)) rfl ts_3 iL rfl rfl) (sQ rfl (fB rfl tf_34_0 iL fR rfl) (sQ rfl (ms_load_box (a := rI (b1.ID)) rfl ts_3 iL rfl rfl) (sQ rfl (sp_eql rfl iL iL) (sM rfl rfl (sV rfl rfl rfl (fB rfl tf_34_1 iL fR rfl) (sV rfl rfl rfl (ms_load_box (a := rI (a1.Kind)) rfl ts_3 (iR rfl) rfl rfl) (sV rfl rfl rfl (fB rfl tf_34_1 iL fR rfl) (sV rfl rfl rfl (ms_load_box (a := rI (b1.Kind)) rfl ts_3 (iR rfl) rfl rfl) (sV rfl rfl rfl (sp_eql rfl (iR rfl) (iR rfl)) (sQ rfl (sp_and rfl iL (iR rfl)) (sM rfl rfl (sV rfl rfl rfl (fB rfl tf_34_2 iL fR rfl) (sV rfl rfl rfl (ms_load_box (a := qa a1.Attrs) rfl ts_26 (iR rfl) rfl rfl) (sV rfl rfl rfl (fB rfl tf_34_2 iL fR rfl) (sV rfl rfl rfl (ms_load_box (a := qa b1.Attrs) rfl ts_26 (iR rfl) rfl rfl) (ob1k h fun r1 er1 h1 => ?_)))))))))))))))))))
 refine AOps.stepW (.one rfl rfl rfl) rfl rfl (sp_call (r := rB (r1)) (caps := []) (bs := [qa a1.Attrs, qa b1.Attrs]) rfl iL rfl ⟨⟨_, (iR rfl), .d rfl⟩, ⟨_, (iR rfl), .d rfl⟩, trivial⟩ (fun hg => w_attr_Same (gdt er1 hg)) rfl) ?_
 refine sQ rfl (sp_and rfl iL (iR rfl)) (sM rfl rfl (sV rfl rfl rfl (fB rfl tf_34_3 iL fR rfl) (sV rfl rfl rfl (ms_load_box (a := qd a1.Flow) rfl ts_27 (iR rfl) rfl rfl) (sV rfl rfl rfl (fB rfl tf_34_3 iL fR rfl) (sV rfl rfl rfl (ms_load_box (a := qd b1.Flow) rfl ts_27 (iR rfl) rfl rfl) (ob1k h1 fun r2 er2 h2 => ?_))))))
 refine AOps.stepW (.one rfl rfl rfl) rfl rfl (sp_call (r := rB (r2)) (caps := []) (bs := [qd a1.Flow, qd b1.Flow]) rfl iL rfl ⟨⟨_, (iR rfl), .d rfl⟩, ⟨_, (iR rfl), .d rfl⟩, trivial⟩ (fun hg => w_flow_Same (gdt er2 hg)) rfl) ?_
 refine sQ rfl (sp_and rfl iL (iR rfl)) (sM rfl rfl (sV rfl rfl rfl (fB rfl tf_34_4 iL fR rfl) (sV rfl rfl rfl (ms_loadA_box_at (ds := [rI (a1.Grid.Rows), rI (a1.Grid.Cols), qc a1.Grid.Cells, qb a1.Grid.Merges]) rfl ta_31 (iR rfl) rfl rfl rfl) (sV rfl rfl rfl (fB rfl tf_34_4 iL fR rfl) (sV rfl rfl rfl (ms_loadA_box_at (ds := [rI (b1.Grid.Rows), rI (b1.Grid.Cols), qc b1.Grid.Cells, qb b1.Grid.Merges]) rfl ta_31 (iR rfl) rfl rfl rfl) (ob1k h2 fun r3 er3 h3 => ?_))))))
 refine AOps.stepW (.one rfl rfl rfl) rfl rfl (sp_call (r := rB (r3)) (caps := []) (bs := [.agg [rI (a1.Grid.Rows), rI (a1.Grid.Cols), qc a1.Grid.Cells, qb a1.Grid.Merges], .agg [rI (b1.Grid.Rows), rI (b1.Grid.Cols), qc b1.Grid.Cells, qb b1.Grid.Merges]]) rfl iL rfl ⟨⟨_, (iR rfl), .g (cs := [.int .i64 a1.Grid.Rows, .int .i64 a1.Grid.Cols, .sl (a1.Grid.Cells.map GCell.row), .sl (a1.Grid.Merges.map GRect.row)]) rfl rfl⟩, ⟨_, (iR rfl), .g (cs := [.int .i64 b1.Grid.Rows, .int .i64 b1.Grid.Cols, .sl (b1.Grid.Cells.map GCell.row), .sl (b1.Grid.Merges.map GRect.row)]) rfl rfl⟩, trivial⟩ (fun hg => w_grid_Same (gdt er3 hg)) rfl) ?_
 refine sQ rfl (sp_and rfl iL (iR rfl)) (sM rfl rfl (sV rfl rfl rfl (fB rfl tf_34_5 iL fR rfl) (sV rfl rfl rfl (ms_load_box (a := qe a1.Draw) rfl ts_32 (iR rfl) rfl rfl) (sV rfl rfl rfl (fB rfl tf_34_5 iL fR rfl) (sV rfl rfl rfl (ms_load_box (a := qe b1.Draw) rfl ts_32 (iR rfl) rfl rfl) (ob1k h3 fun r4 er4 h4 => ?_))))))
 refine AOps.stepW (.one rfl rfl rfl) rfl rfl (sp_call (r := rB (r4)) (caps := []) (bs := [qe a1.Draw, qe b1.Draw]) rfl iL rfl ⟨⟨_, (iR rfl), .d rfl⟩, ⟨_, (iR rfl), .d rfl⟩, trivial⟩ (fun hg => w_slices_Equal_api_DrawOp_api_DrawOp (gdt er4 hg)) rfl) ?_
 refine sQ rfl (sp_and rfl iL (iR rfl)) (sA rfl rfl (aZ (hK2 _ ?_)))
 refine AW.ret ?_
 exact retf1 (P := prog) (fun (r : Bool) => rB (r)) h4 iL (.t (.d rfl))
theorem w_edit_unused {o1 : GOp} {r : Bool} (h : edit_unused o1 = some r) : ARO prog 43 [.agg [rI (o1.Kind), rI (o1.Node), rI (o1.New.ID), rI (o1.New.Kind), qa o1.New.Attrs, qd o1.New.Flow, rI (o1.New.Grid.Rows), rI (o1.New.Grid.Cols), qc o1.New.Grid.Cells, qb o1.New.Grid.Merges, qe o1.New.Draw, qa o1.Attrs, qh o1.Steps, qf o1.Grid.Rows, qf o1.Grid.Cols, qc o1.Grid.Cells, qb o1.Grid.Split, qb o1.Grid.Merge, qe o1.Draw]] (rB (r)) := by
 unfold edit_unused at h
 refine ARO.mkF func43 rfl rfl ntmps43 rfl (Nat.le_of_ble_eq_true rfl) fun n0 => ?_
 refine aS fun K1 hK1 wK1 => (aR (AOps.step rfl rfl rfl (ms_box (cs := [rI (o1.Kind), rI (o1.Node), rI (o1.New.ID), rI (o1.New.Kind), qa o1.New.Attrs, qd o1.New.Flow, rI (o1.New.Grid.Rows), rI (o1.New.Grid.Cols), qc o1.New.Grid.Cells, qb o1.New.Grid.Merges, qe o1.New.Draw, qa o1.Attrs, qh o1.Steps, qf o1.Grid.Rows, qf o1.Grid.Cols, qc o1.Grid.Cells, qb o1.Grid.Split, qb o1.Grid.Merge, qe o1.Draw]) 1 rfl iL rfl rfl) (sA rfl rfl (aZ (hK1 _ ?_)))))
 refine aS fun K2 hK2 wK2 => (aR (sQ rfl (fB rfl tf_40_5 iL fR rfl) (sQ rfl (ms_loadA_box_at (ds := [qf o1.Grid.Rows, qf o1.Grid.Cols, qc o1.Grid.Cells, qb o1.Grid.Split, qb o1.Grid.Merge]) rfl ta_38 iL rfl rfl rfl) (AOps.step rfl rfl rfl (ms_alloc (cs := [.cst (.slice none 0 0), .cst (.slice none 0 0), .cst (.slice none 0 0), .cst (.slice none 0 0), .cst (.slice none 0 0)]) 3 rfl t0_38 rfl rfl) (AOps.step0 rfl rfl (ms_store_box (ds := [qf o1.Grid.Rows, qf o1.Grid.Cols, qc o1.Grid.Cells, qb o1.Grid.Split, qb o1.Grid.Merge]) rfl tz_38 iL rfl iL rfl rfl rfl rfl) (aZ (hK2 _ ?_)))))))
 refine aS fun K3 hK3 wK3 => (aR (sQ rfl (fB rfl tf_38_0 iL fR rfl) (sQ rfl (ms_load_box (a := qf o1.Grid.Rows) rfl ts_36 iL rfl rfl) (sQ rfl (ms_len rfl tg_36.slice iL) (sQ rfl (fB rfl tf_38_1 iL fR rfl) (sQ rfl (ms_load_box (a := qf o1.Grid.Cols) rfl ts_36 iL rfl rfl) (sQ rfl (ms_len rfl tg_36.slice iL) (ob1k h fun x1 ex1 h1 => (sQ rfl (ms_add rfl iL iL (fun _ => ex1)) (sQ rfl (fB rfl tf_38_2 iL fR rfl) (sQ rfl (ms_load_box (a := qc o1.Grid.Cells) rfl ts_28 iL rfl rfl) (sQ rfl (ms_len rfl tg_28.slice iL) (ob1k h1 fun x2 ex2 h2 => (sQ rfl (ms_add rfl iL iL (fun _ => ex2)) (sQ rfl (fB rfl tf_38_3 iL fR rfl) (sQ rfl (ms_load_box (a := qb o1.Grid.Split) rfl ts_29 iL rfl rfl) (sQ rfl (ms_len rfl tg_29.slice iL) (ob1k h2 fun x3 ex3 h3 => (sQ rfl (ms_add rfl iL iL (fun _ => ex3)) (sQ rfl (fB rfl tf_38_4 iL fR rfl) (sQ rfl (ms_load_box (a := qb o1.Grid.Merge) rfl ts_29 iL rfl rfl) (sQ rfl (ms_len rfl tg_29.slice iL) (ob1k h3 fun x4 ex4 h4 => (sQ rfl (ms_add rfl iL iL (fun _ => ex4)) (sQ rfl (sp_gtr rfl iL iL) (sA rfl rfl (aZ (hK3 _ ?_))))))))))))))))))))))))))))
 refine aS fun K4 hK4 wK4 => ?_
 refine AW.weak (s' := ⟨[(1, .ptr 1 n0 0 0), (4, rB ((decide (0 < x4))))], [(1, some (.box n0 40 [rI (o1.Kind), rI (o1.Node), rI (o1.New.ID), rI (o1.New.Kind), qa o1.New.Attrs, qd o1.New.Flow, rI (o1.New.Grid.Rows), rI (o1.New.Grid.Cols), qc o1.New.Grid.Cells, qb o1.New.Grid.Merges, qe o1.New.Draw, qa o1.Attrs, qh o1.Steps, qf o1.Grid.Rows, qf o1.Grid.Cols, qc o1.Grid.Cells, qb o1.Grid.Split, qb o1.Grid.Merge, qe o1.Draw]))], (n0 + 2), 88⟩) (by exact Weak.cv ⟨jL, jL, trivial⟩ ⟨.inl rfl, trivial⟩ nL) ?_
 refine aR (sQ rfl (fB rfl tf_40_0 iL fR rfl) (sQ rfl (ms_load_box (a := rI (o1.Kind)) rfl ts_3 iL rfl rfl) (sQ rfl (sp_eql rfl iL iL) (sM rfl rfl (sV rfl rfl rfl (fB rfl tf_40_1 iL fR rfl) (sV rfl rfl rfl (ms_load_box (a := rI (o1.Node)) rfl ts_3 (iR rfl) rfl rfl) (sV rfl rfl rfl (sp_neq rfl (iR rfl) iL) (sQ rfl (sp_and rfl iL (iR rfl)) (sM rfl rfl (sV rfl rfl rfl (fB rfl tf_40_0 iL fR rfl) (sV rfl rfl rfl (ms_load_box (a := rI (o1.Kind)) rfl ts_3 (iR rfl) rfl rfl) (sV rfl rfl rfl (sp_neq rfl (iR rfl) iL) (sV rfl rfl rfl (sp_move rfl (iR rfl)) ?_)))))))))))))
 refine sW (.two rfl rfl rfl) rfl (fB rfl tf_40_2 iL fR rfl) ?_
 refine sW (.two rfl rfl rfl) rfl (ms_loadA_box_at (ds := [rI (o1.New.ID), rI (o1.New.Kind), qa o1.New.Attrs, qd o1.New.Flow, rI (o1.New.Grid.Rows), rI (o1.New.Grid.Cols), qc o1.New.Grid.Cells, qb o1.New.Grid.Merges, qe o1.New.Draw]) rfl ta_34 (iR rfl) rfl rfl rfl) ?_
 refine sW (.two rfl rfl rfl) rfl (sp_build rfl tb_34 (q := []) (by exact trivial) (cs := [rI (0), rI (0), .cst (.slice none 0 0), .cst (.slice none 0 0), rI (0), rI (0), .cst (.slice none 0 0), .cst (.slice none 0 0), .cst (.slice none 0 0)]) (by rfl)) ?_
 refine jb1k h4 fun p1 hp1 hk1 => ?_
 have J1 : ∀ (x5 : Bool) (i1 : Nat → Nat), p1 = x5 → K4 ⟨[(2, rB (x5))], [], (i1 0), 88⟩ := by
  intro x5 i1 e
  have h5 := hk1 _ e
  refine hK4 _ ?_
  refine AW.ret ?_
  exact retf1 (P := prog) (fun (r : Bool) => rB (r)) h5 iL (.t (.d rfl))
 refine AOps.split (((decide (o1.Kind = 0)) && (!decide (o1.Node = 0))) == false) (fun hg1 => ?_) (fun hg1 => ?_)
 ·have h6 := ite_t hg1 hp1
  refine AOps.weak (by exact Weak.unw2 (e' := [(1, .ptr 1 n0 0 0), (4, rB ((decide (0 < x4)))), (27, .ptr 1 n0 0 0), (28, rI (o1.Kind)), (29, rB ((decide (o1.Kind = 0)))), (30, rB ((decide (o1.Kind = 0)))), (34, rB (((decide (o1.Kind = 0)) && (!decide (o1.Node = 0))))), (35, rB (((decide (o1.Kind = 0)) && (!decide (o1.Node = 0))))), (36, .ptr 1 n0 0 0), (37, rI (o1.Kind)), (38, rB ((!decide (o1.Kind = 0)))), (39, rB ((!decide (o1.Kind = 0)))), (40, .whn ((!decide (o1.Kind = 0)) == true) (.ptr 1 n0 0 2)), (41, .whn ((!decide (o1.Kind = 0)) == true) (.agg [rI (o1.New.ID), rI (o1.New.Kind), qa o1.New.Attrs, qd o1.New.Flow, rI (o1.New.Grid.Rows), rI (o1.New.Grid.Cols), qc o1.New.Grid.Cells, qb o1.New.Grid.Merges, qe o1.New.Draw])), (42, .whn ((!decide (o1.Kind = 0)) == true) (.agg [rI (0), rI (0), .cst (.slice none 0 0), .cst (.slice none 0 0), rI (0), rI (0), .cst (.slice none 0 0), .cst (.slice none 0 0), .cst (.slice none 0 0)]))]) hg1 ⟨.inl rfl, .inl rfl, .inl rfl, .inl rfl, .inl rfl, .inl rfl, .inl rfl, .inl rfl, .inr iL, .inr iL, .inr iL, .inr iL, .inr (.inr (.inl ⟨_, _, rfl, rfl⟩)), .inr (.inr (.inl ⟨_, _, rfl, rfl⟩)), .inr (.inr (.inl ⟨_, _, rfl, rfl⟩)), trivial⟩) ?_
  refine AOps.split ((!decide (o1.Kind = 0)) == true) (fun hg2 => ?_) (fun hg2 => ?_)
  ·have h7 := ite_t hg2 h6
   refine AOps.weak (by exact Weak.unw2 (e' := [(1, .ptr 1 n0 0 0), (4, rB ((decide (0 < x4)))), (27, .ptr 1 n0 0 0), (28, rI (o1.Kind)), (29, rB ((decide (o1.Kind = 0)))), (30, rB ((decide (o1.Kind = 0)))), (34, rB (((decide (o1.Kind = 0)) && (!decide (o1.Node = 0))))), (35, rB (((decide (o1.Kind = 0)) && (!decide (o1.Node = 0))))), (36, .ptr 1 n0 0 0), (37, rI (o1.Kind)), (38, rB ((!decide (o1.Kind = 0)))), (39, rB ((!decide (o1.Kind = 0)))), (40, .ptr 1 n0 0 2), (41, .agg [rI (o1.New.ID), rI (o1.New.Kind), qa o1.New.Attrs, qd o1.New.Flow, rI (o1.New.Grid.Rows), rI (o1.New.Grid.Cols), qc o1.New.Grid.Cells, qb o1.New.Grid.Merges, qe o1.New.Draw]), (42, .agg [rI (0), rI (0), .cst (.slice none 0 0), .cst (.slice none 0 0), rI (0), rI (0), .cst (.slice none 0 0), .cst (.slice none 0 0), .cst (.slice none 0 0)])]) hg2 ⟨.inl rfl, .inl rfl, .inl rfl, .inl rfl, .inl rfl, .inl rfl, .inl rfl, .inl rfl, .inl rfl, .inl rfl, .inl rfl, .inl rfl, .inr iL, .inr iL, .inr iL, trivial⟩) ?_
   refine AOps.weak (by exact Weak.cv (e' := [(1, .ptr 1 n0 0 0), (4, rB ((decide (0 < x4)))), (27, .ptr 1 n0 0 0), (28, rI (o1.Kind)), (29, rB ((decide (o1.Kind = 0)))), (30, rB ((decide (o1.Kind = 0)))), (34, rB (((decide (o1.Kind = 0)) && (!decide (o1.Node = 0))))), (35, rB (((decide (o1.Kind = 0)) && (!decide (o1.Node = 0))))), (36, .ptr 1 n0 0 0), (37, rI (o1.Kind)), (38, rB ((!decide (o1.Kind = 0)))), (39, rB ((!decide (o1.Kind = 0)))), (40, .ptr 1 n0 0 2), (41, .agg [rI (o1.New.ID), rI (o1.New.Kind), qa o1.New.Attrs, qd o1.New.Flow, rI (o1.New.Grid.Rows), rI (o1.New.Grid.Cols), qc o1.New.Grid.Cells, qb o1.New.Grid.Merges, qe o1.New.Draw]), (42, .agg [rI (0), rI (0), .r (.sl []), .r (.sl []), rI (0), rI (0), .r (.sl []), .r (.sl []), .r (.sl [])])]) (h' := [(1, some (.box n0 40 [rI (o1.Kind), rI (o1.Node), rI (o1.New.ID), rI (o1.New.Kind), qa o1.New.Attrs, qd o1.New.Flow, rI (o1.New.Grid.Rows), rI (o1.New.Grid.Cols), qc o1.New.Grid.Cells, qb o1.New.Grid.Merges, qe o1.New.Draw, qa o1.Attrs, qh o1.Steps, qf o1.Grid.Rows, qf o1.Grid.Cols, qc o1.Grid.Cells, qb o1.Grid.Split, qb o1.Grid.Merge, qe o1.Draw]))]) ⟨jL, jL, jL, jL, jL, jL, jL, jL, jL, jL, jL, jL, jL, jL, .inr ⟨_, _, rfl, rfl, ⟨.inl rfl, .inl rfl, .inr (.inr ⟨rfl, rfl⟩), .inr (.inr ⟨rfl, rfl⟩), .inl rfl, .inl rfl, .inr (.inr ⟨rfl, rfl⟩), .inr (.inr ⟨rfl, rfl⟩), .inr (.inr ⟨rfl, rfl⟩), trivial⟩⟩, trivial⟩ ⟨.inl rfl, trivial⟩ nL) ?_
   refine ob1k h7 fun r1 er1 h8 => ?_
   refine AOps.stepGT (.one rfl rfl rfl) hg2 rfl rfl (sp_call (r := rB (r1)) (caps := []) (bs := [.agg [rI (o1.New.ID), rI (o1.New.Kind), qa o1.New.Attrs, qd o1.New.Flow, rI (o1.New.Grid.Rows), rI (o1.New.Grid.Cols), qc o1.New.Grid.Cells, qb o1.New.Grid.Merges, qe o1.New.Draw], .agg [rI (0), rI (0), .r (.sl []), .r (.sl []), rI (0), rI (0), .r (.sl []), .r (.sl []), .r (.sl [])]]) rfl (.inl rfl) rfl ⟨⟨_, (.inl rfl), .g (cs := [.int .i64 o1.New.ID, .int .i64 o1.New.Kind, .sl (o1.New.Attrs.map GAttr.row), .sl (o1.New.Flow.map GElem.row), .int .i64 o1.New.Grid.Rows, .int .i64 o1.New.Grid.Cols, .sl (o1.New.Grid.Cells.map GCell.row), .sl (o1.New.Grid.Merges.map GRect.row), .sl (o1.New.Draw.map GDrawOp.row)]) rfl rfl⟩, ⟨_, (.inl rfl), .g (cs := [.int .i64 0, .int .i64 0, .sl ([].map GAttr.row), .sl ([].map GElem.row), .int .i64 0, .int .i64 0, .sl ([].map GCell.row), .sl ([].map GRect.row), .sl ([].map GDrawOp.row)]) rfl rfl⟩, trivial⟩ (fun _ => w_doc_SameNode (er1)) rfl) ?_
   refine AOps.stepGT (.one rfl rfl rfl) hg2 rfl rfl (OpQ.spec (sp_not rfl (.inl rfl)) _) ?_
   refine AOps.stepGT (.one rfl rfl rfl) hg1 rfl rfl (OpQ.spec (sp_and rfl (.inl rfl) (.inl rfl)) _) ?_
   refine sQ rfl (sp_or rfl iL iL) (sM rfl rfl (sV rfl rfl rfl (fB rfl tf_40_0 iL fR rfl) (sV rfl rfl rfl (ms_load_box (a := rI (o1.Kind)) rfl ts_3 (iR rfl) rfl rfl) (sV rfl rfl rfl (sp_neq rfl (iR rfl) iL) (sV rfl rfl rfl (sp_move rfl (iR rfl)) ?_)))))
   refine sW (.two rfl rfl rfl) rfl (fB rfl tf_40_3 iL fR rfl) ?_
   refine sW (.two rfl rfl rfl) rfl (ms_load_box (a := qa o1.Attrs) rfl ts_26 (iR rfl) rfl rfl) ?_
   refine sW (.two rfl rfl rfl) rfl (ms_len rfl tg_26.slice (iR rfl)) ?_
   refine sW (.two rfl rfl rfl) rfl (sp_gtr rfl (iR rfl) iL) ?_
   refine sV rfl rfl rfl (sp_and rfl (iR rfl) (iR rfl)) (sQ rfl (sp_or rfl iL (iR rfl)) (sM rfl rfl (sV rfl rfl rfl (fB rfl tf_40_0 iL fR rfl) (sV rfl rfl rfl (ms_load_box (a := rI (o1.Kind)) rfl ts_3 (iR rfl) rfl rfl) (sV rfl rfl rfl (sp_neq rfl (iR rfl) iL) (sV rfl rfl rfl (sp_move rfl (iR rfl)) ?_))))))
   refine sW (.two rfl rfl rfl) rfl (fB rfl tf_40_4 iL fR rfl) ?_
   refine sW (.two rfl rfl rfl) rfl (ms_load_box (a := qh o1.Steps) rfl ts_35 (iR rfl) rfl rfl) ?_
   refine sW (.two rfl rfl rfl) rfl (ms_len rfl tg_35.slice (iR rfl)) ?_
   refine sW (.two rfl rfl rfl) rfl (sp_gtr rfl (iR rfl) iL) ?_
   refine sV rfl rfl rfl (sp_and rfl (iR rfl) (iR rfl)) (sQ rfl (sp_or rfl iL (iR rfl)) (sM rfl rfl (sV rfl rfl rfl (fB rfl tf_40_0 iL fR rfl) (sV rfl rfl rfl (ms_load_box (a := rI (o1.Kind)) rfl ts_3 (iR rfl) rfl rfl) (sV rfl rfl rfl (sp_neq rfl (iR rfl) iL) (sV rfl rfl rfl (sp_move rfl (iR rfl)) ?_))))))
   refine sW (.two rfl rfl rfl) rfl (sp_move rfl iL) ?_
   refine sV rfl rfl rfl (sp_and rfl (iR rfl) (iR rfl)) (sQ rfl (sp_or rfl iL (iR rfl)) (sM rfl rfl (sV rfl rfl rfl (fB rfl tf_40_0 iL fR rfl) (sV rfl rfl rfl (ms_load_box (a := rI (o1.Kind)) rfl ts_3 (iR rfl) rfl rfl) (sV rfl rfl rfl (sp_neq rfl (iR rfl) iL) (sV rfl rfl rfl (sp_move rfl (iR rfl)) ?_))))))
   refine sW (.two rfl rfl rfl) rfl (fB rfl tf_40_6 iL fR rfl) ?_
   refine sW (.two rfl rfl rfl) rfl (ms_load_box (a := qe o1.Draw) rfl ts_32 (iR rfl) rfl rfl) ?_
   refine sW (.two rfl rfl rfl) rfl (ms_len rfl tg_32.slice (iR rfl)) ?_
   refine sW (.two rfl rfl rfl) rfl (sp_gtr rfl (iR rfl) iL) ?_
   refine sV rfl rfl rfl (sp_and rfl (iR rfl) (iR rfl)) (sQ rfl (sp_or rfl iL (iR rfl)) (sA rfl rfl ?_))
   refine AOps.nil ?_
   exact wK4 _ _ ((by exact Weak.cv ⟨jL, trivial⟩ trivial nL)) (J1 _ (vec [(n0 + 2)]) (Option.some.inj h8).symm)
  ·have h7 := ite_f hg2 h6
   refine AOps.stepGF2 (.one rfl rfl rfl) hg2 rfl rfl ?_
   refine AOps.stepGF2 (.one rfl rfl rfl) hg2 rfl rfl ?_
   refine AOps.stepGT (.one rfl rfl rfl) hg1 rfl rfl (OpQ.spec (sp_and rfl (.inl rfl) (iR rfl)) _) ?_
   refine sQ rfl (sp_or rfl iL iL) (sM rfl rfl (sV rfl rfl rfl (fB rfl tf_40_0 iL fR rfl) (sV rfl rfl rfl (ms_load_box (a := rI (o1.Kind)) rfl ts_3 (iR rfl) rfl rfl) (sV rfl rfl rfl (sp_neq rfl (iR rfl) iL) (sV rfl rfl rfl (sp_move rfl (iR rfl)) ?_)))))
   refine sW (.two rfl rfl rfl) rfl (fB rfl tf_40_3 iL fR rfl) ?_
   refine sW (.two rfl rfl rfl) rfl (ms_load_box (a := qa o1.Attrs) rfl ts_26 (iR rfl) rfl rfl) ?_
   refine sW (.two rfl rfl rfl) rfl (ms_len rfl tg_26.slice (iR rfl)) ?_
   refine sW (.two rfl rfl rfl) rfl (sp_gtr rfl (iR rfl) iL) ?_
   refine sV rfl rfl rfl (sp_and rfl (iR rfl) (iR rfl)) (sQ rfl (sp_or rfl iL (iR rfl)) (sM rfl rfl (sV rfl rfl rfl (fB rfl tf_40_0 iL fR rfl) (sV rfl rfl rfl (ms_load_box (a := rI (o1.Kind)) rfl ts_3 (iR rfl) rfl rfl) (sV rfl rfl rfl (sp_neq rfl (iR rfl) iL) (sV rfl rfl rfl (sp_move rfl (iR rfl)) ?_))))))
   refine sW (.two rfl rfl rfl) rfl (fB rfl tf_40_4 iL fR rfl) ?_
   refine sW (.two rfl rfl rfl) rfl (ms_load_box (a := qh o1.Steps) rfl ts_35 (iR rfl) rfl rfl) ?_
   refine sW (.two rfl rfl rfl) rfl (ms_len rfl tg_35.slice (iR rfl)) ?_
   refine sW (.two rfl rfl rfl) rfl (sp_gtr rfl (iR rfl) iL) ?_
   refine sV rfl rfl rfl (sp_and rfl (iR rfl) (iR rfl)) (sQ rfl (sp_or rfl iL (iR rfl)) (sM rfl rfl (sV rfl rfl rfl (fB rfl tf_40_0 iL fR rfl) (sV rfl rfl rfl (ms_load_box (a := rI (o1.Kind)) rfl ts_3 (iR rfl) rfl rfl) (sV rfl rfl rfl (sp_neq rfl (iR rfl) iL) (sV rfl rfl rfl (sp_move rfl (iR rfl)) ?_))))))
   refine sW (.two rfl rfl rfl) rfl (sp_move rfl iL) ?_
   refine sV rfl rfl rfl (sp_and rfl (iR rfl) (iR rfl)) (sQ rfl (sp_or rfl iL (iR rfl)) (sM rfl rfl (sV rfl rfl rfl (fB rfl tf_40_0 iL fR rfl) (sV rfl rfl rfl (ms_load_box (a := rI (o1.Kind)) rfl ts_3 (iR rfl) rfl rfl) (sV rfl rfl rfl (sp_neq rfl (iR rfl) iL) (sV rfl rfl rfl (sp_move rfl (iR rfl)) ?_))))))
   refine sW (.two rfl rfl rfl) rfl (fB rfl tf_40_6 iL fR rfl) ?_
   refine sW (.two rfl rfl rfl) rfl (ms_load_box (a := qe o1.Draw) rfl ts_32 (iR rfl) rfl rfl) ?_
   refine sW (.two rfl rfl rfl) rfl (ms_len rfl tg_32.slice (iR rfl)) ?_
   refine sW (.two rfl rfl rfl) rfl (sp_gtr rfl (iR rfl) iL) ?_
   refine sV rfl rfl rfl (sp_and rfl (iR rfl) (iR rfl)) (sQ rfl (sp_or rfl iL (iR rfl)) (sA rfl rfl ?_))
   refine AOps.nil ?_
   exact wK4 _ _ ((by exact Weak.cv ⟨jL, trivial⟩ trivial nL)) (J1 _ (vec [(n0 + 2)]) (Option.some.inj h7).symm)
 ·have h6 := ite_f hg1 hp1
  refine AOps.stepGF2 (.two rfl rfl rfl) (andF hg1) rfl rfl ?_
  refine AOps.stepGF2 (.two rfl rfl rfl) (andF hg1) rfl rfl ?_
  refine AOps.stepGF2 (.one rfl rfl rfl) hg1 rfl rfl ?_
  refine sQ rfl (sp_or rfl iL (iR rfl)) (sM rfl rfl (sV rfl rfl rfl (fB rfl tf_40_0 iL fR rfl) (sV rfl rfl rfl (ms_load_box (a := rI (o1.Kind)) rfl ts_3 (iR rfl) rfl rfl) (sV rfl rfl rfl (sp_neq rfl (iR rfl) iL) (sV rfl rfl rfl (sp_move rfl (iR rfl)) ?_)))))
  refine sW (.two rfl rfl rfl) rfl (fB rfl tf_40_3 iL fR rfl) ?_
  refine sW (.two rfl rfl rfl) rfl (ms_load_box (a := qa o1.Attrs) rfl ts_26 (iR rfl) rfl rfl) ?_
  refine sW (.two rfl rfl rfl) rfl (ms_len rfl tg_26.slice (iR rfl)) ?_
  refine sW (.two rfl rfl rfl) rfl (sp_gtr rfl (iR rfl) iL) ?_
  refine sV rfl rfl rfl (sp_and rfl (iR rfl) (iR rfl)) (sQ rfl (sp_or rfl iL (iR rfl)) (sM rfl rfl (sV rfl rfl rfl (fB rfl tf_40_0 iL fR rfl) (sV rfl rfl rfl (ms_load_box (a := rI (o1.Kind)) rfl ts_3 (iR rfl) rfl rfl) (sV rfl rfl rfl (sp_neq rfl (iR rfl) iL) (sV rfl rfl rfl (sp_move rfl (iR rfl)) ?_))))))
  refine sW (.two rfl rfl rfl) rfl (fB rfl tf_40_4 iL fR rfl) ?_
  refine sW (.two rfl rfl rfl) rfl (ms_load_box (a := qh o1.Steps) rfl ts_35 (iR rfl) rfl rfl) ?_
  refine sW (.two rfl rfl rfl) rfl (ms_len rfl tg_35.slice (iR rfl)) ?_
  refine sW (.two rfl rfl rfl) rfl (sp_gtr rfl (iR rfl) iL) ?_
  refine sV rfl rfl rfl (sp_and rfl (iR rfl) (iR rfl)) (sQ rfl (sp_or rfl iL (iR rfl)) (sM rfl rfl (sV rfl rfl rfl (fB rfl tf_40_0 iL fR rfl) (sV rfl rfl rfl (ms_load_box (a := rI (o1.Kind)) rfl ts_3 (iR rfl) rfl rfl) (sV rfl rfl rfl (sp_neq rfl (iR rfl) iL) (sV rfl rfl rfl (sp_move rfl (iR rfl)) ?_))))))
  refine sW (.two rfl rfl rfl) rfl (sp_move rfl iL) ?_
  refine sV rfl rfl rfl (sp_and rfl (iR rfl) (iR rfl)) (sQ rfl (sp_or rfl iL (iR rfl)) (sM rfl rfl (sV rfl rfl rfl (fB rfl tf_40_0 iL fR rfl) (sV rfl rfl rfl (ms_load_box (a := rI (o1.Kind)) rfl ts_3 (iR rfl) rfl rfl) (sV rfl rfl rfl (sp_neq rfl (iR rfl) iL) (sV rfl rfl rfl (sp_move rfl (iR rfl)) ?_))))))
  refine sW (.two rfl rfl rfl) rfl (fB rfl tf_40_6 iL fR rfl) ?_
  refine sW (.two rfl rfl rfl) rfl (ms_load_box (a := qe o1.Draw) rfl ts_32 (iR rfl) rfl rfl) ?_
  refine sW (.two rfl rfl rfl) rfl (ms_len rfl tg_32.slice (iR rfl)) ?_
  refine sW (.two rfl rfl rfl) rfl (sp_gtr rfl (iR rfl) iL) ?_
  refine sV rfl rfl rfl (sp_and rfl (iR rfl) (iR rfl)) (sQ rfl (sp_or rfl iL (iR rfl)) (sA rfl rfl ?_))
  refine AOps.nil ?_
  exact wK4 _ _ ((by exact Weak.cv ⟨jL, trivial⟩ trivial nL)) (J1 _ (vec [(n0 + 2)]) (Option.some.inj h6).symm)
theorem w_attr_CheckChange {l1 : List GAttr} {r : Int} (h : attr_CheckChange l1 = some r) : ARO prog 45 [qa l1] (rI (r)) := by
 unfold attr_CheckChange at h
 refine ARO.mkF func45 rfl rfl ntmps45 rfl (Nat.le_of_ble_eq_true rfl) fun n0 => ?_
 refine aS fun K1 hK1 wK1 => (aR (sA rfl rfl (aZ (hK1 _ ?_))))
 refine aS fun K2 hK2 wK2 => (aR (sM rfl rfl (ob1k h fun r1 er1 h1 => (AOps.step rfl rfl rfl (sp_call (r := rI (r1)) (caps := []) (bs := [qa l1, rB (true)]) rfl iL rfl ⟨⟨_, iL, .d rfl⟩, ⟨_, iL, .d rfl⟩, trivial⟩ (fun _ => w_attr_check (er1)) rfl) (sA rfl rfl (aZ (hK2 _ ?_)))))))
 refine AW.ret ?_
 exact retf1 (P := prog) (fun (r : Int) => rI (r)) h1 iL (.t (.d rfl))
theorem w_flow_CheckPart {f1 : List GElem} {r : Int} (h : flow_CheckPart f1 = some r) : ARO prog 70 [qd f1] (rI (r)) := by
 unfold flow_CheckPart at h
 refine ARO.mkF func70 rfl rfl ntmps70 rfl (Nat.le_of_ble_eq_true rfl) fun n0 => ?_
 refine aS fun K1 hK1 wK1 => (aR (sA rfl rfl (aZ (hK1 _ ?_))))
 refine aS fun K2 hK2 wK2 => (aS fun K3 hK3 wK3 => (aR (sM rfl rfl (sQ rfl (ms_len rfl tg_27.slice iL) (sM rfl rfl (aZ (hK3 _ ?_)))))))
 refine AW.block ?_
 refine jc1k h fun o1 hit1 hk1 he1 => ?_
 have J1 : ∀ (u2 : Unit) (i5 : Nat → Nat), o1 = .nrm u2 → K2 ⟨[], [], (i5 0), 18⟩ := by
  intro u2 i5 e
  have h1 := hk1 _ e
  refine hK2 _ ?_
  refine aS fun K4 hK4 wK4 => (aR (sA rfl rfl (aZ (hK4 _ ?_))))
  refine AW.ret ?_
  exact retf1 (P := prog) (fun (r : Int) => rI (r)) h1 iL (.t (.d rfl))
 refine AW.iter1 (fun (x2 : Int) i3 => ⟨[(6, qd f1), (7, rI ((f1.length : Int))), (8, rI (x2))], [], (i3 0), 18⟩) (vec [n0]) hit1 ((by exact Weak.cv ⟨jL, jL, jL, trivial⟩ trivial nL)) ?_
 intro x2 i3 v1 hv1 hx1
 have h2 : flow_CheckPart_L1 f1 x2 = some v1 := hv1; unfold flow_CheckPart_L1 at h2
 refine aS fun K5 hK5 wK5 => (aR (sQ rfl (sp_lss rfl iL iL) (aZ (hK5 _ ?_))))
 refine aS fun K6 hK6 wK6 => ?_
 refine aC rfl (fun hc1 => ?_) (fun hc1 => ?_)
 ·have h3 := ite_t hc1 h2
  refine AW.skip ?_
  refine hK6 _ ?_
  refine aS fun K7 hK7 wK7 => (AW.block (aS fun K8 hK8 wK8 => (aR (ob1k h3 fun x4 ex4 h4 => (sQ rfl (ms_idx rfl tg_27.slice iL iL (fun _ => rfl) (fun _ => ex4)) (sQ rfl (ms_loadA (cs := [rI (x4.Char), rI (x4.Ref), qa x4.Attrs]) rfl ta_60 iL rfl rfl) (AOps.step rfl rfl rfl (ms_alloc (cs := [rI (0), rI (0), .cst (.slice none 0 0)]) 4 rfl t0_60 rfl rfl) (AOps.step0 rfl rfl (ms_store_box (ds := [rI (x4.Char), rI (x4.Ref), qa x4.Attrs]) rfl tz_60 iL rfl iL rfl rfl rfl rfl) (aZ (hK8 _ ?_))))))))))
  refine aS fun K9 hK9 wK9 => (aR (sQ rfl (ms_loadA_box rfl ta_60 iL rfl rfl) (ob1k h4 fun e1 ee1 h5 => (AOps.step rfl rfl rfl (sp_call (r := rI (e1)) (caps := []) (bs := [.agg [rI (x4.Char), rI (x4.Ref), qa x4.Attrs]]) rfl iL rfl ⟨⟨_, iL, .g (cs := [.int .i64 x4.Char, .int .i64 x4.Ref, .sl (x4.Attrs.map GAttr.row)]) rfl rfl⟩, trivial⟩ (fun _ => w_flow_elem (ee1)) rfl) (sA rfl rfl (aZ (hK9 _ ?_)))))))
  refine aS fun K10 hK10 wK10 => (aR (sM rfl rfl (sQ rfl (sp_neq rfl iL iL) (aZ (hK10 _ ?_)))))
  refine aC rfl (fun hc2 => ?_) (fun hc2 => ?_)
  ·have h6 := ite_t hc2 h5
   refine aS fun K11 hK11 wK11 => ?_
   refine AW.weak (s' := ⟨[(5, rI (e1))], [], ((i3 0) + 1), 18⟩) (by exact Weak.cv ⟨jL, trivial⟩ trivial nL) ?_
   refine aR (sM rfl rfl (sA rfl rfl (aZ (hK11 _ ?_))))
   refine AW.ret ?_
   exact retf1 (P := prog) (fun (r : Int) => rI (r)) (he1 _ (hx1 _ (Option.some.inj h6).symm)) iL (.t (.d rfl))
  ·have h6 := ite_f hc2 h5
   refine AW.skip ?_
   refine hK7 _ ?_
   refine AW.weak (s' := ⟨[(6, qd f1), (7, rI ((f1.length : Int))), (8, rI (x2))], [], ((i3 0) + 1), 18⟩) (by exact Weak.cv ⟨jL, jL, jL, trivial⟩ trivial nL) ?_
   refine aR (ob1k h6 fun x5 ex5 h7 => (sQ rfl (ms_add rfl iL iL (fun _ => ex5)) (sM rfl rfl ?_)))
   refine AOps.nil ?_
   exact NextQ1.mk h7 (vec [((i3 0) + 1)]) ((by exact Weak.cv ⟨jL, jL, jL, trivial⟩ trivial nL))
 ·have h3 := ite_f hc1 h2
  refine AW.exit ?_
  exact wK2 _ _ ((by exact Weak.cv trivial trivial nL)) (J1 _ (vec [(i3 0)]) (hx1 _ (Option.some.inj h3).symm))
theorem w_delta_step {s1 : GStep} {r : Int} (h : delta_step s1 = some r) : ARO prog 112 [.agg [rI (s1.Kind), rI (s1.N), qa s1.Attrs, qd s1.Elems]] (rI (r)) := by
 unfold delta_step at h
 refine ARO.mkF func112 rfl rfl ntmps112 rfl (Nat.le_of_ble_eq_true rfl) fun n0 => ?_
 refine aS fun K1 hK1 wK1 => (aR (AOps.step rfl rfl rfl (ms_box (cs := [rI (s1.Kind), rI (s1.N), qa s1.Attrs, qd s1.Elems]) 1 rfl iL rfl rfl) (sA rfl rfl (aZ (hK1 _ ?_)))))
 refine aS fun K2 hK2 wK2 => (aS fun K3 hK3 wK3 => (aR (sQ rfl (fB rfl tf_98_0 iL fR rfl) (sQ rfl (ms_load_box (a := rI (s1.Kind)) rfl ts_3 iL rfl rfl) (aZ (hK3 _ ?_))))))
 refine AW.block (aS fun K4 hK4 wK4 => (aS fun K5 hK5 wK5 => (aR (sQ rfl (sp_eql rfl iL iL) (sA rfl rfl (aZ (hK5 _ ?_)))))))
 refine jb1k h fun p1 hp1 hk1 => ?_
 have J1 : ∀ (x1 : Bool) (i1 : Nat → Nat), p1 = x1 → K4 ⟨[(1, .ptr 1 n0 0 0), (4, rI (s1.Kind)), (5, rB (x1))], [(1, some (.box n0 98 [rI (s1.Kind), rI (s1.N), qa s1.Attrs, qd s1.Elems]))], (i1 0), 52⟩ := by
  intro x1 i1 e
  have h1 := hk1 _ e
  refine hK4 _ ?_
  refine aC rfl (fun hc1 => ?_) (fun hc1 => ?_)
  ·have h2 := ite_t hc1 h1
   refine aS fun K6 hK6 wK6 => (aS fun K7 hK7 wK7 => (aR (sQ rfl (fB rfl tf_98_3 iL fR rfl) (sQ rfl (ms_load_box (a := qd s1.Elems) rfl ts_27 iL rfl rfl) (sQ rfl (ms_len rfl tg_27.slice iL) (sQ rfl (sp_gtr rfl iL iL) (sM rfl rfl (sV rfl rfl rfl (fB rfl tf_98_0 iL fR rfl) (sV rfl rfl rfl (ms_load_box (a := rI (s1.Kind)) rfl ts_3 (iR rfl) rfl rfl) (sV rfl rfl rfl (sp_eql rfl (iR rfl) iL) (sV rfl rfl rfl (sp_move rfl (iR rfl)) ?_)))))))))))
   refine sW (.two rfl rfl rfl) rfl (fB rfl tf_98_2 iL fR rfl) ?_
   refine sW (.two rfl rfl rfl) rfl (ms_load_box (a := qa s1.Attrs) rfl ts_26 (iR rfl) rfl rfl) ?_
   refine sW (.two rfl rfl rfl) rfl (ms_len rfl tg_26.slice (iR rfl)) ?_
   refine sW (.two rfl rfl rfl) rfl (sp_gtr rfl (iR rfl) iL) ?_
   refine sV rfl rfl rfl (sp_and rfl (iR rfl) (iR rfl)) (sQ rfl (sp_or rfl iL (iR rfl)) (aZ (hK7 _ ?_)))
   refine aC rfl (fun hc2 => ?_) (fun hc2 => ?_)
   ·have h3 := ite_t hc2 h2
    refine aS fun K8 hK8 wK8 => ?_
    refine AW.weak (s' := ⟨[], [], (i1 0), 52⟩) (by exact Weak.cv trivial trivial nL) ?_
    refine aR (sA rfl rfl (aZ (hK8 _ ?_)))
    refine AW.ret ?_
    exact retf1 (P := prog) (fun (r : Int) => rI (r)) h3 iL (.t (.d rfl))
   ·have h3 := ite_f hc2 h2
    refine AW.skip ?_
    refine hK6 _ ?_
    refine aS fun K9 hK9 wK9 => (aS fun K10 hK10 wK10 => ?_)
    refine AW.weak (s' := ⟨[(1, .ptr 1 n0 0 0)], [(1, some (.box n0 98 [rI (s1.Kind), rI (s1.N), qa s1.Attrs, qd s1.Elems]))], (i1 0), 52⟩) (by exact Weak.cv ⟨jL, trivial⟩ ⟨.inl rfl, trivial⟩ nL) ?_
    refine aR (sQ rfl (fB rfl tf_98_1 iL fR rfl) (sQ rfl (ms_load_box (a := rI (s1.N)) rfl ts_3 iL rfl rfl) (sQ rfl (sp_lss rfl iL iL) (sM rfl rfl (sV rfl rfl rfl (fB rfl tf_98_1 iL fR rfl) (sV rfl rfl rfl (ms_load_box (a := rI (s1.N)) rfl ts_3 (iR rfl) rfl rfl) (sV rfl rfl rfl (sp_gtr rfl (iR rfl) iL) (sQ rfl (sp_or rfl iL (iR rfl)) (aZ (hK10 _ ?_))))))))))
    refine aC rfl (fun hc3 => ?_) (fun hc3 => ?_)
    ·have h4 := ite_t hc3 h3
     refine aS fun K11 hK11 wK11 => ?_
     refine AW.weak (s' := ⟨[], [], (i1 0), 52⟩) (by exact Weak.cv trivial trivial nL) ?_
     refine aR (sA rfl rfl (aZ (hK11 _ ?_)))
     refine AW.ret ?_
     exact retf1 (P := prog) (fun (r : Int) => rI (r)) h4 iL (.t (.d rfl))
    ·have h4 := ite_f hc3 h3
     refine AW.skip ?_
     refine hK9 _ ?_
     refine aS fun K12 hK12 wK12 => (aR (sQ rfl (fB rfl tf_98_2 iL fR rfl) (sQ rfl (ms_load_box (a := qa s1.Attrs) rfl ts_26 iL rfl rfl) (ob1k h4 fun r1 er1 h5 => (AOps.step rfl rfl rfl (sp_call (r := rI (r1)) (caps := []) (bs := [qa s1.Attrs]) rfl iL rfl ⟨⟨_, iL, .d rfl⟩, trivial⟩ (fun _ => w_attr_CheckChange (er1)) rfl) (sA rfl rfl (aZ (hK12 _ ?_))))))))
     refine AW.ret ?_
     exact retf1 (P := prog) (fun (r : Int) => rI (r)) h5 iL (.t (.d rfl))
  ·have h2 := ite_f hc1 h1
   refine aS fun K13 hK13 wK13 => (aR (sQ rfl (sp_eql rfl iL iL) (sA rfl rfl (aZ (hK13 _ ?_)))))
   refine aC rfl (fun hc4 => ?_) (fun hc4 => ?_)
   ·have h6 := ite_t hc4 h2
    refine aS fun K14 hK14 wK14 => (aS fun K15 hK15 wK15 => (aR (sQ rfl (fB rfl tf_98_1 iL fR rfl) (sQ rfl (ms_load_box (a := rI (s1.N)) rfl ts_3 iL rfl rfl) (sQ rfl (sp_neq rfl iL iL) (sM rfl rfl (sV rfl rfl rfl (fB rfl tf_98_2 iL fR rfl) (sV rfl rfl rfl (ms_load_box (a := qa s1.Attrs) rfl ts_26 (iR rfl) rfl rfl) (sV rfl rfl rfl (ms_len rfl tg_26.slice (iR rfl)) (sV rfl rfl rfl (sp_gtr rfl (iR rfl) iL) (sQ rfl (sp_or rfl iL (iR rfl)) (aZ (hK15 _ ?_)))))))))))))
    refine aC rfl (fun hc5 => ?_) (fun hc5 => ?_)
    ·have h7 := ite_t hc5 h6
     refine aS fun K16 hK16 wK16 => ?_
     refine AW.weak (s' := ⟨[], [], (i1 0), 52⟩) (by exact Weak.cv trivial trivial nL) ?_
     refine aR (sA rfl rfl (aZ (hK16 _ ?_)))
     refine AW.ret ?_
     exact retf1 (P := prog) (fun (r : Int) => rI (r)) h7 iL (.t (.d rfl))
    ·have h7 := ite_f hc5 h6
     refine AW.skip ?_
     refine hK14 _ ?_
     refine aS fun K17 hK17 wK17 => (aS fun K18 hK18 wK18 => ?_)
     refine AW.weak (s' := ⟨[(1, .ptr 1 n0 0 0)], [(1, some (.box n0 98 [rI (s1.Kind), rI (s1.N), qa s1.Attrs, qd s1.Elems]))], (i1 0), 52⟩) (by exact Weak.cv ⟨jL, trivial⟩ ⟨.inl rfl, trivial⟩ nL) ?_
     refine aR (sQ rfl (fB rfl tf_98_3 iL fR rfl) (sQ rfl (ms_load_box (a := qd s1.Elems) rfl ts_27 iL rfl rfl) (sQ rfl (ms_len rfl tg_27.slice iL) (sQ rfl (sp_eql rfl iL iL) (aZ (hK18 _ ?_))))))
     refine aC rfl (fun hc6 => ?_) (fun hc6 => ?_)
     ·have h8 := ite_t hc6 h7
      refine aS fun K19 hK19 wK19 => (aR (sA rfl rfl (aZ (hK19 _ ?_))))
      refine AW.ret ?_
      exact retf1 (P := prog) (fun (r : Int) => rI (r)) h8 iL (.t (.d rfl))
     ·have h8 := ite_f hc6 h7
      refine AW.skip ?_
      refine hK17 _ ?_
      refine aS fun K20 hK20 wK20 => (aR (sQ rfl (fB rfl tf_98_3 iL fR rfl) (sQ rfl (ms_load_box (a := qd s1.Elems) rfl ts_27 iL rfl rfl) (ob1k h8 fun r2 er2 h9 => (AOps.step rfl rfl rfl (sp_call (r := rI (r2)) (caps := []) (bs := [qd s1.Elems]) rfl iL rfl ⟨⟨_, iL, .d rfl⟩, trivial⟩ (fun _ => w_flow_CheckPart (er2)) rfl) (sA rfl rfl (aZ (hK20 _ ?_))))))))
      refine AW.ret ?_
      exact retf1 (P := prog) (fun (r : Int) => rI (r)) h9 iL (.t (.d rfl))
   ·have h6 := ite_f hc4 h2
    refine AW.skip ?_
    refine hK2 _ ?_
    refine aS fun K21 hK21 wK21 => (aR (sA rfl rfl (aZ (hK21 _ ?_))))
    refine AW.ret ?_
    exact retf1 (P := prog) (fun (r : Int) => rI (r)) h6 iL (.t (.d rfl))
 refine aC rfl (fun hc7 => ?_) (fun hc7 => ?_)
 ·have h10 := ite_t hc7 hp1
  refine AW.skip ?_
  exact wK4 _ _ ((by exact Weak.cv ⟨jL, jL, jL, trivial⟩ ⟨.inl rfl, trivial⟩ nL)) (J1 _ (vec [(n0 + 1)]) (Option.some.inj h10).symm)
 ·have h10 := ite_f hc7 hp1
  refine aR (sQ rfl (sp_eql rfl iL iL) (sA rfl rfl ?_))
  refine AOps.nil ?_
  exact wK4 _ _ ((by exact Weak.cv ⟨jL, jL, jL, trivial⟩ ⟨.inl rfl, trivial⟩ nL)) (J1 _ (vec [(n0 + 1)]) (Option.some.inj h10).symm)
theorem w_delta_size {s1 : GStep} {r : Int} (h : delta_size s1 = some r) : ARO prog 114 [.agg [rI (s1.Kind), rI (s1.N), qa s1.Attrs, qd s1.Elems]] (rI (r)) := by
 unfold delta_size at h
 refine ARO.mkF func114 rfl rfl ntmps114 rfl (Nat.le_of_ble_eq_true rfl) fun n0 => ?_
 refine aS fun K1 hK1 wK1 => (aR (AOps.step rfl rfl rfl (ms_box (cs := [rI (s1.Kind), rI (s1.N), qa s1.Attrs, qd s1.Elems]) 1 rfl iL rfl rfl) (sA rfl rfl (aZ (hK1 _ ?_)))))
 refine aS fun K2 hK2 wK2 => (aS fun K3 hK3 wK3 => (aR (sQ rfl (fB rfl tf_98_0 iL fR rfl) (sQ rfl (ms_load_box (a := rI (s1.Kind)) rfl ts_3 iL rfl rfl) (sQ rfl (sp_eql rfl iL iL) (aZ (hK3 _ ?_)))))))
 refine aC rfl (fun hc1 => ?_) (fun hc1 => ?_)
 ·have h1 := ite_t hc1 h
  refine aS fun K4 hK4 wK4 => (aR (sQ rfl (fB rfl tf_98_3 iL fR rfl) (sQ rfl (ms_load_box (a := qd s1.Elems) rfl ts_27 iL rfl rfl) (sQ rfl (ms_len rfl tg_27.slice iL) (sA rfl rfl (aZ (hK4 _ ?_)))))))
  refine AW.ret ?_
  exact retf1 (P := prog) (fun (r : Int) => rI (r)) h1 iL (.t (.d rfl))
 ·have h1 := ite_f hc1 h
  refine AW.skip ?_
  refine hK2 _ ?_
  refine aS fun K5 hK5 wK5 => (aR (sQ rfl (fB rfl tf_98_1 iL fR rfl) (sQ rfl (ms_load_box (a := rI (s1.N)) rfl ts_3 iL rfl rfl) (sA rfl rfl (aZ (hK5 _ ?_))))))
  refine AW.ret ?_
  exact retf1 (P := prog) (fun (r : Int) => rI (r)) h1 iL (.t (.d rfl))
theorem w_delta_Check {d1 : List GStep} {r : Int} (h : delta_Check d1 = some r) : ARO prog 46 [qh d1] (rI (r)) := by
 unfold delta_Check at h
 refine ARO.mkF func46 rfl rfl ntmps46 rfl (Nat.le_of_ble_eq_true rfl) fun n0 => ?_
 refine aS fun K1 hK1 wK1 => (aR (sA rfl rfl (aZ (hK1 _ ?_))))
 refine aS fun K2 hK2 wK2 => (aR (sA rfl rfl (sA rfl rfl (aZ (hK2 _ ?_)))))
 refine aS fun K3 hK3 wK3 => (aS fun K4 hK4 wK4 => (aR (sM rfl rfl (sQ rfl (ms_len rfl tg_35.slice iL) (sM rfl rfl (aZ (hK4 _ ?_)))))))
 refine AW.block ?_
 refine jc2k h fun o1 hit1 hk1 he1 => ?_
 have J1 : ∀ (before4 : Int) (after4 : Int) (i5 : Nat → Nat), o1 = .nrm (before4, after4) → K3 ⟨[(3, rI (before4)), (4, rI (after4))], [], (i5 0), 78⟩ := by
  intro before4 after4 i5 e
  have h1 := hk1 _ _ e
  refine hK3 _ ?_
  refine aS fun K5 hK5 wK5 => (aS fun K6 hK6 wK6 => (aR (sM rfl rfl (sQ rfl (sp_gtr rfl iL iL) (sM rfl rfl (sV rfl rfl rfl (sp_move rfl iL) (sV rfl rfl rfl (sp_gtr rfl (iR rfl) iL) (sQ rfl (sp_or rfl iL (iR rfl)) (aZ (hK6 _ ?_))))))))))
  refine aC rfl (fun hc1 => ?_) (fun hc1 => ?_)
  ·have h2 := ite_t hc1 h1
   refine aS fun K7 hK7 wK7 => (aR (sA rfl rfl (aZ (hK7 _ ?_))))
   refine AW.ret ?_
   exact retf1 (P := prog) (fun (r : Int) => rI (r)) h2 iL (.t (.d rfl))
  ·have h2 := ite_f hc1 h1
   refine AW.skip ?_
   refine hK5 _ ?_
   refine aS fun K8 hK8 wK8 => (aR (sA rfl rfl (aZ (hK8 _ ?_))))
   refine AW.ret ?_
   exact retf1 (P := prog) (fun (r : Int) => rI (r)) h2 iL (.t (.d rfl))
 refine AW.iter3 (fun (before2 : Int) (after2 : Int) (x2 : Int) i3 => ⟨[(0, qh d1), (3, rI (before2)), (4, rI (after2)), (9, qh d1), (10, rI ((d1.length : Int))), (11, rI (x2))], [], (i3 0), 78⟩) (vec [n0]) hit1 ((by exact Weak.cv ⟨jL, jL, jL, jL, jL, jL, trivial⟩ trivial nL)) ?_
 intro before2 after2 x2 i3 v1 hv1 hx1
 have h3 : delta_Check_L1 d1 before2 after2 x2 = some v1 := hv1; unfold delta_Check_L1 at h3
 refine aS fun K9 hK9 wK9 => (aR (sQ rfl (sp_lss rfl iL iL) (aZ (hK9 _ ?_))))
 refine aS fun K10 hK10 wK10 => ?_
 refine aC rfl (fun hc2 => ?_) (fun hc2 => ?_)
 ·have h4 := ite_t hc2 h3
  refine AW.skip ?_
  refine hK10 _ ?_
  refine aS fun K11 hK11 wK11 => (AW.block ?_)
  refine jc2k h4 fun p1 hp1 hk2 he2 => ?_
  have J2 : ∀ (before5 : Int) (after5 : Int) (i6 : Nat → Nat), p1 = .nrm (before5, after5) → K11 ⟨[(0, qh d1), (3, rI (before5)), (4, rI (after5)), (9, qh d1), (10, rI ((d1.length : Int))), (11, rI (x2))], [], (i6 0), 78⟩ := by
   intro before5 after5 i6 e
   have h5 := hk2 _ _ e
   refine hK11 _ ?_
   refine aR (ob1k h5 fun x4 ex4 h6 => (sQ rfl (ms_add rfl iL iL (fun _ => ex4)) (sM rfl rfl ?_)))
   refine AOps.nil ?_
   exact NextQ3.mk h6 (vec [(i6 0)]) ((by exact Weak.cv ⟨jL, jL, jL, jL, jL, jL, trivial⟩ trivial nL))
  refine aS fun K12 hK12 wK12 => (aR (sM rfl rfl (ob1k hp1 fun x5 ex5 h7 => (sQ rfl (ms_idx rfl tg_35.slice iL iL (fun _ => rfl) (fun _ => ex5)) (sQ rfl (ms_loadA (cs := [rI (x5.Kind), rI (x5.N), qa x5.Attrs, qd x5.Elems]) rfl ta_98 iL rfl rfl) (AOps.step rfl rfl rfl (ms_alloc (cs := [rI (0), rI (0), .cst (.slice none 0 0), .cst (.slice none 0 0)]) 6 rfl t0_98 rfl rfl) (sA rfl rfl (AOps.step0 rfl rfl (ms_store_box (ds := [rI (x5.Kind), rI (x5.N), qa x5.Attrs, qd x5.Elems]) rfl tz_98 iL rfl iL rfl rfl rfl rfl) (aZ (hK12 _ ?_))))))))))
  refine aS fun K13 hK13 wK13 => (aS fun K14 hK14 wK14 => (aR (sQ rfl (ms_loadA_box rfl ta_98 iL rfl rfl) (ob1k h7 fun e1 ee1 h8 => (AOps.step rfl rfl rfl (sp_call (r := rI (e1)) (caps := []) (bs := [.agg [rI (x5.Kind), rI (x5.N), qa x5.Attrs, qd x5.Elems]]) rfl iL rfl ⟨⟨_, iL, .g (cs := [.int .i64 x5.Kind, .int .i64 x5.N, .sl (x5.Attrs.map GAttr.row), .sl (x5.Elems.map GElem.row)]) rfl rfl⟩, trivial⟩ (fun _ => w_delta_step (ee1)) rfl) (sA rfl rfl (aZ (hK14 _ ?_))))))))
  refine aS fun K15 hK15 wK15 => (aR (sM rfl rfl (sQ rfl (sp_neq rfl iL iL) (aZ (hK15 _ ?_)))))
  refine aC rfl (fun hc3 => ?_) (fun hc3 => ?_)
  ·have h9 := ite_t hc3 h8
   refine aS fun K16 hK16 wK16 => ?_
   refine AW.weak (s' := ⟨[(7, rI (e1))], [], ((i3 0) + 1), 78⟩) (by exact Weak.cv ⟨jL, trivial⟩ trivial nL) ?_
   refine aR (sM rfl rfl (sA rfl rfl (aZ (hK16 _ ?_))))
   refine AW.ret ?_
   exact retf1 (P := prog) (fun (r : Int) => rI (r)) (he1 _ (hx1 _ (Option.some.inj (he2 _ (Option.some.inj h9).symm)).symm)) iL (.t (.d rfl))
  ·have h9 := ite_f hc3 h8
   refine AW.skip ?_
   refine hK13 _ ?_
   refine aS fun K17 hK17 wK17 => (aS fun K18 hK18 wK18 => ?_)
   refine AW.weak (s' := ⟨[(0, qh d1), (3, rI (before2)), (4, rI (after2)), (5, rI (x2)), (6, .ptr 6 (i3 0) 0 0), (9, qh d1), (10, rI ((d1.length : Int))), (11, rI (x2))], [(6, some (.box (i3 0) 98 [rI (x5.Kind), rI (x5.N), qa x5.Attrs, qd x5.Elems]))], ((i3 0) + 1), 78⟩) (by exact Weak.cv ⟨jL, jL, jL, jL, jL, jL, jL, jL, trivial⟩ ⟨.inl rfl, trivial⟩ nL) ?_
   refine aR (sM rfl rfl (sQ rfl (sp_gtr rfl iL iL) (aZ (hK18 _ ?_))))
   refine jc1k h9 fun p2 hp2 hk3 he3 => ?_
   have J3 : ∀ (u2 : Unit) (i7 : Nat → Nat), p2 = .nrm u2 → K17 ⟨[(0, qh d1), (3, rI (before2)), (4, rI (after2)), (6, .ptr 6 (i3 0) 0 0), (9, qh d1), (10, rI ((d1.length : Int))), (11, rI (x2))], [(6, some (.box (i3 0) 98 [rI (x5.Kind), rI (x5.N), qa x5.Attrs, qd x5.Elems]))], (i7 0), 78⟩ := by
    intro u2 i7 e
    have h10 := hk3 _ e
    refine hK17 _ ?_
    refine aS fun K19 hK19 wK19 => (aS fun K20 hK20 wK20 => (aR (sQ rfl (fB rfl tf_98_0 iL fR rfl) (sQ rfl (ms_load_box (a := rI (x5.Kind)) rfl ts_3 iL rfl rfl) (sQ rfl (sp_neq rfl iL iL) (aZ (hK20 _ ?_)))))))
    refine jb1k h10 fun p3 hp3 hk4 => ?_
    have J4 : ∀ (before6 : Int) (i8 : Nat → Nat), p3 = before6 → K19 ⟨[(0, qh d1), (3, rI (before6)), (4, rI (after2)), (6, .ptr 6 (i3 0) 0 0), (9, qh d1), (10, rI ((d1.length : Int))), (11, rI (x2))], [(6, some (.box (i3 0) 98 [rI (x5.Kind), rI (x5.N), qa x5.Attrs, qd x5.Elems]))], (i8 0), 78⟩ := by
     intro before6 i8 e
     have h11 := hk4 _ e
     refine hK19 _ ?_
     refine aS fun K21 hK21 wK21 => (aR (sQ rfl (fB rfl tf_98_0 iL fR rfl) (sQ rfl (ms_load_box (a := rI (x5.Kind)) rfl ts_3 iL rfl rfl) (sQ rfl (sp_neq rfl iL iL) (aZ (hK21 _ ?_))))))
     refine aC rfl (fun hc4 => ?_) (fun hc4 => ?_)
     ·have h12 := ite_t hc4 h11
      refine aR (sM rfl rfl (sQ rfl (ms_loadA_box rfl ta_98 iL rfl rfl) (ob1k h12 fun r1 er1 h13 => (AOps.step rfl rfl rfl (sp_call (r := rI (r1)) (caps := []) (bs := [.agg [rI (x5.Kind), rI (x5.N), qa x5.Attrs, qd x5.Elems]]) rfl iL rfl ⟨⟨_, iL, .g (cs := [.int .i64 x5.Kind, .int .i64 x5.N, .sl (x5.Attrs.map GAttr.row), .sl (x5.Elems.map GElem.row)]) rfl rfl⟩, trivial⟩ (fun _ => w_delta_size (er1)) rfl) (ob1k h13 fun x6 ex6 h14 => (sQ rfl (ms_add rfl iL iL (fun _ => ex6)) (sQ rfl (sp_min rfl iL iL) (sA rfl rfl ?_))))))))
      refine AOps.nil ?_
      exact wK11 _ _ ((by exact Weak.cv ⟨jL, jL, jL, jL, jL, jL, trivial⟩ trivial nL)) (J2 _ _ (vec [(i8 0)]) (Option.some.inj h14).symm)
     ·have h12 := ite_f hc4 h11
      refine AW.skip ?_
      exact wK11 _ _ ((by exact Weak.cv ⟨jL, jL, jL, jL, jL, jL, trivial⟩ trivial nL)) (J2 _ _ (vec [(i8 0)]) (Option.some.inj h12).symm)
    refine aC rfl (fun hc5 => ?_) (fun hc5 => ?_)
    ·have h15 := ite_t hc5 hp3
     refine aR (sM rfl rfl (sQ rfl (fB rfl tf_98_1 iL fR rfl) (sQ rfl (ms_load_box (a := rI (x5.N)) rfl ts_3 iL rfl rfl) (ob1k h15 fun x7 ex7 h16 => (sQ rfl (ms_add rfl iL iL (fun _ => ex7)) (sQ rfl (sp_min rfl iL iL) (sA rfl rfl ?_)))))))
     refine AOps.nil ?_
     exact wK19 _ _ ((by exact Weak.cv ⟨jL, jL, jL, jL, jL, jL, jL, trivial⟩ ⟨.inl rfl, trivial⟩ nL)) (J4 _ (vec [(i7 0)]) (Option.some.inj h16).symm)
    ·have h15 := ite_f hc5 hp3
     refine AW.skip ?_
     exact wK19 _ _ ((by exact Weak.cv ⟨jL, jL, jL, jL, jL, jL, jL, trivial⟩ ⟨.inl rfl, trivial⟩ nL)) (J4 _ (vec [(i7 0)]) (Option.some.inj h15).symm)
   refine aC rfl (fun hc6 => ?_) (fun hc6 => ?_)
   ·have h17 := ite_t hc6 hp2
    refine aS fun K22 hK22 wK22 => (aR (sM rfl rfl (sM rfl rfl (ob1k h17 fun x8 ex8 h18 => (sQ rfl (ms_sub rfl iL iL (fun _ => ex8)) (ob1k h18 fun x9 ex9 h19 => (sQ rfl (ms_idx rfl tg_35.slice iL iL (fun _ => rfl) (fun _ => ex9)) (sQ rfl (ms_loadA (cs := [rI (x9.Kind), rI (x9.N), qa x9.Attrs, qd x9.Elems]) rfl ta_98 iL rfl rfl) (AOps.step rfl rfl rfl (ms_alloc (cs := [rI (0), rI (0), .cst (.slice none 0 0), .cst (.slice none 0 0)]) 8 rfl t0_98 rfl rfl) (AOps.step0 rfl rfl (ms_store_box (ds := [rI (x9.Kind), rI (x9.N), qa x9.Attrs, qd x9.Elems]) rfl tz_98 iL rfl iL rfl rfl rfl rfl) (aZ (hK22 _ ?_))))))))))))
    refine aS fun K23 hK23 wK23 => (aR (sQ rfl (fB rfl tf_98_0 iL fR rfl) (sQ rfl (ms_load_box (a := rI (x9.Kind)) rfl ts_3 iL rfl rfl) (sQ rfl (fB rfl tf_98_0 iL fR rfl) (sQ rfl (ms_load_box (a := rI (x5.Kind)) rfl ts_3 iL rfl rfl) (sQ rfl (sp_eql rfl iL iL) (sM rfl rfl (sV rfl rfl rfl (fB rfl tf_98_0 iL fR rfl) (sV rfl rfl rfl (ms_load_box (a := rI (x5.Kind)) rfl ts_3 (iR rfl) rfl rfl) (sV rfl rfl rfl (sp_neq rfl (iR rfl) iL) (sV rfl rfl rfl (sp_move rfl (iR rfl)) ?_)))))))))))
    refine sW (.two rfl rfl rfl) rfl (fB rfl tf_98_2 iL fR rfl) ?_
    refine sW (.two rfl rfl rfl) rfl (ms_load_box (a := qa x9.Attrs) rfl ts_26 (iR rfl) rfl rfl) ?_
    refine sW (.two rfl rfl rfl) rfl (fB rfl tf_98_2 iL fR rfl) ?_
    refine sW (.two rfl rfl rfl) rfl (ms_load_box (a := qa x5.Attrs) rfl ts_26 (iR rfl) rfl rfl) ?_
    refine ob1k h19 fun r2 er2 h20 => ?_
    refine AOps.stepW (.two rfl rfl rfl) rfl rfl (sp_call (r := rB (r2)) (caps := []) (bs := [qa x9.Attrs, qa x5.Attrs]) rfl iL rfl ⟨⟨_, (iR rfl), .d rfl⟩, ⟨_, (iR rfl), .d rfl⟩, trivial⟩ (fun hg => w_attr_Same (gdt er2 hg)) rfl) ?_
    refine sV rfl rfl rfl (sp_or rfl (iR rfl) (iR rfl)) (sQ rfl (sp_and rfl iL (iR rfl)) (sM rfl rfl (sV rfl rfl rfl (fB rfl tf_98_0 iL fR rfl) (sV rfl rfl rfl (ms_load_box (a := rI (x9.Kind)) rfl ts_3 (iR rfl) rfl rfl) (sV rfl rfl rfl (sp_eql rfl (iR rfl) iL) (sV rfl rfl rfl (sp_move rfl (iR rfl)) ?_))))))
    refine sW (.two rfl rfl rfl) rfl (fB rfl tf_98_0 iL fR rfl) ?_
    refine sW (.two rfl rfl rfl) rfl (ms_load_box (a := rI (x5.Kind)) rfl ts_3 (iR rfl) rfl rfl) ?_
    refine sW (.two rfl rfl rfl) rfl (sp_eql rfl (iR rfl) iL) ?_
    refine sV rfl rfl rfl (sp_and rfl (iR rfl) (iR rfl)) (sQ rfl (sp_or rfl iL (iR rfl)) (aZ (hK23 _ ?_)))
    refine aC rfl (fun hc7 => ?_) (fun hc7 => ?_)
    ·have h21 := ite_t hc7 h20
     refine aS fun K24 hK24 wK24 => ?_
     refine AW.weak (s' := ⟨[], [], ((i3 0) + 2), 78⟩) (by exact Weak.cv trivial trivial nL) ?_
     refine aR (sA rfl rfl (aZ (hK24 _ ?_)))
     refine AW.ret ?_
     exact retf1 (P := prog) (fun (r : Int) => rI (r)) (he1 _ (hx1 _ (Option.some.inj (he2 _ (Option.some.inj (he3 _ (Option.some.inj h21).symm)).symm)).symm)) iL (.t (.d rfl))
    ·have h21 := ite_f hc7 h20
     refine AW.skip ?_
     exact wK17 _ _ ((by exact Weak.cv ⟨jL, jL, jL, jL, jL, jL, jL, trivial⟩ ⟨.inl rfl, trivial⟩ nL)) (J3 _ (vec [((i3 0) + 2)]) (Option.some.inj h21).symm)
   ·have h17 := ite_f hc6 hp2
    refine AW.skip ?_
    exact wK17 _ _ ((by exact Weak.cv ⟨jL, jL, jL, jL, jL, jL, jL, trivial⟩ ⟨.inl rfl, trivial⟩ nL)) (J3 _ (vec [((i3 0) + 1)]) (Option.some.inj h17).symm)
 ·have h4 := ite_f hc2 h3
  refine AW.exit ?_
  exact wK3 _ _ ((by exact Weak.cv ⟨jL, jL, trivial⟩ trivial nL)) (J1 _ _ (vec [(i3 0)]) (hx1 _ (Option.some.inj h4).symm))
theorem w_axis_Check {a1 : List GAxisStep} {r : Int} (h : axis_Check a1 = some r) : ARO prog 115 [qf a1] (rI (r)) := by
 unfold axis_Check at h
 refine ARO.mkF func115 rfl rfl ntmps115 rfl (Nat.le_of_ble_eq_true rfl) fun n0 => ?_
 refine aS fun K1 hK1 wK1 => (aR (sA rfl rfl (aZ (hK1 _ ?_))))
 refine aS fun K2 hK2 wK2 => (aR (sA rfl rfl (sA rfl rfl (aZ (hK2 _ ?_)))))
 refine aS fun K3 hK3 wK3 => (aS fun K4 hK4 wK4 => (aR (sM rfl rfl (sQ rfl (ms_len rfl tg_36.slice iL) (sM rfl rfl (aZ (hK4 _ ?_)))))))
 refine AW.block ?_
 refine jc2k h fun o1 hit1 hk1 he1 => ?_
 have J1 : ∀ (before4 : Int) (after4 : Int) (i5 : Nat → Nat), o1 = .nrm (before4, after4) → K3 ⟨[(3, rI (before4)), (4, rI (after4))], [], (i5 0), 83⟩ := by
  intro before4 after4 i5 e
  have h1 := hk1 _ _ e
  refine hK3 _ ?_
  refine aS fun K5 hK5 wK5 => (aS fun K6 hK6 wK6 => (aR (sM rfl rfl (sQ rfl (sp_gtr rfl iL iL) (sM rfl rfl (sV rfl rfl rfl (sp_move rfl iL) (sV rfl rfl rfl (sp_gtr rfl (iR rfl) iL) (sQ rfl (sp_or rfl iL (iR rfl)) (aZ (hK6 _ ?_))))))))))
  refine aC rfl (fun hc1 => ?_) (fun hc1 => ?_)
  ·have h2 := ite_t hc1 h1
   refine aS fun K7 hK7 wK7 => (aR (sA rfl rfl (aZ (hK7 _ ?_))))
   refine AW.ret ?_
   exact retf1 (P := prog) (fun (r : Int) => rI (r)) h2 iL (.t (.d rfl))
  ·have h2 := ite_f hc1 h1
   refine AW.skip ?_
   refine hK5 _ ?_
   refine aS fun K8 hK8 wK8 => (aR (sA rfl rfl (aZ (hK8 _ ?_))))
   refine AW.ret ?_
   exact retf1 (P := prog) (fun (r : Int) => rI (r)) h2 iL (.t (.d rfl))
 refine AW.iter3 (fun (before2 : Int) (after2 : Int) (x2 : Int) i3 => ⟨[(0, qf a1), (3, rI (before2)), (4, rI (after2)), (7, qf a1), (8, rI ((a1.length : Int))), (9, rI (x2))], [], (i3 0), 83⟩) (vec [n0]) hit1 ((by exact Weak.cv ⟨jL, jL, jL, jL, jL, jL, trivial⟩ trivial nL)) ?_
 intro before2 after2 x2 i3 v1 hv1 hx1
 have h3 : axis_Check_L1 a1 before2 after2 x2 = some v1 := hv1; unfold axis_Check_L1 at h3
 refine aS fun K9 hK9 wK9 => (aR (sQ rfl (sp_lss rfl iL iL) (aZ (hK9 _ ?_))))
 refine aS fun K10 hK10 wK10 => ?_
 refine aC rfl (fun hc2 => ?_) (fun hc2 => ?_)
 ·have h4 := ite_t hc2 h3
  refine AW.skip ?_
  refine hK10 _ ?_
  refine aS fun K11 hK11 wK11 => (AW.block ?_)
  refine jc2k h4 fun p1 hp1 hk2 he2 => ?_
  have J2 : ∀ (before5 : Int) (after5 : Int) (i6 : Nat → Nat), p1 = .nrm (before5, after5) → K11 ⟨[(0, qf a1), (3, rI (before5)), (4, rI (after5)), (7, qf a1), (8, rI ((a1.length : Int))), (9, rI (x2))], [], (i6 0), 83⟩ := by
   intro before5 after5 i6 e
   have h5 := hk2 _ _ e
   refine hK11 _ ?_
   refine aR (ob1k h5 fun x4 ex4 h6 => (sQ rfl (ms_add rfl iL iL (fun _ => ex4)) (sM rfl rfl ?_)))
   refine AOps.nil ?_
   exact NextQ3.mk h6 (vec [(i6 0)]) ((by exact Weak.cv ⟨jL, jL, jL, jL, jL, jL, trivial⟩ trivial nL))
  refine aS fun K12 hK12 wK12 => (aR (sM rfl rfl (ob1k hp1 fun x5 ex5 h7 => (sQ rfl (ms_idx rfl tg_36.slice iL iL (fun _ => rfl) (fun _ => ex5)) (sQ rfl (ms_loadA (cs := [rI (x5.Kind), rI (x5.N)]) rfl ta_180 iL rfl rfl) (AOps.step rfl rfl rfl (ms_alloc (cs := [rI (0), rI (0)]) 6 rfl t0_180 rfl rfl) (sA rfl rfl (AOps.step0 rfl rfl (ms_store_box (ds := [rI (x5.Kind), rI (x5.N)]) rfl tz_180 iL rfl iL rfl rfl rfl rfl) (aZ (hK12 _ ?_))))))))))
  refine aS fun K13 hK13 wK13 => (AW.block (aS fun K14 hK14 wK14 => (aR (sQ rfl (fB rfl tf_180_0 iL fR rfl) (sQ rfl (ms_load_box (a := rI (x5.Kind)) rfl ts_3 iL rfl rfl) (sQ rfl (sp_lss rfl iL iL) (sM rfl rfl (sV rfl rfl rfl (fB rfl tf_180_0 iL fR rfl) (sV rfl rfl rfl (ms_load_box (a := rI (x5.Kind)) rfl ts_3 (iR rfl) rfl rfl) (sV rfl rfl rfl (sp_gtr rfl (iR rfl) iL) (sQ rfl (sp_or rfl iL (iR rfl)) (sA rfl rfl (aZ (hK14 _ ?_))))))))))))))
  refine aC rfl (fun hc3 => ?_) (fun hc3 => ?_)
  ·have h8 := ite_t hc3 h7
   refine aS fun K15 hK15 wK15 => ?_
   refine AW.weak (s' := ⟨[], [], ((i3 0) + 1), 83⟩) (by exact Weak.cv trivial trivial nL) ?_
   refine aR (sA rfl rfl (aZ (hK15 _ ?_)))
   refine AW.ret ?_
   exact retf1 (P := prog) (fun (r : Int) => rI (r)) (he1 _ (hx1 _ (Option.some.inj (he2 _ (Option.some.inj h8).symm)).symm)) iL (.t (.d rfl))
  ·have h8 := ite_f hc3 h7
   refine aS fun K16 hK16 wK16 => ?_
   refine AW.weak (s' := ⟨[(0, qf a1), (3, rI (before2)), (4, rI (after2)), (5, rI (x2)), (6, .ptr 6 (i3 0) 0 0), (7, qf a1), (8, rI ((a1.length : Int))), (9, rI (x2))], [(6, some (.box (i3 0) 180 [rI (x5.Kind), rI (x5.N)]))], ((i3 0) + 1), 83⟩) (by exact Weak.cv ⟨jL, jL, jL, jL, jL, jL, jL, jL, trivial⟩ ⟨.inl rfl, trivial⟩ nL) ?_
   refine aR (sQ rfl (fB rfl tf_180_1 iL fR rfl) (sQ rfl (ms_load_box (a := rI (x5.N)) rfl ts_3 iL rfl rfl) (sQ rfl (sp_lss rfl iL iL) (sM rfl rfl (sV rfl rfl rfl (fB rfl tf_180_1 iL fR rfl) (sV rfl rfl rfl (ms_load_box (a := rI (x5.N)) rfl ts_3 (iR rfl) rfl rfl) (sV rfl rfl rfl (sp_gtr rfl (iR rfl) iL) (sQ rfl (sp_or rfl iL (iR rfl)) (sA rfl rfl (aZ (hK16 _ ?_)))))))))))
   refine aC rfl (fun hc4 => ?_) (fun hc4 => ?_)
   ·have h9 := ite_t hc4 h8
    refine aS fun K17 hK17 wK17 => ?_
    refine AW.weak (s' := ⟨[], [], ((i3 0) + 1), 83⟩) (by exact Weak.cv trivial trivial nL) ?_
    refine aR (sA rfl rfl (aZ (hK17 _ ?_)))
    refine AW.ret ?_
    exact retf1 (P := prog) (fun (r : Int) => rI (r)) (he1 _ (hx1 _ (Option.some.inj (he2 _ (Option.some.inj h9).symm)).symm)) iL (.t (.d rfl))
   ·have h9 := ite_f hc4 h8
    refine aS fun K18 hK18 wK18 => ?_
    refine AW.regionQ hmix (by kernel_rfl) ?_
    refine AQ.step rfl rfl rfl (sp_move rfl iL) (AQ.step rfl rfl rfl (sp_gtr rfl iL iL) (AQ.step rfl rfl rfl (sp_move rfl iL) ?_))
    refine AQ.stepW (.one rfl rfl rfl) rfl rfl (sp_move rfl iL) ?_
    refine AQ.stepW (.one rfl rfl rfl) rfl rfl (sp_move rfl iL) ?_
    refine ob1k h9 fun x6 ex6 h10 => ?_
    refine AQ.stepW (.one rfl rfl rfl) rfl rfl (ms_sub rfl (iR rfl) iL (gdt ex6)) ?_
    refine ob1k h10 fun x7 ex7 h11 => ?_
    refine AQ.stepW (.one rfl rfl rfl) rfl rfl (ms_idx rfl tg_36.slice (iR rfl) (iR rfl) (fun _ => rfl) (gdt ex7)) ?_
    refine AQ.stepW (.one rfl rfl rfl) rfl rfl (sp_fieldAddr_ro rfl tf_180_0 (iR rfl)) ?_
    refine AQ.stepW (.one rfl rfl rfl) rfl rfl (ms_load (d := .int .i64 x7.Kind) rfl ts_3 (iR rfl) rfl) ?_
    refine AQ.stepW (.one rfl rfl rfl) rfl rfl (fB rfl tf_180_0 iL fR rfl) ?_
    refine AQ.stepW (.one rfl rfl rfl) rfl rfl (ms_load_box (a := rI (x5.Kind)) rfl ts_3 (iR rfl) rfl rfl) ?_
    refine AQ.stepW (.one rfl rfl rfl) rfl rfl (sp_eql rfl (iR rfl) (iR rfl)) ?_
    refine AQ.stepW (.one rfl rfl rfl) rfl rfl (sp_move rfl (iR rfl)) ?_
    refine AQ.stepW (.two rfl rfl rfl) rfl rfl (sp_move rfl iL) ?_
    refine AQ.stepW (.two rfl rfl rfl) rfl rfl (sp_move rfl iL) ?_
    refine AQ.stepW (.two rfl rfl rfl) rfl rfl (ms_sub rfl (iR rfl) iL (fun h => gdt ex6 (Bool.and_eq_true_iff.1 h).1)) ?_
    refine AQ.stepW (.two rfl rfl rfl) rfl rfl (ms_idx rfl tg_36.slice (iR rfl) (iR rfl) (fun _ => rfl) (fun h => gdt ex7 (Bool.and_eq_true_iff.1 h).1)) ?_
    refine AQ.stepW (.two rfl rfl rfl) rfl rfl (sp_fieldAddr_ro rfl tf_180_0 (iR rfl)) ?_
    refine AQ.stepW (.two rfl rfl rfl) rfl rfl (ms_load (d := .int .i64 x7.Kind) rfl ts_3 (iR rfl) rfl) ?_
    refine AQ.stepW (.two rfl rfl rfl) rfl rfl (sp_eql rfl (iR rfl) iL) ?_
    refine AQ.stepW (.two rfl rfl rfl) rfl rfl (sp_move rfl (iR rfl)) ?_
    refine AQ.stepW (.two rfl rfl rfl) rfl rfl (fB rfl tf_180_0 iL fR rfl) ?_
    refine AQ.stepW (.two rfl rfl rfl) rfl rfl (ms_load_box (a := rI (x5.Kind)) rfl ts_3 (iR rfl) rfl rfl) ?_
    refine AQ.stepW (.two rfl rfl rfl) rfl rfl (sp_eql rfl (iR rfl) iL) ?_
    refine AQ.stepW (.two rfl rfl rfl) rfl rfl (sp_and rfl (iR rfl) (iR rfl)) ?_
    refine AQ.stepW (.one rfl rfl rfl) rfl rfl (sp_or rfl (iR rfl) (iR rfl)) ?_
    refine AQ.step rfl rfl rfl (sp_and rfl iL (iR rfl)) (AQ.step rfl rfl rfl (sp_assign rfl iL) ?_)
    refine AQ.nil ?_
    refine hK18 _ ?_
    refine aC rfl (fun hc5 => ?_) (fun hc5 => ?_)
    ·have h12 := ite_t hc5 h11
     refine aS fun K19 hK19 wK19 => ?_
     refine AW.weak (s' := ⟨[], [], ((i3 0) + 1), 83⟩) (by exact Weak.cv trivial trivial nL) ?_
     refine aR (sA rfl rfl (aZ (hK19 _ ?_)))
     refine AW.ret ?_
     exact retf1 (P := prog) (fun (r : Int) => rI (r)) (he1 _ (hx1 _ (Option.some.inj (he2 _ (Option.some.inj h12).symm)).symm)) iL (.t (.d rfl))
    ·have h12 := ite_f hc5 h11
     refine AW.skip ?_
     refine hK13 _ ?_
     refine aS fun K20 hK20 wK20 => (aS fun K21 hK21 wK21 => ?_)
     refine AW.weak (s' := ⟨[(0, qf a1), (3, rI (before2)), (4, rI (after2)), (6, .ptr 6 (i3 0) 0 0), (7, qf a1), (8, rI ((a1.length : Int))), (9, rI (x2))], [(6, some (.box (i3 0) 180 [rI (x5.Kind), rI (x5.N)]))], ((i3 0) + 1), 83⟩) (by exact Weak.cv ⟨jL, jL, jL, jL, jL, jL, jL, trivial⟩ ⟨.inl rfl, trivial⟩ nL) ?_
     refine aR (sQ rfl (fB rfl tf_180_0 iL fR rfl) (sQ rfl (ms_load_box (a := rI (x5.Kind)) rfl ts_3 iL rfl rfl) (sQ rfl (sp_neq rfl iL iL) (aZ (hK21 _ ?_)))))
     refine jb1k h12 fun p2 hp2 hk3 => ?_
     have J3 : ∀ (before6 : Int) (i7 : Nat → Nat), p2 = before6 → K20 ⟨[(0, qf a1), (3, rI (before6)), (4, rI (after2)), (6, .ptr 6 (i3 0) 0 0), (7, qf a1), (8, rI ((a1.length : Int))), (9, rI (x2))], [(6, some (.box (i3 0) 180 [rI (x5.Kind), rI (x5.N)]))], (i7 0), 83⟩ := by
      intro before6 i7 e
      have h13 := hk3 _ e
      refine hK20 _ ?_
      refine aS fun K22 hK22 wK22 => (aR (sQ rfl (fB rfl tf_180_0 iL fR rfl) (sQ rfl (ms_load_box (a := rI (x5.Kind)) rfl ts_3 iL rfl rfl) (sQ rfl (sp_neq rfl iL iL) (aZ (hK22 _ ?_))))))
      refine aC rfl (fun hc6 => ?_) (fun hc6 => ?_)
      ·have h14 := ite_t hc6 h13
       refine aR (sM rfl rfl (sQ rfl (fB rfl tf_180_1 iL fR rfl) (sQ rfl (ms_load_box (a := rI (x5.N)) rfl ts_3 iL rfl rfl) (ob1k h14 fun x8 ex8 h15 => (sQ rfl (ms_add rfl iL iL (fun _ => ex8)) (sQ rfl (sp_min rfl iL iL) (sA rfl rfl ?_)))))))
       refine AOps.nil ?_
       exact wK11 _ _ ((by exact Weak.cv ⟨jL, jL, jL, jL, jL, jL, trivial⟩ trivial nL)) (J2 _ _ (vec [(i7 0)]) (Option.some.inj h15).symm)
      ·have h14 := ite_f hc6 h13
       refine AW.skip ?_
       exact wK11 _ _ ((by exact Weak.cv ⟨jL, jL, jL, jL, jL, jL, trivial⟩ trivial nL)) (J2 _ _ (vec [(i7 0)]) (Option.some.inj h14).symm)
     refine aC rfl (fun hc7 => ?_) (fun hc7 => ?_)
     ·have h16 := ite_t hc7 hp2
      refine aR (sM rfl rfl (sQ rfl (fB rfl tf_180_1 iL fR rfl) (sQ rfl (ms_load_box (a := rI (x5.N)) rfl ts_3 iL rfl rfl) (ob1k h16 fun x9 ex9 h17 => (sQ rfl (ms_add rfl iL iL (fun _ => ex9)) (sQ rfl (sp_min rfl iL iL) (sA rfl rfl ?_)))))))
      refine AOps.nil ?_
      exact wK20 _ _ ((by exact Weak.cv ⟨jL, jL, jL, jL, jL, jL, jL, trivial⟩ ⟨.inl rfl, trivial⟩ nL)) (J3 _ (vec [((i3 0) + 1)]) (Option.some.inj h17).symm)
     ·have h16 := ite_f hc7 hp2
      refine AW.skip ?_
      exact wK20 _ _ ((by exact Weak.cv ⟨jL, jL, jL, jL, jL, jL, jL, trivial⟩ ⟨.inl rfl, trivial⟩ nL)) (J3 _ (vec [((i3 0) + 1)]) (Option.some.inj h16).symm)
 ·have h4 := ite_f hc2 h3
  refine AW.exit ?_
  exact wK3 _ _ ((by exact Weak.cv ⟨jL, jL, trivial⟩ trivial nL)) (J1 _ _ (vec [(i3 0)]) (hx1 _ (Option.some.inj h4).symm))
theorem w_grid_CheckEdit {e1 : GGridEdit} {r : Int} (h : grid_CheckEdit e1 = some r) : ARO prog 47 [.agg [qf e1.Rows, qf e1.Cols, qc e1.Cells, qb e1.Split, qb e1.Merge]] (rI (r)) := by
 unfold grid_CheckEdit at h
 refine ARO.mkF func47 rfl rfl ntmps47 rfl (Nat.le_of_ble_eq_true rfl) fun n0 => ?_
 refine aS fun K1 hK1 wK1 => (aR (AOps.step rfl rfl rfl (ms_box (cs := [qf e1.Rows, qf e1.Cols, qc e1.Cells, qb e1.Split, qb e1.Merge]) 1 rfl iL rfl rfl) (sA rfl rfl (aZ (hK1 _ ?_)))))
 refine aS fun K2 hK2 wK2 => (aS fun K3 hK3 wK3 => (aR (sQ rfl (fB rfl tf_38_0 iL fR rfl) (sQ rfl (ms_load_box (a := qf e1.Rows) rfl ts_36 iL rfl rfl) (sQ rfl (fB rfl tf_38_1 iL fR rfl) (sQ rfl (ms_load_box (a := qf e1.Cols) rfl ts_36 iL rfl rfl) ?_))))))
 refine sQ rfl (sp_buildArr rfl tb_143 (q := [(0, _), (1, _)]) (by exact ⟨rfl, rfl, rfl, iL, rfl, rfl, rfl, iL, trivial⟩) (cs := [qf e1.Rows, qf e1.Cols]) (by rfl)) ?_
 refine sM rfl rfl (aZ (hK3 _ ?_))
 refine AW.block ?_
 refine jc1k h fun o1 hit1 hk1 he1 => ?_
 have J1 : ∀ (u2 : Unit) (i5 : Nat → Nat), o1 = .nrm u2 → K2 ⟨[(1, .ptr 1 n0 0 0)], [(1, some (.box n0 38 [qf e1.Rows, qf e1.Cols, qc e1.Cells, qb e1.Split, qb e1.Merge]))], (i5 0), 63⟩ := by
  intro u2 i5 e
  have h1 := hk1 _ e
  refine hK2 _ ?_
  refine aS fun K4 hK4 wK4 => (aS fun K5 hK5 wK5 => (aR (sQ rfl (fB rfl tf_38_2 iL fR rfl) (sQ rfl (ms_load_box (a := qc e1.Cells) rfl ts_28 iL rfl rfl) (ob1k h1 fun f1 ef1 h2 => (AOps.step rfl rfl rfl (sp_call (r := rI (f1)) (caps := []) (bs := [qc e1.Cells, rI (2147483647), rI (2147483647), rB (true)]) rfl iL rfl ⟨⟨_, iL, .d rfl⟩, ⟨_, iL, .d rfl⟩, ⟨_, iL, .d rfl⟩, ⟨_, iL, .d rfl⟩, trivial⟩ (fun _ => w_grid_cells (ef1)) rfl) (sA rfl rfl (aZ (hK5 _ ?_)))))))))
  refine aS fun K6 hK6 wK6 => (aR (sM rfl rfl (sQ rfl (sp_neq rfl iL iL) (aZ (hK6 _ ?_)))))
  refine aC rfl (fun hc1 => ?_) (fun hc1 => ?_)
  ·have h3 := ite_t hc1 h2
   refine aS fun K7 hK7 wK7 => (aR (sM rfl rfl (sA rfl rfl (aZ (hK7 _ ?_)))))
   refine AW.ret ?_
   exact retf1 (P := prog) (fun (r : Int) => rI (r)) h3 iL (.t (.d rfl))
  ·have h3 := ite_f hc1 h2
   refine AW.skip ?_
   refine hK4 _ ?_
   refine aS fun K8 hK8 wK8 => (aS fun K9 hK9 wK9 => (aR (sQ rfl (fB rfl tf_38_3 iL fR rfl) (sQ rfl (ms_load_box (a := qb e1.Split) rfl ts_29 iL rfl rfl) (sQ rfl (fB rfl tf_38_4 iL fR rfl) (sQ rfl (ms_load_box (a := qb e1.Merge) rfl ts_29 iL rfl rfl) ?_))))))
   refine sQ rfl (sp_buildArr rfl tb_144 (q := [(0, _), (1, _)]) (by exact ⟨rfl, rfl, rfl, iL, rfl, rfl, rfl, iL, trivial⟩) (cs := [qb e1.Split, qb e1.Merge]) (by rfl)) ?_
   refine sM rfl rfl (aZ (hK9 _ ?_))
   refine AW.block ?_
   refine jc1k h3 fun o2 hit2 hk2 he2 => ?_
   have J2 : ∀ (u4 : Unit) (i10 : Nat → Nat), o2 = .nrm u4 → K8 ⟨[], [], (i10 0), 63⟩ := by
    intro u4 i10 e
    have h4 := hk2 _ e
    refine hK8 _ ?_
    refine aS fun K10 hK10 wK10 => (aR (sA rfl rfl (aZ (hK10 _ ?_))))
    refine AW.ret ?_
    exact retf1 (P := prog) (fun (r : Int) => rI (r)) h4 iL (.t (.d rfl))
   refine AW.iter1 (fun (x5 : Int) i8 => ⟨[(35, .agg [qb e1.Split, qb e1.Merge]), (36, rI (x5))], [], (i8 0), 63⟩) (vec [(i5 0)]) hit2 ((by exact Weak.cv ⟨jL, jL, trivial⟩ trivial nL)) ?_
   intro x5 i8 v1 hv1 hx2
   have h5 : grid_CheckEdit_L2 e1 x5 = some v1 := hv1; unfold grid_CheckEdit_L2 at h5
   refine aS fun K11 hK11 wK11 => (aR (sQ rfl (sp_lss rfl iL iL) (aZ (hK11 _ ?_))))
   refine aS fun K12 hK12 wK12 => ?_
   refine aC rfl (fun hc2 => ?_) (fun hc2 => ?_)
   ·have h6 := ite_t hc2 h5
    refine AW.skip ?_
    refine hK12 _ ?_
    refine aS fun K13 hK13 wK13 => (AW.block (aS fun K14 hK14 wK14 => (aR (sM rfl rfl (ob1k h6 fun l1 el1 h7 => (sQ rfl (ms_idx_arr (f := fun a => qb a) (l := [e1.Split, e1.Merge]) rfl tq_144 (.inl rfl) (.inl rfl) rfl (fun _ => el1)) (sA rfl rfl (sA rfl rfl (aZ (hK14 _ ?_))))))))))
    refine aS fun K15 hK15 wK15 => (aR (sM rfl rfl (sQ rfl (ms_len rfl tg_29.slice iL) (sM rfl rfl (aZ (hK15 _ ?_))))))
    refine AW.block ?_
    refine jc1k h7 fun o3 hit3 hk3 he3 => ?_
    have J3 : ∀ (u6 : Unit) (i15 : Nat → Nat), o3 = .nrm u6 → K13 ⟨[(35, .agg [qb e1.Split, qb e1.Merge]), (36, rI (x5))], [], (i15 0), 63⟩ := by
     intro u6 i15 e
     have h8 := hk3 _ e
     refine hK13 _ ?_
     refine aR (ob1k h8 fun x10 ex10 h9 => (sQ rfl (ms_add rfl iL iL (fun _ => ex10)) (sM rfl rfl ?_)))
     refine AOps.nil ?_
     exact NextQ1.mk h9 (vec [(i15 0)]) ((by exact Weak.cv ⟨jL, jL, trivial⟩ trivial nL))
    refine AW.iter1 (fun (x8 : Int) i13 => ⟨[(7, rI (x5)), (35, .agg [qb e1.Split, qb e1.Merge]), (36, rI (x5)), (40, qb l1), (41, rI ((l1.length : Int))), (42, rI (x8))], [], (i13 0), 63⟩) (vec [(i8 0)]) hit3 ((by exact Weak.cv ⟨jL, jL, jL, jL, jL, jL, trivial⟩ trivial nL)) ?_
    intro x8 i13 v2 hv2 hx3
    have h10 : grid_CheckEdit_L3 x5 l1 x8 = some v2 := hv2; unfold grid_CheckEdit_L3 at h10
    refine aS fun K16 hK16 wK16 => (aR (sQ rfl (sp_lss rfl iL iL) (aZ (hK16 _ ?_))))
    refine aS fun K17 hK17 wK17 => ?_
    refine aC rfl (fun hc3 => ?_) (fun hc3 => ?_)
    ·have h11 := ite_t hc3 h10
     refine AW.skip ?_
     refine hK17 _ ?_
     refine aS fun K18 hK18 wK18 => (AW.block (aS fun K19 hK19 wK19 => (aR (ob1k h11 fun x11 ex11 h12 => (sQ rfl (ms_idx rfl tg_29.slice iL iL (fun _ => rfl) (fun _ => ex11)) (sQ rfl (ms_loadA (cs := [rI (x11.Row), rI (x11.Col), rI (x11.H), rI (x11.W)]) rfl ta_138 iL rfl rfl) (AOps.step rfl rfl rfl (ms_alloc (cs := [rI (0), rI (0), rI (0), rI (0)]) 10 rfl t0_138 rfl rfl) (AOps.step0 rfl rfl (ms_store_box (ds := [rI (x11.Row), rI (x11.Col), rI (x11.H), rI (x11.W)]) rfl tz_138 iL rfl iL rfl rfl rfl rfl) (aZ (hK19 _ ?_))))))))))
     refine aS fun K20 hK20 wK20 => (aS fun K21 hK21 wK21 => (aR (sQ rfl (ms_loadA_box rfl ta_138 iL rfl rfl) (ob1k h12 fun r1 er1 h13 => (AOps.step rfl rfl rfl (sp_call (r := rB (r1)) (caps := []) (bs := [.agg [rI (x11.Row), rI (x11.Col), rI (x11.H), rI (x11.W)], rI (2147483647), rI (2147483647)]) rfl iL rfl ⟨⟨_, iL, .g (cs := [.int .i64 x11.Row, .int .i64 x11.Col, .int .i64 x11.H, .int .i64 x11.W]) rfl rfl⟩, ⟨_, iL, .d rfl⟩, ⟨_, iL, .d rfl⟩, trivial⟩ (fun _ => w_grid_inside (er1)) rfl) (sQ rfl (sp_not rfl iL) (aZ (hK21 _ ?_))))))))
     refine aC rfl (fun hc4 => ?_) (fun hc4 => ?_)
     ·have h14 := ite_t hc4 h13
      refine aS fun K22 hK22 wK22 => ?_
      refine AW.weak (s' := ⟨[], [], ((i13 0) + 1), 63⟩) (by exact Weak.cv trivial trivial nL) ?_
      refine aR (sA rfl rfl (aZ (hK22 _ ?_)))
      refine AW.ret ?_
      exact retf1 (P := prog) (fun (r : Int) => rI (r)) (he2 _ (hx2 _ (Option.some.inj (he3 _ (hx3 _ (Option.some.inj h14).symm))).symm)) iL (.t (.d rfl))
     ·have h14 := ite_f hc4 h13
      refine AW.skip ?_
      refine hK20 _ ?_
      refine aS fun K23 hK23 wK23 => (aR (sM rfl rfl (sQ rfl (sp_eql rfl iL iL) (sM rfl rfl (sV rfl rfl rfl (fB rfl tf_138_2 iL fR rfl) (sV rfl rfl rfl (ms_load_box (a := rI (x11.H)) rfl ts_3 (iR rfl) rfl rfl) (sV rfl rfl rfl (sp_eql rfl (iR rfl) iL) (sQ rfl (sp_and rfl iL (iR rfl)) (sM rfl rfl (sV rfl rfl rfl (fB rfl tf_138_3 iL fR rfl) (sV rfl rfl rfl (ms_load_box (a := rI (x11.W)) rfl ts_3 (iR rfl) rfl rfl) (sV rfl rfl rfl (sp_eql rfl (iR rfl) iL) (sQ rfl (sp_and rfl iL (iR rfl)) (aZ (hK23 _ ?_)))))))))))))))
      refine aC rfl (fun hc5 => ?_) (fun hc5 => ?_)
      ·have h15 := ite_t hc5 h14
       refine aS fun K24 hK24 wK24 => ?_
       refine AW.weak (s' := ⟨[], [], ((i13 0) + 1), 63⟩) (by exact Weak.cv trivial trivial nL) ?_
       refine aR (sA rfl rfl (aZ (hK24 _ ?_)))
       refine AW.ret ?_
       exact retf1 (P := prog) (fun (r : Int) => rI (r)) (he2 _ (hx2 _ (Option.some.inj (he3 _ (hx3 _ (Option.some.inj h15).symm))).symm)) iL (.t (.d rfl))
      ·have h15 := ite_f hc5 h14
       refine AW.skip ?_
       refine hK18 _ ?_
       refine AW.weak (s' := ⟨[(7, rI (x5)), (35, .agg [qb e1.Split, qb e1.Merge]), (36, rI (x5)), (40, qb l1), (41, rI ((l1.length : Int))), (42, rI (x8))], [], ((i13 0) + 1), 63⟩) (by exact Weak.cv ⟨jL, jL, jL, jL, jL, jL, trivial⟩ trivial nL) ?_
       refine aR (ob1k h15 fun x12 ex12 h16 => (sQ rfl (ms_add rfl iL iL (fun _ => ex12)) (sM rfl rfl ?_)))
       refine AOps.nil ?_
       exact NextQ1.mk h16 (vec [((i13 0) + 1)]) ((by exact Weak.cv ⟨jL, jL, jL, jL, jL, jL, trivial⟩ trivial nL))
    ·have h11 := ite_f hc3 h10
     refine AW.exit ?_
     exact wK13 _ _ ((by exact Weak.cv ⟨jL, jL, trivial⟩ trivial nL)) (J3 _ (vec [(i13 0)]) (hx3 _ (Option.some.inj h11).symm))
   ·have h6 := ite_f hc2 h5
    refine AW.exit ?_
    exact wK8 _ _ ((by exact Weak.cv trivial trivial nL)) (J2 _ (vec [(i8 0)]) (hx2 _ (Option.some.inj h6).symm))
 refine AW.iter1 (fun (x2 : Int) i3 => ⟨[(1, .ptr 1 n0 0 0), (15, .agg [qf e1.Rows, qf e1.Cols]), (16, rI (x2))], [(1, some (.box n0 38 [qf e1.Rows, qf e1.Cols, qc e1.Cells, qb e1.Split, qb e1.Merge]))], (i3 0), 63⟩) (vec [(n0 + 1)]) hit1 ((by exact Weak.cv ⟨jL, jL, jL, trivial⟩ ⟨.inl rfl, trivial⟩ nL)) ?_
 intro x2 i3 v3 hv3 hx1
 have h17 : grid_CheckEdit_L1 e1 x2 = some v3 := hv3; unfold grid_CheckEdit_L1 at h17
 refine aS fun K25 hK25 wK25 => (aR (sQ rfl (sp_lss rfl iL iL) (aZ (hK25 _ ?_))))
 refine aS fun K26 hK26 wK26 => ?_
 refine aC rfl (fun hc6 => ?_) (fun hc6 => ?_)
 ·have h18 := ite_t hc6 h17
  refine AW.skip ?_
  refine hK26 _ ?_
  refine aS fun K27 hK27 wK27 => (AW.block (aS fun K28 hK28 wK28 => (aR (ob1k h18 fun a1 ea1 h19 => (sQ rfl (ms_idx_arr (f := fun a => qf a) (l := [e1.Rows, e1.Cols]) rfl tq_143 (.inl rfl) (.inl rfl) rfl (fun _ => ea1)) (sA rfl rfl (aZ (hK28 _ ?_))))))))
  refine aS fun K29 hK29 wK29 => (aR (sM rfl rfl (ob1k h19 fun f2 ef2 h20 => (AOps.step rfl rfl rfl (sp_call (r := rI (f2)) (caps := []) (bs := [qf a1]) rfl iL rfl ⟨⟨_, iL, .d rfl⟩, trivial⟩ (fun _ => w_axis_Check (ef2)) rfl) (sA rfl rfl (aZ (hK29 _ ?_)))))))
  refine aS fun K30 hK30 wK30 => (aR (sM rfl rfl (sQ rfl (sp_neq rfl iL iL) (aZ (hK30 _ ?_)))))
  refine aC rfl (fun hc7 => ?_) (fun hc7 => ?_)
  ·have h21 := ite_t hc7 h20
   refine aS fun K31 hK31 wK31 => ?_
   refine AW.weak (s' := ⟨[(5, rI (f2))], [], (i3 0), 63⟩) (by exact Weak.cv ⟨jL, trivial⟩ trivial nL) ?_
   refine aR (sM rfl rfl (sA rfl rfl (aZ (hK31 _ ?_))))
   refine AW.ret ?_
   exact retf1 (P := prog) (fun (r : Int) => rI (r)) (he1 _ (hx1 _ (Option.some.inj h21).symm)) iL (.t (.d rfl))
  ·have h21 := ite_f hc7 h20
   refine AW.skip ?_
   refine hK27 _ ?_
   refine aR (ob1k h21 fun x13 ex13 h22 => (sQ rfl (ms_add rfl iL iL (fun _ => ex13)) (sM rfl rfl ?_)))
   refine AOps.nil ?_
   exact NextQ1.mk h22 (vec [(i3 0)]) ((by exact Weak.cv ⟨jL, jL, jL, trivial⟩ ⟨.inl rfl, trivial⟩ nL))
 ·have h18 := ite_f hc6 h17
  refine AW.exit ?_
  exact wK2 _ _ ((by exact Weak.cv ⟨jL, trivial⟩ ⟨.inl rfl, trivial⟩ nL)) (J1 _ (vec [(i3 0)]) (hx1 _ (Option.some.inj h18).symm))
theorem w_edit_CheckOp {o1 : GOp} {r : Int} (h : edit_CheckOp o1 = some r) : ARO prog 9 [.agg [rI (o1.Kind), rI (o1.Node), rI (o1.New.ID), rI (o1.New.Kind), qa o1.New.Attrs, qd o1.New.Flow, rI (o1.New.Grid.Rows), rI (o1.New.Grid.Cols), qc o1.New.Grid.Cells, qb o1.New.Grid.Merges, qe o1.New.Draw, qa o1.Attrs, qh o1.Steps, qf o1.Grid.Rows, qf o1.Grid.Cols, qc o1.Grid.Cells, qb o1.Grid.Split, qb o1.Grid.Merge, qe o1.Draw]] (rI (r)) := by
 unfold edit_CheckOp at h
 refine ARO.mkF func9 rfl rfl ntmps9 rfl (Nat.le_of_ble_eq_true rfl) fun n0 => ?_
 refine aS fun K1 hK1 wK1 => (aR (AOps.step rfl rfl rfl (ms_box (cs := [rI (o1.Kind), rI (o1.Node), rI (o1.New.ID), rI (o1.New.Kind), qa o1.New.Attrs, qd o1.New.Flow, rI (o1.New.Grid.Rows), rI (o1.New.Grid.Cols), qc o1.New.Grid.Cells, qb o1.New.Grid.Merges, qe o1.New.Draw, qa o1.Attrs, qh o1.Steps, qf o1.Grid.Rows, qf o1.Grid.Cols, qc o1.Grid.Cells, qb o1.Grid.Split, qb o1.Grid.Merge, qe o1.Draw]) 1 rfl iL rfl rfl) (sA rfl rfl (aZ (hK1 _ ?_)))))
 refine aS fun K2 hK2 wK2 => (AW.block (aS fun K3 hK3 wK3 => (aR (sQ rfl (fB rfl tf_40_0 iL fR rfl) (sQ rfl (ms_load_box (a := rI (o1.Kind)) rfl ts_3 iL rfl rfl) (sQ rfl (sp_lss rfl iL iL) (sM rfl rfl (sV rfl rfl rfl (fB rfl tf_40_0 iL fR rfl) (sV rfl rfl rfl (ms_load_box (a := rI (o1.Kind)) rfl ts_3 (iR rfl) rfl rfl) (sV rfl rfl rfl (sp_gtr rfl (iR rfl) iL) (sQ rfl (sp_or rfl iL (iR rfl)) (sA rfl rfl (aZ (hK3 _ ?_))))))))))))))
 refine aC rfl (fun hc1 => ?_) (fun hc1 => ?_)
 ·have h1 := ite_t hc1 h
  refine aS fun K4 hK4 wK4 => ?_
  refine AW.weak (s' := ⟨[], [], (n0 + 1), 55⟩) (by exact Weak.cv trivial trivial nL) ?_
  refine aR (sA rfl rfl (aZ (hK4 _ ?_)))
  refine AW.ret ?_
  exact retf1 (P := prog) (fun (r : Int) => rI (r)) h1 iL (.t (.d rfl))
 ·have h1 := ite_f hc1 h
  refine aS fun K5 hK5 wK5 => ?_
  refine AW.weak (s' := ⟨[(1, .ptr 1 n0 0 0)], [(1, some (.box n0 40 [rI (o1.Kind), rI (o1.Node), rI (o1.New.ID), rI (o1.New.Kind), qa o1.New.Attrs, qd o1.New.Flow, rI (o1.New.Grid.Rows), rI (o1.New.Grid.Cols), qc o1.New.Grid.Cells, qb o1.New.Grid.Merges, qe o1.New.Draw, qa o1.Attrs, qh o1.Steps, qf o1.Grid.Rows, qf o1.Grid.Cols, qc o1.Grid.Cells, qb o1.Grid.Split, qb o1.Grid.Merge, qe o1.Draw]))], (n0 + 1), 55⟩) (by exact Weak.cv ⟨jL, trivial⟩ ⟨.inl rfl, trivial⟩ nL) ?_
  refine aR (sQ rfl (ms_loadA_box rfl ta_40 iL rfl rfl) (ob1k h1 fun r1 er1 h2 => (AOps.step rfl rfl rfl (sp_call (r := rB (r1)) (caps := []) (bs := [.agg [rI (o1.Kind), rI (o1.Node), rI (o1.New.ID), rI (o1.New.Kind), qa o1.New.Attrs, qd o1.New.Flow, rI (o1.New.Grid.Rows), rI (o1.New.Grid.Cols), qc o1.New.Grid.Cells, qb o1.New.Grid.Merges, qe o1.New.Draw, qa o1.Attrs, qh o1.Steps, qf o1.Grid.Rows, qf o1.Grid.Cols, qc o1.Grid.Cells, qb o1.Grid.Split, qb o1.Grid.Merge, qe o1.Draw]]) rfl iL rfl ⟨⟨_, iL, .g (cs := [.int .i64 o1.Kind, .int .i64 o1.Node, .int .i64 o1.New.ID, .int .i64 o1.New.Kind, .sl (o1.New.Attrs.map GAttr.row), .sl (o1.New.Flow.map GElem.row), .int .i64 o1.New.Grid.Rows, .int .i64 o1.New.Grid.Cols, .sl (o1.New.Grid.Cells.map GCell.row), .sl (o1.New.Grid.Merges.map GRect.row), .sl (o1.New.Draw.map GDrawOp.row), .sl (o1.Attrs.map GAttr.row), .sl (o1.Steps.map GStep.row), .sl (o1.Grid.Rows.map GAxisStep.row), .sl (o1.Grid.Cols.map GAxisStep.row), .sl (o1.Grid.Cells.map GCell.row), .sl (o1.Grid.Split.map GRect.row), .sl (o1.Grid.Merge.map GRect.row), .sl (o1.Draw.map GDrawOp.row)]) rfl rfl⟩, trivial⟩ (fun _ => w_edit_unused (er1)) rfl) (sA rfl rfl (aZ (hK5 _ ?_))))))
  refine aC rfl (fun hc2 => ?_) (fun hc2 => ?_)
  ·have h3 := ite_t hc2 h2
   refine aS fun K6 hK6 wK6 => (aR (sA rfl rfl (aZ (hK6 _ ?_))))
   refine AW.ret ?_
   exact retf1 (P := prog) (fun (r : Int) => rI (r)) h3 iL (.t (.d rfl))
  ·have h3 := ite_f hc2 h2
   refine aS fun K7 hK7 wK7 => (aR (sQ rfl (fB rfl tf_40_0 iL fR rfl) (sQ rfl (ms_load_box (a := rI (o1.Kind)) rfl ts_3 iL rfl rfl) (sQ rfl (sp_eql rfl iL iL) (sA rfl rfl (aZ (hK7 _ ?_)))))))
   refine aC rfl (fun hc3 => ?_) (fun hc3 => ?_)
   ·have h4 := ite_t hc3 h3
    refine aS fun K8 hK8 wK8 => (aR (sQ rfl (fB rfl tf_40_2 iL fR rfl) (sQ rfl (ms_loadA_box_at (ds := [rI (o1.New.ID), rI (o1.New.Kind), qa o1.New.Attrs, qd o1.New.Flow, rI (o1.New.Grid.Rows), rI (o1.New.Grid.Cols), qc o1.New.Grid.Cells, qb o1.New.Grid.Merges, qe o1.New.Draw]) rfl ta_34 iL rfl rfl rfl) (ob1k h4 fun r2 er2 h5 => (AOps.step rfl rfl rfl (sp_call (r := rI (r2)) (caps := []) (bs := [.agg [rI (o1.New.ID), rI (o1.New.Kind), qa o1.New.Attrs, qd o1.New.Flow, rI (o1.New.Grid.Rows), rI (o1.New.Grid.Cols), qc o1.New.Grid.Cells, qb o1.New.Grid.Merges, qe o1.New.Draw]]) rfl iL rfl ⟨⟨_, iL, .g (cs := [.int .i64 o1.New.ID, .int .i64 o1.New.Kind, .sl (o1.New.Attrs.map GAttr.row), .sl (o1.New.Flow.map GElem.row), .int .i64 o1.New.Grid.Rows, .int .i64 o1.New.Grid.Cols, .sl (o1.New.Grid.Cells.map GCell.row), .sl (o1.New.Grid.Merges.map GRect.row), .sl (o1.New.Draw.map GDrawOp.row)]) rfl rfl⟩, trivial⟩ (fun _ => w_doc_CheckNode (er2)) rfl) (sA rfl rfl (aZ (hK8 _ ?_))))))))
    refine AW.ret ?_
    exact retf1 (P := prog) (fun (r : Int) => rI (r)) h5 iL (.t (.d rfl))
   ·have h4 := ite_f hc3 h3
    refine aS fun K9 hK9 wK9 => (aR (sQ rfl (fB rfl tf_40_1 iL fR rfl) (sQ rfl (ms_load_box (a := rI (o1.Node)) rfl ts_3 iL rfl rfl) (sQ rfl (sp_lss rfl iL iL) (sM rfl rfl (sV rfl rfl rfl (fB rfl tf_40_1 iL fR rfl) (sV rfl rfl rfl (ms_load_box (a := rI (o1.Node)) rfl ts_3 (iR rfl) rfl rfl) (sV rfl rfl rfl (sp_gtr rfl (iR rfl) iL) (sQ rfl (sp_or rfl iL (iR rfl)) (sA rfl rfl (aZ (hK9 _ ?_))))))))))))
    refine aC rfl (fun hc4 => ?_) (fun hc4 => ?_)
    ·have h6 := ite_t hc4 h4
     refine aS fun K10 hK10 wK10 => ?_
     refine AW.weak (s' := ⟨[], [], (n0 + 1), 55⟩) (by exact Weak.cv trivial trivial nL) ?_
     refine aR (sA rfl rfl (aZ (hK10 _ ?_)))
     refine AW.ret ?_
     exact retf1 (P := prog) (fun (r : Int) => rI (r)) h6 iL (.t (.d rfl))
    ·have h6 := ite_f hc4 h4
     refine aS fun K11 hK11 wK11 => ?_
     refine AW.weak (s' := ⟨[(1, .ptr 1 n0 0 0)], [(1, some (.box n0 40 [rI (o1.Kind), rI (o1.Node), rI (o1.New.ID), rI (o1.New.Kind), qa o1.New.Attrs, qd o1.New.Flow, rI (o1.New.Grid.Rows), rI (o1.New.Grid.Cols), qc o1.New.Grid.Cells, qb o1.New.Grid.Merges, qe o1.New.Draw, qa o1.Attrs, qh o1.Steps, qf o1.Grid.Rows, qf o1.Grid.Cols, qc o1.Grid.Cells, qb o1.Grid.Split, qb o1.Grid.Merge, qe o1.Draw]))], (n0 + 1), 55⟩) (by exact Weak.cv ⟨jL, trivial⟩ ⟨.inl rfl, trivial⟩ nL) ?_
     refine aR (sQ rfl (fB rfl tf_40_0 iL fR rfl) (sQ rfl (ms_load_box (a := rI (o1.Kind)) rfl ts_3 iL rfl rfl) (sQ rfl (sp_eql rfl iL iL) (sA rfl rfl (aZ (hK11 _ ?_))))))
     refine aC rfl (fun hc5 => ?_) (fun hc5 => ?_)
     ·have h7 := ite_t hc5 h6
      refine aS fun K12 hK12 wK12 => (aR (sQ rfl (fB rfl tf_40_3 iL fR rfl) (sQ rfl (ms_load_box (a := qa o1.Attrs) rfl ts_26 iL rfl rfl) (ob1k h7 fun r3 er3 h8 => (AOps.step rfl rfl rfl (sp_call (r := rI (r3)) (caps := []) (bs := [qa o1.Attrs]) rfl iL rfl ⟨⟨_, iL, .d rfl⟩, trivial⟩ (fun _ => w_attr_CheckChange (er3)) rfl) (sA rfl rfl (aZ (hK12 _ ?_))))))))
      refine AW.ret ?_
      exact retf1 (P := prog) (fun (r : Int) => rI (r)) h8 iL (.t (.d rfl))
     ·have h7 := ite_f hc5 h6
      refine aS fun K13 hK13 wK13 => (aR (sQ rfl (fB rfl tf_40_0 iL fR rfl) (sQ rfl (ms_load_box (a := rI (o1.Kind)) rfl ts_3 iL rfl rfl) (sQ rfl (sp_eql rfl iL iL) (sA rfl rfl (aZ (hK13 _ ?_)))))))
      refine aC rfl (fun hc6 => ?_) (fun hc6 => ?_)
      ·have h9 := ite_t hc6 h7
       refine aS fun K14 hK14 wK14 => (aR (sQ rfl (fB rfl tf_40_4 iL fR rfl) (sQ rfl (ms_load_box (a := qh o1.Steps) rfl ts_35 iL rfl rfl) (ob1k h9 fun r4 er4 h10 => (AOps.step rfl rfl rfl (sp_call (r := rI (r4)) (caps := []) (bs := [qh o1.Steps]) rfl iL rfl ⟨⟨_, iL, .d rfl⟩, trivial⟩ (fun _ => w_delta_Check (er4)) rfl) (sA rfl rfl (aZ (hK14 _ ?_))))))))
       refine AW.ret ?_
       exact retf1 (P := prog) (fun (r : Int) => rI (r)) h10 iL (.t (.d rfl))
      ·have h9 := ite_f hc6 h7
       refine aS fun K15 hK15 wK15 => (aR (sQ rfl (fB rfl tf_40_0 iL fR rfl) (sQ rfl (ms_load_box (a := rI (o1.Kind)) rfl ts_3 iL rfl rfl) (sQ rfl (sp_eql rfl iL iL) (sA rfl rfl (aZ (hK15 _ ?_)))))))
       refine aC rfl (fun hc7 => ?_) (fun hc7 => ?_)
       ·have h11 := ite_t hc7 h9
        refine aS fun K16 hK16 wK16 => ?_
        refine AW.weak (s' := ⟨[(1, .ptr 1 n0 0 0)], [(1, some (.box n0 40 [rI (o1.Kind), rI (o1.Node), rI (o1.New.ID), rI (o1.New.Kind), qa o1.New.Attrs, qd o1.New.Flow, rI (o1.New.Grid.Rows), rI (o1.New.Grid.Cols), qc o1.New.Grid.Cells, qb o1.New.Grid.Merges, qe o1.New.Draw, qa o1.Attrs, qh o1.Steps, qf o1.Grid.Rows, qf o1.Grid.Cols, qc o1.Grid.Cells, qb o1.Grid.Split, qb o1.Grid.Merge, qe o1.Draw]))], (n0 + 1), 55⟩) (by exact Weak.cv ⟨jL, trivial⟩ ⟨.inl rfl, trivial⟩ nL) ?_
        refine aR (sQ rfl (fB rfl tf_40_5 iL fR rfl) (sQ rfl (ms_loadA_box_at (ds := [qf o1.Grid.Rows, qf o1.Grid.Cols, qc o1.Grid.Cells, qb o1.Grid.Split, qb o1.Grid.Merge]) rfl ta_38 iL rfl rfl rfl) (ob1k h11 fun r5 er5 h12 => (AOps.step rfl rfl rfl (sp_call (r := rI (r5)) (caps := []) (bs := [.agg [qf o1.Grid.Rows, qf o1.Grid.Cols, qc o1.Grid.Cells, qb o1.Grid.Split, qb o1.Grid.Merge]]) rfl iL rfl ⟨⟨_, iL, .g (cs := [.sl (o1.Grid.Rows.map GAxisStep.row), .sl (o1.Grid.Cols.map GAxisStep.row), .sl (o1.Grid.Cells.map GCell.row), .sl (o1.Grid.Split.map GRect.row), .sl (o1.Grid.Merge.map GRect.row)]) rfl rfl⟩, trivial⟩ (fun _ => w_grid_CheckEdit (er5)) rfl) (sA rfl rfl (aZ (hK16 _ ?_)))))))
        refine AW.ret ?_
        exact retf1 (P := prog) (fun (r : Int) => rI (r)) h12 iL (.t (.d rfl))
       ·have h11 := ite_f hc7 h9
        refine AW.skip ?_
        refine hK2 _ ?_
        refine aS fun K17 hK17 wK17 => ?_
        refine AW.weak (s' := ⟨[(1, .ptr 1 n0 0 0)], [(1, some (.box n0 40 [rI (o1.Kind), rI (o1.Node), rI (o1.New.ID), rI (o1.New.Kind), qa o1.New.Attrs, qd o1.New.Flow, rI (o1.New.Grid.Rows), rI (o1.New.Grid.Cols), qc o1.New.Grid.Cells, qb o1.New.Grid.Merges, qe o1.New.Draw, qa o1.Attrs, qh o1.Steps, qf o1.Grid.Rows, qf o1.Grid.Cols, qc o1.Grid.Cells, qb o1.Grid.Split, qb o1.Grid.Merge, qe o1.Draw]))], (n0 + 1), 55⟩) (by exact Weak.cv ⟨jL, trivial⟩ ⟨.inl rfl, trivial⟩ nL) ?_
        refine aR (sQ rfl (fB rfl tf_40_6 iL fR rfl) (sQ rfl (ms_load_box (a := qe o1.Draw) rfl ts_32 iL rfl rfl) (ob1k h11 fun r6 er6 h13 => (AOps.step rfl rfl rfl (sp_call (r := rI (r6)) (caps := []) (bs := [qe o1.Draw]) rfl iL rfl ⟨⟨_, iL, .d rfl⟩, trivial⟩ (fun _ => w_replica_Check (er6)) rfl) (sA rfl rfl (aZ (hK17 _ ?_)))))))
        refine AW.ret ?_
        exact retf1 (P := prog) (fun (r : Int) => rI (r)) h13 iL (.t (.d rfl))
theorem w_edit_Check {c1 : List GOp} {r : Int} (h : edit_Check c1 = some r) : ARO prog 10 [qi c1] (rI (r)) := by
 unfold edit_Check at h
 refine ARO.mkF func10 rfl rfl ntmps10 rfl (Nat.le_of_ble_eq_true rfl) fun n0 => ?_
 refine aS fun K1 hK1 wK1 => (aR (sA rfl rfl (aZ (hK1 _ ?_))))
 refine aS fun K2 hK2 wK2 => (aS fun K3 hK3 wK3 => (aR (sM rfl rfl (sQ rfl (ms_len rfl tg_22.slice iL) (sM rfl rfl (aZ (hK3 _ ?_)))))))
 refine AW.block ?_
 refine jc1k h fun o1 hit1 hk1 he1 => ?_
 have J1 : ∀ (u2 : Unit) (i5 : Nat → Nat), o1 = .nrm u2 → K2 ⟨[], [], (i5 0), 18⟩ := by
  intro u2 i5 e
  have h1 := hk1 _ e
  refine hK2 _ ?_
  refine aS fun K4 hK4 wK4 => (aR (sA rfl rfl (aZ (hK4 _ ?_))))
  refine AW.ret ?_
  exact retf1 (P := prog) (fun (r : Int) => rI (r)) h1 iL (.t (.d rfl))
 refine AW.iter1 (fun (x2 : Int) i3 => ⟨[(6, qi c1), (7, rI ((c1.length : Int))), (8, rI (x2))], [], (i3 0), 18⟩) (vec [n0]) hit1 ((by exact Weak.cv ⟨jL, jL, jL, trivial⟩ trivial nL)) ?_
 intro x2 i3 v1 hv1 hx1
 have h2 : edit_Check_L1 c1 x2 = some v1 := hv1; unfold edit_Check_L1 at h2
 refine aS fun K5 hK5 wK5 => (aR (sQ rfl (sp_lss rfl iL iL) (aZ (hK5 _ ?_))))
 refine aS fun K6 hK6 wK6 => ?_
 refine aC rfl (fun hc1 => ?_) (fun hc1 => ?_)
 ·have h3 := ite_t hc1 h2
  refine AW.skip ?_
  refine hK6 _ ?_
  refine aS fun K7 hK7 wK7 => (AW.block (aS fun K8 hK8 wK8 => (aR (ob1k h3 fun x4 ex4 h4 => (sQ rfl (ms_idx rfl tg_22.slice iL iL (fun _ => rfl) (fun _ => ex4)) (sQ rfl (ms_loadA (cs := [rI (x4.Kind), rI (x4.Node), rI (x4.New.ID), rI (x4.New.Kind), qa x4.New.Attrs, qd x4.New.Flow, rI (x4.New.Grid.Rows), rI (x4.New.Grid.Cols), qc x4.New.Grid.Cells, qb x4.New.Grid.Merges, qe x4.New.Draw, qa x4.Attrs, qh x4.Steps, qf x4.Grid.Rows, qf x4.Grid.Cols, qc x4.Grid.Cells, qb x4.Grid.Split, qb x4.Grid.Merge, qe x4.Draw]) rfl ta_40 iL rfl rfl) (AOps.step rfl rfl rfl (ms_alloc (cs := [rI (0), rI (0), rI (0), rI (0), .cst (.slice none 0 0), .cst (.slice none 0 0), rI (0), rI (0), .cst (.slice none 0 0), .cst (.slice none 0 0), .cst (.slice none 0 0), .cst (.slice none 0 0), .cst (.slice none 0 0), .cst (.slice none 0 0), .cst (.slice none 0 0), .cst (.slice none 0 0), .cst (.slice none 0 0), .cst (.slice none 0 0), .cst (.slice none 0 0)]) 4 rfl t0_40 rfl rfl) (AOps.step0 rfl rfl (ms_store_box (ds := [rI (x4.Kind), rI (x4.Node), rI (x4.New.ID), rI (x4.New.Kind), qa x4.New.Attrs, qd x4.New.Flow, rI (x4.New.Grid.Rows), rI (x4.New.Grid.Cols), qc x4.New.Grid.Cells, qb x4.New.Grid.Merges, qe x4.New.Draw, qa x4.Attrs, qh x4.Steps, qf x4.Grid.Rows, qf x4.Grid.Cols, qc x4.Grid.Cells, qb x4.Grid.Split, qb x4.Grid.Merge, qe x4.Draw]) rfl tz_40 iL rfl iL rfl rfl rfl rfl) (aZ (hK8 _ ?_))))))))))
  refine aS fun K9 hK9 wK9 => (aR (sQ rfl (ms_loadA_box rfl ta_40 iL rfl rfl) (ob1k h4 fun e1 ee1 h5 => (AOps.step rfl rfl rfl (sp_call (r := rI (e1)) (caps := []) (bs := [.agg [rI (x4.Kind), rI (x4.Node), rI (x4.New.ID), rI (x4.New.Kind), qa x4.New.Attrs, qd x4.New.Flow, rI (x4.New.Grid.Rows), rI (x4.New.Grid.Cols), qc x4.New.Grid.Cells, qb x4.New.Grid.Merges, qe x4.New.Draw, qa x4.Attrs, qh x4.Steps, qf x4.Grid.Rows, qf x4.Grid.Cols, qc x4.Grid.Cells, qb x4.Grid.Split, qb x4.Grid.Merge, qe x4.Draw]]) rfl iL rfl ⟨⟨_, iL, .g (cs := [.int .i64 x4.Kind, .int .i64 x4.Node, .int .i64 x4.New.ID, .int .i64 x4.New.Kind, .sl (x4.New.Attrs.map GAttr.row), .sl (x4.New.Flow.map GElem.row), .int .i64 x4.New.Grid.Rows, .int .i64 x4.New.Grid.Cols, .sl (x4.New.Grid.Cells.map GCell.row), .sl (x4.New.Grid.Merges.map GRect.row), .sl (x4.New.Draw.map GDrawOp.row), .sl (x4.Attrs.map GAttr.row), .sl (x4.Steps.map GStep.row), .sl (x4.Grid.Rows.map GAxisStep.row), .sl (x4.Grid.Cols.map GAxisStep.row), .sl (x4.Grid.Cells.map GCell.row), .sl (x4.Grid.Split.map GRect.row), .sl (x4.Grid.Merge.map GRect.row), .sl (x4.Draw.map GDrawOp.row)]) rfl rfl⟩, trivial⟩ (fun _ => w_edit_CheckOp (ee1)) rfl) (sA rfl rfl (aZ (hK9 _ ?_)))))))
  refine aS fun K10 hK10 wK10 => (aR (sM rfl rfl (sQ rfl (sp_neq rfl iL iL) (aZ (hK10 _ ?_)))))
  refine aC rfl (fun hc2 => ?_) (fun hc2 => ?_)
  ·have h6 := ite_t hc2 h5
   refine aS fun K11 hK11 wK11 => ?_
   refine AW.weak (s' := ⟨[(5, rI (e1))], [], ((i3 0) + 1), 18⟩) (by exact Weak.cv ⟨jL, trivial⟩ trivial nL) ?_
   refine aR (sM rfl rfl (sA rfl rfl (aZ (hK11 _ ?_))))
   refine AW.ret ?_
   exact retf1 (P := prog) (fun (r : Int) => rI (r)) (he1 _ (hx1 _ (Option.some.inj h6).symm)) iL (.t (.d rfl))
  ·have h6 := ite_f hc2 h5
   refine AW.skip ?_
   refine hK7 _ ?_
   refine AW.weak (s' := ⟨[(6, qi c1), (7, rI ((c1.length : Int))), (8, rI (x2))], [], ((i3 0) + 1), 18⟩) (by exact Weak.cv ⟨jL, jL, jL, trivial⟩ trivial nL) ?_
   refine aR (ob1k h6 fun x5 ex5 h7 => (sQ rfl (ms_add rfl iL iL (fun _ => ex5)) (sM rfl rfl ?_)))
   refine AOps.nil ?_
   exact NextQ1.mk h7 (vec [((i3 0) + 1)]) ((by exact Weak.cv ⟨jL, jL, jL, trivial⟩ trivial nL))
 ·have h3 := ite_f hc1 h2
  refine AW.exit ?_
  exact wK2 _ _ ((by exact Weak.cv trivial trivial nL)) (J1 _ (vec [(i3 0)]) (hx1 _ (Option.some.inj h3).symm))
theorem w_flow_Copy {f1 : List GElem} {r : (List GElem)} (h : flow_Copy f1 = some r) : ARO prog 71 [qd f1] (qd r) := by
 unfold flow_Copy at h
 refine ARO.mkF func71 rfl rfl ntmps71 rfl (Nat.le_of_ble_eq_true rfl) fun n0 => ?_
 refine aS fun K1 hK1 wK1 => (aR (sA rfl rfl (aZ (hK1 _ ?_))))
 refine aS fun K2 hK2 wK2 => (aR (sM rfl rfl (sQ rfl (ms_len rfl tg_27.slice iL) (ob1k h fun out1 eout1 h1 => (AOps.step rfl rfl rfl (ms_mk 8 rfl tg_27 (f := GElem.row) (z0 := (GElem.mk 0 0 [])) tr_60 iL iL eout1) (sA rfl rfl (aZ (hK2 _ ?_))))))))
 refine aS fun K3 hK3 wK3 => (aS fun K4 hK4 wK4 => (aR (sM rfl rfl (sQ rfl (ms_len rfl tg_27.slice iL) (sM rfl rfl (aZ (hK4 _ ?_)))))))
 refine AW.block ?_
 refine jb1k h1 fun o1 hit1 hk1 => ?_
 have J1 : ∀ (out5 : List GElem) (i5 : Nat → Nat), o1 = out5 → K3 ⟨[(3, .own 8 (i5 0))], [(8, some (.arr (i5 0) 60 3 (out5.map GElem.row)))], (i5 1), 29⟩ := by
  intro out5 i5 e
  have h2 := hk1 _ e
  refine hK3 _ ?_
  refine aS fun K5 hK5 wK5 => (aR (sM rfl rfl (sA rfl rfl (aZ (hK5 _ ?_)))))
  refine AW.ret ?_
  exact retf1 (P := prog) (fun (r : (List GElem)) => qd r) h2 iL (.t (.one (.own rfl)))
 refine AW.iter2 (fun (x2 : Int) (out3 : List GElem) i3 => ⟨[(3, .own 8 (i3 0)), (9, qd f1), (10, rI ((f1.length : Int))), (11, rI (x2))], [(8, some (.arr (i3 0) 60 3 (out3.map GElem.row)))], (i3 1), 29⟩) (vec [n0, (n0 + 1)]) hit1 ((by exact Weak.cv ⟨jL, jL, jL, jL, trivial⟩ ⟨.inl rfl, trivial⟩ nL)) ?_
 intro x2 out3 i3 v1 hv1 hx1
 have h3 : flow_Copy_L1 f1 x2 out3 = some v1 := hv1; unfold flow_Copy_L1 at h3
 refine aS fun K6 hK6 wK6 => (aR (sQ rfl (sp_lss rfl iL iL) (aZ (hK6 _ ?_))))
 refine aS fun K7 hK7 wK7 => ?_
 refine aC rfl (fun hc1 => ?_) (fun hc1 => ?_)
 ·have h4 := ite_t hc1 h3
  refine AW.skip ?_
  refine hK7 _ ?_
  refine aS fun K8 hK8 wK8 => (AW.block (aS fun K9 hK9 wK9 => (aR (sM rfl rfl (ob1k h4 fun x4 ex4 h5 => (sQ rfl (ms_idx rfl tg_27.slice iL iL (fun _ => rfl) (fun _ => ex4)) (sQ rfl (ms_loadA (cs := [rI (x4.Char), rI (x4.Ref), qa x4.Attrs]) rfl ta_60 iL rfl rfl) (AOps.step rfl rfl rfl (ms_alloc (cs := [rI (0), rI (0), .cst (.slice none 0 0)]) 5 rfl t0_60 rfl rfl) (sA rfl rfl (AOps.step0 rfl rfl (ms_store_box (ds := [rI (x4.Char), rI (x4.Ref), qa x4.Attrs]) rfl tz_60 iL rfl iL rfl rfl rfl rfl) (aZ (hK9 _ ?_))))))))))))
  refine ob1k h5 fun l1 el1 h6 => ?_
  refine AW.regionP 10 [⟨some 16, (fun _ => .own 8 (i3 0)), none, []⟩, ⟨some 17, (fun _ => rI (x2)), none, []⟩, ⟨some 18, (fun _ => .ptr 5 (i3 1) 0 0), none, []⟩, ⟨some 19, (fun _ => rI (x4.Char)), none, []⟩, ⟨some 20, (fun _ => .ptr 5 (i3 1) 0 1), none, []⟩, ⟨some 21, (fun _ => rI (x4.Ref)), none, []⟩, ⟨some 22, (fun _ => .ptr 5 (i3 1) 0 2), none, []⟩, ⟨some 23, (fun _ => qa x4.Attrs), none, []⟩, ⟨some 24, (fun G1 => .own 24 (G1 8)), some (24, (fun G1 => some (.arr (G1 8) 67 2 (l1.map GAttr.row)))), [8]⟩, ⟨some 25, (fun G1 => .agg [rI (x4.Char), rI (x4.Ref), .own 24 (G1 8)]), none, [8]⟩] hmix (by kernel_rfl) (by exact ⟨fun _ _ h => ⟨rfl, fun _ _ e => by cases e⟩, fun _ _ h => ⟨rfl, fun _ _ e => by cases e⟩, fun _ _ h => ⟨rfl, fun _ _ e => by cases e⟩, fun _ _ h => ⟨rfl, fun _ _ e => by cases e⟩, fun _ _ h => ⟨rfl, fun _ _ e => by cases e⟩, fun _ _ h => ⟨rfl, fun _ _ e => by cases e⟩, fun _ _ h => ⟨rfl, fun _ _ e => by cases e⟩, fun _ _ h => ⟨rfl, fun _ _ e => by cases e⟩, fun _ _ h => ⟨by simp only [h 8 rfl], fun _ _ e => by cases e; simp only [h 8 rfl]⟩, fun _ _ h => ⟨by simp only [h 8 rfl], fun _ _ e => by cases e⟩, trivial⟩) rfl (by exact ⟨Ob.quiet (n1 := fun n => n) rfl rfl (by intro d h; cases h; rfl) rfl (fun _ => [(3, .own 8 (i3 0))]) (fun _ => [(8, some (.arr (i3 0) 60 3 (out3.map GElem.row)))]) (fun D G1 hr => ⟨inE_base rfl rfl, trivial⟩) (fun D G1 hr => ⟨inH_base rfl rfl, trivial⟩) (fun _ _ => rfl) (fun G1 e h' n => OpQ.spec (v := .own 8 (i3 0)) (sp_move rfl (.inl rfl)) _),
    Ob.quiet (n1 := fun n => n) rfl rfl (by intro d h; cases h; rfl) rfl (fun _ => [(4, rI (x2))]) (fun _ => []) (fun D G1 hr => ⟨inE_base rfl rfl, trivial⟩) (fun D G1 hr => trivial) (fun _ _ => rfl) (fun G1 e h' n => OpQ.spec (v := rI (x2)) (sp_move rfl (.inl rfl)) _),
    Ob.quiet (n1 := fun n => n) rfl rfl (by intro d h; cases h; rfl) rfl (fun _ => [(5, .ptr 5 (i3 1) 0 0)]) (fun _ => [(5, some (.box (i3 1) 60 [rI (x4.Char), rI (x4.Ref), qa x4.Attrs]))]) (fun D G1 hr => ⟨inE_base rfl rfl, trivial⟩) (fun D G1 hr => ⟨inH_base rfl rfl, trivial⟩) (fun _ _ => rfl) (fun G1 e h' n => OpQ.spec (v := .ptr 5 (i3 1) 0 0) (fB rfl tf_60_0 (.inl rfl) (fun _ => rfl) rfl) _),
    Ob.quiet (n1 := fun n => n) rfl rfl (by intro d h; cases h; rfl) rfl (fun _ => [(18, .ptr 5 (i3 1) 0 0)]) (fun _ => [(5, some (.box (i3 1) 60 [rI (x4.Char), rI (x4.Ref), qa x4.Attrs]))]) (fun D G1 hr => ⟨inE_op hr 2 rfl rfl (by kernel_rfl) rfl rfl, trivial⟩) (fun D G1 hr => ⟨inH_base rfl rfl, trivial⟩) (fun _ _ => rfl) (fun G1 e h' n => OpQ.spec (v := rI (x4.Char)) (ms_load_box (a := rI (x4.Char)) rfl ts_3 (.inl rfl) rfl rfl) _),
    Ob.quiet (n1 := fun n => n) rfl rfl (by intro d h; cases h; rfl) rfl (fun _ => [(5, .ptr 5 (i3 1) 0 0)]) (fun _ => [(5, some (.box (i3 1) 60 [rI (x4.Char), rI (x4.Ref), qa x4.Attrs]))]) (fun D G1 hr => ⟨inE_base rfl rfl, trivial⟩) (fun D G1 hr => ⟨inH_base rfl rfl, trivial⟩) (fun _ _ => rfl) (fun G1 e h' n => OpQ.spec (v := .ptr 5 (i3 1) 0 1) (fB rfl tf_60_1 (.inl rfl) (fun _ => rfl) rfl) _),
    Ob.quiet (n1 := fun n => n) rfl rfl (by intro d h; cases h; rfl) rfl (fun _ => [(20, .ptr 5 (i3 1) 0 1)]) (fun _ => [(5, some (.box (i3 1) 60 [rI (x4.Char), rI (x4.Ref), qa x4.Attrs]))]) (fun D G1 hr => ⟨inE_op hr 4 rfl rfl (by kernel_rfl) rfl rfl, trivial⟩) (fun D G1 hr => ⟨inH_base rfl rfl, trivial⟩) (fun _ _ => rfl) (fun G1 e h' n => OpQ.spec (v := rI (x4.Ref)) (ms_load_box (a := rI (x4.Ref)) rfl ts_3 (.inl rfl) rfl rfl) _),
    Ob.quiet (n1 := fun n => n) rfl rfl (by intro d h; cases h; rfl) rfl (fun _ => [(5, .ptr 5 (i3 1) 0 0)]) (fun _ => [(5, some (.box (i3 1) 60 [rI (x4.Char), rI (x4.Ref), qa x4.Attrs]))]) (fun D G1 hr => ⟨inE_base rfl rfl, trivial⟩) (fun D G1 hr => ⟨inH_base rfl rfl, trivial⟩) (fun _ _ => rfl) (fun G1 e h' n => OpQ.spec (v := .ptr 5 (i3 1) 0 2) (fB rfl tf_60_2 (.inl rfl) (fun _ => rfl) rfl) _),
    Ob.quiet (n1 := fun n => n) rfl rfl (by intro d h; cases h; rfl) rfl (fun _ => [(22, .ptr 5 (i3 1) 0 2)]) (fun _ => [(5, some (.box (i3 1) 60 [rI (x4.Char), rI (x4.Ref), qa x4.Attrs]))]) (fun D G1 hr => ⟨inE_op hr 6 rfl rfl (by kernel_rfl) rfl rfl, trivial⟩) (fun D G1 hr => ⟨inH_base rfl rfl, trivial⟩) (fun _ _ => rfl) (fun G1 e h' n => OpQ.spec (v := qa x4.Attrs) (ms_load_box (a := qa x4.Attrs) rfl ts_26 (.inl rfl) rfl rfl) _),
    Ob.make (n1 := fun n => n + 1) rfl rfl (by intro d h; cases h; rfl) rfl (fun _ => [(23, qa x4.Attrs)]) (fun _ => []) (fun D G1 hr => ⟨inE_op hr 7 rfl rfl (by kernel_rfl) rfl rfl, trivial⟩) (fun D G1 hr => trivial) (fun G1 e h' n => ms_app_nil 24 (f := GAttr.row) rfl tg_26 (.inl rfl) (.inl ⟨(.inl rfl), fun _ => rfl⟩) el1),
    Ob.quiet (n1 := fun n => n) rfl rfl (by intro d h; cases h; rfl) rfl (fun G1 => [(19, rI (x4.Char)), (21, rI (x4.Ref)), (24, .own 24 (G1 8))]) (fun G1 => [(24, some (.arr (G1 8) 67 2 (l1.map GAttr.row)))]) (fun D G1 hr => ⟨inE_op hr 3 rfl rfl (by kernel_rfl) rfl rfl, inE_op hr 5 rfl rfl (by kernel_rfl) rfl rfl, inE_op hr 8 rfl rfl (by kernel_rfl) rfl rfl, trivial⟩) (fun D G1 hr => ⟨inH_op hr 8 rfl rfl (by kernel_rfl) (by kernel_rfl) rfl, trivial⟩) (fun _ _ => rfl) (fun G1 e h' n => OpQ.spec (v := .agg [rI (x4.Char), rI (x4.Ref), .own 24 (G1 8)]) (sp_build rfl tb_60 (q := [(0, _), (1, _), (2, _)]) (by exact ⟨rfl, rfl, rfl, (.inl rfl), rfl, rfl, rfl, (.inl rfl), rfl, rfl, rfl, (.inl rfl), trivial⟩) (cs := [rI (x4.Char), rI (x4.Ref), .own 24 (G1 8)]) (by rfl)) _),
    trivial⟩) fun G1 n1 => ?_
  refine AOps.weak (s' := ⟨[(3, .own 8 (i3 0)), (4, rI (x2)), (5, .ptr 5 (i3 1) 0 0), (9, qd f1), (10, rI ((f1.length : Int))), (11, rI (x2)), (12, rB ((decide (x2 < (f1.length : Int))))), (13, rI (x2)), (14, .rop (GElem.row x4) 0), (15, .agg [rI (x4.Char), rI (x4.Ref), qa x4.Attrs]), (16, .own 8 (i3 0)), (17, rI (x2)), (18, .ptr 5 (i3 1) 0 0), (19, rI (x4.Char)), (20, .ptr 5 (i3 1) 0 1), (21, rI (x4.Ref)), (22, .ptr 5 (i3 1) 0 2), (23, qa x4.Attrs), (24, .own 24 (G1 8)), (25, .agg [rI (x4.Char), rI (x4.Ref), .own 24 (G1 8)])], [(5, some (.box (i3 1) 60 [rI (x4.Char), rI (x4.Ref), qa x4.Attrs])), (8, some (.arr (i3 0) 60 3 (out3.map GElem.row))), (24, some (.arr (G1 8) 67 2 (l1.map GAttr.row)))], n1, 29⟩) (by exact Weak.cv ⟨jL, jL, jL, jL, jL, jL, jL, jL, jL, jL, jL, jL, jL, jL, jL, jL, jL, jL, jL, jL, trivial⟩ ⟨.inl rfl, .inl rfl, .inl rfl, trivial⟩ nL) ?_
  refine ob1k h6 fun x5 ex5 h7 => (sQ rfl (ms_idx_own rfl tg_27.slice iL rfl iL (fun _ => ex5)) ?_)
  refine AOps.weak (by exact Weak.frz (e' := [(3, .own 8 (i3 0)), (4, rI (x2)), (5, .ptr 5 (i3 1) 0 0), (9, qd f1), (10, rI ((f1.length : Int))), (11, rI (x2)), (12, rB ((decide (x2 < (f1.length : Int))))), (13, rI (x2)), (14, .rop (GElem.row x4) 0), (15, .agg [rI (x4.Char), rI (x4.Ref), qa x4.Attrs]), (16, .own 8 (i3 0)), (17, rI (x2)), (18, .ptr 5 (i3 1) 0 0), (19, rI (x4.Char)), (20, .ptr 5 (i3 1) 0 1), (21, rI (x4.Ref)), (22, .ptr 5 (i3 1) 0 2), (23, qa x4.Attrs), (24, qa l1), (25, .agg [rI (x4.Char), rI (x4.Ref), qa l1]), (26, .ptr 8 (i3 0) x2.toNat 0)]) (h' := [(5, some (.box (i3 1) 60 [rI (x4.Char), rI (x4.Ref), qa x4.Attrs])), (8, some (.arr (i3 0) 60 3 (out3.map GElem.row)))]) 24 rfl ⟨jL, jL, jL, jL, jL, jL, jL, jL, jL, jL, jL, jL, jL, jL, jL, jL, jL, jL, .inl (.inr (.inr ⟨rfl, rfl⟩)), .inr ⟨_, _, rfl, rfl, ⟨.inl rfl, .inl rfl, .inr (.inr ⟨rfl, rfl⟩), trivial⟩⟩, jL, trivial⟩ ⟨rfl, .inl rfl, rfl, .inl rfl, trivial⟩) ?_
  refine AOps.step0 rfl rfl (ms_storeA (v := (GElem.mk x4.Char x4.Ref l1)) rfl tz_60 iL rfl ex5 iL rfl rfl rfl rfl) (aZ (hK8 _ ?_))
  refine AW.weak (s' := ⟨[(3, .own 8 (i3 0)), (9, qd f1), (10, rI ((f1.length : Int))), (11, rI (x2))], [(8, some (.arr (i3 0) 60 3 ((out3.set x2.toNat (GElem.mk x4.Char x4.Ref l1)).map GElem.row)))], n1, 29⟩) (by exact Weak.cv ⟨jL, jL, jL, jL, trivial⟩ ⟨.inl rfl, trivial⟩ nL) ?_
  refine aR (ob1k h7 fun x6 ex6 h8 => (sQ rfl (ms_add rfl iL iL (fun _ => ex6)) (sM rfl rfl ?_)))
  refine AOps.nil ?_
  exact NextQ2.mk h8 (vec [(i3 0), n1]) ((by exact Weak.cv ⟨jL, jL, jL, jL, trivial⟩ ⟨.inl rfl, trivial⟩ nL))
 ·have h4 := ite_f hc1 h3
  refine AW.exit ?_
  exact wK3 _ _ ((by exact Weak.cv ⟨jL, trivial⟩ ⟨.inl rfl, trivial⟩ nL)) (J1 _ (vec [(i3 0), (i3 1)]) (hx1 _ (Option.some.inj h4).symm))
theorem w_doc_CopyNode {n1 : GNode} {r : GNode} (h : doc_CopyNode n1 = some r) : ARO prog 147 [.agg [rI (n1.ID), rI (n1.Kind), qa n1.Attrs, qd n1.Flow, rI (n1.Grid.Rows), rI (n1.Grid.Cols), qc n1.Grid.Cells, qb n1.Grid.Merges, qe n1.Draw]] (.agg [rI (r.ID), rI (r.Kind), qa r.Attrs, qd r.Flow, rI (r.Grid.Rows), rI (r.Grid.Cols), qc r.Grid.Cells, qb r.Grid.Merges, qe r.Draw]) := by
 unfold doc_CopyNode at h
 refine ARO.mkF func147 rfl rfl ntmps147 rfl (Nat.le_of_ble_eq_true rfl) fun n0 => ?_
 refine aS fun K1 hK1 wK1 => (aR (AOps.step rfl rfl rfl (ms_box (cs := [rI (n1.ID), rI (n1.Kind), qa n1.Attrs, qd n1.Flow, rI (n1.Grid.Rows), rI (n1.Grid.Cols), qc n1.Grid.Cells, qb n1.Grid.Merges, qe n1.Draw]) 1 rfl iL rfl rfl) (AOps.step rfl rfl rfl (ms_alloc (cs := [rI (0), rI (0), .cst (.slice none 0 0), .cst (.slice none 0 0), rI (0), rI (0), .cst (.slice none 0 0), .cst (.slice none 0 0), .cst (.slice none 0 0)]) 2 rfl t0_34 rfl rfl) (aZ (hK1 _ ?_)))))
 refine aS fun K2 hK2 wK2 => (aR (sQ rfl (fB rfl tf_34_2 iL fR rfl) (sQ rfl (ms_load_box (a := qa n1.Attrs) rfl ts_26 iL rfl rfl) (ob1k h fun l1 el1 h1 => (AOps.step rfl rfl rfl (ms_app_nil 8 (f := GAttr.row) rfl tg_26 iL (.inl ⟨iL, fun _ => rfl⟩) el1) (sQ rfl (fB rfl tf_34_2 iL fR rfl) (AOps.step0 rfl rfl (ms_store_box (ds := [rI (n1.ID), rI (n1.Kind), .own 8 (n0 + 2), qd n1.Flow, rI (n1.Grid.Rows), rI (n1.Grid.Cols), qc n1.Grid.Cells, qb n1.Grid.Merges, qe n1.Draw]) rfl tz_26 iL rfl iL rfl rfl rfl rfl) (aZ (hK2 _ ?_)))))))))
 refine aS fun K3 hK3 wK3 => (aR (sQ rfl (fB rfl tf_34_3 iL fR rfl) (sQ rfl (ms_load_box (a := qd n1.Flow) rfl ts_27 iL rfl rfl) (ob1k h1 fun r1 er1 h2 => (AOps.step rfl rfl rfl (sp_callS (r := qd r1) (caps := []) (bs := [qd n1.Flow]) rfl iL rfl ⟨.inl ⟨iL, rfl⟩, trivial⟩ (fun _ => w_flow_Copy (er1))) (sQ rfl (fB rfl tf_34_3 iL fR rfl) (AOps.step0 rfl rfl (ms_store_box (ds := [rI (n1.ID), rI (n1.Kind), .own 8 (n0 + 2), qd r1, rI (n1.Grid.Rows), rI (n1.Grid.Cols), qc n1.Grid.Cells, qb n1.Grid.Merges, qe n1.Draw]) rfl tz_27 iL rfl iL rfl rfl rfl rfl) (aZ (hK3 _ ?_)))))))))
 refine aS fun K4 hK4 wK4 => ?_
 refine AW.weak (s' := ⟨[(1, .ptr 1 n0 0 0), (2, .ptr 2 (n0 + 1) 0 0)], [(1, some (.box n0 34 [rI (n1.ID), rI (n1.Kind), .own 8 (n0 + 2), qd r1, rI (n1.Grid.Rows), rI (n1.Grid.Cols), qc n1.Grid.Cells, qb n1.Grid.Merges, qe n1.Draw])), (2, some (.box (n0 + 1) 34 [rI (0), rI (0), .cst (.slice none 0 0), .cst (.slice none 0 0), rI (0), rI (0), .cst (.slice none 0 0), .cst (.slice none 0 0), .cst (.slice none 0 0)])), (8, some (.arr (n0 + 2) 67 2 (l1.map GAttr.row)))], (n0 + 3), 48⟩) (by exact Weak.cv ⟨jL, jL, trivial⟩ ⟨.inl rfl, .inl rfl, .inl rfl, trivial⟩ nL) ?_
 refine aR (sQ rfl (fB rfl tf_34_5 iL fR rfl) (sQ rfl (ms_load_box (a := qe n1.Draw) rfl ts_32 iL rfl rfl) (ob1k h2 fun l2 el2 h3 => (AOps.step rfl rfl rfl (ms_app_nil 16 (f := GDrawOp.row) rfl tg_32 iL (.inl ⟨iL, fun _ => rfl⟩) el2) (sQ rfl (fB rfl tf_34_5 iL fR rfl) (AOps.step0 rfl rfl (ms_store_box (ds := [rI (n1.ID), rI (n1.Kind), .own 8 (n0 + 2), qd r1, rI (n1.Grid.Rows), rI (n1.Grid.Cols), qc n1.Grid.Cells, qb n1.Grid.Merges, .own 16 (n0 + 3)]) rfl tz_32 iL rfl iL rfl rfl rfl rfl) (aZ (hK4 _ ?_))))))))
 refine aS fun K5 hK5 wK5 => (aR (sQ rfl (fB rfl tf_34_4 iL fR rfl) (sQ rfl (ms_loadA_box_at (ds := [rI (n1.Grid.Rows), rI (n1.Grid.Cols), qc n1.Grid.Cells, qb n1.Grid.Merges]) rfl ta_31 iL rfl rfl rfl) (AOps.step rfl rfl rfl (ms_alloc (cs := [rI (0), rI (0), .cst (.slice none 0 0), .cst (.slice none 0 0)]) 3 rfl t0_31 rfl rfl) (AOps.step0 rfl rfl (ms_store_box (ds := [rI (n1.Grid.Rows), rI (n1.Grid.Cols), qc n1.Grid.Cells, qb n1.Grid.Merges]) rfl tz_31 iL rfl iL rfl rfl rfl rfl) (aZ (hK5 _ ?_)))))))
 refine aS fun K6 hK6 wK6 => (aR (sQ rfl (fB rfl tf_31_3 iL fR rfl) (sQ rfl (ms_load_box (a := qb n1.Grid.Merges) rfl ts_29 iL rfl rfl) (ob1k h3 fun l3 el3 h4 => (AOps.step rfl rfl rfl (ms_app_nil 22 (f := GRect.row) rfl tg_29 iL (.inl ⟨iL, fun _ => rfl⟩) el3) (sQ rfl (fB rfl tf_31_3 iL fR rfl) (AOps.step0 rfl rfl (ms_store_box (ds := [rI (n1.Grid.Rows), rI (n1.Grid.Cols), qc n1.Grid.Cells, .own 22 (n0 + 5)]) rfl tz_29 iL rfl iL rfl rfl rfl rfl) (aZ (hK6 _ ?_)))))))))
 refine aS fun K7 hK7 wK7 => ?_
 refine AW.weak (s' := ⟨[(1, .ptr 1 n0 0 0), (2, .ptr 2 (n0 + 1) 0 0), (3, .ptr 3 (n0 + 4) 0 0)], [(1, some (.box n0 34 [rI (n1.ID), rI (n1.Kind), .own 8 (n0 + 2), qd r1, rI (n1.Grid.Rows), rI (n1.Grid.Cols), qc n1.Grid.Cells, qb n1.Grid.Merges, .own 16 (n0 + 3)])), (2, some (.box (n0 + 1) 34 [rI (0), rI (0), .cst (.slice none 0 0), .cst (.slice none 0 0), rI (0), rI (0), .cst (.slice none 0 0), .cst (.slice none 0 0), .cst (.slice none 0 0)])), (3, some (.box (n0 + 4) 31 [rI (n1.Grid.Rows), rI (n1.Grid.Cols), qc n1.Grid.Cells, .own 22 (n0 + 5)])), (8, some (.arr (n0 + 2) 67 2 (l1.map GAttr.row))), (16, some (.arr (n0 + 3) 140 8 (l2.map GDrawOp.row))), (22, some (.arr (n0 + 5) 138 4 (l3.map GRect.row)))], (n0 + 6), 48⟩) (by exact Weak.cv ⟨jL, jL, jL, trivial⟩ ⟨.inl rfl, .inl rfl, .inl rfl, .inl rfl, .inl rfl, .inl rfl, trivial⟩ nL) ?_
 refine aR (sQ rfl (fB rfl tf_31_2 iL fR rfl) (sQ rfl (ms_load_box (a := qc n1.Grid.Cells) rfl ts_28 iL rfl rfl) (ob1k h4 fun l4 el4 h5 => (AOps.step rfl rfl rfl (ms_app_nil 26 (f := GCell.row) rfl tg_28 iL (.inl ⟨iL, fun _ => rfl⟩) el4) (sQ rfl (fB rfl tf_31_2 iL fR rfl) (AOps.step0 rfl rfl (ms_store_box (ds := [rI (n1.Grid.Rows), rI (n1.Grid.Cols), .own 26 (n0 + 6), .own 22 (n0 + 5)]) rfl tz_28 iL rfl iL rfl rfl rfl rfl) (aZ (hK7 _ ?_))))))))
 refine aS fun K8 hK8 wK8 => (aS fun K9 hK9 wK9 => (aR (sQ rfl (fB rfl tf_31_2 iL fR rfl) (sQ rfl (ms_load_box (a := .own 26 (n0 + 6)) rfl ts_28 iL rfl rfl) (sQ rfl (ms_len_own rfl tg_28.slice iL rfl) (sM rfl rfl (aZ (hK9 _ ?_))))))))
 refine AW.block ?_
 refine jb1k h5 fun o1 hit1 hk1 => ?_
 have J1 : ∀ (g4 : GGrid) (i5 : Nat → Nat), o1 = g4 → K8 ⟨[(1, .ptr 1 n0 0 0), (2, .ptr 2 (n0 + 1) 0 0), (3, .ptr 3 (n0 + 4) 0 0)], [(1, some (.box n0 34 [rI (n1.ID), rI (n1.Kind), .own 8 (n0 + 2), qd r1, rI (n1.Grid.Rows), rI (n1.Grid.Cols), qc n1.Grid.Cells, qb n1.Grid.Merges, .own 16 (n0 + 3)])), (2, some (.box (n0 + 1) 34 [rI (0), rI (0), .cst (.slice none 0 0), .cst (.slice none 0 0), rI (0), rI (0), .cst (.slice none 0 0), .cst (.slice none 0 0), .cst (.slice none 0 0)])), (3, some (.box (n0 + 4) 31 [rI (g4.Rows), rI (g4.Cols), .own 26 (i5 0), .own 22 (i5 1)])), (8, some (.arr (n0 + 2) 67 2 (l1.map GAttr.row))), (16, some (.arr (n0 + 3) 140 8 (l2.map GDrawOp.row))), (22, some (.arr (i5 1) 138 4 (g4.Merges.map GRect.row))), (26, some (.arr (i5 0) 178 5 (g4.Cells.map GCell.row)))], (i5 2), 48⟩ := by
  intro g4 i5 e
  have h6 := hk1 _ e
  refine hK8 _ ?_
  refine aS fun K10 hK10 wK10 => (aR (sQ rfl (ms_loadA_box rfl ta_31 iL rfl rfl) (sQ rfl (fB rfl tf_34_4 iL fR rfl) (AOps.step0 rfl rfl (ms_store_box (ds := [rI (n1.ID), rI (n1.Kind), .own 8 (n0 + 2), qd r1, rI (g4.Rows), rI (g4.Cols), .own 26 (i5 0), .own 22 (i5 1), .own 16 (n0 + 3)]) rfl tz_31 iL rfl iL rfl rfl rfl rfl) (aZ (hK10 _ ?_))))))
  refine aS fun K11 hK11 wK11 => (aR (sQ rfl (ms_loadA_box rfl ta_34 iL rfl rfl) (AOps.step0 rfl rfl (ms_store_box (ds := [rI (n1.ID), rI (n1.Kind), .own 8 (n0 + 2), qd r1, rI (g4.Rows), rI (g4.Cols), .own 26 (i5 0), .own 22 (i5 1), .own 16 (n0 + 3)]) rfl tz_34 iL rfl iL rfl rfl rfl rfl) (aZ (hK11 _ ?_)))))
  refine AW.ret ?_
  exact retf1 (P := prog) (fun (r : GNode) => .agg [rI (r.ID), rI (r.Kind), qa r.Attrs, qd r.Flow, rI (r.Grid.Rows), rI (r.Grid.Cols), qc r.Grid.Cells, qb r.Grid.Merges, qe r.Draw]) h6 iL (.a ta_34 rfl rfl rfl (.agg (by exact ⟨.closed _ rfl, .closed _ rfl, .own rfl, .closed _ rfl, .closed _ rfl, .closed _ rfl, .own rfl, .own rfl, .own rfl, trivial⟩)))
 refine AW.iter2 (fun (x2 : Int) (g2 : GGrid) i3 => ⟨[(1, .ptr 1 n0 0 0), (2, .ptr 2 (n0 + 1) 0 0), (3, .ptr 3 (n0 + 4) 0 0), (29, .own 26 (i3 0)), (30, rI ((l4.length : Int))), (31, rI (x2))], [(1, some (.box n0 34 [rI (n1.ID), rI (n1.Kind), .own 8 (n0 + 2), qd r1, rI (n1.Grid.Rows), rI (n1.Grid.Cols), qc n1.Grid.Cells, qb n1.Grid.Merges, .own 16 (n0 + 3)])), (2, some (.box (n0 + 1) 34 [rI (0), rI (0), .cst (.slice none 0 0), .cst (.slice none 0 0), rI (0), rI (0), .cst (.slice none 0 0), .cst (.slice none 0 0), .cst (.slice none 0 0)])), (3, some (.box (n0 + 4) 31 [rI (g2.Rows), rI (g2.Cols), .own 26 (i3 0), .own 22 (i3 1)])), (8, some (.arr (n0 + 2) 67 2 (l1.map GAttr.row))), (16, some (.arr (n0 + 3) 140 8 (l2.map GDrawOp.row))), (22, some (.arr (i3 1) 138 4 (g2.Merges.map GRect.row))), (26, some (.arr (i3 0) 178 5 (g2.Cells.map GCell.row)))], (i3 2), 48⟩) (vec [(n0 + 6), (n0 + 5), (n0 + 7)]) hit1 ((by exact Weak.cv ⟨jL, jL, jL, jL, jL, jL, trivial⟩ ⟨.inl rfl, .inl rfl, .inl rfl, .inl rfl, .inl rfl, .inl rfl, .inl rfl, trivial⟩ nL)) ?_
 intro x2 g2 i3 v1 hv1 hx1
 have h7 : doc_CopyNode_L1 l4 x2 g2 = some v1 := hv1; unfold doc_CopyNode_L1 at h7
 refine aS fun K12 hK12 wK12 => (aR (sQ rfl (sp_lss rfl iL iL) (aZ (hK12 _ ?_))))
 refine aS fun K13 hK13 wK13 => ?_
 refine aC rfl (fun hc1 => ?_) (fun hc1 => ?_)
 ·have h8 := ite_t hc1 h7
  refine AW.skip ?_
  refine hK13 _ ?_
  refine aS fun K14 hK14 wK14 => (AW.block (aS fun K15 hK15 wK15 => (aR (sM rfl rfl (ob1k h8 fun x4 ex4 h9 => (sQ rfl (ms_idx_own rfl tg_28.slice iL rfl iL (fun _ => ex4)) (sQ rfl (ms_loadA_own (cs := [rI (x4.Row), rI (x4.Col), .r (.str x4.Text), rI (x4.Ref), qa x4.Attrs]) rfl ta_178 iL fR (fun _ => ex4) rfl) (AOps.step rfl rfl rfl (ms_alloc (cs := [rI (0), rI (0), .r (.str []), rI (0), .cst (.slice none 0 0)]) 5 rfl t0_178 rfl rfl) (sA rfl rfl (AOps.step0 rfl rfl (ms_store_box (ds := [rI (x4.Row), rI (x4.Col), .r (.str x4.Text), rI (x4.Ref), qa x4.Attrs]) rfl tz_178 iL rfl iL rfl rfl rfl rfl) (aZ (hK15 _ ?_))))))))))))
  refine ob1k h9 fun l5 el5 h10 => ?_
  refine AW.regionP 6 [⟨some 36, (fun _ => .ptr 3 (n0 + 4) 0 2), none, []⟩, ⟨some 37, (fun _ => .own 26 (i3 0)), none, []⟩, ⟨some 38, (fun _ => rI (x2)), none, []⟩, ⟨some 39, (fun _ => .ptr 5 (i3 2) 0 4), none, []⟩, ⟨some 40, (fun _ => qa x4.Attrs), none, []⟩, ⟨some 41, (fun G1 => .own 41 (G1 5)), some (41, (fun G1 => some (.arr (G1 5) 67 2 (l5.map GAttr.row)))), [5]⟩] hmix (by kernel_rfl) (by exact ⟨fun _ _ h => ⟨rfl, fun _ _ e => by cases e⟩, fun _ _ h => ⟨rfl, fun _ _ e => by cases e⟩, fun _ _ h => ⟨rfl, fun _ _ e => by cases e⟩, fun _ _ h => ⟨rfl, fun _ _ e => by cases e⟩, fun _ _ h => ⟨rfl, fun _ _ e => by cases e⟩, fun _ _ h => ⟨by simp only [h 5 rfl], fun _ _ e => by cases e; simp only [h 5 rfl]⟩, trivial⟩) rfl (by exact ⟨Ob.quiet (n1 := fun n => n) rfl rfl (by intro d h; cases h; rfl) rfl (fun _ => [(3, .ptr 3 (n0 + 4) 0 0)]) (fun _ => [(3, some (.box (n0 + 4) 31 [rI (g2.Rows), rI (g2.Cols), .own 26 (i3 0), .own 22 (i3 1)]))]) (fun D G1 hr => ⟨inE_base rfl rfl, trivial⟩) (fun D G1 hr => ⟨inH_base rfl rfl, trivial⟩) (fun _ _ => rfl) (fun G1 e h' n => OpQ.spec (v := .ptr 3 (n0 + 4) 0 2) (fB rfl tf_31_2 (.inl rfl) (fun _ => rfl) rfl) _),
    Ob.quiet (n1 := fun n => n) rfl rfl (by intro d h; cases h; rfl) rfl (fun _ => [(36, .ptr 3 (n0 + 4) 0 2)]) (fun _ => [(3, some (.box (n0 + 4) 31 [rI (g2.Rows), rI (g2.Cols), .own 26 (i3 0), .own 22 (i3 1)]))]) (fun D G1 hr => ⟨inE_op hr 0 rfl rfl (by kernel_rfl) rfl rfl, trivial⟩) (fun D G1 hr => ⟨inH_base rfl rfl, trivial⟩) (fun _ _ => rfl) (fun G1 e h' n => OpQ.spec (v := .own 26 (i3 0)) (ms_load_box (a := .own 26 (i3 0)) rfl ts_28 (.inl rfl) rfl rfl) _),
    Ob.quiet (n1 := fun n => n) rfl rfl (by intro d h; cases h; rfl) rfl (fun _ => [(4, rI (x2))]) (fun _ => []) (fun D G1 hr => ⟨inE_base rfl rfl, trivial⟩) (fun D G1 hr => trivial) (fun _ _ => rfl) (fun G1 e h' n => OpQ.spec (v := rI (x2)) (sp_move rfl (.inl rfl)) _),
    Ob.quiet (n1 := fun n => n) rfl rfl (by intro d h; cases h; rfl) rfl (fun _ => [(5, .ptr 5 (i3 2) 0 0)]) (fun _ => [(5, some (.box (i3 2) 178 [rI (x4.Row), rI (x4.Col), .r (.str x4.Text), rI (x4.Ref), qa x4.Attrs]))]) (fun D G1 hr => ⟨inE_base rfl rfl, trivial⟩) (fun D G1 hr => ⟨inH_base rfl rfl, trivial⟩) (fun _ _ => rfl) (fun G1 e h' n => OpQ.spec (v := .ptr 5 (i3 2) 0 4) (fB rfl tf_178_4 (.inl rfl) (fun _ => rfl) rfl) _),
    Ob.quiet (n1 := fun n => n) rfl rfl (by intro d h; cases h; rfl) rfl (fun _ => [(39, .ptr 5 (i3 2) 0 4)]) (fun _ => [(5, some (.box (i3 2) 178 [rI (x4.Row), rI (x4.Col), .r (.str x4.Text), rI (x4.Ref), qa x4.Attrs]))]) (fun D G1 hr => ⟨inE_op hr 3 rfl rfl (by kernel_rfl) rfl rfl, trivial⟩) (fun D G1 hr => ⟨inH_base rfl rfl, trivial⟩) (fun _ _ => rfl) (fun G1 e h' n => OpQ.spec (v := qa x4.Attrs) (ms_load_box (a := qa x4.Attrs) rfl ts_26 (.inl rfl) rfl rfl) _),
    Ob.make (n1 := fun n => n + 1) rfl rfl (by intro d h; cases h; rfl) rfl (fun _ => [(40, qa x4.Attrs)]) (fun _ => []) (fun D G1 hr => ⟨inE_op hr 4 rfl rfl (by kernel_rfl) rfl rfl, trivial⟩) (fun D G1 hr => trivial) (fun G1 e h' n => ms_app_nil 41 (f := GAttr.row) rfl tg_26 (.inl rfl) (.inl ⟨(.inl rfl), fun _ => rfl⟩) el5),
    trivial⟩) fun G1 n2 => ?_
  refine AOps.weak (s' := ⟨[(1, .ptr 1 n0 0 0), (2, .ptr 2 (n0 + 1) 0 0), (3, .ptr 3 (n0 + 4) 0 0), (4, rI (x2)), (5, .ptr 5 (i3 2) 0 0), (29, .own 26 (i3 0)), (30, rI ((l4.length : Int))), (31, rI (x2)), (32, rB ((decide (x2 < (l4.length : Int))))), (33, rI (x2)), (34, .ptr 26 (i3 0) x2.toNat 0), (35, .agg [rI (x4.Row), rI (x4.Col), .r (.str x4.Text), rI (x4.Ref), qa x4.Attrs]), (36, .ptr 3 (n0 + 4) 0 2), (37, .own 26 (i3 0)), (38, rI (x2)), (39, .ptr 5 (i3 2) 0 4), (40, qa x4.Attrs), (41, .own 41 (G1 5))], [(1, some (.box n0 34 [rI (n1.ID), rI (n1.Kind), .own 8 (n0 + 2), qd r1, rI (n1.Grid.Rows), rI (n1.Grid.Cols), qc n1.Grid.Cells, qb n1.Grid.Merges, .own 16 (n0 + 3)])), (2, some (.box (n0 + 1) 34 [rI (0), rI (0), .cst (.slice none 0 0), .cst (.slice none 0 0), rI (0), rI (0), .cst (.slice none 0 0), .cst (.slice none 0 0), .cst (.slice none 0 0)])), (3, some (.box (n0 + 4) 31 [rI (g2.Rows), rI (g2.Cols), .own 26 (i3 0), .own 22 (i3 1)])), (5, some (.box (i3 2) 178 [rI (x4.Row), rI (x4.Col), .r (.str x4.Text), rI (x4.Ref), qa x4.Attrs])), (8, some (.arr (n0 + 2) 67 2 (l1.map GAttr.row))), (16, some (.arr (n0 + 3) 140 8 (l2.map GDrawOp.row))), (22, some (.arr (i3 1) 138 4 (g2.Merges.map GRect.row))), (26, some (.arr (i3 0) 178 5 (g2.Cells.map GCell.row))), (41, some (.arr (G1 5) 67 2 (l5.map GAttr.row)))], n2, 48⟩) (by exact Weak.cv ⟨jL, jL, jL, jL, jL, jL, jL, jL, jL, jL, jL, jL, jL, jL, jL, jL, jL, jL, trivial⟩ ⟨.inl rfl, .inl rfl, .inl rfl, .inl rfl, .inl rfl, .inl rfl, .inl rfl, .inl rfl, .inl rfl, trivial⟩ nL) ?_
  refine sQ rfl (ms_idx_own rfl tg_28.slice iL rfl iL (fun _ => ex4)) (sQ rfl (sp_fieldAddr_own (ob := .arr _ _ _ _) rfl tf_178_4 iL fR rfl) ?_)
  refine AOps.weak (by exact Weak.frz (e' := [(1, .ptr 1 n0 0 0), (2, .ptr 2 (n0 + 1) 0 0), (3, .ptr 3 (n0 + 4) 0 0), (4, rI (x2)), (5, .ptr 5 (i3 2) 0 0), (29, .own 26 (i3 0)), (30, rI ((l4.length : Int))), (31, rI (x2)), (32, rB ((decide (x2 < (l4.length : Int))))), (33, rI (x2)), (34, .ptr 26 (i3 0) x2.toNat 0), (35, .agg [rI (x4.Row), rI (x4.Col), .r (.str x4.Text), rI (x4.Ref), qa x4.Attrs]), (36, .ptr 3 (n0 + 4) 0 2), (37, .own 26 (i3 0)), (38, rI (x2)), (39, .ptr 5 (i3 2) 0 4), (40, qa x4.Attrs), (41, qa l5), (42, .ptr 26 (i3 0) x2.toNat 0), (43, .ptr 26 (i3 0) x2.toNat 4)]) (h' := [(1, some (.box n0 34 [rI (n1.ID), rI (n1.Kind), .own 8 (n0 + 2), qd r1, rI (n1.Grid.Rows), rI (n1.Grid.Cols), qc n1.Grid.Cells, qb n1.Grid.Merges, .own 16 (n0 + 3)])), (2, some (.box (n0 + 1) 34 [rI (0), rI (0), .cst (.slice none 0 0), .cst (.slice none 0 0), rI (0), rI (0), .cst (.slice none 0 0), .cst (.slice none 0 0), .cst (.slice none 0 0)])), (3, some (.box (n0 + 4) 31 [rI (g2.Rows), rI (g2.Cols), .own 26 (i3 0), .own 22 (i3 1)])), (5, some (.box (i3 2) 178 [rI (x4.Row), rI (x4.Col), .r (.str x4.Text), rI (x4.Ref), qa x4.Attrs])), (8, some (.arr (n0 + 2) 67 2 (l1.map GAttr.row))), (16, some (.arr (n0 + 3) 140 8 (l2.map GDrawOp.row))), (22, some (.arr (i3 1) 138 4 (g2.Merges.map GRect.row))), (26, some (.arr (i3 0) 178 5 (g2.Cells.map GCell.row)))]) 41 rfl ⟨jL, jL, jL, jL, jL, jL, jL, jL, jL, jL, jL, jL, jL, jL, jL, jL, jL, .inl (.inr (.inr ⟨rfl, rfl⟩)), jL, jL, trivial⟩ ⟨rfl, .inl rfl, rfl, .inl rfl, rfl, .inl rfl, rfl, .inl rfl, rfl, .inl rfl, rfl, .inl rfl, rfl, .inl rfl, rfl, .inl rfl, trivial⟩) ?_
  refine AOps.step0 rfl rfl (ms_store (v := (GCell.mk x4.Row x4.Col x4.Text x4.Ref l5)) rfl tz_26 iL rfl ex4 iL rfl rfl rfl rfl) (aZ (hK14 _ ?_))
  refine AW.weak (s' := ⟨[(1, .ptr 1 n0 0 0), (2, .ptr 2 (n0 + 1) 0 0), (3, .ptr 3 (n0 + 4) 0 0), (29, .own 26 (i3 0)), (30, rI ((l4.length : Int))), (31, rI (x2))], [(1, some (.box n0 34 [rI (n1.ID), rI (n1.Kind), .own 8 (n0 + 2), qd r1, rI (n1.Grid.Rows), rI (n1.Grid.Cols), qc n1.Grid.Cells, qb n1.Grid.Merges, .own 16 (n0 + 3)])), (2, some (.box (n0 + 1) 34 [rI (0), rI (0), .cst (.slice none 0 0), .cst (.slice none 0 0), rI (0), rI (0), .cst (.slice none 0 0), .cst (.slice none 0 0), .cst (.slice none 0 0)])), (3, some (.box (n0 + 4) 31 [rI (g2.Rows), rI (g2.Cols), .own 26 (i3 0), .own 22 (i3 1)])), (8, some (.arr (n0 + 2) 67 2 (l1.map GAttr.row))), (16, some (.arr (n0 + 3) 140 8 (l2.map GDrawOp.row))), (22, some (.arr (i3 1) 138 4 (g2.Merges.map GRect.row))), (26, some (.arr (i3 0) 178 5 ((g2.Cells.set x2.toNat (GCell.mk x4.Row x4.Col x4.Text x4.Ref l5)).map GCell.row)))], n2, 48⟩) (by exact Weak.cv ⟨jL, jL, jL, jL, jL, jL, trivial⟩ ⟨.inl rfl, .inl rfl, .inl rfl, .inl rfl, .inl rfl, .inl rfl, .inl rfl, trivial⟩ nL) ?_
  refine aR (ob1k h10 fun x5 ex5 h11 => (sQ rfl (ms_add rfl iL iL (fun _ => ex5)) (sM rfl rfl ?_)))
  refine AOps.nil ?_
  exact NextQ2.mk h11 (vec [(i3 0), (i3 1), n2]) ((by exact Weak.cv ⟨jL, jL, jL, jL, jL, jL, trivial⟩ ⟨.inl rfl, .inl rfl, .inl rfl, .inl rfl, .inl rfl, .inl rfl, .inl rfl, trivial⟩ nL))
 ·have h8 := ite_f hc1 h7
  refine AW.exit ?_
  exact wK8 _ _ ((by exact Weak.cv ⟨jL, jL, jL, trivial⟩ ⟨.inl rfl, .inl rfl, .inl rfl, .inl rfl, .inl rfl, .inl rfl, .inl rfl, trivial⟩ nL)) (J1 _ (vec [(i3 0), (i3 1), (i3 2)]) (hx1 _ (Option.some.inj h8).symm))
theorem w_doc_Copy_o {d1 : GDoc} {r : (List GNode)} (h : doc_Copy_o d1 = some r) : AHC prog 83 1 [.agg [qg d1.Nodes]] [] (fun rr h' => ∃ (i : Nat → Nat), rr = .agg [.own 1000 (i 0)] ∧ h' = [(1000, some (.arr (i 0) 34 9 (r.map GNode.row)))]) := by
 unfold doc_Copy_o at h
 refine AHC.mkw func83 rfl rfl ntmps83 (Nat.le_of_ble_eq_true rfl) fun n0 => ?_
 refine aS fun K1 hK1 wK1 => (aR (AOps.step rfl rfl rfl (ms_box (cs := [qg d1.Nodes]) 1 rfl iL rfl rfl) (AOps.step rfl rfl rfl (ms_alloc (cs := [.cst (.slice none 0 0)]) 2 rfl t0_45 rfl rfl) (aZ (hK1 _ ?_)))))
 refine aS fun K2 hK2 wK2 => (aR (sQ rfl (fB rfl tf_45_0 iL fR rfl) (sQ rfl (ms_load_box (a := qg d1.Nodes) rfl ts_43 iL rfl rfl) (sQ rfl (ms_len rfl tg_43.slice iL) (ob1k h fun l1 el1 h1 => (AOps.step rfl rfl rfl (ms_mk 1000 rfl tg_43 (f := GNode.row) (z0 := (GNode.mk 0 0 [] [] (GGrid.mk 0 0 [] []) [])) tr_34 iL iL el1) ?_))))))
 refine sQ rfl (sp_build rfl tb_45 (q := [(0, _)]) (by exact ⟨rfl, rfl, rfl, iL, trivial⟩) (cs := [.own 1000 (n0 + 2)]) (by rfl)) ?_
 refine AOps.step rfl rfl rfl (ms_alloc (cs := [.cst (.slice none 0 0)]) 3 rfl t0_45 rfl rfl) (AOps.step0 rfl rfl (ms_store_box (ds := [.own 1000 (n0 + 2)]) rfl tz_45 iL rfl iL rfl rfl rfl rfl) (aZ (hK2 _ ?_)))
 refine aS fun K3 hK3 wK3 => (aS fun K4 hK4 wK4 => (aR (sQ rfl (fB rfl tf_45_0 iL fR rfl) (sQ rfl (ms_load_box (a := qg d1.Nodes) rfl ts_43 iL rfl rfl) (sQ rfl (ms_len rfl tg_43.slice iL) (sM rfl rfl (aZ (hK4 _ ?_))))))))
 refine AW.block ?_
 refine jb1k h1 fun o1 hit1 hk1 => ?_
 have J1 : ∀ (out4 : GDoc) (i5 : Nat → Nat), o1 = out4 → K3 ⟨[(2, .ptr 2 (n0 + 1) 0 0), (3, .ptr 3 (n0 + 3) 0 0)], [(2, some (.box (n0 + 1) 45 [.cst (.slice none 0 0)])), (3, some (.box (n0 + 3) 45 [.own 1000 (i5 0)])), (1000, some (.arr (i5 0) 34 9 (out4.Nodes.map GNode.row)))], (i5 1), 27⟩ := by
  intro out4 i5 e
  have h2 := hk1 _ e
  refine hK3 _ ?_
  refine aS fun K5 hK5 wK5 => (aR (sQ rfl (ms_loadA_box rfl ta_45 iL rfl rfl) (AOps.step0 rfl rfl (ms_store_box (ds := [.own 1000 (i5 0)]) rfl tz_45 iL rfl iL rfl rfl rfl rfl) (aZ (hK5 _ ?_)))))
  refine AW.ret ?_
  exact RetW.mk (s' := ⟨[(2, .ptr 2 (n0 + 1) 0 0)], [(2, some (.box (n0 + 1) 45 [.own 1000 (i5 0)])), (1000, some (.arr (i5 0) 34 9 (out4.Nodes.map GNode.row)))], (i5 1), 27⟩) ((by exact Weak.cv ⟨jL, trivial⟩ ⟨.inl rfl, .inl rfl, trivial⟩ nL)) (reth_cast (fun (r : (List GNode)) rr h' => ∃ (i : Nat → Nat), rr = .agg [.own 1000 (i 0)] ∧ h' = [(1000, some (.arr (i 0) 34 9 (r.map GNode.row)))]) h2 (by exact ⟨.agg [.own 1000 (i5 0)], [(1000, some (.arr (i5 0) 34 9 (out4.Nodes.map GNode.row)))], .inr ⟨_, rfl, ta_45, _, _, _, rfl, rfl⟩, ⟨.inr rfl, trivial⟩, rfl, rfl, vec [(i5 0)], rfl, rfl⟩))
 refine AW.iter2 (fun (x2 : Int) (out2 : GDoc) i3 => ⟨[(2, .ptr 2 (n0 + 1) 0 0), (3, .ptr 3 (n0 + 3) 0 0), (12, qg d1.Nodes), (13, rI ((d1.Nodes.length : Int))), (14, rI (x2))], [(2, some (.box (n0 + 1) 45 [.cst (.slice none 0 0)])), (3, some (.box (n0 + 3) 45 [.own 1000 (i3 0)])), (1000, some (.arr (i3 0) 34 9 (out2.Nodes.map GNode.row)))], (i3 1), 27⟩) (vec [(n0 + 2), (n0 + 4)]) hit1 ((by exact Weak.cv ⟨jL, jL, jL, jL, jL, trivial⟩ ⟨.inl rfl, .inl rfl, .inl rfl, trivial⟩ nL)) ?_
 intro x2 out2 i3 v1 hv1 hx1
 have h3 : doc_Copy_o_L1 d1 x2 out2 = some v1 := hv1; unfold doc_Copy_o_L1 at h3
 refine aS fun K6 hK6 wK6 => (aR (sQ rfl (sp_lss rfl iL iL) (aZ (hK6 _ ?_))))
 refine aS fun K7 hK7 wK7 => ?_
 refine aC rfl (fun hc1 => ?_) (fun hc1 => ?_)
 ·have h4 := ite_t hc1 h3
  refine AW.skip ?_
  refine hK7 _ ?_
  refine aS fun K8 hK8 wK8 => (AW.block (aS fun K9 hK9 wK9 => (aR (sM rfl rfl (ob1k h4 fun x4 ex4 h5 => (sQ rfl (ms_idx rfl tg_43.slice iL iL (fun _ => rfl) (fun _ => ex4)) (sQ rfl (ms_loadA (cs := [rI (x4.ID), rI (x4.Kind), qa x4.Attrs, qd x4.Flow, rI (x4.Grid.Rows), rI (x4.Grid.Cols), qc x4.Grid.Cells, qb x4.Grid.Merges, qe x4.Draw]) rfl ta_34 iL rfl rfl) (AOps.step rfl rfl rfl (ms_alloc (cs := [rI (0), rI (0), .cst (.slice none 0 0), .cst (.slice none 0 0), rI (0), rI (0), .cst (.slice none 0 0), .cst (.slice none 0 0), .cst (.slice none 0 0)]) 5 rfl t0_34 rfl rfl) (sA rfl rfl (AOps.step0 rfl rfl (ms_store_box (ds := [rI (x4.ID), rI (x4.Kind), qa x4.Attrs, qd x4.Flow, rI (x4.Grid.Rows), rI (x4.Grid.Cols), qc x4.Grid.Cells, qb x4.Grid.Merges, qe x4.Draw]) rfl tz_34 iL rfl iL rfl rfl rfl rfl) (aZ (hK9 _ ?_))))))))))))
  refine ob1k h5 fun r1 er1 h6 => ?_
  refine AW.regionP 5 [⟨some 19, (fun _ => .ptr 3 (n0 + 3) 0 0), none, []⟩, ⟨some 20, (fun _ => .own 1000 (i3 0)), none, []⟩, ⟨some 21, (fun _ => rI (x2)), none, []⟩, ⟨some 22, (fun _ => .agg [rI (x4.ID), rI (x4.Kind), qa x4.Attrs, qd x4.Flow, rI (x4.Grid.Rows), rI (x4.Grid.Cols), qc x4.Grid.Cells, qb x4.Grid.Merges, qe x4.Draw]), none, []⟩, ⟨some 23, (fun _ => .agg [rI (r1.ID), rI (r1.Kind), qa r1.Attrs, qd r1.Flow, rI (r1.Grid.Rows), rI (r1.Grid.Cols), qc r1.Grid.Cells, qb r1.Grid.Merges, qe r1.Draw]), none, []⟩] hmix (by kernel_rfl) (by exact ⟨fun _ _ h => ⟨rfl, fun _ _ e => by cases e⟩, fun _ _ h => ⟨rfl, fun _ _ e => by cases e⟩, fun _ _ h => ⟨rfl, fun _ _ e => by cases e⟩, fun _ _ h => ⟨rfl, fun _ _ e => by cases e⟩, fun _ _ h => ⟨rfl, fun _ _ e => by cases e⟩, trivial⟩) rfl (by exact ⟨Ob.quiet (n1 := fun n => n) rfl rfl (by intro d h; cases h; rfl) rfl (fun _ => [(3, .ptr 3 (n0 + 3) 0 0)]) (fun _ => [(3, some (.box (n0 + 3) 45 [.own 1000 (i3 0)]))]) (fun D G1 hr => ⟨inE_base rfl rfl, trivial⟩) (fun D G1 hr => ⟨inH_base rfl rfl, trivial⟩) (fun _ _ => rfl) (fun G1 e h' n => OpQ.spec (v := .ptr 3 (n0 + 3) 0 0) (fB rfl tf_45_0 (.inl rfl) (fun _ => rfl) rfl) _),
    Ob.quiet (n1 := fun n => n) rfl rfl (by intro d h; cases h; rfl) rfl (fun _ => [(19, .ptr 3 (n0 + 3) 0 0)]) (fun _ => [(3, some (.box (n0 + 3) 45 [.own 1000 (i3 0)]))]) (fun D G1 hr => ⟨inE_op hr 0 rfl rfl (by kernel_rfl) rfl rfl, trivial⟩) (fun D G1 hr => ⟨inH_base rfl rfl, trivial⟩) (fun _ _ => rfl) (fun G1 e h' n => OpQ.spec (v := .own 1000 (i3 0)) (ms_load_box (a := .own 1000 (i3 0)) rfl ts_43 (.inl rfl) rfl rfl) _),
    Ob.quiet (n1 := fun n => n) rfl rfl (by intro d h; cases h; rfl) rfl (fun _ => [(4, rI (x2))]) (fun _ => []) (fun D G1 hr => ⟨inE_base rfl rfl, trivial⟩) (fun D G1 hr => trivial) (fun _ _ => rfl) (fun G1 e h' n => OpQ.spec (v := rI (x2)) (sp_move rfl (.inl rfl)) _),
    Ob.quiet (n1 := fun n => n) rfl rfl (by intro d h; cases h; rfl) rfl (fun _ => [(5, .ptr 5 (i3 1) 0 0)]) (fun _ => [(5, some (.box (i3 1) 34 [rI (x4.ID), rI (x4.Kind), qa x4.Attrs, qd x4.Flow, rI (x4.Grid.Rows), rI (x4.Grid.Cols), qc x4.Grid.Cells, qb x4.Grid.Merges, qe x4.Draw]))]) (fun D G1 hr => ⟨inE_base rfl rfl, trivial⟩) (fun D G1 hr => ⟨inH_base rfl rfl, trivial⟩) (fun _ _ => rfl) (fun G1 e h' n => OpQ.spec (v := .agg [rI (x4.ID), rI (x4.Kind), qa x4.Attrs, qd x4.Flow, rI (x4.Grid.Rows), rI (x4.Grid.Cols), qc x4.Grid.Cells, qb x4.Grid.Merges, qe x4.Draw]) (ms_loadA_box rfl ta_34 (.inl rfl) rfl rfl) _),
    Ob.quiet (n1 := fun n => n) rfl rfl (by intro d h; cases h; rfl) rfl (fun _ => [(22, .agg [rI (x4.ID), rI (x4.Kind), qa x4.Attrs, qd x4.Flow, rI (x4.Grid.Rows), rI (x4.Grid.Cols), qc x4.Grid.Cells, qb x4.Grid.Merges, qe x4.Draw])]) (fun _ => []) (fun D G1 hr => ⟨inE_op hr 3 rfl rfl (by kernel_rfl) rfl rfl, trivial⟩) (fun D G1 hr => trivial) (fun _ _ => rfl) (fun G1 e h' n => sp_callS (r := .agg [rI (r1.ID), rI (r1.Kind), qa r1.Attrs, qd r1.Flow, rI (r1.Grid.Rows), rI (r1.Grid.Cols), qc r1.Grid.Cells, qb r1.Grid.Merges, qe r1.Draw]) (caps := []) (bs := [.agg [rI (x4.ID), rI (x4.Kind), qa x4.Attrs, qd x4.Flow, rI (x4.Grid.Rows), rI (x4.Grid.Cols), qc x4.Grid.Cells, qb x4.Grid.Merges, qe x4.Draw]]) rfl (.inl rfl) rfl ⟨.inl ⟨(.inl rfl), rfl⟩, trivial⟩ (fun _ => w_doc_CopyNode (er1))),
    trivial⟩) fun G1 n1 => ?_
  refine AOps.weak (s' := ⟨[(2, .ptr 2 (n0 + 1) 0 0), (3, .ptr 3 (n0 + 3) 0 0), (4, rI (x2)), (5, .ptr 5 (i3 1) 0 0), (12, qg d1.Nodes), (13, rI ((d1.Nodes.length : Int))), (14, rI (x2)), (15, rB ((decide (x2 < (d1.Nodes.length : Int))))), (16, rI (x2)), (17, .rop (GNode.row x4) 0), (18, .agg [rI (x4.ID), rI (x4.Kind), qa x4.Attrs, qd x4.Flow, rI (x4.Grid.Rows), rI (x4.Grid.Cols), qc x4.Grid.Cells, qb x4.Grid.Merges, qe x4.Draw]), (19, .ptr 3 (n0 + 3) 0 0), (20, .own 1000 (i3 0)), (21, rI (x2)), (22, .agg [rI (x4.ID), rI (x4.Kind), qa x4.Attrs, qd x4.Flow, rI (x4.Grid.Rows), rI (x4.Grid.Cols), qc x4.Grid.Cells, qb x4.Grid.Merges, qe x4.Draw]), (23, .agg [rI (r1.ID), rI (r1.Kind), qa r1.Attrs, qd r1.Flow, rI (r1.Grid.Rows), rI (r1.Grid.Cols), qc r1.Grid.Cells, qb r1.Grid.Merges, qe r1.Draw])], [(2, some (.box (n0 + 1) 45 [.cst (.slice none 0 0)])), (3, some (.box (n0 + 3) 45 [.own 1000 (i3 0)])), (5, some (.box (i3 1) 34 [rI (x4.ID), rI (x4.Kind), qa x4.Attrs, qd x4.Flow, rI (x4.Grid.Rows), rI (x4.Grid.Cols), qc x4.Grid.Cells, qb x4.Grid.Merges, qe x4.Draw])), (1000, some (.arr (i3 0) 34 9 (out2.Nodes.map GNode.row)))], n1, 27⟩) (by exact Weak.cv ⟨jL, jL, jL, jL, jL, jL, jL, jL, jL, jL, jL, jL, jL, jL, jL, jL, trivial⟩ ⟨.inl rfl, .inl rfl, .inl rfl, .inl rfl, trivial⟩ nL) ?_
  refine ob1k h6 fun x5 ex5 h7 => (sQ rfl (ms_idx_own rfl tg_43.slice iL rfl iL (fun _ => ex5)) (AOps.step0 rfl rfl (ms_storeA (v := r1) rfl tz_34 iL rfl ex5 iL rfl rfl rfl rfl) (aZ (hK8 _ ?_))))
  refine AW.weak (s' := ⟨[(2, .ptr 2 (n0 + 1) 0 0), (3, .ptr 3 (n0 + 3) 0 0), (12, qg d1.Nodes), (13, rI ((d1.Nodes.length : Int))), (14, rI (x2))], [(2, some (.box (n0 + 1) 45 [.cst (.slice none 0 0)])), (3, some (.box (n0 + 3) 45 [.own 1000 (i3 0)])), (1000, some (.arr (i3 0) 34 9 ((out2.Nodes.set x2.toNat r1).map GNode.row)))], n1, 27⟩) (by exact Weak.cv ⟨jL, jL, jL, jL, jL, trivial⟩ ⟨.inl rfl, .inl rfl, .inl rfl, trivial⟩ nL) ?_
  refine aR (ob1k h7 fun x6 ex6 h8 => (sQ rfl (ms_add rfl iL iL (fun _ => ex6)) (sM rfl rfl ?_)))
  refine AOps.nil ?_
  exact NextQ2.mk h8 (vec [(i3 0), n1]) ((by exact Weak.cv ⟨jL, jL, jL, jL, jL, trivial⟩ ⟨.inl rfl, .inl rfl, .inl rfl, trivial⟩ nL))
 ·have h4 := ite_f hc1 h3
  refine AW.exit ?_
  exact wK3 _ _ ((by exact Weak.cv ⟨jL, jL, trivial⟩ ⟨.inl rfl, .inl rfl, .inl rfl, trivial⟩ nL)) (J1 _ (vec [(i3 0), (i3 1)]) (hx1 _ (Option.some.inj h4).symm))
theorem w_doc_Index {d1 : GDoc} {id1 : Int} {r : Int} (h : doc_Index d1 id1 = some r) : ARO prog 120 [.agg [qg d1.Nodes], rI (id1)] (rI (r)) := by
 unfold doc_Index at h
 refine ARO.mkF func120 rfl rfl ntmps120 rfl (Nat.le_of_ble_eq_true rfl) fun n0 => ?_
 refine aS fun K1 hK1 wK1 => (aR (AOps.step rfl rfl rfl (ms_box (cs := [qg d1.Nodes]) 2 rfl iL rfl rfl) (sA rfl rfl (aZ (hK1 _ ?_)))))
 refine aS fun K2 hK2 wK2 => (aS fun K3 hK3 wK3 => (aR (sQ rfl (ms_loadA_box rfl ta_45 iL rfl rfl) (sM rfl rfl (ob2k h fun r1 r2 er1 h1 => (AOps.step rfl rfl rfl (sp_call (r := .tup [rI (r1), rB (r2)]) (caps := []) (bs := [.agg [qg d1.Nodes], rI (id1)]) rfl iL rfl ⟨⟨_, iL, .g (cs := [.sl (d1.Nodes.map GNode.row)]) rfl rfl⟩, ⟨_, iL, .d rfl⟩, trivial⟩ (fun _ => w_doc_find (er1)) rfl) (sM rfl rfl (sQ rfl (sp_extract (a := rI (r1)) rfl iL rfl) (sQ rfl (sp_extract (a := rB (r2)) rfl iL rfl) (sA rfl rfl (sA rfl rfl (aZ (hK3 _ ?_)))))))))))))
 refine aS fun K4 hK4 wK4 => ?_
 refine AW.weak (s' := ⟨[(5, rI (r1)), (6, rB (r2))], [], (n0 + 1), 15⟩) (by exact Weak.cv ⟨jL, jL, trivial⟩ trivial nL) ?_
 refine aR (sM rfl rfl (aZ (hK4 _ ?_)))
 refine aC rfl (fun hc1 => ?_) (fun hc1 => ?_)
 ·have h2 := ite_t hc1 h1
  refine aS fun K5 hK5 wK5 => (aR (sM rfl rfl (sA rfl rfl (aZ (hK5 _ ?_)))))
  refine AW.ret ?_
  exact retf1 (P := prog) (fun (r : Int) => rI (r)) h2 iL (.t (.d rfl))
 ·have h2 := ite_f hc1 h1
  refine AW.skip ?_
  refine hK2 _ ?_
  refine aS fun K6 hK6 wK6 => (aR (sA rfl rfl (aZ (hK6 _ ?_))))
  refine AW.ret ?_
  exact retf1 (P := prog) (fun (r : Int) => rI (r)) h2 iL (.t (.d rfl))
theorem w_attr_Raw_f1 {c1 : List GAttr} {x1 : GAttr} {y1 : GAttr} {r : (List GAttr)} {gb1000 : Nat} {ga1001 : Nat} (h : attr_Raw_f1 c1 x1 y1 = some r) : AHC prog 177 2 [.agg [.r (.str x1.Name), .r (.str x1.Value)], .agg [.r (.str y1.Name), .r (.str y1.Value)], .ptr 1000 gb1000 0 0] [(1000, some (.box gb1000 26 [.own 1001 ga1001])), (1001, some (.arr ga1001 67 2 (c1.map GAttr.row)))] (fun rr h' => ∃ (i : Nat → Nat), rr = .tup [] ∧ h' = [(1000, some (.box gb1000 26 [.own 1001 (i 0)])), (1001, some (.arr (i 0) 67 2 (r.map GAttr.row)))]) := by
 unfold attr_Raw_f1 at h
 refine AHC.mkw func177 rfl rfl ntmps177 (Nat.le_of_ble_eq_true rfl) fun n0 => ?_
 refine aS fun K1 hK1 wK1 => (aR (AOps.step rfl rfl rfl (ms_box (cs := [.r (.str x1.Name), .r (.str x1.Value)]) 3 rfl iL rfl rfl) (AOps.step rfl rfl rfl (ms_box (cs := [.r (.str y1.Name), .r (.str y1.Value)]) 4 rfl iL rfl rfl) (aZ (hK1 _ ?_)))))
 refine AW.block (aS fun K2 hK2 wK2 => (aR (sQ rfl (fB rfl tf_67_0 iL fR rfl) (sQ rfl (ms_load_box (a := .r (.str y1.Name)) rfl ts_9 iL rfl rfl) (sQ rfl (sp_seql rfl iL iL) (sA rfl rfl (aZ (hK2 _ ?_))))))))
 refine aC rfl (fun hc1 => ?_) (fun hc1 => ?_)
 ·have h1 := ite_t hc1 h
  refine aR (sQ rfl (ms_load_box (a := .own 1001 ga1001) rfl ts_26 iL rfl rfl) (sQ rfl (ms_loadA_box rfl ta_67 iL rfl rfl) (AOps.step rfl rfl rfl (ms_lit 11 rfl tg_26 (f := GAttr.row) (l := ([x1] : List GAttr)) ⟨rfl, ⟨_, iL, rfl⟩, trivial⟩ rfl (fun _ => rfl) rfl) (ob1k h1 fun l1 el1 h2 => (AOps.step rfl rfl rfl (ms_app rfl tg_26 iL rfl (.inr (.inl ⟨_, _, iL, rfl⟩)) el1) (AOps.step0 rfl rfl (ms_store_box (ds := [.own 1001 (n0 + 3)]) rfl tz_26 iL rfl iL rfl rfl rfl rfl) ?_))))))
  refine AOps.nil ?_
  exact RetW.mk (s' := ⟨[], [(1000, some (.box gb1000 26 [.own 1001 (n0 + 3)])), (1001, some (.arr (n0 + 3) 67 2 (l1.map GAttr.row)))], (n0 + 4), 21⟩) ((by exact Weak.cv trivial ⟨.inl rfl, .inl rfl, trivial⟩ nL)) (reth_cast (fun (r : (List GAttr)) rr h' => ∃ (i : Nat → Nat), rr = .tup [] ∧ h' = [(1000, some (.box gb1000 26 [.own 1001 (i 0)])), (1001, some (.arr (i 0) 67 2 (r.map GAttr.row)))]) h2 (by exact ⟨.tup [], [(1000, some (.box gb1000 26 [.own 1001 (n0 + 3)])), (1001, some (.arr (n0 + 3) 67 2 (l1.map GAttr.row)))], ⟨_, rfl, trivial⟩, ⟨.inr rfl, .inr rfl, trivial⟩, rfl, rfl, vec [(n0 + 3)], rfl, rfl⟩))
 ·have h1 := ite_f hc1 h
  refine aS fun K3 hK3 wK3 => (aR (sQ rfl (fB rfl tf_67_1 iL fR rfl) (sQ rfl (ms_load_box (a := .r (.str y1.Value)) rfl ts_9 iL rfl rfl) (sQ rfl (sp_sneq rfl iL iL) (sA rfl rfl (aZ (hK3 _ ?_)))))))
  refine aC rfl (fun hc2 => ?_) (fun hc2 => ?_)
  ·have h3 := ite_t hc2 h1
   refine AW.weak (s' := ⟨[(2, .ptr 1000 gb1000 0 0), (4, .ptr 4 (n0 + 1) 0 0)], [(4, some (.box (n0 + 1) 67 [.r (.str y1.Name), .r (.str y1.Value)])), (1000, some (.box gb1000 26 [.own 1001 ga1001])), (1001, some (.arr ga1001 67 2 (c1.map GAttr.row)))], (n0 + 2), 21⟩) (by exact Weak.cv ⟨jL, jL, trivial⟩ ⟨.inl rfl, .inl rfl, .inl rfl, trivial⟩ nL) ?_
   refine aR (sQ rfl (ms_load_box (a := .own 1001 ga1001) rfl ts_26 iL rfl rfl) (sQ rfl (ms_loadA_box rfl ta_67 iL rfl rfl) (AOps.step rfl rfl rfl (ms_lit 19 rfl tg_26 (f := GAttr.row) (l := ([y1] : List GAttr)) ⟨rfl, ⟨_, iL, rfl⟩, trivial⟩ rfl (fun _ => rfl) rfl) (ob1k h3 fun l2 el2 h4 => (AOps.step rfl rfl rfl (ms_app rfl tg_26 iL rfl (.inr (.inl ⟨_, _, iL, rfl⟩)) el2) (AOps.step0 rfl rfl (ms_store_box (ds := [.own 1001 (n0 + 3)]) rfl tz_26 iL rfl iL rfl rfl rfl rfl) ?_))))))
   refine AOps.nil ?_
   exact RetW.mk (s' := ⟨[], [(1000, some (.box gb1000 26 [.own 1001 (n0 + 3)])), (1001, some (.arr (n0 + 3) 67 2 (l2.map GAttr.row)))], (n0 + 4), 21⟩) ((by exact Weak.cv trivial ⟨.inl rfl, .inl rfl, trivial⟩ nL)) (reth_cast (fun (r : (List GAttr)) rr h' => ∃ (i : Nat → Nat), rr = .tup [] ∧ h' = [(1000, some (.box gb1000 26 [.own 1001 (i 0)])), (1001, some (.arr (i 0) 67 2 (r.map GAttr.row)))]) h4 (by exact ⟨.tup [], [(1000, some (.box gb1000 26 [.own 1001 (n0 + 3)])), (1001, some (.arr (n0 + 3) 67 2 (l2.map GAttr.row)))], ⟨_, rfl, trivial⟩, ⟨.inr rfl, .inr rfl, trivial⟩, rfl, rfl, vec [(n0 + 3)], rfl, rfl⟩))
  ·have h3 := ite_f hc2 h1
   refine AW.skip ?_
   exact RetW.mk (s' := ⟨[], [(1000, some (.box gb1000 26 [.own 1001 ga1001])), (1001, some (.arr ga1001 67 2 (c1.map GAttr.row)))], (n0 + 2), 21⟩) ((by exact Weak.cv trivial ⟨.inl rfl, .inl rfl, trivial⟩ nL)) (reth_cast (fun (r : (List GAttr)) rr h' => ∃ (i : Nat → Nat), rr = .tup [] ∧ h' = [(1000, some (.box gb1000 26 [.own 1001 (i 0)])), (1001, some (.arr (i 0) 67 2 (r.map GAttr.row)))]) h3 (by exact ⟨.tup [], [(1000, some (.box gb1000 26 [.own 1001 ga1001])), (1001, some (.arr ga1001 67 2 (c1.map GAttr.row)))], ⟨_, rfl, trivial⟩, ⟨.inr rfl, .inr rfl, trivial⟩, rfl, rfl, vec [ga1001], rfl, rfl⟩))
theorem w_attr_both__Raw_f1 {c1 : List GAttr} {a1 : List GAttr} {b1 : List GAttr} {r : (List GAttr)} {gb1000 : Nat} {ga1001 : Nat} (h : attr_both__Raw_f1 c1 a1 b1 = some r) : AHC prog 176 2 [qa a1, qa b1, .fn 177 [.ptr 1000 gb1000 0 0]] [(1000, some (.box gb1000 26 [.own 1001 ga1001])), (1001, some (.arr ga1001 67 2 (c1.map GAttr.row)))] (fun rr h' => ∃ (i : Nat → Nat), rr = .tup [] ∧ h' = [(1000, some (.box gb1000 26 [.own 1001 (i 0)])), (1001, some (.arr (i 0) 67 2 (r.map GAttr.row)))]) := by
 unfold attr_both__Raw_f1 at h
 refine AHC.mkw func176 rfl rfl ntmps176 (Nat.le_of_ble_eq_true rfl) fun n0 => ?_
 refine aS fun K1 hK1 wK1 => (aR (sA rfl rfl (sA rfl rfl (aZ (hK1 _ ?_)))))
 refine AW.block ?_
 refine jc1k h fun o4 hit1 hk1 he1 => ?_
 refine AW.iter3 (fun (i4 : Int) (j2 : Int) (o2 : List GAttr) i5 => ⟨[(0, qa a1), (1, qa b1), (2, .fn 177 [.ptr 1000 gb1000 0 0]), (6, rI (i4)), (7, rI (j2))], [(1000, some (.box gb1000 26 [.own 1001 (i5 0)])), (1001, some (.arr (i5 0) 67 2 (o2.map GAttr.row)))], (i5 1), 92⟩) (vec [ga1001, n0]) hit1 ((by exact Weak.cv ⟨jL, jL, jL, jL, jL, trivial⟩ ⟨.inl rfl, .inl rfl, trivial⟩ nL)) ?_
 intro i4 j2 o2 i5 v1 hv1 hx1
 have h1 : attr_both__Raw_f1_L1 a1 b1 i4 j2 o2 = some v1 := hv1; unfold attr_both__Raw_f1_L1 at h1
 refine aS fun K2 hK2 wK2 => (aS fun K3 hK3 wK3 => (aR (sM rfl rfl (sM rfl rfl (sQ rfl (ms_len rfl tg_26.slice iL) (sQ rfl (sp_lss rfl iL iL) (sM rfl rfl (sV rfl rfl rfl (sp_move rfl iL) (sV rfl rfl rfl (sp_move rfl iL) (sV rfl rfl rfl (ms_len rfl tg_26.slice (iR rfl)) (sV rfl rfl rfl (sp_lss rfl (iR rfl) (iR rfl)) (sQ rfl (sp_or rfl iL (iR rfl)) (aZ (hK3 _ ?_))))))))))))))
 refine aC rfl (fun hc1 => ?_) (fun hc1 => ?_)
 ·have h2 := ite_t hc1 h1
  refine AW.skip ?_
  refine hK2 _ ?_
  refine AW.block (AW.block (aS fun K4 hK4 wK4 => ?_))
  refine AW.regionQ hmix (by kernel_rfl) ?_
  refine AQ.step rfl rfl rfl (sp_move rfl iL) (AQ.step rfl rfl rfl (sp_move rfl iL) (AQ.step rfl rfl rfl (ms_len rfl tg_26.slice iL) (AQ.step rfl rfl rfl (sp_eql rfl iL iL) (AQ.step rfl rfl rfl (sp_move rfl iL) ?_))))
  refine AQ.stepW (.one rfl rfl rfl) rfl rfl (sp_move rfl iL) ?_
  refine AQ.stepW (.one rfl rfl rfl) rfl rfl (sp_move rfl iL) ?_
  refine AQ.stepW (.one rfl rfl rfl) rfl rfl (ms_len rfl tg_26.slice (iR rfl)) ?_
  refine AQ.stepW (.one rfl rfl rfl) rfl rfl (sp_lss rfl (iR rfl) (iR rfl)) ?_
  refine AQ.stepW (.one rfl rfl rfl) rfl rfl (sp_move rfl (iR rfl)) ?_
  refine AQ.stepW (.two rfl rfl rfl) rfl rfl (sp_move rfl iL) ?_
  refine AQ.stepW (.two rfl rfl rfl) rfl rfl (sp_move rfl iL) ?_
  refine ob1k h2 fun x1 ex1 h3 => ?_
  refine AQ.stepW (.two rfl rfl rfl) rfl rfl (ms_idx rfl tg_26.slice (iR rfl) (iR rfl) (fun _ => rfl) (gdt ex1)) ?_
  refine AQ.stepW (.two rfl rfl rfl) rfl rfl (sp_fieldAddr_ro rfl tf_67_0 (iR rfl)) ?_
  refine AQ.stepW (.two rfl rfl rfl) rfl rfl (ms_load (d := .str x1.Name) rfl ts_9 (iR rfl) rfl) ?_
  refine AQ.stepW (.two rfl rfl rfl) rfl rfl (sp_move rfl iL) ?_
  refine AQ.stepW (.two rfl rfl rfl) rfl rfl (sp_move rfl iL) ?_
  refine ob1k h3 fun x2 ex2 h4 => ?_
  refine AQ.stepW (.two rfl rfl rfl) rfl rfl (ms_idx rfl tg_26.slice (iR rfl) (iR rfl) (fun _ => rfl) (gdt ex2)) ?_
  refine AQ.stepW (.two rfl rfl rfl) rfl rfl (sp_fieldAddr_ro rfl tf_67_0 (iR rfl)) ?_
  refine AQ.stepW (.two rfl rfl rfl) rfl rfl (ms_load (d := .str x2.Name) rfl ts_9 (iR rfl) rfl) ?_
  refine AQ.stepW (.two rfl rfl rfl) rfl rfl (sp_slss rfl (iR rfl) (iR rfl)) ?_
  refine AQ.stepW (.one rfl rfl rfl) rfl rfl (sp_and rfl (iR rfl) (iR rfl)) ?_
  refine AQ.step rfl rfl rfl (sp_or rfl iL (iR rfl)) (AQ.step rfl rfl rfl (sp_assign rfl iL) ?_)
  refine AQ.nil ?_
  refine hK4 _ ?_
  refine aC rfl (fun hc2 => ?_) (fun hc2 => ?_)
  ·have h5 := ite_t hc2 h4
   refine aS fun K5 hK5 wK5 => ?_
   refine AW.weak (s' := ⟨[(0, qa a1), (1, qa b1), (2, .fn 177 [.ptr 1000 gb1000 0 0]), (6, rI (i4)), (7, rI (j2))], [(1000, some (.box gb1000 26 [.own 1001 (i5 0)])), (1001, some (.arr (i5 0) 67 2 (o2.map GAttr.row)))], (i5 1), 92⟩) (by exact Weak.cv ⟨jL, jL, jL, jL, jL, trivial⟩ ⟨.inl rfl, .inl rfl, trivial⟩ nL) ?_
   refine aR (sM rfl rfl (sM rfl rfl (sM rfl rfl (ob1k h5 fun x3 ex3 h6 => (sQ rfl (ms_idx rfl tg_26.slice iL iL (fun _ => rfl) (fun _ => ex3)) (sQ rfl (ms_loadA (cs := [.r (.str x3.Name), .r (.str x3.Value)]) rfl ta_67 iL rfl rfl) ?_))))))
   refine sQ rfl (sp_build rfl tb_67 (q := []) (by exact trivial) (cs := [.r (.str []), .r (.str [])]) (by rfl)) ?_
   refine ob1k h6 fun w1 ew1 h7 => ?_
   refine AOps.stepHI [1000, 1001] (hc := [(1000, some (.box gb1000 26 [.own 1001 (i5 0)])), (1001, some (.arr (i5 0) 67 2 (o2.map GAttr.row)))]) (bs := [.agg [.r (.str x3.Name), .r (.str x3.Value)], .agg [.r (.str []), .r (.str [])]]) (caps := [.ptr 1000 gb1000 0 0]) rfl rfl rfl rfl iL rfl ⟨.inl ⟨iL, rfl⟩, .inl ⟨iL, rfl⟩, trivial⟩ ⟨rfl, rfl, rfl, rfl, rfl, rfl, trivial⟩ (by decide) (w_attr_Raw_f1 ew1) ?_
   intro i8 n1
   refine AOps.weak (s' := ⟨[(0, qa a1), (1, qa b1), (2, .fn 177 [.ptr 1000 gb1000 0 0]), (6, rI (i4)), (7, rI (j2)), (56, .fn 177 [.ptr 1000 gb1000 0 0]), (57, qa a1), (58, rI (i4)), (59, .rop (GAttr.row x3) 0), (60, .agg [.r (.str x3.Name), .r (.str x3.Value)]), (61, .agg [.r (.str []), .r (.str [])]), (62, .tup [])], [(1000, some (.box gb1000 26 [.own 1001 (i8 0)])), (1001, some (.arr (i8 0) 67 2 (w1.map GAttr.row)))], n1, 92⟩) (by exact Weak.cv ⟨jL, jL, jL, jL, jL, jL, jL, jL, jL, jL, jL, jL, trivial⟩ ⟨.inl rfl, .inl rfl, trivial⟩ nL) ?_
   refine aZ (hK5 _ ?_)
   refine aR (sM rfl rfl (ob1k h7 fun i9 ei9 h8 => (sQ rfl (ms_add rfl iL iL (fun _ => ei9)) (sA rfl rfl ?_))))
   refine AOps.nil ?_
   exact NextQ3.mk h8 (vec [(i8 0), n1]) ((by exact Weak.cv ⟨jL, jL, jL, jL, jL, trivial⟩ ⟨.inl rfl, .inl rfl, trivial⟩ nL))
  ·have h5 := ite_f hc2 h4
   refine aS fun K6 hK6 wK6 => ?_
   refine AW.weak (s' := ⟨[(0, qa a1), (1, qa b1), (2, .fn 177 [.ptr 1000 gb1000 0 0]), (6, rI (i4)), (7, rI (j2))], [(1000, some (.box gb1000 26 [.own 1001 (i5 0)])), (1001, some (.arr (i5 0) 67 2 (o2.map GAttr.row)))], (i5 1), 92⟩) (by exact Weak.cv ⟨jL, jL, jL, jL, jL, trivial⟩ ⟨.inl rfl, .inl rfl, trivial⟩ nL) ?_
   refine AW.regionQ hmix (by kernel_rfl) ?_
   refine AQ.step rfl rfl rfl (sp_move rfl iL) (AQ.step rfl rfl rfl (sp_move rfl iL) (AQ.step rfl rfl rfl (ms_len rfl tg_26.slice iL) (AQ.step rfl rfl rfl (sp_eql rfl iL iL) (AQ.step rfl rfl rfl (sp_move rfl iL) ?_))))
   refine AQ.stepW (.one rfl rfl rfl) rfl rfl (sp_move rfl iL) ?_
   refine AQ.stepW (.one rfl rfl rfl) rfl rfl (sp_move rfl iL) ?_
   refine ob1k h5 fun x4 ex4 h9 => ?_
   refine AQ.stepW (.one rfl rfl rfl) rfl rfl (ms_idx rfl tg_26.slice (iR rfl) (iR rfl) (fun _ => rfl) (gdt ex4)) ?_
   refine AQ.stepW (.one rfl rfl rfl) rfl rfl (sp_fieldAddr_ro rfl tf_67_0 (iR rfl)) ?_
   refine AQ.stepW (.one rfl rfl rfl) rfl rfl (ms_load (d := .str x4.Name) rfl ts_9 (iR rfl) rfl) ?_
   refine AQ.stepW (.one rfl rfl rfl) rfl rfl (sp_move rfl iL) ?_
   refine AQ.stepW (.one rfl rfl rfl) rfl rfl (sp_move rfl iL) ?_
   refine ob1k h9 fun x5 ex5 h10 => ?_
   refine AQ.stepW (.one rfl rfl rfl) rfl rfl (ms_idx rfl tg_26.slice (iR rfl) (iR rfl) (fun _ => rfl) (gdt ex5)) ?_
   refine AQ.stepW (.one rfl rfl rfl) rfl rfl (sp_fieldAddr_ro rfl tf_67_0 (iR rfl)) ?_
   refine AQ.stepW (.one rfl rfl rfl) rfl rfl (ms_load (d := .str x5.Name) rfl ts_9 (iR rfl) rfl) ?_
   refine AQ.stepW (.one rfl rfl rfl) rfl rfl (sp_slss rfl (iR rfl) (iR rfl)) ?_
   refine AQ.step rfl rfl rfl (sp_or rfl iL (iR rfl)) (AQ.step rfl rfl rfl (sp_assign rfl iL) ?_)
   refine AQ.nil ?_
   refine hK6 _ ?_
   refine aC rfl (fun hc3 => ?_) (fun hc3 => ?_)
   ·have h11 := ite_t hc3 h10
    refine aS fun K7 hK7 wK7 => (aR (sM rfl rfl ?_))
    refine sQ rfl (sp_build rfl tb_67 (q := []) (by exact trivial) (cs := [.r (.str []), .r (.str [])]) (by rfl)) ?_
    refine sM rfl rfl (sM rfl rfl (ob1k h11 fun x6 ex6 h12 => (sQ rfl (ms_idx rfl tg_26.slice iL iL (fun _ => rfl) (fun _ => ex6)) (sQ rfl (ms_loadA (cs := [.r (.str x6.Name), .r (.str x6.Value)]) rfl ta_67 iL rfl rfl) (ob1k h12 fun w2 ew2 h13 => ?_)))))
    refine AOps.stepHI [1000, 1001] (hc := [(1000, some (.box gb1000 26 [.own 1001 (i5 0)])), (1001, some (.arr (i5 0) 67 2 (o2.map GAttr.row)))]) (bs := [.agg [.r (.str []), .r (.str [])], .agg [.r (.str x6.Name), .r (.str x6.Value)]]) (caps := [.ptr 1000 gb1000 0 0]) rfl rfl rfl rfl iL rfl ⟨.inl ⟨iL, rfl⟩, .inl ⟨iL, rfl⟩, trivial⟩ ⟨rfl, rfl, rfl, rfl, rfl, rfl, trivial⟩ (by decide) (w_attr_Raw_f1 ew2) ?_
    intro i10 n2
    refine AOps.weak (s' := ⟨[(0, qa a1), (1, qa b1), (2, .fn 177 [.ptr 1000 gb1000 0 0]), (6, rI (i4)), (7, rI (j2)), (65, rB (((decide (i4 = (a1.length : Int))) || (sLt x4.Name x5.Name)))), (66, rI (i4)), (67, qa a1), (68, rI ((a1.length : Int))), (69, rB ((decide (i4 = (a1.length : Int))))), (70, rB ((decide (i4 = (a1.length : Int))))), (82, rB (((decide (i4 = (a1.length : Int))) || (sLt x4.Name x5.Name)))), (83, .fn 177 [.ptr 1000 gb1000 0 0]), (84, .agg [.r (.str []), .r (.str [])]), (85, qa b1), (86, rI (j2)), (87, .rop (GAttr.row x6) 0), (88, .agg [.r (.str x6.Name), .r (.str x6.Value)]), (89, .tup [])], [(1000, some (.box gb1000 26 [.own 1001 (i10 0)])), (1001, some (.arr (i10 0) 67 2 (w2.map GAttr.row)))], n2, 92⟩) (by exact Weak.cv ⟨jL, jL, jL, jL, jL, jL, jL, jL, jL, jL, jL, jL, jL, jL, jL, jL, jL, jL, jL, trivial⟩ ⟨.inl rfl, .inl rfl, trivial⟩ nL) ?_
    refine aZ (hK7 _ ?_)
    refine AW.weak (s' := ⟨[(0, qa a1), (1, qa b1), (2, .fn 177 [.ptr 1000 gb1000 0 0]), (6, rI (i4)), (7, rI (j2))], [(1000, some (.box gb1000 26 [.own 1001 (i10 0)])), (1001, some (.arr (i10 0) 67 2 (w2.map GAttr.row)))], n2, 92⟩) (by exact Weak.cv ⟨jL, jL, jL, jL, jL, trivial⟩ ⟨.inl rfl, .inl rfl, trivial⟩ nL) ?_
    refine aR (sM rfl rfl (ob1k h13 fun j4 ej4 h14 => (sQ rfl (ms_add rfl iL iL (fun _ => ej4)) (sA rfl rfl ?_))))
    refine AOps.nil ?_
    exact NextQ3.mk h14 (vec [(i10 0), n2]) ((by exact Weak.cv ⟨jL, jL, jL, jL, jL, trivial⟩ ⟨.inl rfl, .inl rfl, trivial⟩ nL))
   ·have h11 := ite_f hc3 h10
    refine aS fun K8 hK8 wK8 => ?_
    refine AW.regionT 9 hmix (by kernel_rfl) rfl rfl ?_
    refine AT.step rfl rfl rfl (sp_move rfl iL) ?_
    refine AT.step rfl rfl rfl (sp_move rfl iL) ?_
    refine AT.step rfl rfl rfl (sp_move rfl iL) ?_
    refine ob1k h11 fun x7 ex7 h15 => ?_
    refine AT.step rfl rfl rfl (ms_idx rfl tg_26.slice iL iL (fun _ => rfl) (fun _ => ex7)) ?_
    refine AT.step rfl rfl rfl (ms_loadA (cs := [.r (.str x7.Name), .r (.str x7.Value)]) rfl ta_67 iL rfl rfl) ?_
    refine AT.step rfl rfl rfl (sp_move rfl iL) ?_
    refine AT.step rfl rfl rfl (sp_move rfl iL) ?_
    refine ob1k h15 fun x8 ex8 h16 => ?_
    refine AT.step rfl rfl rfl (ms_idx rfl tg_26.slice iL iL (fun _ => rfl) (fun _ => ex8)) ?_
    refine AT.step rfl rfl rfl (ms_loadA (cs := [.r (.str x8.Name), .r (.str x8.Value)]) rfl ta_67 iL rfl rfl) ?_
    refine AT.nil ?_
    refine ob1k h16 fun w3 ew3 h17 => ?_
    refine AOps.stepHI [1000, 1001] (hc := [(1000, some (.box gb1000 26 [.own 1001 (i5 0)])), (1001, some (.arr (i5 0) 67 2 (o2.map GAttr.row)))]) (bs := [.agg [.r (.str x7.Name), .r (.str x7.Value)], .agg [.r (.str x8.Name), .r (.str x8.Value)]]) (caps := [.ptr 1000 gb1000 0 0]) rfl rfl rfl rfl iL rfl ⟨.inl ⟨iL, rfl⟩, .inl ⟨iL, rfl⟩, trivial⟩ ⟨rfl, rfl, rfl, rfl, rfl, rfl, trivial⟩ (by decide) (w_attr_Raw_f1 ew3) ?_
    intro i11 n3
    refine AOps.weak (s' := ⟨[(0, qa a1), (1, qa b1), (2, .fn 177 [.ptr 1000 gb1000 0 0]), (6, rI (i4)), (7, rI (j2)), (18, .fn 177 [.ptr 1000 gb1000 0 0]), (19, qa a1), (20, rI (i4)), (21, .rop (GAttr.row x7) 0), (22, .agg [.r (.str x7.Name), .r (.str x7.Value)]), (23, qa b1), (24, rI (j2)), (25, .rop (GAttr.row x8) 0), (26, .agg [.r (.str x8.Name), .r (.str x8.Value)]), (27, .tup []), (65, rB (((decide (i4 = (a1.length : Int))) || (sLt x4.Name x5.Name)))), (66, rI (i4)), (67, qa a1), (68, rI ((a1.length : Int))), (69, rB ((decide (i4 = (a1.length : Int))))), (70, rB ((decide (i4 = (a1.length : Int))))), (82, rB (((decide (i4 = (a1.length : Int))) || (sLt x4.Name x5.Name))))], [(1000, some (.box gb1000 26 [.own 1001 (i11 0)])), (1001, some (.arr (i11 0) 67 2 (w3.map GAttr.row)))], n3, 92⟩) (by exact Weak.cv ⟨jL, jL, jL, jL, jL, jL, jL, jL, jL, jL, jL, jL, jL, jL, jL, jL, jL, jL, jL, jL, jL, jL, trivial⟩ ⟨.inl rfl, .inl rfl, trivial⟩ nL) ?_
    refine aZ (hK8 _ ?_)
    refine AW.weak (s' := ⟨[(0, qa a1), (1, qa b1), (2, .fn 177 [.ptr 1000 gb1000 0 0]), (6, rI (i4)), (7, rI (j2))], [(1000, some (.box gb1000 26 [.own 1001 (i11 0)])), (1001, some (.arr (i11 0) 67 2 (w3.map GAttr.row)))], n3, 92⟩) (by exact Weak.cv ⟨jL, jL, jL, jL, jL, trivial⟩ ⟨.inl rfl, .inl rfl, trivial⟩ nL) ?_
    refine aR (sM rfl rfl (ob1k h17 fun i12 ei12 h18 => (sQ rfl (ms_add rfl iL iL (fun _ => ei12)) (sM rfl rfl (ob1k h18 fun j5 ej5 h19 => (sQ rfl (ms_add rfl iL iL (fun _ => ej5)) (sA rfl rfl (sA rfl rfl ?_))))))))
    refine AOps.nil ?_
    exact NextQ3.mk h19 (vec [(i11 0), n3]) ((by exact Weak.cv ⟨jL, jL, jL, jL, jL, trivial⟩ ⟨.inl rfl, .inl rfl, trivial⟩ nL))
 ·have h2 := ite_f hc1 h1
  refine AW.exit ?_
  exact RetW.mk (s' := ⟨[], [(1000, some (.box gb1000 26 [.own 1001 (i5 0)])), (1001, some (.arr (i5 0) 67 2 (o2.map GAttr.row)))], (i5 1), 92⟩) ((by exact Weak.cv trivial ⟨.inl rfl, .inl rfl, trivial⟩ nL)) (reth_cast (fun (r : (List GAttr)) rr h' => ∃ (i : Nat → Nat), rr = .tup [] ∧ h' = [(1000, some (.box gb1000 26 [.own 1001 (i 0)])), (1001, some (.arr (i 0) 67 2 (r.map GAttr.row)))]) (he1 _ (hx1 _ (Option.some.inj h2).symm)) (by exact ⟨.tup [], [(1000, some (.box gb1000 26 [.own 1001 (i5 0)])), (1001, some (.arr (i5 0) 67 2 (o2.map GAttr.row)))], ⟨_, rfl, trivial⟩, ⟨.inr rfl, .inr rfl, trivial⟩, rfl, rfl, vec [(i5 0)], rfl, rfl⟩))
theorem w_attr_Raw {l1 : List GAttr} {change1 : List GAttr} {r : (List GAttr)} (h : attr_Raw l1 change1 = some r) : ARO prog 128 [qa l1, qa change1] (qa r) := by
 unfold attr_Raw at h
 refine ARO.mkF func128 rfl rfl ntmps128 rfl (Nat.le_of_ble_eq_true rfl) fun n0 => ?_
 refine aS fun K1 hK1 wK1 => (aR (sA rfl rfl (aZ (hK1 _ ?_))))
 refine aS fun K2 hK2 wK2 => (aR (AOps.step rfl rfl rfl (ms_alloc (cs := [.cst (.slice none 0 0)]) 5 rfl t0_26 rfl rfl) (aZ (hK2 _ ?_))))
 refine aS fun K3 hK3 wK3 => (aR (sM rfl rfl (sM rfl rfl ?_)))
 refine sQ rfl (sp_makeFunc (bs := [.ptr 5 n0 0 0]) rfl (by exact ⟨iL, trivial⟩)) ?_
 refine AOps.weak (Weak.trans (Weak.adoptBox 5 0 3050 67 2 (by decide) rfl rfl (by decide)) (by exact Weak.cv (e' := [(0, qa l1), (1, qa change1), (4, .cst (.slice none 0 0)), (5, .ptr 5 n0 0 0), (6, qa l1), (7, qa change1), (8, .fn 177 [.ptr 5 n0 0 0])]) (h' := [(5, some (.box n0 26 [.own 3050 (n0 + 1)])), (3050, some (.arr (n0 + 1) 67 2 (([] : List GAttr).map GAttr.row)))]) ⟨jL, jL, jL, jL, jL, jL, jL, trivial⟩ ⟨.inl rfl, .inl rfl, trivial⟩ nL)) ?_
 refine ob1k h fun w1 ew1 h1 => ?_
 refine AOps.stepHI [5, 3050] (hc := [(1000, some (.box n0 26 [.own 1001 (n0 + 1)])), (1001, some (.arr (n0 + 1) 67 2 (([] : List GAttr).map GAttr.row)))]) (bs := [qa l1, qa change1, .fn 177 [.ptr 1000 n0 0 0]]) (caps := []) rfl rfl rfl rfl iL rfl ⟨.inl ⟨iL, rfl⟩, .inl ⟨iL, rfl⟩, .inl ⟨iL, rfl⟩, trivial⟩ ⟨rfl, rfl, rfl, rfl, rfl, rfl, trivial⟩ (by decide) (w_attr_both__Raw_f1 ew1) ?_
 intro i1 n1
 refine AOps.weak (s' := ⟨[(0, qa l1), (1, qa change1), (4, .cst (.slice none 0 0)), (5, .ptr 5 n0 0 0), (6, qa l1), (7, qa change1), (8, .fn 177 [.ptr 5 n0 0 0]), (9, .tup [])], [(5, some (.box n0 26 [.own 3050 (i1 0)])), (3050, some (.arr (i1 0) 67 2 (w1.map GAttr.row)))], n1, 11⟩) (by exact Weak.cv ⟨jL, jL, jL, jL, jL, jL, jL, jL, trivial⟩ ⟨.inl rfl, .inl rfl, trivial⟩ nL) ?_
 refine aZ (hK3 _ ?_)
 refine aS fun K4 hK4 wK4 => (aR (sQ rfl (ms_load_box (a := .own 3050 (i1 0)) rfl ts_26 iL rfl rfl) (sA rfl rfl (aZ (hK4 _ ?_)))))
 refine AW.ret ?_
 exact retf1 (P := prog) (fun (r : (List GAttr)) => qa r) h1 iL (.t (.one (.own rfl)))
theorem w_edit_one {w1 : GDoc} {o1 : GOp} {r : Int × GDoc} {gb1000 : Nat} {ga1001 : Nat} (h : edit_one w1 o1 = some r) : AHC prog 84 2 [.ptr 1000 gb1000 0 0, .agg [rI (o1.Kind), rI (o1.Node), rI (o1.New.ID), rI (o1.New.Kind), qa o1.New.Attrs, qd o1.New.Flow, rI (o1.New.Grid.Rows), rI (o1.New.Grid.Cols), qc o1.New.Grid.Cells, qb o1.New.Grid.Merges, qe o1.New.Draw, qa o1.Attrs, qh o1.Steps, qf o1.Grid.Rows, qf o1.Grid.Cols, qc o1.Grid.Cells, qb o1.Grid.Split, qb o1.Grid.Merge, qe o1.Draw]] [(1000, some (.box gb1000 45 [.own 1001 ga1001])), (1001, some (.arr ga1001 34 9 (w1.Nodes.map GNode.row)))] (fun rr h' => ∃ (i : Nat → Nat), rr = rI (r.1) ∧ h' = [(1000, some (.box gb1000 45 [.own 1001 (i 0)])), (1001, some (.arr (i 0) 34 9 (r.2.Nodes.map GNode.row)))]) := by
 unfold edit_one at h
 refine AHC.mkw func84 rfl rfl ntmps84 (Nat.le_of_ble_eq_true rfl) fun n0 => ?_
 refine aS fun K1 hK1 wK1 => (aR (AOps.step rfl rfl rfl (ms_box (cs := [rI (o1.Kind), rI (o1.Node), rI (o1.New.ID), rI (o1.New.Kind), qa o1.New.Attrs, qd o1.New.Flow, rI (o1.New.Grid.Rows), rI (o1.New.Grid.Cols), qc o1.New.Grid.Cells, qb o1.New.Grid.Merges, qe o1.New.Draw, qa o1.Attrs, qh o1.Steps, qf o1.Grid.Rows, qf o1.Grid.Cols, qc o1.Grid.Cells, qb o1.Grid.Split, qb o1.Grid.Merge, qe o1.Draw]) 3 rfl iL rfl rfl) (sA rfl rfl (aZ (hK1 _ ?_)))))
 refine aS fun K2 hK2 wK2 => (aS fun K3 hK3 wK3 => (aR (sQ rfl (fB rfl tf_40_0 iL fR rfl) (sQ rfl (ms_load_box (a := rI (o1.Kind)) rfl ts_3 iL rfl rfl) (sQ rfl (sp_eql rfl iL iL) (aZ (hK3 _ ?_)))))))
 refine aC rfl (fun hc1 => ?_) (fun hc1 => ?_)
 ·have h1 := ite_t hc1 h
  refine aS fun K4 hK4 wK4 => ?_
  exact giveup h1
 ·have h1 := ite_f hc1 h
  refine AW.skip ?_
  refine hK2 _ ?_
  refine aS fun K5 hK5 wK5 => ?_
  refine AW.regionQ hmix (by kernel_rfl) ?_
  refine AQ.step rfl rfl rfl (sp_move rfl iL) (AQ.step rfl rfl rfl (sp_nilCheck_own (ob := .box _ _ _) rfl iL fR rfl) (AQ.step rfl rfl rfl (ms_loadA_box rfl ta_45 iL rfl rfl) (AQ.step rfl rfl rfl (fB rfl tf_40_1 iL fR rfl) (AQ.step rfl rfl rfl (ms_load_box (a := rI (o1.Node)) rfl ts_3 iL rfl rfl) (ob1k h1 fun i1 ei1 h2 => ?_)))))
  refine AQ.stepC rfl rfl rfl (r := rI (i1)) (caps := []) (bs := [.agg [qg w1.Nodes], rI (o1.Node)]) rfl iL rfl ⟨⟨_, iL, .agg (by exact ⟨.own rfl, trivial⟩)⟩, ⟨_, iL, .d rfl⟩, trivial⟩ (fun _ => w_doc_Index (ei1)) rfl ?_
  refine AQ.step rfl rfl rfl (sp_assign rfl iL) ?_
  refine AQ.nil ?_
  refine hK5 _ ?_
  refine aS fun K6 hK6 wK6 => (aS fun K7 hK7 wK7 => ?_)
  refine AW.weak (s' := ⟨[(0, .ptr 1000 gb1000 0 0), (3, .ptr 3 n0 0 0), (5, rI (i1))], [(3, some (.box n0 40 [rI (o1.Kind), rI (o1.Node), rI (o1.New.ID), rI (o1.New.Kind), qa o1.New.Attrs, qd o1.New.Flow, rI (o1.New.Grid.Rows), rI (o1.New.Grid.Cols), qc o1.New.Grid.Cells, qb o1.New.Grid.Merges, qe o1.New.Draw, qa o1.Attrs, qh o1.Steps, qf o1.Grid.Rows, qf o1.Grid.Cols, qc o1.Grid.Cells, qb o1.Grid.Split, qb o1.Grid.Merge, qe o1.Draw])), (1000, some (.box gb1000 45 [.own 1001 ga1001])), (1001, some (.arr ga1001 34 9 (w1.Nodes.map GNode.row)))], (n0 + 1), 81⟩) (by exact Weak.cv ⟨jL, jL, jL, trivial⟩ ⟨.inl rfl, .inl rfl, .inl rfl, trivial⟩ nL) ?_
  refine aR (sM rfl rfl (sQ rfl (sp_lss rfl iL iL) (aZ (hK7 _ ?_))))
  refine aC rfl (fun hc2 => ?_) (fun hc2 => ?_)
  ·have h3 := ite_t hc2 h2
   refine aS fun K8 hK8 wK8 => (aR (sA rfl rfl (aZ (hK8 _ ?_))))
   refine AW.ret ?_
   exact RetW.mk (s' := ⟨[(4, rI (7))], [(1000, some (.box gb1000 45 [.own 1001 ga1001])), (1001, some (.arr ga1001 34 9 (w1.Nodes.map GNode.row)))], (n0 + 1), 81⟩) ((by exact Weak.cv ⟨jL, trivial⟩ ⟨.inl rfl, .inl rfl, trivial⟩ nL)) (reth_cast (fun (r : Int × GDoc) rr h' => ∃ (i : Nat → Nat), rr = rI (r.1) ∧ h' = [(1000, some (.box gb1000 45 [.own 1001 (i 0)])), (1001, some (.arr (i 0) 34 9 (r.2.Nodes.map GNode.row)))]) h3 (by exact ⟨rI (7), [(1000, some (.box gb1000 45 [.own 1001 ga1001])), (1001, some (.arr ga1001 34 9 (w1.Nodes.map GNode.row)))], rfl, ⟨.inr rfl, .inr rfl, trivial⟩, rfl, rfl, vec [ga1001], rfl, rfl⟩))
  ·have h3 := ite_f hc2 h2
   refine AW.skip ?_
   refine hK6 _ ?_
   refine aS fun K9 hK9 wK9 => (aR (sM rfl rfl (sQ rfl (sp_nilCheck_own (ob := .box _ _ _) rfl iL fR rfl) (sQ rfl (fB rfl tf_45_0 iL fR rfl) (sQ rfl (ms_load_box (a := .own 1001 ga1001) rfl ts_43 iL rfl rfl) (sM rfl rfl (ob1k h3 fun n1 en1 h4 => (sQ rfl (ms_idx_own rfl tg_43.slice iL rfl iL (fun _ => en1)) (sA rfl rfl (aZ (hK9 _ ?_)))))))))))
   refine aS fun K10 hK10 wK10 => (aS fun K11 hK11 wK11 => ?_)
   refine AW.weak (s' := ⟨[(0, .ptr 1000 gb1000 0 0), (3, .ptr 3 n0 0 0), (6, .ptr 1001 ga1001 i1.toNat 0)], [(3, some (.box n0 40 [rI (o1.Kind), rI (o1.Node), rI (o1.New.ID), rI (o1.New.Kind), qa o1.New.Attrs, qd o1.New.Flow, rI (o1.New.Grid.Rows), rI (o1.New.Grid.Cols), qc o1.New.Grid.Cells, qb o1.New.Grid.Merges, qe o1.New.Draw, qa o1.Attrs, qh o1.Steps, qf o1.Grid.Rows, qf o1.Grid.Cols, qc o1.Grid.Cells, qb o1.Grid.Split, qb o1.Grid.Merge, qe o1.Draw])), (1000, some (.box gb1000 45 [.own 1001 ga1001])), (1001, some (.arr ga1001 34 9 (w1.Nodes.map GNode.row)))], (n0 + 1), 81⟩) (by exact Weak.cv ⟨jL, jL, jL, trivial⟩ ⟨.inl rfl, .inl rfl, .inl rfl, trivial⟩ nL) ?_
   refine aR (sQ rfl (fB rfl tf_40_0 iL fR rfl) (sQ rfl (ms_load_box (a := rI (o1.Kind)) rfl ts_3 iL rfl rfl) (aZ (hK11 _ ?_))))
   refine AW.block (aS fun K12 hK12 wK12 => (aR (sQ rfl (sp_eql rfl iL iL) (sA rfl rfl (aZ (hK12 _ ?_))))))
   refine aC rfl (fun hc3 => ?_) (fun hc3 => ?_)
   ·have h5 := ite_t hc3 h4
    refine aS fun K13 hK13 wK13 => ?_
    refine AW.regionF' [0] [1, 2, 3, 4, 5, 6] [] 7 hmix (by kernel_rfl) rfl rfl rfl rfl rfl ?_
    refine AFl.move rfl rfl rfl rfl ?_
    refine AFl.nil ?_
    refine AF.step rfl rfl rfl (sp_move rfl iL) ?_
    refine AF.step rfl rfl rfl (sp_nilCheck_own (ob := .arr _ _ _ _) rfl iL fR rfl) ?_
    refine AF.step rfl rfl rfl (sp_fieldAddr_own (ob := .arr _ _ _ _) rfl tf_34_2 iL fR rfl) ?_
    refine AF.step rfl rfl rfl (ms_load_own (d := .sl (n1.Attrs.map GAttr.row)) rfl ts_26 iL fR (fun _ => en1) rfl) ?_
    refine AF.step rfl rfl rfl (fB rfl tf_40_3 iL fR rfl) ?_
    refine AF.step rfl rfl rfl (ms_load_box (a := qa o1.Attrs) rfl ts_26 iL rfl rfl) ?_
    refine AF.nil ?_
    refine AA.nil ?_
    refine ob1k h5 fun r1 er1 h6 => (AOps.step rfl rfl rfl (sp_callS (r := qa r1) (caps := []) (bs := [qa n1.Attrs, qa o1.Attrs]) rfl iL rfl ⟨.inl ⟨iL, rfl⟩, .inl ⟨iL, rfl⟩, trivial⟩ (fun _ => w_attr_Raw (er1))) (sQ rfl (sp_nilCheck_own (ob := .arr _ _ _ _) rfl iL fR rfl) (sQ rfl (sp_fieldAddr_own (ob := .arr _ _ _ _) rfl tf_34_2 iL fR rfl) (AOps.step0 rfl rfl (ms_store (v := (GNode.mk n1.ID n1.Kind r1 n1.Flow n1.Grid n1.Draw)) rfl tz_26 iL rfl en1 iL rfl rfl rfl rfl) (aZ (hK13 _ ?_))))))
    refine aS fun K14 hK14 wK14 => ?_
    refine AW.weak (s' := ⟨[], [(1000, some (.box gb1000 45 [.own 1001 ga1001])), (1001, some (.arr ga1001 34 9 ((w1.Nodes.set i1.toNat (GNode.mk n1.ID n1.Kind r1 n1.Flow n1.Grid n1.Draw)).map GNode.row)))], (n0 + 1), 81⟩) (by exact Weak.cv trivial ⟨.inl rfl, .inl rfl, trivial⟩ nL) ?_
    refine aR (sA rfl rfl (aZ (hK14 _ ?_)))
    refine AW.ret ?_
    exact RetW.mk (s' := ⟨[(4, rI (0))], [(1000, some (.box gb1000 45 [.own 1001 ga1001])), (1001, some (.arr ga1001 34 9 ((w1.Nodes.set i1.toNat (GNode.mk n1.ID n1.Kind r1 n1.Flow n1.Grid n1.Draw)).map GNode.row)))], (n0 + 1), 81⟩) ((by exact Weak.cv ⟨jL, trivial⟩ ⟨.inl rfl, .inl rfl, trivial⟩ nL)) (reth_cast (fun (r : Int × GDoc) rr h' => ∃ (i : Nat → Nat), rr = rI (r.1) ∧ h' = [(1000, some (.box gb1000 45 [.own 1001 (i 0)])), (1001, some (.arr (i 0) 34 9 (r.2.Nodes.map GNode.row)))]) h6 (by exact ⟨rI (0), [(1000, some (.box gb1000 45 [.own 1001 ga1001])), (1001, some (.arr ga1001 34 9 ((w1.Nodes.set i1.toNat (GNode.mk n1.ID n1.Kind r1 n1.Flow n1.Grid n1.Draw)).map GNode.row)))], rfl, ⟨.inr rfl, .inr rfl, trivial⟩, rfl, rfl, vec [ga1001], rfl, rfl⟩))
   ·have h5 := ite_f hc3 h4
    refine aS fun K15 hK15 wK15 => (aR (sQ rfl (sp_eql rfl iL iL) (sA rfl rfl (aZ (hK15 _ ?_)))))
    refine aC rfl (fun hc4 => ?_) (fun hc4 => ?_)
    ·have h7 := ite_t hc4 h5
     refine aS fun K16 hK16 wK16 => ?_
     exact giveup h7
    ·have h7 := ite_f hc4 h5
     refine aS fun K17 hK17 wK17 => (aR (sQ rfl (sp_eql rfl iL iL) (sA rfl rfl (aZ (hK17 _ ?_)))))
     refine aC rfl (fun hc5 => ?_) (fun hc5 => ?_)
     ·have h8 := ite_t hc5 h7
      refine aS fun K18 hK18 wK18 => ?_
      exact giveup h8
     ·have h8 := ite_f hc5 h7
      refine AW.skip ?_
      refine hK10 _ ?_
      refine aS fun K19 hK19 wK19 => (aS fun K20 hK20 wK20 => ?_)
      refine AW.weak (s' := ⟨[(3, .ptr 3 n0 0 0), (6, .ptr 1001 ga1001 i1.toNat 0)], [(3, some (.box n0 40 [rI (o1.Kind), rI (o1.Node), rI (o1.New.ID), rI (o1.New.Kind), qa o1.New.Attrs, qd o1.New.Flow, rI (o1.New.Grid.Rows), rI (o1.New.Grid.Cols), qc o1.New.Grid.Cells, qb o1.New.Grid.Merges, qe o1.New.Draw, qa o1.Attrs, qh o1.Steps, qf o1.Grid.Rows, qf o1.Grid.Cols, qc o1.Grid.Cells, qb o1.Grid.Split, qb o1.Grid.Merge, qe o1.Draw])), (1000, some (.box gb1000 45 [.own 1001 ga1001])), (1001, some (.arr ga1001 34 9 (w1.Nodes.map GNode.row)))], (n0 + 1), 81⟩) (by exact Weak.cv ⟨jL, jL, trivial⟩ ⟨.inl rfl, .inl rfl, .inl rfl, trivial⟩ nL) ?_
      exact giveup h8
theorem w_edit_Apply {d1 : GDoc} {c1 : List GOp} {r : GDoc × Int} (h : edit_Apply d1 c1 = some r) : ARO prog 32 [.agg [qg d1.Nodes], qi c1] (.tup [.agg [qg r.1.Nodes], rI (r.2)]) := by
 unfold edit_Apply at h
 refine ARO.mkF func32 rfl rfl ntmps32 rfl (Nat.le_of_ble_eq_true rfl) fun n0 => ?_
 refine aS fun K1 hK1 wK1 => (aR (AOps.step rfl rfl rfl (ms_box (cs := [qg d1.Nodes]) 2 rfl iL rfl rfl) (AOps.step rfl rfl rfl (ms_alloc (cs := [.cst (.slice none 0 0)]) 4 rfl t0_45 rfl rfl) (sA rfl rfl (aZ (hK1 _ ?_))))))
 refine aS fun K2 hK2 wK2 => (aS fun K3 hK3 wK3 => (aR (sQ rfl (ms_loadA_box rfl ta_45 iL rfl rfl) (ob1k h fun e1 ee1 h1 => (AOps.step rfl rfl rfl (sp_call (r := rI (e1)) (caps := []) (bs := [.agg [qg d1.Nodes]]) rfl iL rfl ⟨⟨_, iL, .g (cs := [.sl (d1.Nodes.map GNode.row)]) rfl rfl⟩, trivial⟩ (fun _ => w_doc_Check (ee1)) rfl) (sA rfl rfl (aZ (hK3 _ ?_))))))))
 refine aS fun K4 hK4 wK4 => (aR (sM rfl rfl (sQ rfl (sp_neq rfl iL iL) (aZ (hK4 _ ?_)))))
 refine aC rfl (fun hc1 => ?_) (fun hc1 => ?_)
 ·have h2 := ite_t hc1 h1
  refine aS fun K5 hK5 wK5 => (aR ?_)
  refine sQ rfl (sp_build rfl tb_45 (q := []) (by exact trivial) (cs := [.cst (.slice none 0 0)]) (by rfl)) ?_
  refine sM rfl rfl (AOps.step0 rfl rfl (ms_store_box (ds := [.cst (.slice none 0 0)]) rfl tz_45 iL rfl iL rfl rfl rfl rfl) (sA rfl rfl (aZ (hK5 _ ?_))))
  refine AW.ret ?_
  exact retf2 (P := prog) (fun (r : GDoc × Int) => .agg [qg r.1.Nodes]) (fun (r : GDoc × Int) => rI (r.2)) h2 iL (.a ta_45 rfl rfl rfl (.agg (by exact ⟨.nil, trivial⟩))) (.t (.d rfl))
 ·have h2 := ite_f hc1 h1
  refine AW.skip ?_
  refine hK2 _ ?_
  refine aS fun K6 hK6 wK6 => (aS fun K7 hK7 wK7 => (aR (sM rfl rfl (ob1k h2 fun e2 ee2 h3 => (AOps.step rfl rfl rfl (sp_call (r := rI (e2)) (caps := []) (bs := [qi c1]) rfl iL rfl ⟨⟨_, iL, .d rfl⟩, trivial⟩ (fun _ => w_edit_Check (ee2)) rfl) (sA rfl rfl (aZ (hK7 _ ?_))))))))
  refine aS fun K8 hK8 wK8 => ?_
  refine AW.weak (s' := ⟨[(1, qi c1), (2, .ptr 2 n0 0 0), (4, .ptr 4 (n0 + 1) 0 0), (7, rI (e2))], [(2, some (.box n0 45 [qg d1.Nodes])), (4, some (.box (n0 + 1) 45 [.cst (.slice none 0 0)]))], (n0 + 2), 40⟩) (by exact Weak.cv ⟨jL, jL, jL, jL, trivial⟩ ⟨.inl rfl, .inl rfl, trivial⟩ nL) ?_
  refine aR (sM rfl rfl (sQ rfl (sp_neq rfl iL iL) (aZ (hK8 _ ?_))))
  refine aC rfl (fun hc2 => ?_) (fun hc2 => ?_)
  ·have h4 := ite_t hc2 h3
   refine aS fun K9 hK9 wK9 => (aR ?_)
   refine sQ rfl (sp_build rfl tb_45 (q := []) (by exact trivial) (cs := [.cst (.slice none 0 0)]) (by rfl)) ?_
   refine sM rfl rfl (AOps.step0 rfl rfl (ms_store_box (ds := [.cst (.slice none 0 0)]) rfl tz_45 iL rfl iL rfl rfl rfl rfl) (sA rfl rfl (aZ (hK9 _ ?_))))
   refine AW.ret ?_
   exact retf2 (P := prog) (fun (r : GDoc × Int) => .agg [qg r.1.Nodes]) (fun (r : GDoc × Int) => rI (r.2)) h4 iL (.a ta_45 rfl rfl rfl (.agg (by exact ⟨.nil, trivial⟩))) (.t (.d rfl))
  ·have h4 := ite_f hc2 h3
   refine AW.skip ?_
   refine hK6 _ ?_
   refine aS fun K10 hK10 wK10 => (aR (sQ rfl (ms_loadA_box rfl ta_45 iL rfl rfl) (ob1k h4 fun w1 ew1 h5 => ?_)))
   refine AOps.stepHI [25] (hc := []) (bs := [.agg [qg d1.Nodes]]) (caps := []) rfl rfl rfl rfl iL rfl ⟨.inl ⟨iL, rfl⟩, trivial⟩ trivial (by decide) (w_doc_Copy_o ew1) ?_
   intro i1 n1
   refine AOps.weak (s' := ⟨[(1, qi c1), (2, .ptr 2 n0 0 0), (4, .ptr 4 (n0 + 1) 0 0), (7, rI (e2)), (20, rI (e2)), (21, rB ((!decide (e2 = 0)))), (24, .agg [qg d1.Nodes]), (25, .agg [.own 25 (i1 0)])], [(2, some (.box n0 45 [qg d1.Nodes])), (4, some (.box (n0 + 1) 45 [.cst (.slice none 0 0)])), (25, some (.arr (i1 0) 34 9 (w1.map GNode.row)))], n1, 40⟩) (by exact Weak.cv ⟨jL, jL, jL, jL, jL, jL, jL, jL, trivial⟩ ⟨.inl rfl, .inl rfl, .inl rfl, trivial⟩ nL) ?_
   refine AOps.step rfl rfl rfl (ms_alloc (cs := [.cst (.slice none 0 0)]) 8 rfl t0_45 rfl rfl) (AOps.step0 rfl rfl (ms_store_box (ds := [.own 25 (i1 0)]) rfl tz_45 iL rfl iL rfl rfl rfl rfl) (aZ (hK10 _ ?_)))
   refine aS fun K11 hK11 wK11 => (aS fun K12 hK12 wK12 => (aR (sM rfl rfl (sQ rfl (ms_len rfl tg_22.slice iL) (sM rfl rfl (aZ (hK12 _ ?_)))))))
   refine AW.block ?_
   refine jc1k h5 fun o1 hit1 hk1 he1 => ?_
   have J1 : ∀ (out4 : GDoc) (i6 : Nat → Nat), o1 = .nrm out4 → K11 ⟨[(4, .ptr 4 (n0 + 1) 0 0), (8, .ptr 8 n1 0 0)], [(4, some (.box (n0 + 1) 45 [.cst (.slice none 0 0)])), (8, some (.box n1 45 [.own 25 (i6 0)])), (25, some (.arr (i6 0) 34 9 (out4.Nodes.map GNode.row)))], (i6 1), 40⟩ := by
    intro out4 i6 e
    have h6 := hk1 _ e
    refine hK11 _ ?_
    refine aS fun K13 hK13 wK13 => (aR (sQ rfl (ms_loadA_box rfl ta_45 iL rfl rfl) (AOps.step0 rfl rfl (ms_store_box (ds := [.own 25 (i6 0)]) rfl tz_45 iL rfl iL rfl rfl rfl rfl) (sA rfl rfl (aZ (hK13 _ ?_))))))
    refine AW.ret ?_
    exact retf2 (P := prog) (fun (r : GDoc × Int) => .agg [qg r.1.Nodes]) (fun (r : GDoc × Int) => rI (r.2)) h6 iL (.a ta_45 rfl rfl rfl (.agg (by exact ⟨.own rfl, trivial⟩))) (.t (.d rfl))
   refine AW.iter2 (fun (x2 : Int) (out2 : GDoc) i4 => ⟨[(4, .ptr 4 (n0 + 1) 0 0), (8, .ptr 8 n1 0 0), (26, qi c1), (27, rI ((c1.length : Int))), (28, rI (x2))], [(4, some (.box (n0 + 1) 45 [.cst (.slice none 0 0)])), (8, some (.box n1 45 [.own 25 (i4 0)])), (25, some (.arr (i4 0) 34 9 (out2.Nodes.map GNode.row)))], (i4 1), 40⟩) (vec [(i1 0), (n1 + 1)]) hit1 ((by exact Weak.cv ⟨jL, jL, jL, jL, jL, trivial⟩ ⟨.inl rfl, .inl rfl, .inl rfl, trivial⟩ nL)) ?_
   intro x2 out2 i4 v1 hv1 hx1
   have h7 : edit_Apply_L1 c1 x2 out2 = some v1 := hv1; unfold edit_Apply_L1 at h7
   refine aS fun K14 hK14 wK14 => (aR (sQ rfl (sp_lss rfl iL iL) (aZ (hK14 _ ?_))))
   refine aS fun K15 hK15 wK15 => ?_
   refine aC rfl (fun hc3 => ?_) (fun hc3 => ?_)
   ·have h8 := ite_t hc3 h7
    refine AW.skip ?_
    refine hK15 _ ?_
    refine aS fun K16 hK16 wK16 => (AW.block (aS fun K17 hK17 wK17 => (aR (ob1k h8 fun x4 ex4 h9 => (sQ rfl (ms_idx rfl tg_22.slice iL iL (fun _ => rfl) (fun _ => ex4)) (sQ rfl (ms_loadA (cs := [rI (x4.Kind), rI (x4.Node), rI (x4.New.ID), rI (x4.New.Kind), qa x4.New.Attrs, qd x4.New.Flow, rI (x4.New.Grid.Rows), rI (x4.New.Grid.Cols), qc x4.New.Grid.Cells, qb x4.New.Grid.Merges, qe x4.New.Draw, qa x4.Attrs, qh x4.Steps, qf x4.Grid.Rows, qf x4.Grid.Cols, qc x4.Grid.Cells, qb x4.Grid.Split, qb x4.Grid.Merge, qe x4.Draw]) rfl ta_40 iL rfl rfl) (AOps.step rfl rfl rfl (ms_alloc (cs := [rI (0), rI (0), rI (0), rI (0), .cst (.slice none 0 0), .cst (.slice none 0 0), rI (0), rI (0), .cst (.slice none 0 0), .cst (.slice none 0 0), .cst (.slice none 0 0), .cst (.slice none 0 0), .cst (.slice none 0 0), .cst (.slice none 0 0), .cst (.slice none 0 0), .cst (.slice none 0 0), .cst (.slice none 0 0), .cst (.slice none 0 0), .cst (.slice none 0 0)]) 10 rfl t0_40 rfl rfl) (AOps.step0 rfl rfl (ms_store_box (ds := [rI (x4.Kind), rI (x4.Node), rI (x4.New.ID), rI (x4.New.Kind), qa x4.New.Attrs, qd x4.New.Flow, rI (x4.New.Grid.Rows), rI (x4.New.Grid.Cols), qc x4.New.Grid.Cells, qb x4.New.Grid.Merges, qe x4.New.Draw, qa x4.Attrs, qh x4.Steps, qf x4.Grid.Rows, qf x4.Grid.Cols, qc x4.Grid.Cells, qb x4.Grid.Split, qb x4.Grid.Merge, qe x4.Draw]) rfl tz_40 iL rfl iL rfl rfl rfl rfl) (aZ (hK17 _ ?_))))))))))
    refine aS fun K18 hK18 wK18 => (aR (sQ rfl (ms_loadA_box rfl ta_40 iL rfl rfl) (ob2k h9 fun e3 w2 ee3 h10 => ?_)))
    refine AOps.stepHI [8, 25] (hc := [(1000, some (.box n1 45 [.own 1001 (i4 0)])), (1001, some (.arr (i4 0) 34 9 (out2.Nodes.map GNode.row)))]) (bs := [.ptr 1000 n1 0 0, .agg [rI (x4.Kind), rI (x4.Node), rI (x4.New.ID), rI (x4.New.Kind), qa x4.New.Attrs, qd x4.New.Flow, rI (x4.New.Grid.Rows), rI (x4.New.Grid.Cols), qc x4.New.Grid.Cells, qb x4.New.Grid.Merges, qe x4.New.Draw, qa x4.Attrs, qh x4.Steps, qf x4.Grid.Rows, qf x4.Grid.Cols, qc x4.Grid.Cells, qb x4.Grid.Split, qb x4.Grid.Merge, qe x4.Draw]]) (caps := []) rfl rfl rfl rfl iL rfl ⟨.inl ⟨iL, rfl⟩, .inl ⟨iL, rfl⟩, trivial⟩ ⟨rfl, rfl, rfl, rfl, rfl, rfl, trivial⟩ (by decide) (w_edit_one ee3) ?_
    intro i7 n2
    refine AOps.weak (s' := ⟨[(4, .ptr 4 (n0 + 1) 0 0), (8, .ptr 8 n1 0 0), (10, .ptr 10 (i4 1) 0 0), (26, qi c1), (27, rI ((c1.length : Int))), (28, rI (x2)), (29, rB ((decide (x2 < (c1.length : Int))))), (30, .rop (GOp.row x4) 0), (31, .agg [rI (x4.Kind), rI (x4.Node), rI (x4.New.ID), rI (x4.New.Kind), qa x4.New.Attrs, qd x4.New.Flow, rI (x4.New.Grid.Rows), rI (x4.New.Grid.Cols), qc x4.New.Grid.Cells, qb x4.New.Grid.Merges, qe x4.New.Draw, qa x4.Attrs, qh x4.Steps, qf x4.Grid.Rows, qf x4.Grid.Cols, qc x4.Grid.Cells, qb x4.Grid.Split, qb x4.Grid.Merge, qe x4.Draw]), (32, .agg [rI (x4.Kind), rI (x4.Node), rI (x4.New.ID), rI (x4.New.Kind), qa x4.New.Attrs, qd x4.New.Flow, rI (x4.New.Grid.Rows), rI (x4.New.Grid.Cols), qc x4.New.Grid.Cells, qb x4.New.Grid.Merges, qe x4.New.Draw, qa x4.Attrs, qh x4.Steps, qf x4.Grid.Rows, qf x4.Grid.Cols, qc x4.Grid.Cells, qb x4.Grid.Split, qb x4.Grid.Merge, qe x4.Draw]), (33, rI (e3))], [(4, some (.box (n0 + 1) 45 [.cst (.slice none 0 0)])), (8, some (.box n1 45 [.own 25 (i7 0)])), (10, some (.box (i4 1) 40 [rI (x4.Kind), rI (x4.Node), rI (x4.New.ID), rI (x4.New.Kind), qa x4.New.Attrs, qd x4.New.Flow, rI (x4.New.Grid.Rows), rI (x4.New.Grid.Cols), qc x4.New.Grid.Cells, qb x4.New.Grid.Merges, qe x4.New.Draw, qa x4.Attrs, qh x4.Steps, qf x4.Grid.Rows, qf x4.Grid.Cols, qc x4.Grid.Cells, qb x4.Grid.Split, qb x4.Grid.Merge, qe x4.Draw])), (25, some (.arr (i7 0) 34 9 (w2.Nodes.map GNode.row)))], n2, 40⟩) (by exact Weak.cv ⟨jL, jL, jL, jL, jL, jL, jL, jL, jL, jL, jL, trivial⟩ ⟨.inl rfl, .inl rfl, .inl rfl, .inl rfl, trivial⟩ nL) ?_
    refine sA rfl rfl (aZ (hK18 _ ?_))
    refine aS fun K19 hK19 wK19 => (aR (sM rfl rfl (sQ rfl (sp_neq rfl iL iL) (aZ (hK19 _ ?_)))))
    refine aC rfl (fun hc4 => ?_) (fun hc4 => ?_)
    ·have h11 := ite_t hc4 h10
     refine aS fun K20 hK20 wK20 => ?_
     refine AW.weak (s' := ⟨[(4, .ptr 4 (n0 + 1) 0 0), (11, rI (e3))], [(4, some (.box (n0 + 1) 45 [.cst (.slice none 0 0)]))], n2, 40⟩) (by exact Weak.cv ⟨jL, jL, trivial⟩ ⟨.inl rfl, trivial⟩ nL) ?_
     refine aR ?_
     refine sQ rfl (sp_build rfl tb_45 (q := []) (by exact trivial) (cs := [.cst (.slice none 0 0)]) (by rfl)) ?_
     refine sM rfl rfl (AOps.step0 rfl rfl (ms_store_box (ds := [.cst (.slice none 0 0)]) rfl tz_45 iL rfl iL rfl rfl rfl rfl) (sA rfl rfl (aZ (hK20 _ ?_))))
     refine AW.ret ?_
     exact retf2 (P := prog) (fun (r : GDoc × Int) => .agg [qg r.1.Nodes]) (fun (r : GDoc × Int) => rI (r.2)) (he1 _ (hx1 _ (Option.some.inj h11).symm)) iL (.a ta_45 rfl rfl rfl (.agg (by exact ⟨.nil, trivial⟩))) (.t (.d rfl))
    ·have h11 := ite_f hc4 h10
     refine AW.skip ?_
     refine hK16 _ ?_
     refine AW.weak (s' := ⟨[(4, .ptr 4 (n0 + 1) 0 0), (8, .ptr 8 n1 0 0), (26, qi c1), (27, rI ((c1.length : Int))), (28, rI (x2))], [(4, some (.box (n0 + 1) 45 [.cst (.slice none 0 0)])), (8, some (.box n1 45 [.own 25 (i7 0)])), (25, some (.arr (i7 0) 34 9 (w2.Nodes.map GNode.row)))], n2, 40⟩) (by exact Weak.cv ⟨jL, jL, jL, jL, jL, trivial⟩ ⟨.inl rfl, .inl rfl, .inl rfl, trivial⟩ nL) ?_
     refine aR (ob1k h11 fun x5 ex5 h12 => (sQ rfl (ms_add rfl iL iL (fun _ => ex5)) (sM rfl rfl ?_)))
     refine AOps.nil ?_
     exact NextQ2.mk h12 (vec [(i7 0), n2]) ((by exact Weak.cv ⟨jL, jL, jL, jL, jL, trivial⟩ ⟨.inl rfl, .inl rfl, .inl rfl, trivial⟩ nL))
   ·have h8 := ite_f hc3 h7
    refine AW.exit ?_
    exact wK11 _ _ ((by exact Weak.cv ⟨jL, jL, trivial⟩ ⟨.inl rfl, .inl rfl, .inl rfl, trivial⟩ nL)) (J1 _ (vec [(i4 0), (i4 1)]) (hx1 _ (Option.some.inj h8).symm))
theorem w_law_end {r : GElem} (h : law_end = some r) : ARO prog 50 [] (.agg [rI (r.Char), rI (r.Ref), qa r.Attrs]) := by
 unfold law_end at h
 refine ARO.mkF func50 rfl rfl ntmps50 rfl (Nat.le_of_ble_eq_true rfl) fun n0 => ?_
 refine aS fun K1 hK1 wK1 => (aR (AOps.step rfl rfl rfl (ms_alloc (cs := [rI (0), rI (0), .cst (.slice none 0 0)]) 0 rfl t0_60 rfl rfl) (aZ (hK1 _ ?_))))
 refine aS fun K2 hK2 wK2 => (aR ?_)
 refine sQ rfl (sp_build rfl tb_60 (q := [(0, _)]) (by exact ⟨rfl, rfl, rfl, iL, trivial⟩) (cs := [rI (10), rI (0), .cst (.slice none 0 0)]) (by rfl)) ?_
 refine AOps.step0 rfl rfl (ms_store_box (ds := [rI (10), rI (0), .cst (.slice none 0 0)]) rfl tz_60 iL rfl iL rfl rfl rfl rfl) (aZ (hK2 _ ?_))
 refine AW.ret ?_
 exact retf1 (P := prog) (fun (r : GElem) => .agg [rI (r.Char), rI (r.Ref), qa r.Attrs]) h iL (.a ta_60 rfl rfl rfl (.agg (by exact ⟨.closed _ rfl, .closed _ rfl, .nil, trivial⟩)))
theorem w_law_simple {f1 : List GElem} {r : GDoc} (h : law_simple f1 = some r) : ARO prog 49 [qd f1] (.agg [qg r.Nodes]) := by
 unfold law_simple at h
 refine ARO.mkF func49 rfl rfl ntmps49 rfl (Nat.le_of_ble_eq_true rfl) fun n0 => ?_
 refine aS fun K1 hK1 wK1 => (aR (AOps.step rfl rfl rfl (ms_alloc (cs := [.cst (.slice none 0 0)]) 2 rfl t0_45 rfl rfl) (aZ (hK1 _ ?_))))
 refine aS fun K2 hK2 wK2 => (aR ?_)
 refine sQ rfl (sp_build rfl tb_60 (q := [(1, _)]) (by exact ⟨rfl, rfl, rfl, iL, trivial⟩) (cs := [rI (0), rI (2), .cst (.slice none 0 0)]) (by rfl)) ?_
 refine AOps.step rfl rfl rfl (ms_lit 4 rfl tg_27 (f := GElem.row) (l := ([(GElem.mk 0 2 [])] : List GElem)) ⟨rfl, ⟨_, iL, rfl⟩, trivial⟩ rfl (fun _ => rfl) rfl) ?_
 refine sQ rfl (sp_build rfl tb_34 (q := [(0, _), (3, _)]) (by exact ⟨rfl, rfl, rfl, iL, rfl, rfl, rfl, iL, trivial⟩) (cs := [rI (1), rI (0), .cst (.slice none 0 0), .own 4 (n0 + 1), rI (0), rI (0), .cst (.slice none 0 0), .cst (.slice none 0 0), .cst (.slice none 0 0)]) (by rfl)) ?_
 refine sM rfl rfl ?_
 refine sQ rfl (sp_build rfl tb_34 (q := [(0, _), (1, _), (3, _)]) (by exact ⟨rfl, rfl, rfl, iL, rfl, rfl, rfl, iL, rfl, rfl, rfl, iL, trivial⟩) (cs := [rI (2), rI (1), .cst (.slice none 0 0), qd f1, rI (0), rI (0), .cst (.slice none 0 0), .cst (.slice none 0 0), .cst (.slice none 0 0)]) (by rfl)) ?_
 refine AOps.weak (by exact Weak.frz (e' := [(0, qd f1), (2, .ptr 2 n0 0 0), (3, .agg [rI (0), rI (2), .cst (.slice none 0 0)]), (4, .r (.sl ([(GElem.mk 0 2 [])].map GElem.row))), (5, .agg [rI (1), rI (0), .cst (.slice none 0 0), .r (.sl ([(GElem.mk 0 2 [])].map GElem.row)), rI (0), rI (0), .cst (.slice none 0 0), .cst (.slice none 0 0), .cst (.slice none 0 0)]), (6, qd f1), (7, .agg [rI (2), rI (1), .cst (.slice none 0 0), qd f1, rI (0), rI (0), .cst (.slice none 0 0), .cst (.slice none 0 0), .cst (.slice none 0 0)])]) (h' := [(2, some (.box n0 45 [.cst (.slice none 0 0)]))]) 4 rfl ⟨jL, jL, jL, .inl (.inr (.inr ⟨rfl, rfl⟩)), .inr ⟨_, _, rfl, rfl, ⟨.inl rfl, .inl rfl, .inl rfl, .inr (.inr ⟨rfl, rfl⟩), .inl rfl, .inl rfl, .inl rfl, .inl rfl, .inl rfl, trivial⟩⟩, jL, jL, trivial⟩ ⟨rfl, .inl rfl, trivial⟩) ?_
 refine AOps.step rfl rfl rfl (ms_lit 8 rfl tg_43 (f := GNode.row) (l := ([(GNode.mk 1 0 [] [(GElem.mk 0 2 [])] (GGrid.mk 0 0 [] []) []), (GNode.mk 2 1 [] f1 (GGrid.mk 0 0 [] []) [])] : List GNode)) ⟨rfl, ⟨_, iL, rfl⟩, rfl, ⟨_, iL, rfl⟩, trivial⟩ rfl (fun _ => rfl) rfl) ?_
 refine sQ rfl (sp_build rfl tb_45 (q := [(0, _)]) (by exact ⟨rfl, rfl, rfl, iL, trivial⟩) (cs := [.own 8 (n0 + 2)]) (by rfl)) ?_
 refine AOps.step0 rfl rfl (ms_store_box (ds := [.own 8 (n0 + 2)]) rfl tz_45 iL rfl iL rfl rfl rfl rfl) (aZ (hK2 _ ?_))
 refine AW.ret ?_
 exact retf1 (P := prog) (fun (r : GDoc) => .agg [qg r.Nodes]) h iL (.a ta_45 rfl rfl rfl (.agg (by exact ⟨.own rfl, trivial⟩)))
theorem w_ref_SameAttrs {a1 : List GAttr} {b1 : List GAttr} {r : Bool} (h : ref_SameAttrs a1 b1 = some r) : ARO prog 36 [qa a1, qa b1] (rB (r)) := by
 unfold ref_SameAttrs at h
 refine ARO.mkF func36 rfl rfl ntmps36 rfl (Nat.le_of_ble_eq_true rfl) fun n0 => ?_
 refine aS fun K1 hK1 wK1 => (aR (sA rfl rfl (aZ (hK1 _ ?_))))
 refine aS fun K2 hK2 wK2 => (aS fun K3 hK3 wK3 => (aR (sM rfl rfl (sQ rfl (ms_len rfl tg_26.slice iL) (sM rfl rfl (sQ rfl (ms_len rfl tg_26.slice iL) (sQ rfl (sp_neq rfl iL iL) (aZ (hK3 _ ?_)))))))))
 refine aC rfl (fun hc1 => ?_) (fun hc1 => ?_)
 ·have h1 := ite_t hc1 h
  refine aS fun K4 hK4 wK4 => (aR (sA rfl rfl (aZ (hK4 _ ?_))))
  refine AW.ret ?_
  exact retf1 (P := prog) (fun (r : Bool) => rB (r)) h1 iL (.t (.d rfl))
 ·have h1 := ite_f hc1 h
  refine AW.skip ?_
  refine hK2 _ ?_
  refine aS fun K5 hK5 wK5 => (aS fun K6 hK6 wK6 => (aR (sM rfl rfl (sQ rfl (ms_len rfl tg_26.slice iL) (sM rfl rfl (aZ (hK6 _ ?_)))))))
  refine AW.block ?_
  refine jc1k h1 fun o1 hit1 hk1 he1 => ?_
  have J1 : ∀ (u2 : Unit) (i5 : Nat → Nat), o1 = .nrm u2 → K5 ⟨[], [], (i5 0), 26⟩ := by
   intro u2 i5 e
   have h2 := hk1 _ e
   refine hK5 _ ?_
   refine aS fun K7 hK7 wK7 => (aR (sA rfl rfl (aZ (hK7 _ ?_))))
   refine AW.ret ?_
   exact retf1 (P := prog) (fun (r : Bool) => rB (r)) h2 iL (.t (.d rfl))
  refine AW.iter1 (fun (x2 : Int) i3 => ⟨[(0, qa a1), (1, qa b1), (12, rI ((a1.length : Int))), (13, rI (x2))], [], (i3 0), 26⟩) (vec [n0]) hit1 ((by exact Weak.cv ⟨jL, jL, jL, jL, trivial⟩ trivial nL)) ?_
  intro x2 i3 v1 hv1 hx1
  have h3 : ref_SameAttrs_L1 a1 b1 x2 = some v1 := hv1; unfold ref_SameAttrs_L1 at h3
  refine aS fun K8 hK8 wK8 => (aR (sQ rfl (sp_lss rfl iL iL) (aZ (hK8 _ ?_))))
  refine aS fun K9 hK9 wK9 => ?_
  refine aC rfl (fun hc2 => ?_) (fun hc2 => ?_)
  ·have h4 := ite_t hc2 h3
   refine AW.skip ?_
   refine hK9 _ ?_
   refine aS fun K10 hK10 wK10 => (AW.block (aS fun K11 hK11 wK11 => (aR (sM rfl rfl (sA rfl rfl (aZ (hK11 _ ?_)))))))
   refine aS fun K12 hK12 wK12 => ?_
   refine AW.regionQ hmix (by kernel_rfl) ?_
   refine AQ.step rfl rfl rfl (sp_move rfl iL) (AQ.step rfl rfl rfl (sp_move rfl iL) (ob1k h4 fun x4 ex4 h5 => (AQ.step rfl rfl rfl (ms_idx rfl tg_26.slice iL iL (fun _ => rfl) (fun _ => ex4)) (AQ.step rfl rfl rfl (ms_loadA (cs := [.r (.str x4.Name), .r (.str x4.Value)]) rfl ta_67 iL rfl rfl) (AQ.step rfl rfl rfl (sp_move rfl iL) (AQ.step rfl rfl rfl (sp_move rfl iL) (ob1k h5 fun x5 ex5 h6 => (AQ.step rfl rfl rfl (ms_idx rfl tg_26.slice iL iL (fun _ => rfl) (fun _ => ex5)) (AQ.step rfl rfl rfl (ms_loadA (cs := [.r (.str x5.Name), .r (.str x5.Value)]) rfl ta_67 iL rfl rfl) (AQ.step rfl rfl rfl (sp_aggneq rfl te_67 iL iL rfl) ?_))))))))))
   refine AQ.nil ?_
   refine hK12 _ ?_
   refine aC rfl (fun hc3 => ?_) (fun hc3 => ?_)
   ·have h7 := ite_t hc3 h6
    refine aS fun K13 hK13 wK13 => ?_
    refine AW.weak (s' := ⟨[], [], (i3 0), 26⟩) (by exact Weak.cv trivial trivial nL) ?_
    refine aR (sA rfl rfl (aZ (hK13 _ ?_)))
    refine AW.ret ?_
    exact retf1 (P := prog) (fun (r : Bool) => rB (r)) (he1 _ (hx1 _ (Option.some.inj h7).symm)) iL (.t (.d rfl))
   ·have h7 := ite_f hc3 h6
    refine AW.skip ?_
    refine hK10 _ ?_
    refine AW.weak (s' := ⟨[(0, qa a1), (1, qa b1), (12, rI ((a1.length : Int))), (13, rI (x2))], [], (i3 0), 26⟩) (by exact Weak.cv ⟨jL, jL, jL, jL, trivial⟩ trivial nL) ?_
    refine aR (ob1k h7 fun x6 ex6 h8 => (sQ rfl (ms_add rfl iL iL (fun _ => ex6)) (sM rfl rfl ?_)))
    refine AOps.nil ?_
    exact NextQ1.mk h8 (vec [(i3 0)]) ((by exact Weak.cv ⟨jL, jL, jL, jL, trivial⟩ trivial nL))
  ·have h4 := ite_f hc2 h3
   refine AW.exit ?_
   exact wK5 _ _ ((by exact Weak.cv trivial trivial nL)) (J1 _ (vec [(i3 0)]) (hx1 _ (Option.some.inj h4).symm))
theorem w_ref_SameElem {a1 : GElem} {b1 : GElem} {r : Bool} (h : ref_SameElem a1 b1 = some r) : ARO prog 139 [.agg [rI (a1.Char), rI (a1.Ref), qa a1.Attrs], .agg [rI (b1.Char), rI (b1.Ref), qa b1.Attrs]] (rB (r)) := by
 unfold ref_SameElem at h
 refine ARO.mkF func139 rfl rfl ntmps139 rfl (Nat.le_of_ble_eq_true rfl) fun n0 => ?_
 refine aS fun K1 hK1 wK1 => (aR (AOps.step rfl rfl rfl (ms_box (cs := [rI (a1.Char), rI (a1.Ref), qa a1.Attrs]) 2 rfl iL rfl rfl) (AOps.step rfl rfl rfl (ms_box (cs := [rI (b1.Char), rI (b1.Ref), qa b1.Attrs]) 3 rfl iL rfl rfl) (sA rfl rfl (aZ (hK1 _ ?_))))))
 refine aS fun K2 hK2 wK2 => (aR (sQ rfl (fB rfl tf_60_0 iL fR rfl) (sQ rfl (ms_load_box (a := rI (a1.Char)) rfl ts_3 iL rfl rfl) (sQ rfl (fB rfl tf_60_0 iL fR rfl) (sQ rfl (ms_load_box (a := rI (b1.Char)) rfl ts_3 iL rfl rfl) (sQ rfl (sp_eql rfl iL iL) (sM rfl rfl (sV rfl rfl rfl (fB rfl tf_60_1 iL fR rfl) (sV rfl rfl rfl (ms_load_box (a := rI (a1.Ref)) rfl ts_3 (iR rfl) rfl rfl) (sV rfl rfl rfl (fB rfl tf_60_1 iL fR rfl) (sV rfl rfl rfl (ms_load_box (a := rI (b1.Ref)) rfl ts_3 (iR rfl) rfl rfl) (sV rfl rfl rfl (sp_eql rfl (iR rfl) (iR rfl)) (sQ rfl (sp_and rfl iL (iR rfl)) (sM rfl rfl (sV rfl rfl rfl (fB rfl tf_60_2 iL fR rfl) (sV rfl rfl rfl (ms_load_box (a := qa a1.Attrs) rfl ts_26 (iR rfl) rfl rfl) (sV rfl rfl rfl (fB rfl tf_60_2 iL fR rfl) (sV rfl rfl rfl (ms_load_box (a := qa b1.Attrs) rfl ts_26 (iR rfl) rfl rfl) (ob1k h fun r1 er1 h1 => ?_)))))))))))))))))))
 refine AOps.stepW (.one rfl rfl rfl) rfl rfl (sp_call (r := rB (r1)) (caps := []) (bs := [qa a1.Attrs, qa b1.Attrs]) rfl iL rfl ⟨⟨_, (iR rfl), .d rfl⟩, ⟨_, (iR rfl), .d rfl⟩, trivial⟩ (fun hg => w_ref_SameAttrs (gdt er1 hg)) rfl) ?_
 refine sQ rfl (sp_and rfl iL (iR rfl)) (sA rfl rfl (aZ (hK2 _ ?_)))
 refine AW.ret ?_
 exact retf1 (P := prog) (fun (r : Bool) => rB (r)) h1 iL (.t (.d rfl))
theorem w_ref_SameFlow {a1 : List GElem} {b1 : List GElem} {r : Bool} (h : ref_SameFlow a1 b1 = some r) : ARO prog 67 [qd a1, qd b1] (rB (r)) := by
 unfold ref_SameFlow at h
 refine ARO.mkF func67 rfl rfl ntmps67 rfl (Nat.le_of_ble_eq_true rfl) fun n0 => ?_
 refine aS fun K1 hK1 wK1 => (aR (sA rfl rfl (aZ (hK1 _ ?_))))
 refine aS fun K2 hK2 wK2 => (aS fun K3 hK3 wK3 => (aR (sM rfl rfl (sQ rfl (ms_len rfl tg_27.slice iL) (sM rfl rfl (sQ rfl (ms_len rfl tg_27.slice iL) (sQ rfl (sp_neq rfl iL iL) (aZ (hK3 _ ?_)))))))))
 refine aC rfl (fun hc1 => ?_) (fun hc1 => ?_)
 ·have h1 := ite_t hc1 h
  refine aS fun K4 hK4 wK4 => (aR (sA rfl rfl (aZ (hK4 _ ?_))))
  refine AW.ret ?_
  exact retf1 (P := prog) (fun (r : Bool) => rB (r)) h1 iL (.t (.d rfl))
 ·have h1 := ite_f hc1 h
  refine AW.skip ?_
  refine hK2 _ ?_
  refine aS fun K5 hK5 wK5 => (aS fun K6 hK6 wK6 => (aR (sM rfl rfl (sQ rfl (ms_len rfl tg_27.slice iL) (sM rfl rfl (aZ (hK6 _ ?_)))))))
  refine AW.block ?_
  refine jc1k h1 fun o1 hit1 hk1 he1 => ?_
  have J1 : ∀ (u2 : Unit) (i5 : Nat → Nat), o1 = .nrm u2 → K5 ⟨[], [], (i5 0), 27⟩ := by
   intro u2 i5 e
   have h2 := hk1 _ e
   refine hK5 _ ?_
   refine aS fun K7 hK7 wK7 => (aR (sA rfl rfl (aZ (hK7 _ ?_))))
   refine AW.ret ?_
   exact retf1 (P := prog) (fun (r : Bool) => rB (r)) h2 iL (.t (.d rfl))
  refine AW.iter1 (fun (x2 : Int) i3 => ⟨[(0, qd a1), (1, qd b1), (12, rI ((a1.length : Int))), (13, rI (x2))], [], (i3 0), 27⟩) (vec [n0]) hit1 ((by exact Weak.cv ⟨jL, jL, jL, jL, trivial⟩ trivial nL)) ?_
  intro x2 i3 v1 hv1 hx1
  have h3 : ref_SameFlow_L1 a1 b1 x2 = some v1 := hv1; unfold ref_SameFlow_L1 at h3
  refine aS fun K8 hK8 wK8 => (aR (sQ rfl (sp_lss rfl iL iL) (aZ (hK8 _ ?_))))
  refine aS fun K9 hK9 wK9 => ?_
  refine aC rfl (fun hc2 => ?_) (fun hc2 => ?_)
  ·have h4 := ite_t hc2 h3
   refine AW.skip ?_
   refine hK9 _ ?_
   refine aS fun K10 hK10 wK10 => (AW.block (aS fun K11 hK11 wK11 => (aR (sM rfl rfl (sA rfl rfl (aZ (hK11 _ ?_)))))))
   refine aS fun K12 hK12 wK12 => ?_
   refine AW.regionQ hmix (by kernel_rfl) ?_
   refine AQ.step rfl rfl rfl (sp_move rfl iL) (AQ.step rfl rfl rfl (sp_move rfl iL) (ob1k h4 fun x4 ex4 h5 => (AQ.step rfl rfl rfl (ms_idx rfl tg_27.slice iL iL (fun _ => rfl) (fun _ => ex4)) (AQ.step rfl rfl rfl (ms_loadA (cs := [rI (x4.Char), rI (x4.Ref), qa x4.Attrs]) rfl ta_60 iL rfl rfl) (AQ.step rfl rfl rfl (sp_move rfl iL) (AQ.step rfl rfl rfl (sp_move rfl iL) (ob1k h5 fun x5 ex5 h6 => (AQ.step rfl rfl rfl (ms_idx rfl tg_27.slice iL iL (fun _ => rfl) (fun _ => ex5)) (AQ.step rfl rfl rfl (ms_loadA (cs := [rI (x5.Char), rI (x5.Ref), qa x5.Attrs]) rfl ta_60 iL rfl rfl) (ob1k h6 fun r1 er1 h7 => ?_))))))))))
   refine AQ.stepC rfl rfl rfl (r := rB (r1)) (caps := []) (bs := [.agg [rI (x4.Char), rI (x4.Ref), qa x4.Attrs], .agg [rI (x5.Char), rI (x5.Ref), qa x5.Attrs]]) rfl iL rfl ⟨⟨_, iL, .g (cs := [.int .i64 x4.Char, .int .i64 x4.Ref, .sl (x4.Attrs.map GAttr.row)]) rfl rfl⟩, ⟨_, iL, .g (cs := [.int .i64 x5.Char, .int .i64 x5.Ref, .sl (x5.Attrs.map GAttr.row)]) rfl rfl⟩, trivial⟩ (fun _ => w_ref_SameElem (er1)) rfl ?_
   refine AQ.step rfl rfl rfl (sp_not rfl iL) ?_
   refine AQ.nil ?_
   refine hK12 _ ?_
   refine aC rfl (fun hc3 => ?_) (fun hc3 => ?_)
   ·have h8 := ite_t hc3 h7
    refine aS fun K13 hK13 wK13 => ?_
    refine AW.weak (s' := ⟨[], [], (i3 0), 27⟩) (by exact Weak.cv trivial trivial nL) ?_
    refine aR (sA rfl rfl (aZ (hK13 _ ?_)))
    refine AW.ret ?_
    exact retf1 (P := prog) (fun (r : Bool) => rB (r)) (he1 _ (hx1 _ (Option.some.inj h8).symm)) iL (.t (.d rfl))
   ·have h8 := ite_f hc3 h7
    refine AW.skip ?_
    refine hK10 _ ?_
    refine AW.weak (s' := ⟨[(0, qd a1), (1, qd b1), (12, rI ((a1.length : Int))), (13, rI (x2))], [], (i3 0), 27⟩) (by exact Weak.cv ⟨jL, jL, jL, jL, trivial⟩ trivial nL) ?_
    refine aR (ob1k h8 fun x6 ex6 h9 => (sQ rfl (ms_add rfl iL iL (fun _ => ex6)) (sM rfl rfl ?_)))
    refine AOps.nil ?_
    exact NextQ1.mk h9 (vec [(i3 0)]) ((by exact Weak.cv ⟨jL, jL, jL, jL, trivial⟩ trivial nL))
  ·have h4 := ite_f hc2 h3
   refine AW.exit ?_
   exact wK5 _ _ ((by exact Weak.cv trivial trivial nL)) (J1 _ (vec [(i3 0)]) (hx1 _ (Option.some.inj h4).symm))
theorem w_ref_SameCell {a1 : GCell} {b1 : GCell} {r : Bool} (h : ref_SameCell a1 b1 = some r) : ARO prog 201 [.agg [rI (a1.Row), rI (a1.Col), .r (.str a1.Text), rI (a1.Ref), qa a1.Attrs], .agg [rI (b1.Row), rI (b1.Col), .r (.str b1.Text), rI (b1.Ref), qa b1.Attrs]] (rB (r)) := by
 unfold ref_SameCell at h
 refine ARO.mkF func201 rfl rfl ntmps201 rfl (Nat.le_of_ble_eq_true rfl) fun n0 => ?_
 refine aS fun K1 hK1 wK1 => (aR (AOps.step rfl rfl rfl (ms_box (cs := [rI (a1.Row), rI (a1.Col), .r (.str a1.Text), rI (a1.Ref), qa a1.Attrs]) 2 rfl iL rfl rfl) (AOps.step rfl rfl rfl (ms_box (cs := [rI (b1.Row), rI (b1.Col), .r (.str b1.Text), rI (b1.Ref), qa b1.Attrs]) 3 rfl iL rfl rfl) (sA rfl rfl (aZ (hK1 _ ?_))))))
 refine aS fun K2 hK2 wK2 => (aR (sQ rfl (fB rfl tf_178_0 iL fR rfl) (sQ rfl (ms_load_box (a := rI (a1.Row)) rfl ts_3 iL rfl rfl) (sQ rfl (fB rfl tf_178_0 iL fR rfl) (sQ rfl (ms_load_box (a := rI (b1.Row)) rfl ts_3 iL rfl rfl) (sQ rfl (sp_eql rfl iL iL) (sM rfl rfl (sV rfl rfl rfl (fB rfl tf_178_1 iL fR rfl) (sV rfl rfl rfl (ms_load_box (a := rI (a1.Col)) rfl ts_3 (iR rfl) rfl rfl) (sV rfl rfl rfl (fB rfl tf_178_1 iL fR rfl) (sV rfl rfl rfl (ms_load_box (a := rI (b1.Col)) rfl ts_3 (iR rfl) rfl rfl) (sV rfl rfl rfl (sp_eql rfl (iR rfl) (iR rfl)) (sQ rfl (sp_and rfl iL (iR rfl)) (sM rfl rfl (sV rfl rfl rfl (fB rfl tf_178_2 iL fR rfl) (sV rfl rfl rfl (ms_load_box (a := .r (.str a1.Text)) rfl ts_9 (iR rfl) rfl rfl) (sV rfl rfl rfl (fB rfl tf_178_2 iL fR rfl) (sV rfl rfl rfl (ms_load_box (a := .r (.str b1.Text)) rfl ts_9 (iR rfl) rfl rfl) (sV rfl rfl rfl (sp_seql rfl (iR rfl) (iR rfl)) (sQ rfl (sp_and rfl iL (iR rfl)) (sM rfl rfl (sV rfl rfl rfl (fB rfl tf_178_3 iL fR rfl) (sV rfl rfl rfl (ms_load_box (a := rI (a1.Ref)) rfl ts_3 (iR rfl) rfl rfl) (sV rfl rfl rfl (fB rfl tf_178_3 iL fR rfl) (sV rfl rfl rfl (ms_load_box (a := rI (b1.Ref)) rfl ts_3 (iR rfl) rfl rfl) (sV rfl rfl rfl (sp_eql rfl (iR rfl) (iR rfl)) (sQ rfl (sp_and rfl iL (iR rfl)) (sM rfl rfl (sV rfl rfl rfl (fB rfl tf_178_4 iL fR rfl) ?_)))))))))))))))))))))))))))))
 refine sV rfl rfl rfl (ms_load_box (a := qa a1.Attrs) rfl ts_26 (iR rfl) rfl rfl) (sV rfl rfl rfl (fB rfl tf_178_4 iL fR rfl) (sV rfl rfl rfl (ms_load_box (a := qa b1.Attrs) rfl ts_26 (iR rfl) rfl rfl) (ob1k h fun r1 er1 h1 => ?_)))
 refine AOps.stepW (.one rfl rfl rfl) rfl rfl (sp_call (r := rB (r1)) (caps := []) (bs := [qa a1.Attrs, qa b1.Attrs]) rfl iL rfl ⟨⟨_, (iR rfl), .d rfl⟩, ⟨_, (iR rfl), .d rfl⟩, trivial⟩ (fun hg => w_ref_SameAttrs (gdt er1 hg)) rfl) ?_
 refine sQ rfl (sp_and rfl iL (iR rfl)) (sA rfl rfl (aZ (hK2 _ ?_)))
 refine AW.ret ?_
 exact retf1 (P := prog) (fun (r : Bool) => rB (r)) h1 iL (.t (.d rfl))
theorem w_ref_SameCells {a1 : List GCell} {b1 : List GCell} {r : Bool} (h : ref_SameCells a1 b1 = some r) : ARO prog 152 [qc a1, qc b1] (rB (r)) := by
 unfold ref_SameCells at h
 refine ARO.mkF func152 rfl rfl ntmps152 rfl (Nat.le_of_ble_eq_true rfl) fun n0 => ?_
 refine aS fun K1 hK1 wK1 => (aR (sA rfl rfl (aZ (hK1 _ ?_))))
 refine aS fun K2 hK2 wK2 => (aS fun K3 hK3 wK3 => (aR (sM rfl rfl (sQ rfl (ms_len rfl tg_28.slice iL) (sM rfl rfl (sQ rfl (ms_len rfl tg_28.slice iL) (sQ rfl (sp_neq rfl iL iL) (aZ (hK3 _ ?_)))))))))
 refine aC rfl (fun hc1 => ?_) (fun hc1 => ?_)
 ·have h1 := ite_t hc1 h
  refine aS fun K4 hK4 wK4 => (aR (sA rfl rfl (aZ (hK4 _ ?_))))
  refine AW.ret ?_
  exact retf1 (P := prog) (fun (r : Bool) => rB (r)) h1 iL (.t (.d rfl))
 ·have h1 := ite_f hc1 h
  refine AW.skip ?_
  refine hK2 _ ?_
  refine aS fun K5 hK5 wK5 => (aS fun K6 hK6 wK6 => (aR (sM rfl rfl (sQ rfl (ms_len rfl tg_28.slice iL) (sM rfl rfl (aZ (hK6 _ ?_)))))))
  refine AW.block ?_
  refine jc1k h1 fun o1 hit1 hk1 he1 => ?_
  have J1 : ∀ (u2 : Unit) (i5 : Nat → Nat), o1 = .nrm u2 → K5 ⟨[], [], (i5 0), 27⟩ := by
   intro u2 i5 e
   have h2 := hk1 _ e
   refine hK5 _ ?_
   refine aS fun K7 hK7 wK7 => (aR (sA rfl rfl (aZ (hK7 _ ?_))))
   refine AW.ret ?_
   exact retf1 (P := prog) (fun (r : Bool) => rB (r)) h2 iL (.t (.d rfl))
  refine AW.iter1 (fun (x2 : Int) i3 => ⟨[(0, qc a1), (1, qc b1), (12, rI ((a1.length : Int))), (13, rI (x2))], [], (i3 0), 27⟩) (vec [n0]) hit1 ((by exact Weak.cv ⟨jL, jL, jL, jL, trivial⟩ trivial nL)) ?_
  intro x2 i3 v1 hv1 hx1
  have h3 : ref_SameCells_L1 a1 b1 x2 = some v1 := hv1; unfold ref_SameCells_L1 at h3
  refine aS fun K8 hK8 wK8 => (aR (sQ rfl (sp_lss rfl iL iL) (aZ (hK8 _ ?_))))
  refine aS fun K9 hK9 wK9 => ?_
  refine aC rfl (fun hc2 => ?_) (fun hc2 => ?_)
  ·have h4 := ite_t hc2 h3
   refine AW.skip ?_
   refine hK9 _ ?_
   refine aS fun K10 hK10 wK10 => (AW.block (aS fun K11 hK11 wK11 => (aR (sM rfl rfl (sA rfl rfl (aZ (hK11 _ ?_)))))))
   refine aS fun K12 hK12 wK12 => ?_
   refine AW.regionQ hmix (by kernel_rfl) ?_
   refine AQ.step rfl rfl rfl (sp_move rfl iL) (AQ.step rfl rfl rfl (sp_move rfl iL) (ob1k h4 fun x4 ex4 h5 => (AQ.step rfl rfl rfl (ms_idx rfl tg_28.slice iL iL (fun _ => rfl) (fun _ => ex4)) (AQ.step rfl rfl rfl (ms_loadA (cs := [rI (x4.Row), rI (x4.Col), .r (.str x4.Text), rI (x4.Ref), qa x4.Attrs]) rfl ta_178 iL rfl rfl) (AQ.step rfl rfl rfl (sp_move rfl iL) (AQ.step rfl rfl rfl (sp_move rfl iL) (ob1k h5 fun x5 ex5 h6 => (AQ.step rfl rfl rfl (ms_idx rfl tg_28.slice iL iL (fun _ => rfl) (fun _ => ex5)) (AQ.step rfl rfl rfl (ms_loadA (cs := [rI (x5.Row), rI (x5.Col), .r (.str x5.Text), rI (x5.Ref), qa x5.Attrs]) rfl ta_178 iL rfl rfl) (ob1k h6 fun r1 er1 h7 => ?_))))))))))
   refine AQ.stepC rfl rfl rfl (r := rB (r1)) (caps := []) (bs := [.agg [rI (x4.Row), rI (x4.Col), .r (.str x4.Text), rI (x4.Ref), qa x4.Attrs], .agg [rI (x5.Row), rI (x5.Col), .r (.str x5.Text), rI (x5.Ref), qa x5.Attrs]]) rfl iL rfl ⟨⟨_, iL, .g (cs := [.int .i64 x4.Row, .int .i64 x4.Col, .str x4.Text, .int .i64 x4.Ref, .sl (x4.Attrs.map GAttr.row)]) rfl rfl⟩, ⟨_, iL, .g (cs := [.int .i64 x5.Row, .int .i64 x5.Col, .str x5.Text, .int .i64 x5.Ref, .sl (x5.Attrs.map GAttr.row)]) rfl rfl⟩, trivial⟩ (fun _ => w_ref_SameCell (er1)) rfl ?_
   refine AQ.step rfl rfl rfl (sp_not rfl iL) ?_
   refine AQ.nil ?_
   refine hK12 _ ?_
   refine aC rfl (fun hc3 => ?_) (fun hc3 => ?_)
   ·have h8 := ite_t hc3 h7
    refine aS fun K13 hK13 wK13 => ?_
    refine AW.weak (s' := ⟨[], [], (i3 0), 27⟩) (by exact Weak.cv trivial trivial nL) ?_
    refine aR (sA rfl rfl (aZ (hK13 _ ?_)))
    refine AW.ret ?_
    exact retf1 (P := prog) (fun (r : Bool) => rB (r)) (he1 _ (hx1 _ (Option.some.inj h8).symm)) iL (.t (.d rfl))
   ·have h8 := ite_f hc3 h7
    refine AW.skip ?_
    refine hK10 _ ?_
    refine AW.weak (s' := ⟨[(0, qc a1), (1, qc b1), (12, rI ((a1.length : Int))), (13, rI (x2))], [], (i3 0), 27⟩) (by exact Weak.cv ⟨jL, jL, jL, jL, trivial⟩ trivial nL) ?_
    refine aR (ob1k h8 fun x6 ex6 h9 => (sQ rfl (ms_add rfl iL iL (fun _ => ex6)) (sM rfl rfl ?_)))
    refine AOps.nil ?_
    exact NextQ1.mk h9 (vec [(i3 0)]) ((by exact Weak.cv ⟨jL, jL, jL, jL, trivial⟩ trivial nL))
  ·have h4 := ite_f hc2 h3
   refine AW.exit ?_
   exact wK5 _ _ ((by exact Weak.cv trivial trivial nL)) (J1 _ (vec [(i3 0)]) (hx1 _ (Option.some.inj h4).symm))
theorem w_ref_SameRects {a1 : List GRect} {b1 : List GRect} {r : Bool} (h : ref_SameRects a1 b1 = some r) : ARO prog 153 [qb a1, qb b1] (rB (r)) := by
 unfold ref_SameRects at h
 refine ARO.mkF func153 rfl rfl ntmps153 rfl (Nat.le_of_ble_eq_true rfl) fun n0 => ?_
 refine aS fun K1 hK1 wK1 => (aR (sA rfl rfl (aZ (hK1 _ ?_))))
 refine aS fun K2 hK2 wK2 => (aS fun K3 hK3 wK3 => (aR (sM rfl rfl (sQ rfl (ms_len rfl tg_29.slice iL) (sM rfl rfl (sQ rfl (ms_len rfl tg_29.slice iL) (sQ rfl (sp_neq rfl iL iL) (aZ (hK3 _ ?_)))))))))
 refine aC rfl (fun hc1 => ?_) (fun hc1 => ?_)
 ·have h1 := ite_t hc1 h
  refine aS fun K4 hK4 wK4 => (aR (sA rfl rfl (aZ (hK4 _ ?_))))
  refine AW.ret ?_
  exact retf1 (P := prog) (fun (r : Bool) => rB (r)) h1 iL (.t (.d rfl))
 ·have h1 := ite_f hc1 h
  refine AW.skip ?_
  refine hK2 _ ?_
  refine aS fun K5 hK5 wK5 => (aS fun K6 hK6 wK6 => (aR (sM rfl rfl (sQ rfl (ms_len rfl tg_29.slice iL) (sM rfl rfl (aZ (hK6 _ ?_)))))))
  refine AW.block ?_
  refine jc1k h1 fun o1 hit1 hk1 he1 => ?_
  have J1 : ∀ (u2 : Unit) (i5 : Nat → Nat), o1 = .nrm u2 → K5 ⟨[], [], (i5 0), 26⟩ := by
   intro u2 i5 e
   have h2 := hk1 _ e
   refine hK5 _ ?_
   refine aS fun K7 hK7 wK7 => (aR (sA rfl rfl (aZ (hK7 _ ?_))))
   refine AW.ret ?_
   exact retf1 (P := prog) (fun (r : Bool) => rB (r)) h2 iL (.t (.d rfl))
  refine AW.iter1 (fun (x2 : Int) i3 => ⟨[(0, qb a1), (1, qb b1), (12, rI ((a1.length : Int))), (13, rI (x2))], [], (i3 0), 26⟩) (vec [n0]) hit1 ((by exact Weak.cv ⟨jL, jL, jL, jL, trivial⟩ trivial nL)) ?_
  intro x2 i3 v1 hv1 hx1
  have h3 : ref_SameRects_L1 a1 b1 x2 = some v1 := hv1; unfold ref_SameRects_L1 at h3
  refine aS fun K8 hK8 wK8 => (aR (sQ rfl (sp_lss rfl iL iL) (aZ (hK8 _ ?_))))
  refine aS fun K9 hK9 wK9 => ?_
  refine aC rfl (fun hc2 => ?_) (fun hc2 => ?_)
  ·have h4 := ite_t hc2 h3
   refine AW.skip ?_
   refine hK9 _ ?_
   refine aS fun K10 hK10 wK10 => (AW.block (aS fun K11 hK11 wK11 => (aR (sM rfl rfl (sA rfl rfl (aZ (hK11 _ ?_)))))))
   refine aS fun K12 hK12 wK12 => ?_
   refine AW.regionQ hmix (by kernel_rfl) ?_
   refine AQ.step rfl rfl rfl (sp_move rfl iL) (AQ.step rfl rfl rfl (sp_move rfl iL) (ob1k h4 fun x4 ex4 h5 => (AQ.step rfl rfl rfl (ms_idx rfl tg_29.slice iL iL (fun _ => rfl) (fun _ => ex4)) (AQ.step rfl rfl rfl (ms_loadA (cs := [rI (x4.Row), rI (x4.Col), rI (x4.H), rI (x4.W)]) rfl ta_138 iL rfl rfl) (AQ.step rfl rfl rfl (sp_move rfl iL) (AQ.step rfl rfl rfl (sp_move rfl iL) (ob1k h5 fun x5 ex5 h6 => (AQ.step rfl rfl rfl (ms_idx rfl tg_29.slice iL iL (fun _ => rfl) (fun _ => ex5)) (AQ.step rfl rfl rfl (ms_loadA (cs := [rI (x5.Row), rI (x5.Col), rI (x5.H), rI (x5.W)]) rfl ta_138 iL rfl rfl) (AQ.step rfl rfl rfl (sp_aggneq rfl te_138 iL iL rfl) ?_))))))))))
   refine AQ.nil ?_
   refine hK12 _ ?_
   refine aC rfl (fun hc3 => ?_) (fun hc3 => ?_)
   ·have h7 := ite_t hc3 h6
    refine aS fun K13 hK13 wK13 => ?_
    refine AW.weak (s' := ⟨[], [], (i3 0), 26⟩) (by exact Weak.cv trivial trivial nL) ?_
    refine aR (sA rfl rfl (aZ (hK13 _ ?_)))
    refine AW.ret ?_
    exact retf1 (P := prog) (fun (r : Bool) => rB (r)) (he1 _ (hx1 _ (Option.some.inj h7).symm)) iL (.t (.d rfl))
   ·have h7 := ite_f hc3 h6
    refine AW.skip ?_
    refine hK10 _ ?_
    refine AW.weak (s' := ⟨[(0, qb a1), (1, qb b1), (12, rI ((a1.length : Int))), (13, rI (x2))], [], (i3 0), 26⟩) (by exact Weak.cv ⟨jL, jL, jL, jL, trivial⟩ trivial nL) ?_
    refine aR (ob1k h7 fun x6 ex6 h8 => (sQ rfl (ms_add rfl iL iL (fun _ => ex6)) (sM rfl rfl ?_)))
    refine AOps.nil ?_
    exact NextQ1.mk h8 (vec [(i3 0)]) ((by exact Weak.cv ⟨jL, jL, jL, jL, trivial⟩ trivial nL))
  ·have h4 := ite_f hc2 h3
   refine AW.exit ?_
   exact wK5 _ _ ((by exact Weak.cv trivial trivial nL)) (J1 _ (vec [(i3 0)]) (hx1 _ (Option.some.inj h4).symm))
theorem w_ref_SameGrid {a1 : GGrid} {b1 : GGrid} {r : Bool} (h : ref_SameGrid a1 b1 = some r) : ARO prog 86 [.agg [rI (a1.Rows), rI (a1.Cols), qc a1.Cells, qb a1.Merges], .agg [rI (b1.Rows), rI (b1.Cols), qc b1.Cells, qb b1.Merges]] (rB (r)) := by
 unfold ref_SameGrid at h
 refine ARO.mkF func86 rfl rfl ntmps86 rfl (Nat.le_of_ble_eq_true rfl) fun n0 => ?_
 refine aS fun K1 hK1 wK1 => (aR (AOps.step rfl rfl rfl (ms_box (cs := [rI (a1.Rows), rI (a1.Cols), qc a1.Cells, qb a1.Merges]) 2 rfl iL rfl rfl) (AOps.step rfl rfl rfl (ms_box (cs := [rI (b1.Rows), rI (b1.Cols), qc b1.Cells, qb b1.Merges]) 3 rfl iL rfl rfl) (sA rfl rfl (aZ (hK1 _ ?_))))))
 refine aS fun K2 hK2 wK2 => (aR (sQ rfl (fB rfl tf_31_0 iL fR rfl) (sQ rfl (ms_load_box (a := rI (a1.Rows)) rfl ts_3 iL rfl rfl) (sQ rfl (fB rfl tf_31_0 iL fR rfl) (sQ rfl (ms_load_box (a := rI (b1.Rows)) rfl ts_3 iL rfl rfl) (sQ rfl (sp_eql rfl iL iL) (sM rfl rfl (sV rfl rfl rfl (fB rfl tf_31_1 iL fR rfl) (sV rfl rfl rfl (ms_load_box (a := rI (a1.Cols)) rfl ts_3 (iR rfl) rfl rfl) (sV rfl rfl rfl (fB rfl tf_31_1 iL fR rfl) (sV rfl rfl rfl (ms_load_box (a := rI (b1.Cols)) rfl ts_3 (iR rfl) rfl rfl) (sV rfl rfl rfl (sp_eql rfl (iR rfl) (iR rfl)) (sQ rfl (sp_and rfl iL (iR rfl)) (sM rfl rfl (sV rfl rfl rfl (fB rfl tf_31_2 iL fR rfl) (sV rfl rfl rfl (ms_load_box (a := qc a1.Cells) rfl ts_28 (iR rfl) rfl rfl) (sV rfl rfl rfl (fB rfl tf_31_2 iL fR rfl) (sV rfl rfl rfl (ms_load_box (a := qc b1.Cells) rfl ts_28 (iR rfl) rfl rfl) (ob1k h fun r1 er1 h1 => ?_)))))))))))))))))))
 refine AOps.stepW (.one rfl rfl rfl) rfl rfl (sp_call (r := rB (r1)) (caps := []) (bs := [qc a1.Cells, qc b1.Cells]) rfl iL rfl ⟨⟨_, (iR rfl), .d rfl⟩, ⟨_, (iR rfl), .d rfl⟩, trivial⟩ (fun hg => w_ref_SameCells (gdt er1 hg)) rfl) ?_
 refine sQ rfl (sp_and rfl iL (iR rfl)) (sM rfl rfl (sV rfl rfl rfl (fB rfl tf_31_3 iL fR rfl) (sV rfl rfl rfl (ms_load_box (a := qb a1.Merges) rfl ts_29 (iR rfl) rfl rfl) (sV rfl rfl rfl (fB rfl tf_31_3 iL fR rfl) (sV rfl rfl rfl (ms_load_box (a := qb b1.Merges) rfl ts_29 (iR rfl) rfl rfl) (ob1k h1 fun r2 er2 h2 => ?_))))))
 refine AOps.stepW (.one rfl rfl rfl) rfl rfl (sp_call (r := rB (r2)) (caps := []) (bs := [qb a1.Merges, qb b1.Merges]) rfl iL rfl ⟨⟨_, (iR rfl), .d rfl⟩, ⟨_, (iR rfl), .d rfl⟩, trivial⟩ (fun hg => w_ref_SameRects (gdt er2 hg)) rfl) ?_
 refine sQ rfl (sp_and rfl iL (iR rfl)) (sA rfl rfl (aZ (hK2 _ ?_)))
 refine AW.ret ?_
 exact retf1 (P := prog) (fun (r : Bool) => rB (r)) h2 iL (.t (.d rfl))
theorem w_ref_SameOps {a1 : List GDrawOp} {b1 : List GDrawOp} {r : Bool} (h : ref_SameOps a1 b1 = some r) : ARO prog 87 [qe a1, qe b1] (rB (r)) := by
 unfold ref_SameOps at h
 refine ARO.mkF func87 rfl rfl ntmps87 rfl (Nat.le_of_ble_eq_true rfl) fun n0 => ?_
 refine aS fun K1 hK1 wK1 => (aR (sA rfl rfl (aZ (hK1 _ ?_))))
 refine aS fun K2 hK2 wK2 => (aS fun K3 hK3 wK3 => (aR (sM rfl rfl (sQ rfl (ms_len rfl tg_32.slice iL) (sM rfl rfl (sQ rfl (ms_len rfl tg_32.slice iL) (sQ rfl (sp_neq rfl iL iL) (aZ (hK3 _ ?_)))))))))
 refine aC rfl (fun hc1 => ?_) (fun hc1 => ?_)
 ·have h1 := ite_t hc1 h
  refine aS fun K4 hK4 wK4 => (aR (sA rfl rfl (aZ (hK4 _ ?_))))
  refine AW.ret ?_
  exact retf1 (P := prog) (fun (r : Bool) => rB (r)) h1 iL (.t (.d rfl))
 ·have h1 := ite_f hc1 h
  refine AW.skip ?_
  refine hK2 _ ?_
  refine aS fun K5 hK5 wK5 => (aS fun K6 hK6 wK6 => (aR (sM rfl rfl (sQ rfl (ms_len rfl tg_32.slice iL) (sM rfl rfl (aZ (hK6 _ ?_)))))))
  refine AW.block ?_
  refine jc1k h1 fun o1 hit1 hk1 he1 => ?_
  have J1 : ∀ (u2 : Unit) (i5 : Nat → Nat), o1 = .nrm u2 → K5 ⟨[], [], (i5 0), 26⟩ := by
   intro u2 i5 e
   have h2 := hk1 _ e
   refine hK5 _ ?_
   refine aS fun K7 hK7 wK7 => (aR (sA rfl rfl (aZ (hK7 _ ?_))))
   refine AW.ret ?_
   exact retf1 (P := prog) (fun (r : Bool) => rB (r)) h2 iL (.t (.d rfl))
  refine AW.iter1 (fun (x2 : Int) i3 => ⟨[(0, qe a1), (1, qe b1), (12, rI ((a1.length : Int))), (13, rI (x2))], [], (i3 0), 26⟩) (vec [n0]) hit1 ((by exact Weak.cv ⟨jL, jL, jL, jL, trivial⟩ trivial nL)) ?_
  intro x2 i3 v1 hv1 hx1
  have h3 : ref_SameOps_L1 a1 b1 x2 = some v1 := hv1; unfold ref_SameOps_L1 at h3
  refine aS fun K8 hK8 wK8 => (aR (sQ rfl (sp_lss rfl iL iL) (aZ (hK8 _ ?_))))
  refine aS fun K9 hK9 wK9 => ?_
  refine aC rfl (fun hc2 => ?_) (fun hc2 => ?_)
  ·have h4 := ite_t hc2 h3
   refine AW.skip ?_
   refine hK9 _ ?_
   refine aS fun K10 hK10 wK10 => (AW.block (aS fun K11 hK11 wK11 => (aR (sM rfl rfl (sA rfl rfl (aZ (hK11 _ ?_)))))))
   refine aS fun K12 hK12 wK12 => ?_
   refine AW.regionQ hmix (by kernel_rfl) ?_
   refine AQ.step rfl rfl rfl (sp_move rfl iL) (AQ.step rfl rfl rfl (sp_move rfl iL) (ob1k h4 fun x4 ex4 h5 => (AQ.step rfl rfl rfl (ms_idx rfl tg_32.slice iL iL (fun _ => rfl) (fun _ => ex4)) (AQ.step rfl rfl rfl (ms_loadA (cs := [rI (x4.Clock), rI (x4.Site), rI (x4.Kind), rI (x4.Item), rI (x4.Parent), .r (.str x4.Place), .r (.str x4.Name), .r (.str x4.Value)]) rfl ta_140 iL rfl rfl) (AQ.step rfl rfl rfl (sp_move rfl iL) (AQ.step rfl rfl rfl (sp_move rfl iL) (ob1k h5 fun x5 ex5 h6 => (AQ.step rfl rfl rfl (ms_idx rfl tg_32.slice iL iL (fun _ => rfl) (fun _ => ex5)) (AQ.step rfl rfl rfl (ms_loadA (cs := [rI (x5.Clock), rI (x5.Site), rI (x5.Kind), rI (x5.Item), rI (x5.Parent), .r (.str x5.Place), .r (.str x5.Name), .r (.str x5.Value)]) rfl ta_140 iL rfl rfl) (AQ.step rfl rfl rfl (sp_aggneq rfl te_140 iL iL rfl) ?_))))))))))
   refine AQ.nil ?_
   refine hK12 _ ?_
   refine aC rfl (fun hc3 => ?_) (fun hc3 => ?_)
   ·have h7 := ite_t hc3 h6
    refine aS fun K13 hK13 wK13 => ?_
    refine AW.weak (s' := ⟨[], [], (i3 0), 26⟩) (by exact Weak.cv trivial trivial nL) ?_
    refine aR (sA rfl rfl (aZ (hK13 _ ?_)))
    refine AW.ret ?_
    exact retf1 (P := prog) (fun (r : Bool) => rB (r)) (he1 _ (hx1 _ (Option.some.inj h7).symm)) iL (.t (.d rfl))
   ·have h7 := ite_f hc3 h6
    refine AW.skip ?_
    refine hK10 _ ?_
    refine AW.weak (s' := ⟨[(0, qe a1), (1, qe b1), (12, rI ((a1.length : Int))), (13, rI (x2))], [], (i3 0), 26⟩) (by exact Weak.cv ⟨jL, jL, jL, jL, trivial⟩ trivial nL) ?_
    refine aR (ob1k h7 fun x6 ex6 h8 => (sQ rfl (ms_add rfl iL iL (fun _ => ex6)) (sM rfl rfl ?_)))
    refine AOps.nil ?_
    exact NextQ1.mk h8 (vec [(i3 0)]) ((by exact Weak.cv ⟨jL, jL, jL, jL, trivial⟩ trivial nL))
  ·have h4 := ite_f hc2 h3
   refine AW.exit ?_
   exact wK5 _ _ ((by exact Weak.cv trivial trivial nL)) (J1 _ (vec [(i3 0)]) (hx1 _ (Option.some.inj h4).symm))
theorem w_ref_SameNode {a1 : GNode} {b1 : GNode} {r : Bool} (h : ref_SameNode a1 b1 = some r) : ARO prog 38 [.agg [rI (a1.ID), rI (a1.Kind), qa a1.Attrs, qd a1.Flow, rI (a1.Grid.Rows), rI (a1.Grid.Cols), qc a1.Grid.Cells, qb a1.Grid.Merges, qe a1.Draw], .agg [rI (b1.ID), rI (b1.Kind), qa b1.Attrs, qd b1.Flow, rI (b1.Grid.Rows), rI (b1.Grid.Cols), qc b1.Grid.Cells, qb b1.Grid.Merges, qe b1.Draw]] (rB (r)) := by
 unfold ref_SameNode at h
 refine ARO.mkF func38 rfl rfl ntmps38 rfl (Nat.le_of_ble_eq_true rfl) fun n0 => ?_
 refine aS fun K1 hK1 wK1 => (aR (AOps.step rfl rfl rfl (ms_box (cs := [rI (a1.ID), rI (a1.Kind), qa a1.Attrs, qd a1.Flow, rI (a1.Grid.Rows), rI (a1.Grid.Cols), qc a1.Grid.Cells, qb a1.Grid.Merges, qe a1.Draw]) 2 rfl iL rfl rfl) (AOps.step rfl rfl rfl (ms_box (cs := [rI (b1.ID), rI (b1.Kind), qa b1.Attrs, qd b1.Flow, rI (b1.Grid.Rows), rI (b1.Grid.Cols), qc b1.Grid.Cells, qb b1.Grid.Merges, qe b1.Draw]) 3 rfl iL rfl rfl) (sA rfl rfl (aZ (hK1 _ ?_))))))
 refine aS fun K2 hK2 wK2 => (aR (sQ rfl (fB rfl tf_34_0 iL fR rfl) (sQ rfl (ms_load_box (a := rI (a1.ID)) rfl ts_3 iL rfl rfl) (sQ rfl (fB rfl tf_34_0 iL fR rfl) (sQ rfl (ms_load_box (a := rI (b1.ID)) rfl ts_3 iL rfl rfl) (sQ rfl (sp_eql rfl iL iL) (sM rfl rfl (sV rfl rfl rfl (fB rfl tf_34_1 iL fR rfl) (sV rfl rfl rfl (ms_load_box (a := rI (a1.Kind)) rfl ts_3 (iR rfl) rfl rfl) (sV rfl rfl rfl (fB rfl tf_34_1 iL fR rfl) (sV rfl rfl rfl (ms_load_box (a := rI (b1.Kind)) rfl ts_3 (iR rfl) rfl rfl) (sV rfl rfl rfl (sp_eql rfl (iR rfl) (iR rfl)) (sQ rfl (sp_and rfl iL (iR rfl)) (sM rfl rfl (sV rfl rfl rfl (fB rfl tf_34_2 iL fR rfl) (sV rfl rfl rfl (ms_load_box (a := qa a1.Attrs) rfl ts_26 (iR rfl) rfl rfl) (sV rfl rfl rfl (fB rfl tf_34_2 iL fR rfl) (sV rfl rfl rfl (ms_load_box (a := qa b1.Attrs) rfl ts_26 (iR rfl) rfl rfl) (ob1k h fun r1 er1 h1 => ?_)))))))))))))))))))
 refine AOps.stepW (.one rfl rfl rfl) rfl rfl (sp_call (r := rB (r1)) (caps := []) (bs := [qa a1.Attrs, qa b1.Attrs]) rfl iL rfl ⟨⟨_, (iR rfl), .d rfl⟩, ⟨_, (iR rfl), .d rfl⟩, trivial⟩ (fun hg => w_ref_SameAttrs (gdt er1 hg)) rfl) ?_
 refine sQ rfl (sp_and rfl iL (iR rfl)) (sM rfl rfl (sV rfl rfl rfl (fB rfl tf_34_3 iL fR rfl) (sV rfl rfl rfl (ms_load_box (a := qd a1.Flow) rfl ts_27 (iR rfl) rfl rfl) (sV rfl rfl rfl (fB rfl tf_34_3 iL fR rfl) (sV rfl rfl rfl (ms_load_box (a := qd b1.Flow) rfl ts_27 (iR rfl) rfl rfl) (ob1k h1 fun r2 er2 h2 => ?_))))))
 refine AOps.stepW (.one rfl rfl rfl) rfl rfl (sp_call (r := rB (r2)) (caps := []) (bs := [qd a1.Flow, qd b1.Flow]) rfl iL rfl ⟨⟨_, (iR rfl), .d rfl⟩, ⟨_, (iR rfl), .d rfl⟩, trivial⟩ (fun hg => w_ref_SameFlow (gdt er2 hg)) rfl) ?_
 refine sQ rfl (sp_and rfl iL (iR rfl)) (sM rfl rfl (sV rfl rfl rfl (fB rfl tf_34_4 iL fR rfl) (sV rfl rfl rfl (ms_loadA_box_at (ds := [rI (a1.Grid.Rows), rI (a1.Grid.Cols), qc a1.Grid.Cells, qb a1.Grid.Merges]) rfl ta_31 (iR rfl) rfl rfl rfl) (sV rfl rfl rfl (fB rfl tf_34_4 iL fR rfl) (sV rfl rfl rfl (ms_loadA_box_at (ds := [rI (b1.Grid.Rows), rI (b1.Grid.Cols), qc b1.Grid.Cells, qb b1.Grid.Merges]) rfl ta_31 (iR rfl) rfl rfl rfl) (ob1k h2 fun r3 er3 h3 => ?_))))))
 refine AOps.stepW (.one rfl rfl rfl) rfl rfl (sp_call (r := rB (r3)) (caps := []) (bs := [.agg [rI (a1.Grid.Rows), rI (a1.Grid.Cols), qc a1.Grid.Cells, qb a1.Grid.Merges], .agg [rI (b1.Grid.Rows), rI (b1.Grid.Cols), qc b1.Grid.Cells, qb b1.Grid.Merges]]) rfl iL rfl ⟨⟨_, (iR rfl), .g (cs := [.int .i64 a1.Grid.Rows, .int .i64 a1.Grid.Cols, .sl (a1.Grid.Cells.map GCell.row), .sl (a1.Grid.Merges.map GRect.row)]) rfl rfl⟩, ⟨_, (iR rfl), .g (cs := [.int .i64 b1.Grid.Rows, .int .i64 b1.Grid.Cols, .sl (b1.Grid.Cells.map GCell.row), .sl (b1.Grid.Merges.map GRect.row)]) rfl rfl⟩, trivial⟩ (fun hg => w_ref_SameGrid (gdt er3 hg)) rfl) ?_
 refine sQ rfl (sp_and rfl iL (iR rfl)) (sM rfl rfl (sV rfl rfl rfl (fB rfl tf_34_5 iL fR rfl) (sV rfl rfl rfl (ms_load_box (a := qe a1.Draw) rfl ts_32 (iR rfl) rfl rfl) (sV rfl rfl rfl (fB rfl tf_34_5 iL fR rfl) (sV rfl rfl rfl (ms_load_box (a := qe b1.Draw) rfl ts_32 (iR rfl) rfl rfl) (ob1k h3 fun r4 er4 h4 => ?_))))))
 refine AOps.stepW (.one rfl rfl rfl) rfl rfl (sp_call (r := rB (r4)) (caps := []) (bs := [qe a1.Draw, qe b1.Draw]) rfl iL rfl ⟨⟨_, (iR rfl), .d rfl⟩, ⟨_, (iR rfl), .d rfl⟩, trivial⟩ (fun hg => w_ref_SameOps (gdt er4 hg)) rfl) ?_
 refine sQ rfl (sp_and rfl iL (iR rfl)) (sA rfl rfl (aZ (hK2 _ ?_)))
 refine AW.ret ?_
 exact retf1 (P := prog) (fun (r : Bool) => rB (r)) h4 iL (.t (.d rfl))
theorem w_ref_SameDoc {a1 : GDoc} {b1 : GDoc} {r : Bool} (h : ref_SameDoc a1 b1 = some r) : ARO prog 85 [.agg [qg a1.Nodes], .agg [qg b1.Nodes]] (rB (r)) := by
 unfold ref_SameDoc at h
 refine ARO.mkF func85 rfl rfl ntmps85 rfl (Nat.le_of_ble_eq_true rfl) fun n0 => ?_
 refine aS fun K1 hK1 wK1 => (aR (AOps.step rfl rfl rfl (ms_box (cs := [qg a1.Nodes]) 2 rfl iL rfl rfl) (AOps.step rfl rfl rfl (ms_box (cs := [qg b1.Nodes]) 3 rfl iL rfl rfl) (sA rfl rfl (aZ (hK1 _ ?_))))))
 refine aS fun K2 hK2 wK2 => (aS fun K3 hK3 wK3 => (aR (sQ rfl (fB rfl tf_45_0 iL fR rfl) (sQ rfl (ms_load_box (a := qg a1.Nodes) rfl ts_43 iL rfl rfl) (sQ rfl (ms_len rfl tg_43.slice iL) (sQ rfl (fB rfl tf_45_0 iL fR rfl) (sQ rfl (ms_load_box (a := qg b1.Nodes) rfl ts_43 iL rfl rfl) (sQ rfl (ms_len rfl tg_43.slice iL) (sQ rfl (sp_neq rfl iL iL) (aZ (hK3 _ ?_)))))))))))
 refine aC rfl (fun hc1 => ?_) (fun hc1 => ?_)
 ·have h1 := ite_t hc1 h
  refine aS fun K4 hK4 wK4 => ?_
  refine AW.weak (s' := ⟨[], [], (n0 + 2), 32⟩) (by exact Weak.cv trivial trivial nL) ?_
  refine aR (sA rfl rfl (aZ (hK4 _ ?_)))
  refine AW.ret ?_
  exact retf1 (P := prog) (fun (r : Bool) => rB (r)) h1 iL (.t (.d rfl))
 ·have h1 := ite_f hc1 h
  refine AW.skip ?_
  refine hK2 _ ?_
  refine aS fun K5 hK5 wK5 => (aS fun K6 hK6 wK6 => ?_)
  refine AW.weak (s' := ⟨[(2, .ptr 2 n0 0 0), (3, .ptr 3 (n0 + 1) 0 0)], [(2, some (.box n0 45 [qg a1.Nodes])), (3, some (.box (n0 + 1) 45 [qg b1.Nodes]))], (n0 + 2), 32⟩) (by exact Weak.cv ⟨jL, jL, trivial⟩ ⟨.inl rfl, .inl rfl, trivial⟩ nL) ?_
  refine aR (sQ rfl (fB rfl tf_45_0 iL fR rfl) (sQ rfl (ms_load_box (a := qg a1.Nodes) rfl ts_43 iL rfl rfl) (sQ rfl (ms_len rfl tg_43.slice iL) (sM rfl rfl (aZ (hK6 _ ?_))))))
  refine AW.block ?_
  refine jc1k h1 fun o1 hit1 hk1 he1 => ?_
  have J1 : ∀ (u2 : Unit) (i5 : Nat → Nat), o1 = .nrm u2 → K5 ⟨[], [], (i5 0), 32⟩ := by
   intro u2 i5 e
   have h2 := hk1 _ e
   refine hK5 _ ?_
   refine aS fun K7 hK7 wK7 => (aR (sA rfl rfl (aZ (hK7 _ ?_))))
   refine AW.ret ?_
   exact retf1 (P := prog) (fun (r : Bool) => rB (r)) h2 iL (.t (.d rfl))
  refine AW.iter1 (fun (x2 : Int) i3 => ⟨[(2, .ptr 2 n0 0 0), (3, .ptr 3 (n0 + 1) 0 0), (15, rI ((a1.Nodes.length : Int))), (16, rI (x2))], [(2, some (.box n0 45 [qg a1.Nodes])), (3, some (.box (n0 + 1) 45 [qg b1.Nodes]))], (i3 0), 32⟩) (vec [(n0 + 2)]) hit1 ((by exact Weak.cv ⟨jL, jL, jL, jL, trivial⟩ ⟨.inl rfl, .inl rfl, trivial⟩ nL)) ?_
  intro x2 i3 v1 hv1 hx1
  have h3 : ref_SameDoc_L1 a1 b1 x2 = some v1 := hv1; unfold ref_SameDoc_L1 at h3
  refine aS fun K8 hK8 wK8 => (aR (sQ rfl (sp_lss rfl iL iL) (aZ (hK8 _ ?_))))
  refine aS fun K9 hK9 wK9 => ?_
  refine aC rfl (fun hc2 => ?_) (fun hc2 => ?_)
  ·have h4 := ite_t hc2 h3
   refine AW.skip ?_
   refine hK9 _ ?_
   refine aS fun K10 hK10 wK10 => (AW.block (aS fun K11 hK11 wK11 => (aR (sM rfl rfl (sA rfl rfl (aZ (hK11 _ ?_)))))))
   refine aS fun K12 hK12 wK12 => ?_
   refine AW.regionQ hmix (by kernel_rfl) ?_
   refine AQ.step rfl rfl rfl (fB rfl tf_45_0 iL fR rfl) (AQ.step rfl rfl rfl (ms_load_box (a := qg a1.Nodes) rfl ts_43 iL rfl rfl) (AQ.step rfl rfl rfl (sp_move rfl iL) (ob1k h4 fun x4 ex4 h5 => (AQ.step rfl rfl rfl (ms_idx rfl tg_43.slice iL iL (fun _ => rfl) (fun _ => ex4)) (AQ.step rfl rfl rfl (ms_loadA (cs := [rI (x4.ID), rI (x4.Kind), qa x4.Attrs, qd x4.Flow, rI (x4.Grid.Rows), rI (x4.Grid.Cols), qc x4.Grid.Cells, qb x4.Grid.Merges, qe x4.Draw]) rfl ta_34 iL rfl rfl) (AQ.step rfl rfl rfl (fB rfl tf_45_0 iL fR rfl) (AQ.step rfl rfl rfl (ms_load_box (a := qg b1.Nodes) rfl ts_43 iL rfl rfl) (AQ.step rfl rfl rfl (sp_move rfl iL) (ob1k h5 fun x5 ex5 h6 => (AQ.step rfl rfl rfl (ms_idx rfl tg_43.slice iL iL (fun _ => rfl) (fun _ => ex5)) (AQ.step rfl rfl rfl (ms_loadA (cs := [rI (x5.ID), rI (x5.Kind), qa x5.Attrs, qd x5.Flow, rI (x5.Grid.Rows), rI (x5.Grid.Cols), qc x5.Grid.Cells, qb x5.Grid.Merges, qe x5.Draw]) rfl ta_34 iL rfl rfl) (ob1k h6 fun r1 er1 h7 => ?_))))))))))))
   refine AQ.stepC rfl rfl rfl (r := rB (r1)) (caps := []) (bs := [.agg [rI (x4.ID), rI (x4.Kind), qa x4.Attrs, qd x4.Flow, rI (x4.Grid.Rows), rI (x4.Grid.Cols), qc x4.Grid.Cells, qb x4.Grid.Merges, qe x4.Draw], .agg [rI (x5.ID), rI (x5.Kind), qa x5.Attrs, qd x5.Flow, rI (x5.Grid.Rows), rI (x5.Grid.Cols), qc x5.Grid.Cells, qb x5.Grid.Merges, qe x5.Draw]]) rfl iL rfl ⟨⟨_, iL, .g (cs := [.int .i64 x4.ID, .int .i64 x4.Kind, .sl (x4.Attrs.map GAttr.row), .sl (x4.Flow.map GElem.row), .int .i64 x4.Grid.Rows, .int .i64 x4.Grid.Cols, .sl (x4.Grid.Cells.map GCell.row), .sl (x4.Grid.Merges.map GRect.row), .sl (x4.Draw.map GDrawOp.row)]) rfl rfl⟩, ⟨_, iL, .g (cs := [.int .i64 x5.ID, .int .i64 x5.Kind, .sl (x5.Attrs.map GAttr.row), .sl (x5.Flow.map GElem.row), .int .i64 x5.Grid.Rows, .int .i64 x5.Grid.Cols, .sl (x5.Grid.Cells.map GCell.row), .sl (x5.Grid.Merges.map GRect.row), .sl (x5.Draw.map GDrawOp.row)]) rfl rfl⟩, trivial⟩ (fun _ => w_ref_SameNode (er1)) rfl ?_
   refine AQ.step rfl rfl rfl (sp_not rfl iL) ?_
   refine AQ.nil ?_
   refine hK12 _ ?_
   refine aC rfl (fun hc3 => ?_) (fun hc3 => ?_)
   ·have h8 := ite_t hc3 h7
    refine aS fun K13 hK13 wK13 => ?_
    refine AW.weak (s' := ⟨[], [], (i3 0), 32⟩) (by exact Weak.cv trivial trivial nL) ?_
    refine aR (sA rfl rfl (aZ (hK13 _ ?_)))
    refine AW.ret ?_
    exact retf1 (P := prog) (fun (r : Bool) => rB (r)) (he1 _ (hx1 _ (Option.some.inj h8).symm)) iL (.t (.d rfl))
   ·have h8 := ite_f hc3 h7
    refine AW.skip ?_
    refine hK10 _ ?_
    refine AW.weak (s' := ⟨[(2, .ptr 2 n0 0 0), (3, .ptr 3 (n0 + 1) 0 0), (15, rI ((a1.Nodes.length : Int))), (16, rI (x2))], [(2, some (.box n0 45 [qg a1.Nodes])), (3, some (.box (n0 + 1) 45 [qg b1.Nodes]))], (i3 0), 32⟩) (by exact Weak.cv ⟨jL, jL, jL, jL, trivial⟩ ⟨.inl rfl, .inl rfl, trivial⟩ nL) ?_
    refine aR (ob1k h8 fun x6 ex6 h9 => (sQ rfl (ms_add rfl iL iL (fun _ => ex6)) (sM rfl rfl ?_)))
    refine AOps.nil ?_
    exact NextQ1.mk h9 (vec [(i3 0)]) ((by exact Weak.cv ⟨jL, jL, jL, jL, trivial⟩ ⟨.inl rfl, .inl rfl, trivial⟩ nL))
  ·have h4 := ite_f hc2 h3
   refine AW.exit ?_
   exact wK5 _ _ ((by exact Weak.cv trivial trivial nL)) (J1 _ (vec [(i3 0)]) (hx1 _ (Option.some.inj h4).symm))
theorem w_law_docs {r : Bool} (h : law_docs = some r) : ARO prog 35 [] (rB (r)) := by
 unfold law_docs at h
 refine ARO.mkF func35 rfl rfl ntmps35 rfl (Nat.le_of_ble_eq_true rfl) fun n0 => ?_
 refine aS fun K1 hK1 wK1 => (aR (sA rfl rfl (aZ (hK1 _ ?_))))
 refine aS fun K2 hK2 wK2 => (aR (ob1k h fun r1 er1 h1 => (AOps.step rfl rfl rfl (sp_callS (r := .agg [qg r1.Nodes]) (caps := []) (bs := []) rfl iL rfl trivial (fun _ => w_doc_First (er1))) (ob1k h1 fun r2 er2 h2 => (AOps.step rfl rfl rfl (sp_call (r := rI (r2)) (caps := []) (bs := [.agg [qg r1.Nodes]]) rfl iL rfl ⟨⟨_, iL, .g (cs := [.sl (r1.Nodes.map GNode.row)]) rfl rfl⟩, trivial⟩ (fun _ => w_doc_Check (er2)) rfl) (sQ rfl (sp_eql rfl iL iL) (sM rfl rfl ?_)))))))
 refine jb1k h2 fun p1 hp1 hk1 => ?_
 have J1 : ∀ (x1 : Bool) (i1 : Nat → Nat), p1 = x1 → K2 ⟨[(0, rB (x1))], [], (i1 0), 11⟩ := by
  intro x1 i1 e
  have h3 := hk1 _ e
  refine hK2 _ ?_
  refine AW.ret ?_
  exact retf1 (P := prog) (fun (r : Bool) => rB (r)) h3 iL (.t (.d rfl))
 refine AOps.split ((decide (r2 = 0)) == true) (fun hg1 => ?_) (fun hg1 => ?_)
 ·have h4 := ite_t hg1 hp1
  refine AOps.weak (by exact Weak.unw2 (e' := [(0, rB (false)), (1, .agg [qg r1.Nodes]), (2, rI (r2)), (3, rB ((decide (r2 = 0)))), (4, rB ((decide (r2 = 0))))]) hg1 ⟨.inl rfl, .inl rfl, .inl rfl, .inl rfl, .inl rfl, trivial⟩) ?_
  refine AOps.stepGT (.one rfl rfl rfl) hg1 rfl rfl (sp_callS (r := .agg [qg r1.Nodes]) (caps := []) (bs := []) rfl (.inl rfl) rfl trivial (fun _ => w_doc_First (er1))) ?_
  refine ob1k h4 fun r4 er4 h5 => ?_
  refine AOps.stepGT (.one rfl rfl rfl) hg1 rfl rfl (sp_callS (r := .agg [rI (r4.Char), rI (r4.Ref), qa r4.Attrs]) (caps := []) (bs := []) rfl (.inl rfl) rfl trivial (fun _ => w_law_end (er4))) ?_
  refine AOps.stepGT (.one rfl rfl rfl) hg1 rfl rfl (ms_lit 7 rfl tg_27 (f := GElem.row) (l := ([r4] : List GElem)) ⟨rfl, ⟨_, (.inl rfl), rfl⟩, trivial⟩ rfl (fun _ => rfl) rfl) ?_
  refine AOps.weak (by exact Weak.frz (e' := [(0, rB (false)), (1, .agg [qg r1.Nodes]), (2, rI (r2)), (3, rB ((decide (r2 = 0)))), (4, rB ((decide (r2 = 0)))), (5, .agg [qg r1.Nodes]), (6, .agg [rI (r4.Char), rI (r4.Ref), qa r4.Attrs]), (7, .r (.sl ([r4].map GElem.row)))]) (h' := []) 7 rfl ⟨jL, jL, jL, jL, jL, jL, jL, .inl (.inr (.inr ⟨rfl, rfl⟩)), trivial⟩ trivial) ?_
  refine ob1k h5 fun r5 er5 h6 => ?_
  refine AOps.stepGT (.one rfl rfl rfl) hg1 rfl rfl (sp_callS (r := .agg [qg r5.Nodes]) (caps := []) (bs := [.r (.sl ([r4].map GElem.row))]) rfl (.inl rfl) rfl ⟨.inl ⟨(.inl rfl), rfl⟩, trivial⟩ (fun _ => w_law_simple (er5))) ?_
  refine ob1k h6 fun r6 er6 h7 => ?_
  refine AOps.stepGT (.one rfl rfl rfl) hg1 rfl rfl (sp_call (r := rB (r6)) (caps := []) (bs := [.agg [qg r1.Nodes], .agg [qg r5.Nodes]]) rfl (.inl rfl) rfl ⟨⟨_, (.inl rfl), .g (cs := [.sl (r1.Nodes.map GNode.row)]) rfl rfl⟩, ⟨_, (.inl rfl), .g (cs := [.sl (r5.Nodes.map GNode.row)]) rfl rfl⟩, trivial⟩ (fun _ => w_ref_SameDoc (er6)) rfl) ?_
  refine sQ rfl (sp_and rfl iL iL) (sA rfl rfl ?_)
  refine AOps.nil ?_
  exact wK2 _ _ ((by exact Weak.cv ⟨jL, trivial⟩ trivial nL)) (J1 _ (vec [(n0 + 1)]) (Option.some.inj h7).symm)
 ·have h4 := ite_f hg1 hp1
  refine AOps.stepGF2 (.one rfl rfl rfl) hg1 rfl rfl ?_
  refine AOps.stepGF2 (.one rfl rfl rfl) hg1 rfl rfl ?_
  refine AOps.stepGF2 (.one rfl rfl rfl) hg1 rfl rfl ?_
  refine AOps.stepGF2 (.one rfl rfl rfl) hg1 rfl rfl ?_
  refine AOps.stepGF2 (.one rfl rfl rfl) hg1 rfl rfl ?_
  refine sQ rfl (sp_and rfl iL (iR rfl)) (sA rfl rfl ?_)
  refine AOps.nil ?_
  exact wK2 _ _ ((by exact Weak.cv ⟨jL, trivial⟩ trivial nL)) (J1 _ (vec [n0]) (Option.some.inj h4).symm)
theorem w_law_edits {r : Bool} (h : law_edits = some r) : ARO prog 7 [] (rB (r)) := by
 unfold law_edits at h
 refine ARO.mkF func7 rfl rfl ntmps7 rfl (Nat.le_of_ble_eq_true rfl) fun n0 => ?_
 refine aS fun K1 hK1 wK1 => (aR (sA rfl rfl (aZ (hK1 _ ?_))))
 refine aS fun K2 hK2 wK2 => (aR (ob1k h fun r1 er1 h1 => (AOps.step rfl rfl rfl (sp_callS (r := .agg [qg r1.Nodes]) (caps := []) (bs := []) rfl iL rfl trivial (fun _ => w_doc_First (er1))) (ob1k h1 fun r2 er2 h2 => (AOps.step rfl rfl rfl (sp_callS (r := qa r2) (caps := []) (bs := [.r (.str [116, 105, 116, 108, 101])]) rfl iL rfl ⟨.inl ⟨iL, rfl⟩, trivial⟩ (fun _ => w_law_on (er2))) ?_)))))
 refine sQ rfl (sp_build rfl tb_40 (q := [(0, _), (1, _), (11, _)]) (by exact ⟨rfl, rfl, rfl, iL, rfl, rfl, rfl, iL, rfl, rfl, rfl, iL, trivial⟩) (cs := [rI (1), rI (2), rI (0), rI (0), .cst (.slice none 0 0), .cst (.slice none 0 0), rI (0), rI (0), .cst (.slice none 0 0), .cst (.slice none 0 0), .cst (.slice none 0 0), qa r2, .cst (.slice none 0 0), .cst (.slice none 0 0), .cst (.slice none 0 0), .cst (.slice none 0 0), .cst (.slice none 0 0), .cst (.slice none 0 0), .cst (.slice none 0 0)]) (by rfl)) ?_
 refine AOps.step rfl rfl rfl (ms_lit 7 rfl tg_22 (f := GOp.row) (l := ([(GOp.mk 1 2 (GNode.mk 0 0 [] [] (GGrid.mk 0 0 [] []) []) r2 [] (GGridEdit.mk [] [] [] [] []) [])] : List GOp)) ⟨rfl, ⟨_, iL, rfl⟩, trivial⟩ rfl (fun _ => rfl) rfl) ?_
 refine AOps.weak (by exact Weak.frz (e' := [(0, rB (false)), (4, .agg [qg r1.Nodes]), (5, qa r2), (6, .agg [rI (1), rI (2), rI (0), rI (0), .cst (.slice none 0 0), .cst (.slice none 0 0), rI (0), rI (0), .cst (.slice none 0 0), .cst (.slice none 0 0), .cst (.slice none 0 0), qa r2, .cst (.slice none 0 0), .cst (.slice none 0 0), .cst (.slice none 0 0), .cst (.slice none 0 0), .cst (.slice none 0 0), .cst (.slice none 0 0), .cst (.slice none 0 0)]), (7, .r (.sl ([(GOp.mk 1 2 (GNode.mk 0 0 [] [] (GGrid.mk 0 0 [] []) []) r2 [] (GGridEdit.mk [] [] [] [] []) [])].map GOp.row)))]) (h' := []) 7 rfl ⟨jL, jL, jL, jL, .inl (.inr (.inr ⟨rfl, rfl⟩)), trivial⟩ trivial) ?_
 refine ob2k h2 fun r3 r4 er3 h3 => (AOps.step rfl rfl rfl (sp_callS (r := .tup [.agg [qg r3.Nodes], rI (r4)]) (caps := []) (bs := [.agg [qg r1.Nodes], .r (.sl ([(GOp.mk 1 2 (GNode.mk 0 0 [] [] (GGrid.mk 0 0 [] []) []) r2 [] (GGridEdit.mk [] [] [] [] []) [])].map GOp.row))]) rfl iL rfl ⟨.inl ⟨iL, rfl⟩, .inl ⟨iL, rfl⟩, trivial⟩ (fun _ => w_edit_Apply (er3))) (sM rfl rfl (sQ rfl (sp_extract (a := .agg [qg r3.Nodes]) rfl iL rfl) (sQ rfl (sp_extract (a := rI (r4)) rfl iL rfl) (AOps.step rfl rfl rfl (ms_alloc (cs := [.cst (.slice none 0 0)]) 1 rfl t0_45 rfl rfl) (AOps.step0 rfl rfl (ms_store_box (ds := [qg r3.Nodes]) rfl tz_45 iL rfl iL rfl rfl rfl rfl) (sA rfl rfl (aZ (hK2 _ ?_)))))))))
 refine aS fun K3 hK3 wK3 => ?_
 refine AW.weak (s' := ⟨[(1, .ptr 1 (n0 + 1) 0 0), (2, rI (r4))], [(1, some (.box (n0 + 1) 45 [qg r3.Nodes]))], (n0 + 2), 31⟩) (by exact Weak.cv ⟨jL, jL, trivial⟩ ⟨.inl rfl, trivial⟩ nL) ?_
 refine ob1k h3 fun r5 er5 h4 => (ob1k h4 fun x1 ex1 h5 => ?_)
 refine AW.regionP 18 [⟨some 11, (fun _ => rB (r5)), none, []⟩, ⟨some 12, (fun _ => rB (r5)), none, []⟩, ⟨some 13, (fun _ => .whn (r5 == true) (rI (r4))), none, []⟩, ⟨some 14, (fun _ => .whn (r5 == true) (rB ((decide (r4 = 0))))), none, []⟩, ⟨some 15, (fun _ => rB ((r5 && (decide (r4 = 0))))), none, []⟩, ⟨some 16, (fun _ => rB ((r5 && (decide (r4 = 0))))), none, []⟩, ⟨some 17, (fun _ => .whn ((r5 && (decide (r4 = 0))) == true) (.ptr 1 (n0 + 1) 0 0)), none, []⟩, ⟨some 18, (fun _ => .whn ((r5 && (decide (r4 = 0))) == true) (qg r3.Nodes)), none, []⟩, ⟨some 19, (fun _ => .whn ((r5 && (decide (r4 = 0))) == true) (rI ((r3.Nodes.length : Int)))), none, []⟩, ⟨some 20, (fun _ => .whn ((r5 && (decide (r4 = 0))) == true) (rB ((decide ((r3.Nodes.length : Int) = 2))))), none, []⟩, ⟨some 21, (fun _ => rB (((r5 && (decide (r4 = 0))) && (decide ((r3.Nodes.length : Int) = 2))))), none, []⟩, ⟨some 22, (fun _ => rB (((r5 && (decide (r4 = 0))) && (decide ((r3.Nodes.length : Int) = 2))))), none, []⟩, ⟨some 23, (fun _ => .whn (((r5 && (decide (r4 = 0))) && (decide ((r3.Nodes.length : Int) = 2))) == true) (.ptr 1 (n0 + 1) 0 0)), none, []⟩, ⟨some 24, (fun _ => .whn (((r5 && (decide (r4 = 0))) && (decide ((r3.Nodes.length : Int) = 2))) == true) (qg r3.Nodes)), none, []⟩, ⟨some 25, (fun _ => .whn (((r5 && (decide (r4 = 0))) && (decide ((r3.Nodes.length : Int) = 2))) == true) (.rop (GNode.row x1) 0)), none, []⟩, ⟨some 26, (fun _ => .whn (((r5 && (decide (r4 = 0))) && (decide ((r3.Nodes.length : Int) = 2))) == true) (.rop (GNode.row x1) 2)), none, []⟩, ⟨some 27, (fun _ => .whn (((r5 && (decide (r4 = 0))) && (decide ((r3.Nodes.length : Int) = 2))) == true) (qa x1.Attrs)), none, []⟩, ⟨some 28, (fun _ => .whn (((r5 && (decide (r4 = 0))) && (decide ((r3.Nodes.length : Int) = 2))) == true) (qa r2)), none, []⟩] hmix (by kernel_rfl) (by exact ⟨fun _ _ h => ⟨rfl, fun _ _ e => by cases e⟩, fun _ _ h => ⟨rfl, fun _ _ e => by cases e⟩, fun _ _ h => ⟨rfl, fun _ _ e => by cases e⟩, fun _ _ h => ⟨rfl, fun _ _ e => by cases e⟩, fun _ _ h => ⟨rfl, fun _ _ e => by cases e⟩, fun _ _ h => ⟨rfl, fun _ _ e => by cases e⟩, fun _ _ h => ⟨rfl, fun _ _ e => by cases e⟩, fun _ _ h => ⟨rfl, fun _ _ e => by cases e⟩, fun _ _ h => ⟨rfl, fun _ _ e => by cases e⟩, fun _ _ h => ⟨rfl, fun _ _ e => by cases e⟩, fun _ _ h => ⟨rfl, fun _ _ e => by cases e⟩, fun _ _ h => ⟨rfl, fun _ _ e => by cases e⟩, fun _ _ h => ⟨rfl, fun _ _ e => by cases e⟩, fun _ _ h => ⟨rfl, fun _ _ e => by cases e⟩, fun _ _ h => ⟨rfl, fun _ _ e => by cases e⟩, fun _ _ h => ⟨rfl, fun _ _ e => by cases e⟩, fun _ _ h => ⟨rfl, fun _ _ e => by cases e⟩, fun _ _ h => ⟨rfl, fun _ _ e => by cases e⟩, trivial⟩) rfl (by exact ⟨Ob.quiet (n1 := fun n => n) rfl rfl (by intro d h; cases h; rfl) rfl (fun _ => []) (fun _ => []) (fun D G1 hr => trivial) (fun D G1 hr => trivial) (fun _ _ => rfl) (fun G1 e h' n => sp_call (r := rB (r5)) (caps := []) (bs := []) rfl (.inl rfl) rfl trivial (fun _ => w_law_docs (er5)) rfl),
   Ob.quiet (n1 := fun n => n) rfl rfl (by intro d h; cases h; rfl) rfl (fun _ => [(11, rB (r5))]) (fun _ => []) (fun D G1 hr => ⟨inE_op hr 0 rfl rfl (by kernel_rfl) rfl rfl, trivial⟩) (fun D G1 hr => trivial) (fun _ _ => rfl) (fun G1 e h' n => OpQ.spec (v := rB (r5)) (sp_move rfl (.inl rfl)) _),
   Ob.quietG (n1 := fun n => n) (c := (r5 == true)) (v0 := fun _ => rI (r4)) rfl (by intro d h; cases h; rfl) rfl (fun _ => [(2, rI (r4)), (12, rB (r5))]) (fun _ => []) (fun D G1 hr => ⟨inE_base rfl rfl, inE_op hr 1 rfl rfl (by kernel_rfl) rfl rfl, trivial⟩) (fun D G1 hr => trivial) (fun _ _ => rfl) (fun _ _ => (.one rfl rfl rfl)) (fun G1 e h' n => OpQ.spec (v := rI (r4)) (sp_move rfl (.inl rfl)) _),
   Ob.quietG (n1 := fun n => n) (c := (r5 == true)) (v0 := fun _ => rB ((decide (r4 = 0)))) rfl (by intro d h; cases h; rfl) rfl (fun _ => [(12, rB (r5)), (13, .whn (r5 == true) (rI (r4)))]) (fun _ => []) (fun D G1 hr => ⟨inE_op hr 1 rfl rfl (by kernel_rfl) rfl rfl, inE_op hr 2 rfl rfl (by kernel_rfl) rfl rfl, trivial⟩) (fun D G1 hr => trivial) (fun _ _ => rfl) (fun _ _ => (.one rfl rfl rfl)) (fun G1 e h' n => OpQ.spec (v := rB ((decide (r4 = 0)))) (sp_eql rfl (.inr ⟨_, (by exact id), rfl⟩) (.inl rfl)) _),
   Ob.quiet (n1 := fun n => n) rfl rfl (by intro d h; cases h; rfl) rfl (fun _ => [(12, rB (r5)), (14, .whn (r5 == true) (rB ((decide (r4 = 0)))))]) (fun _ => []) (fun D G1 hr => ⟨inE_op hr 1 rfl rfl (by kernel_rfl) rfl rfl, inE_op hr 3 rfl rfl (by kernel_rfl) rfl rfl, trivial⟩) (fun D G1 hr => trivial) (fun _ _ => rfl) (fun G1 e h' n => OpQ.spec (v := rB ((r5 && (decide (r4 = 0))))) (sp_and rfl (.inl rfl) (.inr ⟨_, (by exact id), rfl⟩)) _),
   Ob.quiet (n1 := fun n => n) rfl rfl (by intro d h; cases h; rfl) rfl (fun _ => [(15, rB ((r5 && (decide (r4 = 0)))))]) (fun _ => []) (fun D G1 hr => ⟨inE_op hr 4 rfl rfl (by kernel_rfl) rfl rfl, trivial⟩) (fun D G1 hr => trivial) (fun _ _ => rfl) (fun G1 e h' n => OpQ.spec (v := rB ((r5 && (decide (r4 = 0))))) (sp_move rfl (.inl rfl)) _),
   Ob.quietG (n1 := fun n => n) (c := ((r5 && (decide (r4 = 0))) == true)) (v0 := fun _ => .ptr 1 (n0 + 1) 0 0) rfl (by intro d h; cases h; rfl) rfl (fun _ => [(1, .ptr 1 (n0 + 1) 0 0), (16, rB ((r5 && (decide (r4 = 0)))))]) (fun _ => [(1, some (.box (n0 + 1) 45 [qg r3.Nodes]))]) (fun D G1 hr => ⟨inE_base rfl rfl, inE_op hr 5 rfl rfl (by kernel_rfl) rfl rfl, trivial⟩) (fun D G1 hr => ⟨inH_base rfl rfl, trivial⟩) (fun _ _ => rfl) (fun _ _ => (.one rfl rfl rfl)) (fun G1 e h' n => OpQ.spec (v := .ptr 1 (n0 + 1) 0 0) (fB rfl tf_45_0 (.inl rfl) (fun _ => rfl) rfl) _),
   Ob.quietG (n1 := fun n => n) (c := ((r5 && (decide (r4 = 0))) == true)) (v0 := fun _ => qg r3.Nodes) rfl (by intro d h; cases h; rfl) rfl (fun _ => [(16, rB ((r5 && (decide (r4 = 0))))), (17, .whn ((r5 && (decide (r4 = 0))) == true) (.ptr 1 (n0 + 1) 0 0))]) (fun _ => [(1, some (.box (n0 + 1) 45 [qg r3.Nodes]))]) (fun D G1 hr => ⟨inE_op hr 5 rfl rfl (by kernel_rfl) rfl rfl, inE_op hr 6 rfl rfl (by kernel_rfl) rfl rfl, trivial⟩) (fun D G1 hr => ⟨inH_base rfl rfl, trivial⟩) (fun _ _ => rfl) (fun _ _ => (.one rfl rfl rfl)) (fun G1 e h' n => OpQ.spec (v := qg r3.Nodes) (ms_load_box (a := qg r3.Nodes) rfl ts_43 (.inr ⟨_, (by exact id), rfl⟩) rfl rfl) _),
   Ob.quietG (n1 := fun n => n) (c := ((r5 && (decide (r4 = 0))) == true)) (v0 := fun _ => rI ((r3.Nodes.length : Int))) rfl (by intro d h; cases h; rfl) rfl (fun _ => [(16, rB ((r5 && (decide (r4 = 0))))), (18, .whn ((r5 && (decide (r4 = 0))) == true) (qg r3.Nodes))]) (fun _ => []) (fun D G1 hr => ⟨inE_op hr 5 rfl rfl (by kernel_rfl) rfl rfl, inE_op hr 7 rfl rfl (by kernel_rfl) rfl rfl, trivial⟩) (fun D G1 hr => trivial) (fun _ _ => rfl) (fun _ _ => (.one rfl rfl rfl)) (fun G1 e h' n => OpQ.spec (v := rI ((r3.Nodes.length : Int))) (ms_len rfl tg_43.slice (.inr ⟨_, (by exact id), rfl⟩)) _),
   Ob.quietG (n1 := fun n => n) (c := ((r5 && (decide (r4 = 0))) == true)) (v0 := fun _ => rB ((decide ((r3.Nodes.length : Int) = 2)))) rfl (by intro d h; cases h; rfl) rfl (fun _ => [(16, rB ((r5 && (decide (r4 = 0))))), (19, .whn ((r5 && (decide (r4 = 0))) == true) (rI ((r3.Nodes.length : Int))))]) (fun _ => []) (fun D G1 hr => ⟨inE_op hr 5 rfl rfl (by kernel_rfl) rfl rfl, inE_op hr 8 rfl rfl (by kernel_rfl) rfl rfl, trivial⟩) (fun D G1 hr => trivial) (fun _ _ => rfl) (fun _ _ => (.one rfl rfl rfl)) (fun G1 e h' n => OpQ.spec (v := rB ((decide ((r3.Nodes.length : Int) = 2)))) (sp_eql rfl (.inr ⟨_, (by exact id), rfl⟩) (.inl rfl)) _),
   Ob.quiet (n1 := fun n => n) rfl rfl (by intro d h; cases h; rfl) rfl (fun _ => [(16, rB ((r5 && (decide (r4 = 0))))), (20, .whn ((r5 && (decide (r4 = 0))) == true) (rB ((decide ((r3.Nodes.length : Int) = 2)))))]) (fun _ => []) (fun D G1 hr => ⟨inE_op hr 5 rfl rfl (by kernel_rfl) rfl rfl, inE_op hr 9 rfl rfl (by kernel_rfl) rfl rfl, trivial⟩) (fun D G1 hr => trivial) (fun _ _ => rfl) (fun G1 e h' n => OpQ.spec (v := rB (((r5 && (decide (r4 = 0))) && (decide ((r3.Nodes.length : Int) = 2))))) (sp_and rfl (.inl rfl) (.inr ⟨_, (by exact id), rfl⟩)) _),
   Ob.quiet (n1 := fun n => n) rfl rfl (by intro d h; cases h; rfl) rfl (fun _ => [(21, rB (((r5 && (decide (r4 = 0))) && (decide ((r3.Nodes.length : Int) = 2)))))]) (fun _ => []) (fun D G1 hr => ⟨inE_op hr 10 rfl rfl (by kernel_rfl) rfl rfl, trivial⟩) (fun D G1 hr => trivial) (fun _ _ => rfl) (fun G1 e h' n => OpQ.spec (v := rB (((r5 && (decide (r4 = 0))) && (decide ((r3.Nodes.length : Int) = 2))))) (sp_move rfl (.inl rfl)) _),
   Ob.quietG (n1 := fun n => n) (c := (((r5 && (decide (r4 = 0))) && (decide ((r3.Nodes.length : Int) = 2))) == true)) (v0 := fun _ => .ptr 1 (n0 + 1) 0 0) rfl (by intro d h; cases h; rfl) rfl (fun _ => [(1, .ptr 1 (n0 + 1) 0 0), (22, rB (((r5 && (decide (r4 = 0))) && (decide ((r3.Nodes.length : Int) = 2)))))]) (fun _ => [(1, some (.box (n0 + 1) 45 [qg r3.Nodes]))]) (fun D G1 hr => ⟨inE_base rfl rfl, inE_op hr 11 rfl rfl (by kernel_rfl) rfl rfl, trivial⟩) (fun D G1 hr => ⟨inH_base rfl rfl, trivial⟩) (fun _ _ => rfl) (fun _ _ => (.one rfl rfl rfl)) (fun G1 e h' n => OpQ.spec (v := .ptr 1 (n0 + 1) 0 0) (fB rfl tf_45_0 (.inl rfl) (fun _ => rfl) rfl) _),
   Ob.quietG (n1 := fun n => n) (c := (((r5 && (decide (r4 = 0))) && (decide ((r3.Nodes.length : Int) = 2))) == true)) (v0 := fun _ => qg r3.Nodes) rfl (by intro d h; cases h; rfl) rfl (fun _ => [(22, rB (((r5 && (decide (r4 = 0))) && (decide ((r3.Nodes.length : Int) = 2))))), (23, .whn (((r5 && (decide (r4 = 0))) && (decide ((r3.Nodes.length : Int) = 2))) == true) (.ptr 1 (n0 + 1) 0 0))]) (fun _ => [(1, some (.box (n0 + 1) 45 [qg r3.Nodes]))]) (fun D G1 hr => ⟨inE_op hr 11 rfl rfl (by kernel_rfl) rfl rfl, inE_op hr 12 rfl rfl (by kernel_rfl) rfl rfl, trivial⟩) (fun D G1 hr => ⟨inH_base rfl rfl, trivial⟩) (fun _ _ => rfl) (fun _ _ => (.one rfl rfl rfl)) (fun G1 e h' n => OpQ.spec (v := qg r3.Nodes) (ms_load_box (a := qg r3.Nodes) rfl ts_43 (.inr ⟨_, (by exact id), rfl⟩) rfl rfl) _),
   Ob.quietG (n1 := fun n => n) (c := (((r5 && (decide (r4 = 0))) && (decide ((r3.Nodes.length : Int) = 2))) == true)) (v0 := fun _ => .rop (GNode.row x1) 0) rfl (by intro d h; cases h; rfl) rfl (fun _ => [(22, rB (((r5 && (decide (r4 = 0))) && (decide ((r3.Nodes.length : Int) = 2))))), (24, .whn (((r5 && (decide (r4 = 0))) && (decide ((r3.Nodes.length : Int) = 2))) == true) (qg r3.Nodes))]) (fun _ => []) (fun D G1 hr => ⟨inE_op hr 11 rfl rfl (by kernel_rfl) rfl rfl, inE_op hr 13 rfl rfl (by kernel_rfl) rfl rfl, trivial⟩) (fun D G1 hr => trivial) (fun _ _ => rfl) (fun _ _ => (.one rfl rfl rfl)) (fun G1 e h' n => OpQ.spec (v := .rop (GNode.row x1) 0) (ms_idx rfl tg_43.slice (.inr ⟨_, (by exact id), rfl⟩) (.inl rfl) (fun _ => rfl) (gdt ex1)) _),
   Ob.quietG (n1 := fun n => n) (c := (((r5 && (decide (r4 = 0))) && (decide ((r3.Nodes.length : Int) = 2))) == true)) (v0 := fun _ => .rop (GNode.row x1) 2) rfl (by intro d h; cases h; rfl) rfl (fun _ => [(22, rB (((r5 && (decide (r4 = 0))) && (decide ((r3.Nodes.length : Int) = 2))))), (25, .whn (((r5 && (decide (r4 = 0))) && (decide ((r3.Nodes.length : Int) = 2))) == true) (.rop (GNode.row x1) 0))]) (fun _ => []) (fun D G1 hr => ⟨inE_op hr 11 rfl rfl (by kernel_rfl) rfl rfl, inE_op hr 14 rfl rfl (by kernel_rfl) rfl rfl, trivial⟩) (fun D G1 hr => trivial) (fun _ _ => rfl) (fun _ _ => (.one rfl rfl rfl)) (fun G1 e h' n => OpQ.spec (v := .rop (GNode.row x1) 2) (sp_fieldAddr_ro rfl tf_34_2 (.inr ⟨_, (by exact id), rfl⟩)) _),
   Ob.quietG (n1 := fun n => n) (c := (((r5 && (decide (r4 = 0))) && (decide ((r3.Nodes.length : Int) = 2))) == true)) (v0 := fun _ => qa x1.Attrs) rfl (by intro d h; cases h; rfl) rfl (fun _ => [(22, rB (((r5 && (decide (r4 = 0))) && (decide ((r3.Nodes.length : Int) = 2))))), (26, .whn (((r5 && (decide (r4 = 0))) && (decide ((r3.Nodes.length : Int) = 2))) == true) (.rop (GNode.row x1) 2))]) (fun _ => []) (fun D G1 hr => ⟨inE_op hr 11 rfl rfl (by kernel_rfl) rfl rfl, inE_op hr 15 rfl rfl (by kernel_rfl) rfl rfl, trivial⟩) (fun D G1 hr => trivial) (fun _ _ => rfl) (fun _ _ => (.one rfl rfl rfl)) (fun G1 e h' n => OpQ.spec (v := qa x1.Attrs) (ms_load (d := .sl (x1.Attrs.map GAttr.row)) rfl ts_26 (.inr ⟨_, (by exact id), rfl⟩) rfl) _),
   Ob.quietG (n1 := fun n => n) (c := (((r5 && (decide (r4 = 0))) && (decide ((r3.Nodes.length : Int) = 2))) == true)) (v0 := fun _ => qa r2) rfl (by intro d h; cases h; rfl) rfl (fun _ => [(22, rB (((r5 && (decide (r4 = 0))) && (decide ((r3.Nodes.length : Int) = 2)))))]) (fun _ => []) (fun D G1 hr => ⟨inE_op hr 11 rfl rfl (by kernel_rfl) rfl rfl, trivial⟩) (fun D G1 hr => trivial) (fun _ _ => rfl) (fun _ _ => (.one rfl rfl rfl)) (fun G1 e h' n => sp_callS (r := qa r2) (caps := []) (bs := [.r (.str [116, 105, 116, 108, 101])]) rfl (.inl rfl) rfl ⟨.inl ⟨(.inl rfl), rfl⟩, trivial⟩ (fun hg => w_law_on (er2))),
   trivial⟩) fun G1 n1 => ?_
 refine AOps.weak (s' := ⟨[(1, .ptr 1 (n0 + 1) 0 0), (2, rI (r4)), (11, rB (r5)), (12, rB (r5)), (13, .whn (r5 == true) (rI (r4))), (14, .whn (r5 == true) (rB ((decide (r4 = 0))))), (15, rB ((r5 && (decide (r4 = 0))))), (16, rB ((r5 && (decide (r4 = 0))))), (17, .whn ((r5 && (decide (r4 = 0))) == true) (.ptr 1 (n0 + 1) 0 0)), (18, .whn ((r5 && (decide (r4 = 0))) == true) (qg r3.Nodes)), (19, .whn ((r5 && (decide (r4 = 0))) == true) (rI ((r3.Nodes.length : Int)))), (20, .whn ((r5 && (decide (r4 = 0))) == true) (rB ((decide ((r3.Nodes.length : Int) = 2))))), (21, rB (((r5 && (decide (r4 = 0))) && (decide ((r3.Nodes.length : Int) = 2))))), (22, rB (((r5 && (decide (r4 = 0))) && (decide ((r3.Nodes.length : Int) = 2))))), (23, .whn (((r5 && (decide (r4 = 0))) && (decide ((r3.Nodes.length : Int) = 2))) == true) (.ptr 1 (n0 + 1) 0 0)), (24, .whn (((r5 && (decide (r4 = 0))) && (decide ((r3.Nodes.length : Int) = 2))) == true) (qg r3.Nodes)), (25, .whn (((r5 && (decide (r4 = 0))) && (decide ((r3.Nodes.length : Int) = 2))) == true) (.rop (GNode.row x1) 0)), (26, .whn (((r5 && (decide (r4 = 0))) && (decide ((r3.Nodes.length : Int) = 2))) == true) (.rop (GNode.row x1) 2)), (27, .whn (((r5 && (decide (r4 = 0))) && (decide ((r3.Nodes.length : Int) = 2))) == true) (qa x1.Attrs)), (28, .whn (((r5 && (decide (r4 = 0))) && (decide ((r3.Nodes.length : Int) = 2))) == true) (qa r2))], [(1, some (.box (n0 + 1) 45 [qg r3.Nodes]))], n1, 31⟩) (by exact Weak.cv ⟨jL, jL, jL, jL, jL, jL, jL, jL, jL, jL, jL, jL, jL, jL, jL, jL, jL, jL, jL, jL, trivial⟩ ⟨.inl rfl, trivial⟩ nL) ?_
 refine ob1k h5 fun r7 er7 h6 => ?_
 refine AOps.stepW (.one rfl rfl rfl) rfl rfl (sp_call (r := rB (r7)) (caps := []) (bs := [qa x1.Attrs, qa r2]) rfl iL rfl ⟨⟨_, (iR rfl), .d rfl⟩, ⟨_, (iR rfl), .d rfl⟩, trivial⟩ (fun hg => w_ref_SameAttrs (gdt er7 hg)) rfl) ?_
 refine sQ rfl (sp_and rfl iL (iR rfl)) (sA rfl rfl (aZ (hK3 _ ?_)))
 refine AW.ret ?_
 exact retf1 (P := prog) (fun (r : Bool) => rB (r)) h6 iL (.t (.d rfl))
theorem w_ref_In {x1 : Int} {low1 : Int} {high1 : Int} {r : Bool} (h : ref_In x1 low1 high1 = some r) : ARO prog 37 [rI (x1), rI (low1), rI (high1)] (rB (r)) := by
 unfold ref_In at h
 refine ARO.mkF func37 rfl rfl ntmps37 rfl (Nat.le_of_ble_eq_true rfl) fun n0 => ?_
 refine aS fun K1 hK1 wK1 => (aR (sA rfl rfl (aZ (hK1 _ ?_))))
 refine aS fun K2 hK2 wK2 => (aR (sM rfl rfl (sM rfl rfl (sQ rfl (sp_geq rfl iL iL) (sM rfl rfl (sV rfl rfl rfl (sp_move rfl iL) (sV rfl rfl rfl (sp_move rfl iL) (sV rfl rfl rfl (sp_leq rfl (iR rfl) (iR rfl)) (sQ rfl (sp_and rfl iL (iR rfl)) (sA rfl rfl (aZ (hK2 _ ?_))))))))))))
 refine AW.ret ?_
 exact retf1 (P := prog) (fun (r : Bool) => rB (r)) h iL (.t (.d rfl))
theorem w_ref_Name {s1 : List UInt8} {r : Bool} (h : ref_Name s1 = some r) : ARO prog 80 [.r (.str s1)] (rB (r)) := by
 unfold ref_Name at h
 refine ARO.mkF func80 rfl rfl ntmps80 rfl (Nat.le_of_ble_eq_true rfl) fun n0 => ?_
 refine aS fun K1 hK1 wK1 => (aR (sA rfl rfl (aZ (hK1 _ ?_))))
 refine aS fun K2 hK2 wK2 => (aS fun K3 hK3 wK3 => (aR (sM rfl rfl (sQ rfl (sp_len_str rfl underlying9 iL) (sM rfl rfl (aZ (hK3 _ ?_)))))))
 refine AW.block ?_
 refine jc1k h fun o1 hit1 hk1 he1 => ?_
 have J1 : ∀ (u2 : Unit) (i5 : Nat → Nat), o1 = .nrm u2 → K2 ⟨[(0, .r (.str s1))], [], (i5 0), 59⟩ := by
  intro u2 i5 e
  have h1 := hk1 _ e
  refine hK2 _ ?_
  refine aS fun K4 hK4 wK4 => (aR (sM rfl rfl (sQ rfl (sp_len_str rfl underlying9 iL) (sQ rfl (sp_geq rfl iL iL) (sM rfl rfl (sV rfl rfl rfl (sp_move rfl iL) (sV rfl rfl rfl (sp_len_str rfl underlying9 (iR rfl)) (sV rfl rfl rfl (sp_leq rfl (iR rfl) iL) (sQ rfl (sp_and rfl iL (iR rfl)) (sA rfl rfl (aZ (hK4 _ ?_))))))))))))
  refine AW.ret ?_
  exact retf1 (P := prog) (fun (r : Bool) => rB (r)) h1 iL (.t (.d rfl))
 refine AW.iter1 (fun (x2 : Int) i3 => ⟨[(0, .r (.str s1)), (6, rI ((s1.length : Int))), (7, rI (x2))], [], (i3 0), 59⟩) (vec [n0]) hit1 ((by exact Weak.cv ⟨jL, jL, jL, trivial⟩ trivial nL)) ?_
 intro x2 i3 v1 hv1 hx1
 have h2 : ref_Name_L1 s1 x2 = some v1 := hv1; unfold ref_Name_L1 at h2
 refine aS fun K5 hK5 wK5 => (aR (sQ rfl (sp_lss rfl iL iL) (aZ (hK5 _ ?_))))
 refine aS fun K6 hK6 wK6 => ?_
 refine aC rfl (fun hc1 => ?_) (fun hc1 => ?_)
 ·have h3 := ite_t hc1 h2
  refine AW.skip ?_
  refine hK6 _ ?_
  refine aS fun K7 hK7 wK7 => (AW.block (aS fun K8 hK8 wK8 => (aR (sM rfl rfl (sA rfl rfl (aZ (hK8 _ ?_)))))))
  refine aS fun K9 hK9 wK9 => (aR (sM rfl rfl (sM rfl rfl (ob1k h3 fun ch1 ech1 h4 => (sQ rfl (ms_idx_str rfl underlying9 iL iL (fun _ => ech1)) (sQ rfl (sp_geq rfl iL iL) (sM rfl rfl (sV rfl rfl rfl (sp_move rfl iL) (sV rfl rfl rfl (sp_move rfl iL) (sV rfl rfl rfl (ms_idx_str rfl underlying9 (iR rfl) (iR rfl) (fun _ => ech1)) (sV rfl rfl rfl (sp_leq rfl (iR rfl) iL) (sQ rfl (sp_and rfl iL (iR rfl)) (sA rfl rfl (aZ (hK9 _ ?_)))))))))))))))
  refine aS fun K10 hK10 wK10 => (aR (sM rfl rfl (sQ rfl (sp_not rfl iL) (sM rfl rfl (sV rfl rfl rfl (sp_move rfl iL) (sV rfl rfl rfl (sp_eql rfl (iR rfl) iL) (sV rfl rfl rfl (sp_move rfl (iR rfl)) ?_)))))))
  refine sW (.two rfl rfl rfl) rfl (sp_move rfl iL) ?_
  refine sW (.two rfl rfl rfl) rfl (sp_move rfl iL) ?_
  refine sW (.two rfl rfl rfl) rfl (ms_idx_str rfl underlying9 (iR rfl) (iR rfl) (fun _ => ech1)) ?_
  refine sW (.two rfl rfl rfl) rfl (sp_neq rfl (iR rfl) iL) ?_
  refine sW (.two rfl rfl rfl) rfl (sp_move rfl (iR rfl)) ?_
  refine sW (.two rfl rfl rfl) rfl (sp_move rfl iL) ?_
  refine sW (.two rfl rfl rfl) rfl (sp_move rfl iL) ?_
  refine sW (.two rfl rfl rfl) rfl (ms_idx_str rfl underlying9 (iR rfl) (iR rfl) (fun _ => ech1)) ?_
  refine sW (.two rfl rfl rfl) rfl (sp_neq rfl (iR rfl) iL) ?_
  refine sW (.two rfl rfl rfl) rfl (sp_and rfl (iR rfl) (iR rfl)) ?_
  refine sW (.two rfl rfl rfl) rfl (sp_move rfl (iR rfl)) ?_
  refine sW (.two rfl rfl rfl) rfl (sp_move rfl iL) ?_
  refine sW (.two rfl rfl rfl) rfl (sp_move rfl iL) ?_
  refine sW (.two rfl rfl rfl) rfl (ms_idx_str rfl underlying9 (iR rfl) (iR rfl) (fun _ => ech1)) ?_
  refine sW (.two rfl rfl rfl) rfl (sp_lss rfl (iR rfl) iL) ?_
  refine sW (.two rfl rfl rfl) rfl (sp_move rfl (iR rfl)) ?_
  refine sW (.two rfl rfl rfl) rfl (sp_move rfl iL) ?_
  refine sW (.two rfl rfl rfl) rfl (sp_move rfl iL) ?_
  refine sW (.two rfl rfl rfl) rfl (ms_idx_str rfl underlying9 (iR rfl) (iR rfl) (fun _ => ech1)) ?_
  refine sW (.two rfl rfl rfl) rfl (sp_gtr rfl (iR rfl) iL) ?_
  refine sW (.two rfl rfl rfl) rfl (sp_or rfl (iR rfl) (iR rfl)) ?_
  refine sW (.two rfl rfl rfl) rfl (sp_and rfl (iR rfl) (iR rfl)) ?_
  refine sV rfl rfl rfl (sp_or rfl (iR rfl) (iR rfl)) (sQ rfl (sp_and rfl iL (iR rfl)) (aZ (hK10 _ ?_)))
  refine aC rfl (fun hc2 => ?_) (fun hc2 => ?_)
  ·have h5 := ite_t hc2 h4
   refine aS fun K11 hK11 wK11 => ?_
   refine AW.weak (s' := ⟨[], [], (i3 0), 59⟩) (by exact Weak.cv trivial trivial nL) ?_
   refine aR (sA rfl rfl (aZ (hK11 _ ?_)))
   refine AW.ret ?_
   exact retf1 (P := prog) (fun (r : Bool) => rB (r)) (he1 _ (hx1 _ (Option.some.inj h5).symm)) iL (.t (.d rfl))
  ·have h5 := ite_f hc2 h4
   refine AW.skip ?_
   refine hK7 _ ?_
   refine AW.weak (s' := ⟨[(0, .r (.str s1)), (6, rI ((s1.length : Int))), (7, rI (x2))], [], (i3 0), 59⟩) (by exact Weak.cv ⟨jL, jL, jL, trivial⟩ trivial nL) ?_
   refine aR (ob1k h5 fun x4 ex4 h6 => (sQ rfl (ms_add rfl iL iL (fun _ => ex4)) (sM rfl rfl ?_)))
   refine AOps.nil ?_
   exact NextQ1.mk h6 (vec [(i3 0)]) ((by exact Weak.cv ⟨jL, jL, jL, trivial⟩ trivial nL))
 ·have h3 := ite_f hc1 h2
  refine AW.exit ?_
  exact wK2 _ _ ((by exact Weak.cv ⟨jL, trivial⟩ trivial nL)) (J1 _ (vec [(i3 0)]) (hx1 _ (Option.some.inj h3).symm))
theorem w_ref_Value {s1 : List UInt8} {r : Bool} (h : ref_Value s1 = some r) : ARO prog 59 [.r (.str s1)] (rB (r)) := by
 unfold ref_Value at h
 refine ARO.mkF func59 rfl rfl ntmps59 rfl (Nat.le_of_ble_eq_true rfl) fun n0 => ?_
 refine aS fun K1 hK1 wK1 => (aR (sA rfl rfl (aZ (hK1 _ ?_))))
 refine aS fun K2 hK2 wK2 => (aS fun K3 hK3 wK3 => (aR (sM rfl rfl (sQ rfl (sp_len_str rfl underlying9 iL) (sM rfl rfl (aZ (hK3 _ ?_)))))))
 refine AW.block ?_
 refine jc1k h fun o1 hit1 hk1 he1 => ?_
 have J1 : ∀ (u2 : Unit) (i5 : Nat → Nat), o1 = .nrm u2 → K2 ⟨[(0, .r (.str s1))], [], (i5 0), 28⟩ := by
  intro u2 i5 e
  have h1 := hk1 _ e
  refine hK2 _ ?_
  refine aS fun K4 hK4 wK4 => (aR (sM rfl rfl (sQ rfl (sp_len_str rfl underlying9 iL) (sQ rfl (sp_geq rfl iL iL) (sM rfl rfl (sV rfl rfl rfl (sp_move rfl iL) (sV rfl rfl rfl (sp_len_str rfl underlying9 (iR rfl)) (sV rfl rfl rfl (sp_leq rfl (iR rfl) iL) (sQ rfl (sp_and rfl iL (iR rfl)) (sA rfl rfl (aZ (hK4 _ ?_))))))))))))
  refine AW.ret ?_
  exact retf1 (P := prog) (fun (r : Bool) => rB (r)) h1 iL (.t (.d rfl))
 refine AW.iter1 (fun (x2 : Int) i3 => ⟨[(0, .r (.str s1)), (5, rI ((s1.length : Int))), (6, rI (x2))], [], (i3 0), 28⟩) (vec [n0]) hit1 ((by exact Weak.cv ⟨jL, jL, jL, trivial⟩ trivial nL)) ?_
 intro x2 i3 v1 hv1 hx1
 have h2 : ref_Value_L1 s1 x2 = some v1 := hv1; unfold ref_Value_L1 at h2
 refine aS fun K5 hK5 wK5 => (aR (sQ rfl (sp_lss rfl iL iL) (aZ (hK5 _ ?_))))
 refine aS fun K6 hK6 wK6 => ?_
 refine aC rfl (fun hc1 => ?_) (fun hc1 => ?_)
 ·have h3 := ite_t hc1 h2
  refine AW.skip ?_
  refine hK6 _ ?_
  refine aS fun K7 hK7 wK7 => (AW.block (aS fun K8 hK8 wK8 => (aR (sM rfl rfl (sA rfl rfl (aZ (hK8 _ ?_)))))))
  refine aS fun K9 hK9 wK9 => (aR (sM rfl rfl (sM rfl rfl (ob1k h3 fun ch1 ech1 h4 => (sQ rfl (ms_idx_str rfl underlying9 iL iL (fun _ => ech1)) (sQ rfl (sp_lss rfl iL iL) (sM rfl rfl (sV rfl rfl rfl (sp_move rfl iL) (sV rfl rfl rfl (sp_move rfl iL) (sV rfl rfl rfl (ms_idx_str rfl underlying9 (iR rfl) (iR rfl) (fun _ => ech1)) (sV rfl rfl rfl (sp_gtr rfl (iR rfl) iL) (sQ rfl (sp_or rfl iL (iR rfl)) (aZ (hK9 _ ?_))))))))))))))
  refine aC rfl (fun hc2 => ?_) (fun hc2 => ?_)
  ·have h5 := ite_t hc2 h4
   refine aS fun K10 hK10 wK10 => ?_
   refine AW.weak (s' := ⟨[], [], (i3 0), 28⟩) (by exact Weak.cv trivial trivial nL) ?_
   refine aR (sA rfl rfl (aZ (hK10 _ ?_)))
   refine AW.ret ?_
   exact retf1 (P := prog) (fun (r : Bool) => rB (r)) (he1 _ (hx1 _ (Option.some.inj h5).symm)) iL (.t (.d rfl))
  ·have h5 := ite_f hc2 h4
   refine AW.skip ?_
   refine hK7 _ ?_
   refine AW.weak (s' := ⟨[(0, .r (.str s1)), (5, rI ((s1.length : Int))), (6, rI (x2))], [], (i3 0), 28⟩) (by exact Weak.cv ⟨jL, jL, jL, trivial⟩ trivial nL) ?_
   refine aR (ob1k h5 fun x4 ex4 h6 => (sQ rfl (ms_add rfl iL iL (fun _ => ex4)) (sM rfl rfl ?_)))
   refine AOps.nil ?_
   exact NextQ1.mk h6 (vec [(i3 0)]) ((by exact Weak.cv ⟨jL, jL, jL, trivial⟩ trivial nL))
 ·have h3 := ite_f hc1 h2
  refine AW.exit ?_
  exact wK2 _ _ ((by exact Weak.cv ⟨jL, trivial⟩ trivial nL)) (J1 _ (vec [(i3 0)]) (hx1 _ (Option.some.inj h3).symm))
theorem w_ref_AttrsError {l1 : List GAttr} {change1 : Bool} {r : Int} (h : ref_AttrsError l1 change1 = some r) : ARO prog 29 [qa l1, rB (change1)] (rI (r)) := by
 unfold ref_AttrsError at h
 refine ARO.mkF func29 rfl rfl ntmps29 rfl (Nat.le_of_ble_eq_true rfl) fun n0 => ?_
 refine aS fun K1 hK1 wK1 => (aR (sA rfl rfl (aZ (hK1 _ ?_))))
 refine aS fun K2 hK2 wK2 => (aS fun K3 hK3 wK3 => (aR (sM rfl rfl (sQ rfl (ms_len rfl tg_26.slice iL) (sM rfl rfl (aZ (hK3 _ ?_)))))))
 refine AW.block ?_
 refine jc1k h fun o1 hit1 hk1 he1 => ?_
 have J1 : ∀ (u2 : Unit) (i5 : Nat → Nat), o1 = .nrm u2 → K2 ⟨[], [], (i5 0), 54⟩ := by
  intro u2 i5 e
  have h1 := hk1 _ e
  refine hK2 _ ?_
  refine aS fun K4 hK4 wK4 => (aR (sA rfl rfl (aZ (hK4 _ ?_))))
  refine AW.ret ?_
  exact retf1 (P := prog) (fun (r : Int) => rI (r)) h1 iL (.t (.d rfl))
 refine AW.iter1 (fun (x2 : Int) i3 => ⟨[(0, qa l1), (1, rB (change1)), (7, rI ((l1.length : Int))), (8, rI (x2))], [], (i3 0), 54⟩) (vec [n0]) hit1 ((by exact Weak.cv ⟨jL, jL, jL, jL, trivial⟩ trivial nL)) ?_
 intro x2 i3 v1 hv1 hx1
 have h2 : ref_AttrsError_L1 l1 change1 x2 = some v1 := hv1; unfold ref_AttrsError_L1 at h2
 refine aS fun K5 hK5 wK5 => (aR (sQ rfl (sp_lss rfl iL iL) (aZ (hK5 _ ?_))))
 refine aS fun K6 hK6 wK6 => ?_
 refine aC rfl (fun hc1 => ?_) (fun hc1 => ?_)
 ·have h3 := ite_t hc1 h2
  refine AW.skip ?_
  refine hK6 _ ?_
  refine aS fun K7 hK7 wK7 => (AW.block (aS fun K8 hK8 wK8 => (aR (sM rfl rfl (sA rfl rfl (aZ (hK8 _ ?_)))))))
  refine aS fun K9 hK9 wK9 => (aS fun K10 hK10 wK10 => (aR (sM rfl rfl (sM rfl rfl (ob1k h3 fun x4 ex4 h4 => (sQ rfl (ms_idx rfl tg_26.slice iL iL (fun _ => rfl) (fun _ => ex4)) (sQ rfl (sp_fieldAddr_ro rfl tf_67_0 iL) (sQ rfl (ms_load (d := .str x4.Name) rfl ts_9 iL rfl) (ob1k h4 fun r1 er1 h5 => (AOps.step rfl rfl rfl (sp_call (r := rB (r1)) (caps := []) (bs := [.r (.str x4.Name)]) rfl iL rfl ⟨⟨_, iL, .d rfl⟩, trivial⟩ (fun _ => w_ref_Name (er1)) rfl) (sQ rfl (sp_not rfl iL) (aZ (hK10 _ ?_)))))))))))))
  refine aC rfl (fun hc2 => ?_) (fun hc2 => ?_)
  ·have h6 := ite_t hc2 h5
   refine aS fun K11 hK11 wK11 => ?_
   refine AW.weak (s' := ⟨[], [], (i3 0), 54⟩) (by exact Weak.cv trivial trivial nL) ?_
   refine aR (sA rfl rfl (aZ (hK11 _ ?_)))
   refine AW.ret ?_
   exact retf1 (P := prog) (fun (r : Int) => rI (r)) (he1 _ (hx1 _ (Option.some.inj h6).symm)) iL (.t (.d rfl))
  ·have h6 := ite_f hc2 h5
   refine AW.skip ?_
   refine hK9 _ ?_
   refine aS fun K12 hK12 wK12 => (aS fun K13 hK13 wK13 => ?_)
   refine AW.weak (s' := ⟨[(0, qa l1), (1, rB (change1)), (5, rI (x2)), (7, rI ((l1.length : Int))), (8, rI (x2))], [], (i3 0), 54⟩) (by exact Weak.cv ⟨jL, jL, jL, jL, jL, trivial⟩ trivial nL) ?_
   refine aR (sM rfl rfl (sM rfl rfl (sQ rfl (ms_idx rfl tg_26.slice iL iL (fun _ => rfl) (fun _ => ex4)) (sQ rfl (sp_fieldAddr_ro rfl tf_67_1 iL) (sQ rfl (ms_load (d := .str x4.Value) rfl ts_9 iL rfl) (ob1k h6 fun r2 er2 h7 => (AOps.step rfl rfl rfl (sp_call (r := rB (r2)) (caps := []) (bs := [.r (.str x4.Value)]) rfl iL rfl ⟨⟨_, iL, .d rfl⟩, trivial⟩ (fun _ => w_ref_Value (er2)) rfl) (sQ rfl (sp_not rfl iL) (sM rfl rfl (sV rfl rfl rfl (sp_move rfl iL) (sV rfl rfl rfl (sp_move rfl iL) (sV rfl rfl rfl (ms_idx rfl tg_26.slice (iR rfl) (iR rfl) (fun _ => rfl) (fun _ => ex4)) (sV rfl rfl rfl (sp_fieldAddr_ro rfl tf_67_1 (iR rfl)) (sV rfl rfl rfl (ms_load (d := .str x4.Value) rfl ts_9 (iR rfl) rfl) (sV rfl rfl rfl (sp_sneq rfl (iR rfl) iL) (sV rfl rfl rfl (sp_move rfl (iR rfl)) ?_))))))))))))))))
   refine sW (.two rfl rfl rfl) rfl (sp_move rfl iL) ?_
   refine sW (.two rfl rfl rfl) rfl (sp_not rfl (iR rfl)) ?_
   refine sV rfl rfl rfl (sp_or rfl (iR rfl) (iR rfl)) (sQ rfl (sp_and rfl iL (iR rfl)) (aZ (hK13 _ ?_)))
   refine aC rfl (fun hc3 => ?_) (fun hc3 => ?_)
   ·have h8 := ite_t hc3 h7
    refine aS fun K14 hK14 wK14 => ?_
    refine AW.weak (s' := ⟨[], [], (i3 0), 54⟩) (by exact Weak.cv trivial trivial nL) ?_
    refine aR (sA rfl rfl (aZ (hK14 _ ?_)))
    refine AW.ret ?_
    exact retf1 (P := prog) (fun (r : Int) => rI (r)) (he1 _ (hx1 _ (Option.some.inj h8).symm)) iL (.t (.d rfl))
   ·have h8 := ite_f hc3 h7
    refine AW.skip ?_
    refine hK12 _ ?_
    refine aS fun K15 hK15 wK15 => ?_
    refine AW.weak (s' := ⟨[(0, qa l1), (1, rB (change1)), (5, rI (x2)), (7, rI ((l1.length : Int))), (8, rI (x2))], [], (i3 0), 54⟩) (by exact Weak.cv ⟨jL, jL, jL, jL, jL, trivial⟩ trivial nL) ?_
    refine AW.regionQ hmix (by kernel_rfl) ?_
    refine AQ.step rfl rfl rfl (sp_move rfl iL) (AQ.step rfl rfl rfl (sp_gtr rfl iL iL) (AQ.step rfl rfl rfl (sp_move rfl iL) ?_))
    refine AQ.stepW (.one rfl rfl rfl) rfl rfl (sp_move rfl iL) ?_
    refine AQ.stepW (.one rfl rfl rfl) rfl rfl (sp_move rfl iL) ?_
    refine ob1k h8 fun x5 ex5 h9 => ?_
    refine AQ.stepW (.one rfl rfl rfl) rfl rfl (ms_sub rfl (iR rfl) iL (gdt ex5)) ?_
    refine ob1k h9 fun x6 ex6 h10 => ?_
    refine AQ.stepW (.one rfl rfl rfl) rfl rfl (ms_idx rfl tg_26.slice (iR rfl) (iR rfl) (fun _ => rfl) (gdt ex6)) ?_
    refine AQ.stepW (.one rfl rfl rfl) rfl rfl (sp_fieldAddr_ro rfl tf_67_0 (iR rfl)) ?_
    refine AQ.stepW (.one rfl rfl rfl) rfl rfl (ms_load (d := .str x6.Name) rfl ts_9 (iR rfl) rfl) ?_
    refine AQ.stepW (.one rfl rfl rfl) rfl rfl (sp_move rfl iL) ?_
    refine AQ.stepW (.one rfl rfl rfl) rfl rfl (sp_move rfl iL) ?_
    refine AQ.stepW (.one rfl rfl rfl) rfl rfl (ms_idx rfl tg_26.slice (iR rfl) (iR rfl) (fun _ => rfl) (fun _ => ex4)) ?_
    refine AQ.stepW (.one rfl rfl rfl) rfl rfl (sp_fieldAddr_ro rfl tf_67_0 (iR rfl)) ?_
    refine AQ.stepW (.one rfl rfl rfl) rfl rfl (ms_load (d := .str x4.Name) rfl ts_9 (iR rfl) rfl) ?_
    refine AQ.stepW (.one rfl rfl rfl) rfl rfl (sp_sgeq rfl (iR rfl) (iR rfl)) ?_
    refine AQ.step rfl rfl rfl (sp_and rfl iL (iR rfl)) ?_
    refine AQ.nil ?_
    refine hK15 _ ?_
    refine aC rfl (fun hc4 => ?_) (fun hc4 => ?_)
    ·have h11 := ite_t hc4 h10
     refine aS fun K16 hK16 wK16 => ?_
     refine AW.weak (s' := ⟨[], [], (i3 0), 54⟩) (by exact Weak.cv trivial trivial nL) ?_
     refine aR (sA rfl rfl (aZ (hK16 _ ?_)))
     refine AW.ret ?_
     exact retf1 (P := prog) (fun (r : Int) => rI (r)) (he1 _ (hx1 _ (Option.some.inj h11).symm)) iL (.t (.d rfl))
    ·have h11 := ite_f hc4 h10
     refine AW.skip ?_
     refine hK7 _ ?_
     refine aR (ob1k h11 fun x7 ex7 h12 => (sQ rfl (ms_add rfl iL iL (fun _ => ex7)) (sM rfl rfl ?_)))
     refine AOps.nil ?_
     exact NextQ1.mk h12 (vec [(i3 0)]) ((by exact Weak.cv ⟨jL, jL, jL, jL, trivial⟩ trivial nL))
 ·have h3 := ite_f hc1 h2
  refine AW.exit ?_
  exact wK2 _ _ ((by exact Weak.cv trivial trivial nL)) (J1 _ (vec [(i3 0)]) (hx1 _ (Option.some.inj h3).symm))
theorem w_ref_HasText {kind1 : Int} {r : Bool} (h : ref_HasText kind1 = some r) : ARO prog 53 [rI (kind1)] (rB (r)) := by
 unfold ref_HasText at h
 refine ARO.mkF func53 rfl rfl ntmps53 rfl (Nat.le_of_ble_eq_true rfl) fun n0 => ?_
 refine aS fun K1 hK1 wK1 => (aR (sA rfl rfl (aZ (hK1 _ ?_))))
 refine aS fun K2 hK2 wK2 => (aR (sM rfl rfl (sQ rfl (sp_eql rfl iL iL) (sM rfl rfl (sV rfl rfl rfl (sp_move rfl iL) (sV rfl rfl rfl (sp_eql rfl (iR rfl) iL) (sQ rfl (sp_or rfl iL (iR rfl)) (sM rfl rfl (sV rfl rfl rfl (sp_move rfl iL) (sV rfl rfl rfl (sp_eql rfl (iR rfl) iL) (sQ rfl (sp_or rfl iL (iR rfl)) (sM rfl rfl (sV rfl rfl rfl (sp_move rfl iL) (sV rfl rfl rfl (sp_eql rfl (iR rfl) iL) (sQ rfl (sp_or rfl iL (iR rfl)) (sA rfl rfl (aZ (hK2 _ ?_))))))))))))))))))
 refine AW.ret ?_
 exact retf1 (P := prog) (fun (r : Bool) => rB (r)) h iL (.t (.d rfl))
theorem w_ref_HasList {kind1 : Int} {r : Bool} (h : ref_HasList kind1 = some r) : ARO prog 88 [rI (kind1)] (rB (r)) := by
 unfold ref_HasList at h
 refine ARO.mkF func88 rfl rfl ntmps88 rfl (Nat.le_of_ble_eq_true rfl) fun n0 => ?_
 refine aS fun K1 hK1 wK1 => (aR (sA rfl rfl (aZ (hK1 _ ?_))))
 refine aS fun K2 hK2 wK2 => (aR (sM rfl rfl (sQ rfl (sp_eql rfl iL iL) (sM rfl rfl (sV rfl rfl rfl (sp_move rfl iL) (sV rfl rfl rfl (sp_eql rfl (iR rfl) iL) (sQ rfl (sp_or rfl iL (iR rfl)) (sA rfl rfl (aZ (hK2 _ ?_))))))))))
 refine AW.ret ?_
 exact retf1 (P := prog) (fun (r : Bool) => rB (r)) h iL (.t (.d rfl))
theorem w_ref_zeroGrid {g1 : GGrid} {r : Bool} (h : ref_zeroGrid g1 = some r) : ARO prog 89 [.agg [rI (g1.Rows), rI (g1.Cols), qc g1.Cells, qb g1.Merges]] (rB (r)) := by
 unfold ref_zeroGrid at h
 refine ARO.mkF func89 rfl rfl ntmps89 rfl (Nat.le_of_ble_eq_true rfl) fun n0 => ?_
 refine aS fun K1 hK1 wK1 => (aR (AOps.step rfl rfl rfl (ms_box (cs := [rI (g1.Rows), rI (g1.Cols), qc g1.Cells, qb g1.Merges]) 1 rfl iL rfl rfl) (sA rfl rfl (aZ (hK1 _ ?_)))))
 refine aS fun K2 hK2 wK2 => (aR (sQ rfl (fB rfl tf_31_0 iL fR rfl) (sQ rfl (ms_load_box (a := rI (g1.Rows)) rfl ts_3 iL rfl rfl) (sQ rfl (sp_eql rfl iL iL) (sM rfl rfl (sV rfl rfl rfl (fB rfl tf_31_1 iL fR rfl) (sV rfl rfl rfl (ms_load_box (a := rI (g1.Cols)) rfl ts_3 (iR rfl) rfl rfl) (sV rfl rfl rfl (sp_eql rfl (iR rfl) iL) (sQ rfl (sp_and rfl iL (iR rfl)) (sM rfl rfl (sV rfl rfl rfl (fB rfl tf_31_2 iL fR rfl) (sV rfl rfl rfl (ms_load_box (a := qc g1.Cells) rfl ts_28 (iR rfl) rfl rfl) (sV rfl rfl rfl (ms_len rfl tg_28.slice (iR rfl)) (sV rfl rfl rfl (sp_eql rfl (iR rfl) iL) (sQ rfl (sp_and rfl iL (iR rfl)) (sM rfl rfl (sV rfl rfl rfl (fB rfl tf_31_3 iL fR rfl) (sV rfl rfl rfl (ms_load_box (a := qb g1.Merges) rfl ts_29 (iR rfl) rfl rfl) (sV rfl rfl rfl (ms_len rfl tg_29.slice (iR rfl)) (sV rfl rfl rfl (sp_eql rfl (iR rfl) iL) (sQ rfl (sp_and rfl iL (iR rfl)) (sA rfl rfl (aZ (hK2 _ ?_))))))))))))))))))))))))
 refine AW.ret ?_
 exact retf1 (P := prog) (fun (r : Bool) => rB (r)) h iL (.t (.d rfl))
theorem w_ref_HasGrid {kind1 : Int} {r : Bool} (h : ref_HasGrid kind1 = some r) : ARO prog 90 [rI (kind1)] (rB (r)) := by
 unfold ref_HasGrid at h
 refine ARO.mkF func90 rfl rfl ntmps90 rfl (Nat.le_of_ble_eq_true rfl) fun n0 => ?_
 refine aS fun K1 hK1 wK1 => (aR (sA rfl rfl (aZ (hK1 _ ?_))))
 refine aS fun K2 hK2 wK2 => (aR (sM rfl rfl (sQ rfl (sp_eql rfl iL iL) (sM rfl rfl (sV rfl rfl rfl (sp_move rfl iL) (sV rfl rfl rfl (sp_eql rfl (iR rfl) iL) (sQ rfl (sp_or rfl iL (iR rfl)) (sA rfl rfl (aZ (hK2 _ ?_))))))))))
 refine AW.ret ?_
 exact retf1 (P := prog) (fun (r : Bool) => rB (r)) h iL (.t (.d rfl))
theorem w_ref_HasDraw {kind1 : Int} {r : Bool} (h : ref_HasDraw kind1 = some r) : ARO prog 91 [rI (kind1)] (rB (r)) := by
 unfold ref_HasDraw at h
 refine ARO.mkF func91 rfl rfl ntmps91 rfl (Nat.le_of_ble_eq_true rfl) fun n0 => ?_
 refine aS fun K1 hK1 wK1 => (aR (sA rfl rfl (aZ (hK1 _ ?_))))
 refine aS fun K2 hK2 wK2 => (aR (sM rfl rfl (sQ rfl (sp_eql rfl iL iL) (sM rfl rfl (sV rfl rfl rfl (sp_move rfl iL) (sV rfl rfl rfl (sp_eql rfl (iR rfl) iL) (sQ rfl (sp_or rfl iL (iR rfl)) (sM rfl rfl (sV rfl rfl rfl (sp_move rfl iL) (sV rfl rfl rfl (sp_eql rfl (iR rfl) iL) (sQ rfl (sp_or rfl iL (iR rfl)) (sA rfl rfl (aZ (hK2 _ ?_))))))))))))))
 refine AW.ret ?_
 exact retf1 (P := prog) (fun (r : Bool) => rB (r)) h iL (.t (.d rfl))
theorem w_ref_Char {c1 : Int} {r : Bool} (h : ref_Char c1 = some r) : ARO prog 61 [rI (c1)] (rB (r)) := by
 unfold ref_Char at h
 refine ARO.mkF func61 rfl rfl ntmps61 rfl (Nat.le_of_ble_eq_true rfl) fun n0 => ?_
 refine aS fun K1 hK1 wK1 => (aR (sA rfl rfl (aZ (hK1 _ ?_))))
 refine aS fun K2 hK2 wK2 => (aR (sM rfl rfl (sQ rfl (sp_eql rfl iL iL) (sM rfl rfl (sV rfl rfl rfl (sp_move rfl iL) (sV rfl rfl rfl (sp_eql rfl (iR rfl) iL) (sQ rfl (sp_or rfl iL (iR rfl)) (sM rfl rfl (sV rfl rfl rfl (sp_move rfl iL) (ob1k h fun r1 er1 h1 => ?_))))))))))
 refine AOps.stepW (.one rfl rfl rfl) rfl rfl (sp_call (r := rB (r1)) (caps := []) (bs := [rI (c1), rI (32), rI (126)]) rfl iL rfl ⟨⟨_, (iR rfl), .d rfl⟩, ⟨_, iL, .d rfl⟩, ⟨_, iL, .d rfl⟩, trivial⟩ (fun hg => w_ref_In (gdt er1 hg)) rfl) ?_
 refine sQ rfl (sp_or rfl iL (iR rfl)) (sM rfl rfl (sV rfl rfl rfl (sp_move rfl iL) (ob1k h1 fun r2 er2 h2 => ?_)))
 refine AOps.stepW (.one rfl rfl rfl) rfl rfl (sp_call (r := rB (r2)) (caps := []) (bs := [rI (c1), rI (160), rI (55295)]) rfl iL rfl ⟨⟨_, (iR rfl), .d rfl⟩, ⟨_, iL, .d rfl⟩, ⟨_, iL, .d rfl⟩, trivial⟩ (fun hg => w_ref_In (gdt er2 hg)) rfl) ?_
 refine sQ rfl (sp_or rfl iL (iR rfl)) (sM rfl rfl (sV rfl rfl rfl (sp_move rfl iL) (ob1k h2 fun r3 er3 h3 => ?_)))
 refine AOps.stepW (.one rfl rfl rfl) rfl rfl (sp_call (r := rB (r3)) (caps := []) (bs := [rI (c1), rI (57344), rI (1114111)]) rfl iL rfl ⟨⟨_, (iR rfl), .d rfl⟩, ⟨_, iL, .d rfl⟩, ⟨_, iL, .d rfl⟩, trivial⟩ (fun hg => w_ref_In (gdt er3 hg)) rfl) ?_
 refine sQ rfl (sp_or rfl iL (iR rfl)) (sA rfl rfl (aZ (hK2 _ ?_)))
 refine AW.ret ?_
 exact retf1 (P := prog) (fun (r : Bool) => rB (r)) h3 iL (.t (.d rfl))
theorem w_ref_ElemError {x1 : GElem} {r : Int} (h : ref_ElemError x1 = some r) : ARO prog 75 [.agg [rI (x1.Char), rI (x1.Ref), qa x1.Attrs]] (rI (r)) := by
 unfold ref_ElemError at h
 refine ARO.mkF func75 rfl rfl ntmps75 rfl (Nat.le_of_ble_eq_true rfl) fun n0 => ?_
 refine aS fun K1 hK1 wK1 => (aR (AOps.step rfl rfl rfl (ms_box (cs := [rI (x1.Char), rI (x1.Ref), qa x1.Attrs]) 1 rfl iL rfl rfl) (sA rfl rfl (aZ (hK1 _ ?_)))))
 refine aS fun K2 hK2 wK2 => (aS fun K3 hK3 wK3 => (aR (sQ rfl (fB rfl tf_60_0 iL fR rfl) (sQ rfl (ms_load_box (a := rI (x1.Char)) rfl ts_3 iL rfl rfl) (sQ rfl (sp_eql rfl iL iL) (sM rfl rfl (sV rfl rfl rfl (fB rfl tf_60_1 iL fR rfl) (sV rfl rfl rfl (ms_load_box (a := rI (x1.Ref)) rfl ts_3 (iR rfl) rfl rfl) (sV rfl rfl rfl (sp_eql rfl (iR rfl) iL) (sQ rfl (sp_and rfl iL (iR rfl)) (sM rfl rfl (sV rfl rfl rfl (fB rfl tf_60_0 iL fR rfl) (sV rfl rfl rfl (ms_load_box (a := rI (x1.Char)) rfl ts_3 (iR rfl) rfl rfl) (sV rfl rfl rfl (sp_neq rfl (iR rfl) iL) (sV rfl rfl rfl (sp_move rfl (iR rfl)) ?_)))))))))))))))
 refine sW (.two rfl rfl rfl) rfl (fB rfl tf_60_1 iL fR rfl) ?_
 refine sW (.two rfl rfl rfl) rfl (ms_load_box (a := rI (x1.Ref)) rfl ts_3 (iR rfl) rfl rfl) ?_
 refine sW (.two rfl rfl rfl) rfl (sp_neq rfl (iR rfl) iL) ?_
 refine sV rfl rfl rfl (sp_and rfl (iR rfl) (iR rfl)) (sQ rfl (sp_or rfl iL (iR rfl)) (aZ (hK3 _ ?_)))
 refine aC rfl (fun hc1 => ?_) (fun hc1 => ?_)
 ·have h1 := ite_t hc1 h
  refine aS fun K4 hK4 wK4 => ?_
  refine AW.weak (s' := ⟨[], [], (n0 + 1), 44⟩) (by exact Weak.cv trivial trivial nL) ?_
  refine aR (sA rfl rfl (aZ (hK4 _ ?_)))
  refine AW.ret ?_
  exact retf1 (P := prog) (fun (r : Int) => rI (r)) h1 iL (.t (.d rfl))
 ·have h1 := ite_f hc1 h
  refine AW.skip ?_
  refine hK2 _ ?_
  refine aS fun K5 hK5 wK5 => (aS fun K6 hK6 wK6 => ?_)
  refine AW.weak (s' := ⟨[(1, .ptr 1 n0 0 0)], [(1, some (.box n0 60 [rI (x1.Char), rI (x1.Ref), qa x1.Attrs]))], (n0 + 1), 44⟩) (by exact Weak.cv ⟨jL, trivial⟩ ⟨.inl rfl, trivial⟩ nL) ?_
  refine aR (sQ rfl (fB rfl tf_60_0 iL fR rfl) (sQ rfl (ms_load_box (a := rI (x1.Char)) rfl ts_3 iL rfl rfl) (sQ rfl (sp_neq rfl iL iL) (sM rfl rfl (sV rfl rfl rfl (fB rfl tf_60_0 iL fR rfl) (sV rfl rfl rfl (ms_load_box (a := rI (x1.Char)) rfl ts_3 (iR rfl) rfl rfl) (ob1k h1 fun r1 er1 h2 => ?_)))))))
  refine AOps.stepW (.one rfl rfl rfl) rfl rfl (sp_call (r := rB (r1)) (caps := []) (bs := [rI (x1.Char)]) rfl iL rfl ⟨⟨_, (iR rfl), .d rfl⟩, trivial⟩ (fun hg => w_ref_Char (gdt er1 hg)) rfl) ?_
  refine sV rfl rfl rfl (sp_not rfl (iR rfl)) (sQ rfl (sp_and rfl iL (iR rfl)) (sM rfl rfl (sV rfl rfl rfl (fB rfl tf_60_1 iL fR rfl) (sV rfl rfl rfl (ms_load_box (a := rI (x1.Ref)) rfl ts_3 (iR rfl) rfl rfl) (sV rfl rfl rfl (sp_neq rfl (iR rfl) iL) (sV rfl rfl rfl (sp_move rfl (iR rfl)) ?_))))))
  refine sW (.two rfl rfl rfl) rfl (fB rfl tf_60_1 iL fR rfl) ?_
  refine sW (.two rfl rfl rfl) rfl (ms_load_box (a := rI (x1.Ref)) rfl ts_3 (iR rfl) rfl rfl) ?_
  refine ob1k h2 fun r2 er2 h3 => ?_
  refine AOps.stepW (.two rfl rfl rfl) rfl rfl (sp_call (r := rB (r2)) (caps := []) (bs := [rI (x1.Ref), rI (1), rI (1073741824)]) rfl iL rfl ⟨⟨_, (iR rfl), .d rfl⟩, ⟨_, iL, .d rfl⟩, ⟨_, iL, .d rfl⟩, trivial⟩ (fun hg => w_ref_In (gdt er2 hg)) rfl) ?_
  refine sW (.two rfl rfl rfl) rfl (sp_not rfl (iR rfl)) ?_
  refine sV rfl rfl rfl (sp_and rfl (iR rfl) (iR rfl)) (sQ rfl (sp_or rfl iL (iR rfl)) (aZ (hK6 _ ?_)))
  refine aC rfl (fun hc2 => ?_) (fun hc2 => ?_)
  ·have h4 := ite_t hc2 h3
   refine aS fun K7 hK7 wK7 => ?_
   refine AW.weak (s' := ⟨[], [], (n0 + 1), 44⟩) (by exact Weak.cv trivial trivial nL) ?_
   refine aR (sA rfl rfl (aZ (hK7 _ ?_)))
   refine AW.ret ?_
   exact retf1 (P := prog) (fun (r : Int) => rI (r)) h4 iL (.t (.d rfl))
  ·have h4 := ite_f hc2 h3
   refine AW.skip ?_
   refine hK5 _ ?_
   refine aS fun K8 hK8 wK8 => ?_
   refine AW.weak (s' := ⟨[(1, .ptr 1 n0 0 0)], [(1, some (.box n0 60 [rI (x1.Char), rI (x1.Ref), qa x1.Attrs]))], (n0 + 1), 44⟩) (by exact Weak.cv ⟨jL, trivial⟩ ⟨.inl rfl, trivial⟩ nL) ?_
   refine aR (sQ rfl (fB rfl tf_60_2 iL fR rfl) (sQ rfl (ms_load_box (a := qa x1.Attrs) rfl ts_26 iL rfl rfl) (ob1k h4 fun r3 er3 h5 => (AOps.step rfl rfl rfl (sp_call (r := rI (r3)) (caps := []) (bs := [qa x1.Attrs, rB (false)]) rfl iL rfl ⟨⟨_, iL, .d rfl⟩, ⟨_, iL, .d rfl⟩, trivial⟩ (fun _ => w_ref_AttrsError (er3)) rfl) (sA rfl rfl (aZ (hK8 _ ?_)))))))
   refine AW.ret ?_
   exact retf1 (P := prog) (fun (r : Int) => rI (r)) h5 iL (.t (.d rfl))
theorem w_ref_FlowError {f1 : List GElem} {text1 : Bool} {r : Int} (h : ref_FlowError f1 text1 = some r) : ARO prog 92 [qd f1, rB (text1)] (rI (r)) := by
 unfold ref_FlowError at h
 refine ARO.mkF func92 rfl rfl ntmps92 rfl (Nat.le_of_ble_eq_true rfl) fun n0 => ?_
 refine aS fun K1 hK1 wK1 => (aR (sA rfl rfl (aZ (hK1 _ ?_))))
 refine aS fun K2 hK2 wK2 => (aS fun K3 hK3 wK3 => (aR (sM rfl rfl (sQ rfl (ms_len rfl tg_27.slice iL) (sM rfl rfl (aZ (hK3 _ ?_)))))))
 refine AW.block ?_
 refine jc1k h fun o1 hit1 hk1 he1 => ?_
 have J1 : ∀ (u2 : Unit) (i5 : Nat → Nat), o1 = .nrm u2 → K2 ⟨[(0, qd f1), (1, rB (text1))], [], (i5 0), 47⟩ := by
  intro u2 i5 e
  have h1 := hk1 _ e
  refine hK2 _ ?_
  refine aS fun K4 hK4 wK4 => (aS fun K5 hK5 wK5 => (aR (sM rfl rfl (sM rfl rfl (sV rfl rfl rfl (sp_move rfl iL) (sV rfl rfl rfl (ms_len rfl tg_27.slice (iR rfl)) (sV rfl rfl rfl (sp_eql rfl (iR rfl) iL) (sV rfl rfl rfl (sp_move rfl (iR rfl)) ?_))))))))
  refine sW (.two rfl rfl rfl) rfl (sp_move rfl iL) ?_
  refine sW (.two rfl rfl rfl) rfl (sp_move rfl iL) ?_
  refine sW (.two rfl rfl rfl) rfl (ms_len rfl tg_27.slice (iR rfl)) ?_
  refine ob1k h1 fun x4 ex4 h2 => ?_
  refine sW (.two rfl rfl rfl) rfl (ms_sub rfl (iR rfl) iL (gdt ex4)) ?_
  refine ob1k h2 fun x5 ex5 h3 => ?_
  refine sW (.two rfl rfl rfl) rfl (ms_idx rfl tg_27.slice (iR rfl) (iR rfl) (fun _ => rfl) (gdt ex5)) ?_
  refine sW (.two rfl rfl rfl) rfl (sp_fieldAddr_ro rfl tf_60_0 (iR rfl)) ?_
  refine sW (.two rfl rfl rfl) rfl (ms_load (d := .int .i64 x5.Char) rfl ts_3 (iR rfl) rfl) ?_
  refine sW (.two rfl rfl rfl) rfl (sp_neq rfl (iR rfl) iL) ?_
  refine sV rfl rfl rfl (sp_or rfl (iR rfl) (iR rfl)) (sQ rfl (sp_and rfl iL (iR rfl)) (aZ (hK5 _ ?_)))
  refine aC rfl (fun hc1 => ?_) (fun hc1 => ?_)
  ·have h4 := ite_t hc1 h3
   refine aS fun K6 hK6 wK6 => ?_
   refine AW.weak (s' := ⟨[], [], (i5 0), 47⟩) (by exact Weak.cv trivial trivial nL) ?_
   refine aR (sA rfl rfl (aZ (hK6 _ ?_)))
   refine AW.ret ?_
   exact retf1 (P := prog) (fun (r : Int) => rI (r)) h4 iL (.t (.d rfl))
  ·have h4 := ite_f hc1 h3
   refine AW.skip ?_
   refine hK4 _ ?_
   refine aS fun K7 hK7 wK7 => ?_
   refine AW.weak (s' := ⟨[], [], (i5 0), 47⟩) (by exact Weak.cv trivial trivial nL) ?_
   refine aR (sA rfl rfl (aZ (hK7 _ ?_)))
   refine AW.ret ?_
   exact retf1 (P := prog) (fun (r : Int) => rI (r)) h4 iL (.t (.d rfl))
 refine AW.iter1 (fun (x2 : Int) i3 => ⟨[(0, qd f1), (1, rB (text1)), (8, rI ((f1.length : Int))), (9, rI (x2))], [], (i3 0), 47⟩) (vec [n0]) hit1 ((by exact Weak.cv ⟨jL, jL, jL, jL, trivial⟩ trivial nL)) ?_
 intro x2 i3 v1 hv1 hx1
 have h5 : ref_FlowError_L1 f1 text1 x2 = some v1 := hv1; unfold ref_FlowError_L1 at h5
 refine aS fun K8 hK8 wK8 => (aR (sQ rfl (sp_lss rfl iL iL) (aZ (hK8 _ ?_))))
 refine aS fun K9 hK9 wK9 => ?_
 refine aC rfl (fun hc2 => ?_) (fun hc2 => ?_)
 ·have h6 := ite_t hc2 h5
  refine AW.skip ?_
  refine hK9 _ ?_
  refine aS fun K10 hK10 wK10 => (AW.block (aS fun K11 hK11 wK11 => (aR (sM rfl rfl (sA rfl rfl (aZ (hK11 _ ?_)))))))
  refine aS fun K12 hK12 wK12 => (aS fun K13 hK13 wK13 => (aR (sM rfl rfl (sM rfl rfl (ob1k h6 fun x6 ex6 h7 => (sQ rfl (ms_idx rfl tg_27.slice iL iL (fun _ => rfl) (fun _ => ex6)) (sQ rfl (ms_loadA (cs := [rI (x6.Char), rI (x6.Ref), qa x6.Attrs]) rfl ta_60 iL rfl rfl) (ob1k h7 fun e1 ee1 h8 => (AOps.step rfl rfl rfl (sp_call (r := rI (e1)) (caps := []) (bs := [.agg [rI (x6.Char), rI (x6.Ref), qa x6.Attrs]]) rfl iL rfl ⟨⟨_, iL, .g (cs := [.int .i64 x6.Char, .int .i64 x6.Ref, .sl (x6.Attrs.map GAttr.row)]) rfl rfl⟩, trivial⟩ (fun _ => w_ref_ElemError (ee1)) rfl) (sA rfl rfl (aZ (hK13 _ ?_))))))))))))
  refine aS fun K14 hK14 wK14 => (aR (sM rfl rfl (sQ rfl (sp_neq rfl iL iL) (aZ (hK14 _ ?_)))))
  refine aC rfl (fun hc3 => ?_) (fun hc3 => ?_)
  ·have h9 := ite_t hc3 h8
   refine aS fun K15 hK15 wK15 => ?_
   refine AW.weak (s' := ⟨[(6, rI (e1))], [], (i3 0), 47⟩) (by exact Weak.cv ⟨jL, trivial⟩ trivial nL) ?_
   refine aR (sM rfl rfl (sA rfl rfl (aZ (hK15 _ ?_))))
   refine AW.ret ?_
   exact retf1 (P := prog) (fun (r : Int) => rI (r)) (he1 _ (hx1 _ (Option.some.inj h9).symm)) iL (.t (.d rfl))
  ·have h9 := ite_f hc3 h8
   refine AW.skip ?_
   refine hK12 _ ?_
   refine aS fun K16 hK16 wK16 => ?_
   refine AW.weak (s' := ⟨[(0, qd f1), (1, rB (text1)), (5, rI (x2)), (8, rI ((f1.length : Int))), (9, rI (x2))], [], (i3 0), 47⟩) (by exact Weak.cv ⟨jL, jL, jL, jL, jL, trivial⟩ trivial nL) ?_
   refine aR (sM rfl rfl (sQ rfl (sp_not rfl iL) (sM rfl rfl (sV rfl rfl rfl (sp_move rfl iL) (sV rfl rfl rfl (sp_move rfl iL) (sV rfl rfl rfl (ms_idx rfl tg_27.slice (iR rfl) (iR rfl) (fun _ => rfl) (fun _ => ex6)) (sV rfl rfl rfl (sp_fieldAddr_ro rfl tf_60_0 (iR rfl)) (sV rfl rfl rfl (ms_load (d := .int .i64 x6.Char) rfl ts_3 (iR rfl) rfl) (sV rfl rfl rfl (sp_neq rfl (iR rfl) iL) (sQ rfl (sp_and rfl iL (iR rfl)) (aZ (hK16 _ ?_))))))))))))
   refine aC rfl (fun hc4 => ?_) (fun hc4 => ?_)
   ·have h10 := ite_t hc4 h9
    refine aS fun K17 hK17 wK17 => ?_
    refine AW.weak (s' := ⟨[], [], (i3 0), 47⟩) (by exact Weak.cv trivial trivial nL) ?_
    refine aR (sA rfl rfl (aZ (hK17 _ ?_)))
    refine AW.ret ?_
    exact retf1 (P := prog) (fun (r : Int) => rI (r)) (he1 _ (hx1 _ (Option.some.inj h10).symm)) iL (.t (.d rfl))
   ·have h10 := ite_f hc4 h9
    refine AW.skip ?_
    refine hK10 _ ?_
    refine aR (ob1k h10 fun x7 ex7 h11 => (sQ rfl (ms_add rfl iL iL (fun _ => ex7)) (sM rfl rfl ?_)))
    refine AOps.nil ?_
    exact NextQ1.mk h11 (vec [(i3 0)]) ((by exact Weak.cv ⟨jL, jL, jL, jL, trivial⟩ trivial nL))
 ·have h6 := ite_f hc2 h5
  refine AW.exit ?_
  exact wK2 _ _ ((by exact Weak.cv ⟨jL, jL, trivial⟩ trivial nL)) (J1 _ (vec [(i3 0)]) (hx1 _ (Option.some.inj h6).symm))
theorem w_unicode_utf8_ValidString {s1 : List UInt8} {r : Bool} (h : unicode_utf8_ValidString s1 = some r) : ARO prog 202 [.r (.str s1)] (rB (r)) := by
 unfold unicode_utf8_ValidString at h
 exact ARO.validString laysValid rfl rfl rfl ⟨_, func202, rfl, rfl⟩ h
theorem w_ref_CellText {s1 : List UInt8} {r : Bool} (h : ref_CellText s1 = some r) : ARO prog 155 [.r (.str s1)] (rB (r)) := by
 unfold ref_CellText at h
 refine ARO.mkF func155 rfl rfl ntmps155 rfl (Nat.le_of_ble_eq_true rfl) fun n0 => ?_
 refine aS fun K1 hK1 wK1 => (aR (sA rfl rfl (aZ (hK1 _ ?_))))
 refine aS fun K2 hK2 wK2 => (aS fun K3 hK3 wK3 => (aR (sM rfl rfl (ob1k h fun r1 er1 h1 => (AOps.step rfl rfl rfl (sp_call (r := rB (r1)) (caps := []) (bs := [.r (.str s1)]) rfl iL rfl ⟨⟨_, iL, .d rfl⟩, trivial⟩ (fun _ => w_unicode_utf8_ValidString (er1)) rfl) (sQ rfl (sp_not rfl iL) (aZ (hK3 _ ?_))))))))
 refine aC rfl (fun hc1 => ?_) (fun hc1 => ?_)
 ·have h2 := ite_t hc1 h1
  refine aS fun K4 hK4 wK4 => (aR (sA rfl rfl (aZ (hK4 _ ?_))))
  refine AW.ret ?_
  exact retf1 (P := prog) (fun (r : Bool) => rB (r)) h2 iL (.t (.d rfl))
 ·have h2 := ite_f hc1 h1
  refine AW.skip ?_
  refine hK2 _ ?_
  refine aS fun K5 hK5 wK5 => (aS fun K6 hK6 wK6 => (aR (sM rfl rfl (AOps.step rfl rfl rfl (ms_range 9 rfl underlying9 iL) (aZ (hK6 _ ?_))))))
  refine AW.block ?_
  refine jc1k h2 fun o1 hit1 hk1 he1 => ?_
  have J1 : ∀ (u2 : Unit) (i5 : Nat → Nat), o1 = .nrm u2 → K5 ⟨[], [], (i5 0), 21⟩ := by
   intro u2 i5 e
   have h3 := hk1 _ e
   refine hK5 _ ?_
   refine aS fun K7 hK7 wK7 => (aR (sA rfl rfl (aZ (hK7 _ ?_))))
   refine AW.ret ?_
   exact retf1 (P := prog) (fun (r : Bool) => rB (r)) h3 iL (.t (.d rfl))
  refine AW.iter1 (fun (p2 : (Nat)) i3 => ⟨[(9, .ptr 9 n0 0 0)], [(9, some (.it n0 s1 p2))], (i3 0), 21⟩) (vec [(n0 + 1)]) hit1 ((by exact Weak.cv ⟨jL, trivial⟩ ⟨.inl rfl, trivial⟩ nL)) ?_
  intro p2 i3 v1 hv1 hx1
  have h4 : ref_CellText_L1 s1 p2 = some v1 := hv1; unfold ref_CellText_L1 at h4
  refine aS fun K8 hK8 wK8 => ?_
  refine AW.split (decide (p2 < s1.length)) (fun hg1 => ?_) (fun hg1 => ?_)
  ·have h5 := ite_t hg1 h4
   refine aR (AOps.step rfl rfl rfl (ms_next_t rfl iL rfl (fun _ => hg1)) (sQ rfl (sp_extract (a := rB (true)) rfl iL rfl) (aZ (hK8 _ ?_))))
   refine aS fun K9 hK9 wK9 => ?_
   refine aC rfl (fun hc2 => ?_) (fun hc2 => by cases hc2)
   refine AW.skip ?_
   refine hK9 _ ?_
   refine AW.block (aS fun K10 hK10 wK10 => (aR (sQ rfl (sp_extract (a := .r (.int .i32 ((runeAt s1 p2).1 : Int))) rfl iL rfl) (sA rfl rfl (aZ (hK10 _ ?_))))))
   refine aS fun K11 hK11 wK11 => (aR (sM rfl rfl (sQ rfl (sp_eql rfl iL iL) (sM rfl rfl (sV rfl rfl rfl (sp_move rfl iL) (sV rfl rfl rfl (sp_convert_int rfl underlying21 underlying3 (iR rfl)) (ob1k h5 fun r2 er2 h6 => ?_)))))))
   refine AOps.stepW (.one rfl rfl rfl) rfl rfl (sp_call (r := rB (r2)) (caps := []) (bs := [rI ((IntKind.i64.wrap ((runeAt s1 p2).1 : Int)))]) rfl iL rfl ⟨⟨_, (iR rfl), .d rfl⟩, trivial⟩ (fun hg => w_ref_Char (gdt er2 hg)) rfl) ?_
   refine sV rfl rfl rfl (sp_not rfl (iR rfl)) (sQ rfl (sp_or rfl iL (iR rfl)) (aZ (hK11 _ ?_)))
   refine aC rfl (fun hc3 => ?_) (fun hc3 => ?_)
   ·have h7 := ite_t hc3 h6
    refine aS fun K12 hK12 wK12 => ?_
    refine AW.weak (s' := ⟨[], [], (i3 0), 21⟩) (by exact Weak.cv trivial trivial nL) ?_
    refine aR (sA rfl rfl (aZ (hK12 _ ?_)))
    refine AW.ret ?_
    exact retf1 (P := prog) (fun (r : Bool) => rB (r)) (he1 _ (hx1 _ (Option.some.inj h7).symm)) iL (.t (.d rfl))
   ·have h7 := ite_f hc3 h6
    refine AW.skip ?_
    exact NextQ1.mk h7 (vec [(i3 0)]) ((by exact Weak.cv ⟨jL, trivial⟩ ⟨.inl rfl, trivial⟩ nL))
  ·have h5 := ite_f hg1 h4
   refine aR (AOps.step rfl rfl rfl (ms_next_f rfl iL rfl (fun _ => hg1)) (sQ rfl (sp_extract (a := rB (false)) rfl iL rfl) (aZ (hK8 _ ?_))))
   refine aS fun K13 hK13 wK13 => ?_
   refine aC rfl (fun hc4 => by cases hc4) (fun hc4 => ?_)
   refine AW.exit ?_
   exact wK5 _ _ ((by exact Weak.cv trivial trivial nL)) (J1 _ (vec [(i3 0)]) (hx1 _ (Option.some.inj h5).symm))
theorem w_ref_EmptyCell {c1 : GCell} {r : Bool} (h : ref_EmptyCell c1 = some r) : ARO prog 156 [.agg [rI (c1.Row), rI (c1.Col), .r (.str c1.Text), rI (c1.Ref), qa c1.Attrs]] (rB (r)) := by
 unfold ref_EmptyCell at h
 refine ARO.mkF func156 rfl rfl ntmps156 rfl (Nat.le_of_ble_eq_true rfl) fun n0 => ?_
 refine aS fun K1 hK1 wK1 => (aR (AOps.step rfl rfl rfl (ms_box (cs := [rI (c1.Row), rI (c1.Col), .r (.str c1.Text), rI (c1.Ref), qa c1.Attrs]) 1 rfl iL rfl rfl) (sA rfl rfl (aZ (hK1 _ ?_)))))
 refine aS fun K2 hK2 wK2 => (aR (sQ rfl (fB rfl tf_178_2 iL fR rfl) (sQ rfl (ms_load_box (a := .r (.str c1.Text)) rfl ts_9 iL rfl rfl) (sQ rfl (sp_seql rfl iL iL) (sM rfl rfl (sV rfl rfl rfl (fB rfl tf_178_3 iL fR rfl) (sV rfl rfl rfl (ms_load_box (a := rI (c1.Ref)) rfl ts_3 (iR rfl) rfl rfl) (sV rfl rfl rfl (sp_eql rfl (iR rfl) iL) (sQ rfl (sp_and rfl iL (iR rfl)) (sM rfl rfl (sV rfl rfl rfl (fB rfl tf_178_4 iL fR rfl) (sV rfl rfl rfl (ms_load_box (a := qa c1.Attrs) rfl ts_26 (iR rfl) rfl rfl) (sV rfl rfl rfl (ms_len rfl tg_26.slice (iR rfl)) (sV rfl rfl rfl (sp_eql rfl (iR rfl) iL) (sQ rfl (sp_and rfl iL (iR rfl)) (sA rfl rfl (aZ (hK2 _ ?_))))))))))))))))))
 refine AW.ret ?_
 exact retf1 (P := prog) (fun (r : Bool) => rB (r)) h iL (.t (.d rfl))
end Go.Proofs.YthoepnnckmfipaaGreatDoor.Al
