/- Walks, as printed. -/
import Derived.Test.YtfkolgjapajekaaDoorWlk60x2
import Derived.Test.YtfkolgjapajekaaDoorProg
set_option linter.unusedVariables false
namespace Go.Proofs.YtfkolgjapajekaaDoor.Al
open Go.Proofs
set_option maxHeartbeats 4000000 in
set_option maxRecDepth 20000 in
theorem w_slices_EqualFunc_api_Node_api_Node_api_Node_api_Node__SameNode {s11 : List GNode} {s21 : List GNode} {r : Bool} (h : slices_EqualFunc_api_Node_api_Node_api_Node_api_Node__SameNode s11 s21 = some r) : ARO Tryd.prog 40 [.r (.sl (s11.map GNode.row)), .r (.sl (s21.map GNode.row)), .fn 41 []] (.r (.bool r)) := by
  unfold slices_EqualFunc_api_Node_api_Node_api_Node_api_Node__SameNode at h
  refine ARO.mkF Tryd.func40 rfl rfl Tryd.ntmps40 rfl (Nat.le_of_ble_eq_true rfl) fun n0 => ?_
  refine AW.seq_w fun K1 hK1 wK1 => ?_
  refine AW.region ?_
  refine AOps.step rfl rfl rfl (OpQ.spec (sp_assign rfl (.inl rfl)) _) ?_
  refine AOps.nil ?_
  refine hK1 _ ?_
  refine AW.seq_w fun K2 hK2 wK2 => ?_
  refine AW.seq_w fun K3 hK3 wK3 => ?_
  refine AW.region ?_
  refine AOps.step rfl rfl rfl (OpQ.spec (sp_move rfl (.inl rfl)) _) ?_
  refine AOps.step rfl rfl rfl (OpQ.spec (ms_len rfl tg_22.slice (.inl rfl)) _) ?_
  refine AOps.step rfl rfl rfl (OpQ.spec (sp_move rfl (.inl rfl)) _) ?_
  refine AOps.step rfl rfl rfl (OpQ.spec (ms_len rfl tg_22.slice (.inl rfl)) _) ?_
  refine AOps.step rfl rfl rfl (OpQ.spec (sp_neq rfl (.inl rfl) (.inl rfl)) _) ?_
  refine AOps.nil ?_
  refine hK3 _ ?_
  refine AW.cond rfl (fun hc1 => ?_) (fun hc1 => ?_)
  · have h1 := ite_t hc1 h
    refine AW.seq_w fun K4 hK4 wK4 => ?_
    refine AW.weak (s' := ⟨[], [], n0, 32⟩) (by exact Weak.cv trivial trivial (Nat.le_refl _)) ?_
    refine AW.region ?_
    refine AOps.step rfl rfl rfl (OpQ.spec (sp_assign rfl (.inl rfl)) _) ?_
    refine AOps.nil ?_
    refine hK4 _ ?_
    refine AW.ret ?_
    exact retf1 (P := Tryd.prog) (fun (r : Bool) => .r (.bool r)) h1 (.inl rfl) (.t (.d rfl))
  · have h1 := ite_f hc1 h
    refine AW.skip ?_
    refine hK2 _ ?_
    refine AW.seq_w fun K5 hK5 wK5 => ?_
    refine AW.seq_w fun K6 hK6 wK6 => ?_
    refine AW.region ?_
    refine AOps.step rfl rfl rfl (OpQ.spec (sp_move rfl (.inl rfl)) _) ?_
    refine AOps.step rfl rfl rfl (OpQ.spec (ms_len rfl tg_22.slice (.inl rfl)) _) ?_
    refine AOps.step rfl rfl rfl (OpQ.spec (sp_move rfl (.inl rfl)) _) ?_
    refine AOps.nil ?_
    refine hK6 _ ?_
    refine AW.block ?_
    refine jc1k h1 fun o1 hit1 hk1 he1 => ?_
    have J1 : ∀ (u2 : Unit) (i5 : Nat → Nat), o1 = .nrm u2 → K5 ⟨[], [], (i5 0), 32⟩ := by
      intro u2 i5 e
      have h2 := hk1 _ e
      refine hK5 _ ?_
      refine AW.seq_w fun K7 hK7 wK7 => ?_
      refine AW.region ?_
      refine AOps.step rfl rfl rfl (OpQ.spec (sp_assign rfl (.inl rfl)) _) ?_
      refine AOps.nil ?_
      refine hK7 _ ?_
      refine AW.ret ?_
      exact retf1 (P := Tryd.prog) (fun (r : Bool) => .r (.bool r)) h2 (.inl rfl) (.t (.d rfl))
    refine AW.iter1 (fun (x2 : Int) i3 => ⟨[(1, .r (.sl (s21.map GNode.row))), (2, .fn 41 []), (15, .r (.sl (s11.map GNode.row))), (16, .r (.int .i64 (s11.length : Int))), (17, .r (.int .i64 x2))], [], (i3 0), 32⟩) (vec [n0]) hit1 ((by exact Weak.cv ⟨.inl (.inl rfl), .inl (.inl rfl), .inl (.inl rfl), .inl (.inl rfl), .inl (.inl rfl), trivial⟩ trivial (Nat.le_refl _))) ?_
    intro x2 i3 v1 hv1 hx1
    have h3 : slices_EqualFunc_api_Node_api_Node_api_Node_api_Node__SameNode_L1 s11 s21 x2 = some v1 := hv1; unfold slices_EqualFunc_api_Node_api_Node_api_Node_api_Node__SameNode_L1 at h3
    refine AW.seq_w fun K8 hK8 wK8 => ?_
    refine AW.region ?_
    refine AOps.step rfl rfl rfl (OpQ.spec (sp_lss rfl (.inl rfl) (.inl rfl)) _) ?_
    refine AOps.nil ?_
    refine hK8 _ ?_
    refine AW.seq_w fun K9 hK9 wK9 => ?_
    refine AW.cond rfl (fun hc2 => ?_) (fun hc2 => ?_)
    · have h4 := ite_t hc2 h3
      refine AW.skip ?_
      refine hK9 _ ?_
      refine AW.seq_w fun K10 hK10 wK10 => ?_
      refine AW.block ?_
      refine AW.seq_w fun K11 hK11 wK11 => ?_
      refine AW.region ?_
      refine AOps.step rfl rfl rfl (OpQ.spec (sp_move rfl (.inl rfl)) _) ?_
      refine ob1k h4 fun x4 ex4 h5 => ?_
      refine AOps.step rfl rfl rfl (OpQ.spec (ms_idx rfl tg_22.slice (.inl rfl) (.inl rfl) (fun _ => rfl) (fun _ => ex4)) _) ?_
      refine AOps.step rfl rfl rfl (OpQ.spec (ms_loadA (cs := [.r (.int .i64 x4.ID), .r (.int .i64 x4.Kind), .r (.sl (x4.Attrs.map GAttr.row)), .r (.sl (x4.Flow.map GElem.row)), .r (.int .i64 x4.Grid.Rows), .r (.int .i64 x4.Grid.Cols), .r (.sl (x4.Grid.Cells.map GCell.row)), .r (.sl (x4.Grid.Merges.map GRect.row)), .r (.sl (x4.Draw.map GDrawOp.row))]) rfl ta_35 (.inl rfl) rfl rfl) _) ?_
      refine AOps.step rfl rfl rfl (ms_alloc (cs := [.r (.int .i64 0), .r (.int .i64 0), .cst (.slice none 0 0), .cst (.slice none 0 0), .r (.int .i64 0), .r (.int .i64 0), .cst (.slice none 0 0), .cst (.slice none 0 0), .cst (.slice none 0 0)]) 8 rfl t0_35 rfl rfl) ?_
      refine AOps.step rfl rfl rfl (OpQ.spec (sp_assign rfl (.inl rfl)) _) ?_
      refine AOps.step0 rfl rfl (ms_store_box (ds := [.r (.int .i64 x4.ID), .r (.int .i64 x4.Kind), .r (.sl (x4.Attrs.map GAttr.row)), .r (.sl (x4.Flow.map GElem.row)), .r (.int .i64 x4.Grid.Rows), .r (.int .i64 x4.Grid.Cols), .r (.sl (x4.Grid.Cells.map GCell.row)), .r (.sl (x4.Grid.Merges.map GRect.row)), .r (.sl (x4.Draw.map GDrawOp.row))]) rfl tz_35 (.inl rfl) rfl (.inl rfl) rfl rfl rfl rfl) ?_
      refine AOps.nil ?_
      refine hK11 _ ?_
      refine AW.seq_w fun K12 hK12 wK12 => ?_
      refine AW.region ?_
      refine AOps.step rfl rfl rfl (OpQ.spec (sp_move rfl (.inl rfl)) _) ?_
      refine AOps.step rfl rfl rfl (OpQ.spec (sp_move rfl (.inl rfl)) _) ?_
      refine ob1k h5 fun x5 ex5 h6 => ?_
      refine AOps.step rfl rfl rfl (OpQ.spec (ms_idx rfl tg_22.slice (.inl rfl) (.inl rfl) (fun _ => rfl) (fun _ => ex5)) _) ?_
      refine AOps.step rfl rfl rfl (OpQ.spec (ms_loadA (cs := [.r (.int .i64 x5.ID), .r (.int .i64 x5.Kind), .r (.sl (x5.Attrs.map GAttr.row)), .r (.sl (x5.Flow.map GElem.row)), .r (.int .i64 x5.Grid.Rows), .r (.int .i64 x5.Grid.Cols), .r (.sl (x5.Grid.Cells.map GCell.row)), .r (.sl (x5.Grid.Merges.map GRect.row)), .r (.sl (x5.Draw.map GDrawOp.row))]) rfl ta_35 (.inl rfl) rfl rfl) _) ?_
      refine AOps.step rfl rfl rfl (ms_alloc (cs := [.r (.int .i64 0), .r (.int .i64 0), .cst (.slice none 0 0), .cst (.slice none 0 0), .r (.int .i64 0), .r (.int .i64 0), .cst (.slice none 0 0), .cst (.slice none 0 0), .cst (.slice none 0 0)]) 9 rfl t0_35 rfl rfl) ?_
      refine AOps.step0 rfl rfl (ms_store_box (ds := [.r (.int .i64 x5.ID), .r (.int .i64 x5.Kind), .r (.sl (x5.Attrs.map GAttr.row)), .r (.sl (x5.Flow.map GElem.row)), .r (.int .i64 x5.Grid.Rows), .r (.int .i64 x5.Grid.Cols), .r (.sl (x5.Grid.Cells.map GCell.row)), .r (.sl (x5.Grid.Merges.map GRect.row)), .r (.sl (x5.Draw.map GDrawOp.row))]) rfl tz_35 (.inl rfl) rfl (.inl rfl) rfl rfl rfl rfl) ?_
      refine AOps.nil ?_
      refine hK12 _ ?_
      refine AW.seq_w fun K13 hK13 wK13 => ?_
      refine AW.weak (s' := ⟨[(1, .r (.sl (s21.map GNode.row))), (2, .fn 41 []), (8, .ptr 8 (i3 0) 0 0), (9, .ptr 9 ((i3 0) + 1) 0 0), (15, .r (.sl (s11.map GNode.row))), (16, .r (.int .i64 (s11.length : Int))), (17, .r (.int .i64 x2))], [(8, some (.box (i3 0) 35 [.r (.int .i64 x4.ID), .r (.int .i64 x4.Kind), .r (.sl (x4.Attrs.map GAttr.row)), .r (.sl (x4.Flow.map GElem.row)), .r (.int .i64 x4.Grid.Rows), .r (.int .i64 x4.Grid.Cols), .r (.sl (x4.Grid.Cells.map GCell.row)), .r (.sl (x4.Grid.Merges.map GRect.row)), .r (.sl (x4.Draw.map GDrawOp.row))])), (9, some (.box ((i3 0) + 1) 35 [.r (.int .i64 x5.ID), .r (.int .i64 x5.Kind), .r (.sl (x5.Attrs.map GAttr.row)), .r (.sl (x5.Flow.map GElem.row)), .r (.int .i64 x5.Grid.Rows), .r (.int .i64 x5.Grid.Cols), .r (.sl (x5.Grid.Cells.map GCell.row)), .r (.sl (x5.Grid.Merges.map GRect.row)), .r (.sl (x5.Draw.map GDrawOp.row))]))], ((i3 0) + 2), 32⟩) (by exact Weak.cv ⟨.inl (.inl rfl), .inl (.inl rfl), .inl (.inl rfl), .inl (.inl rfl), .inl (.inl rfl), .inl (.inl rfl), .inl (.inl rfl), trivial⟩ ⟨.inl rfl, .inl rfl, trivial⟩ (Nat.le_refl _)) ?_
      refine AW.region ?_
      refine AOps.step rfl rfl rfl (OpQ.spec (sp_move rfl (.inl rfl)) _) ?_
      refine AOps.step rfl rfl rfl (OpQ.spec (ms_loadA_box rfl ta_35 (.inl rfl) rfl rfl) _) ?_
      refine AOps.step rfl rfl rfl (OpQ.spec (ms_loadA_box rfl ta_35 (.inl rfl) rfl rfl) _) ?_
      refine ob1k h6 fun r1 er1 h7 => ?_
      refine AOps.step rfl rfl rfl (sp_call (r := .r (.bool r1)) (caps := []) (bs := [.agg [.r (.int .i64 x4.ID), .r (.int .i64 x4.Kind), .r (.sl (x4.Attrs.map GAttr.row)), .r (.sl (x4.Flow.map GElem.row)), .r (.int .i64 x4.Grid.Rows), .r (.int .i64 x4.Grid.Cols), .r (.sl (x4.Grid.Cells.map GCell.row)), .r (.sl (x4.Grid.Merges.map GRect.row)), .r (.sl (x4.Draw.map GDrawOp.row))], .agg [.r (.int .i64 x5.ID), .r (.int .i64 x5.Kind), .r (.sl (x5.Attrs.map GAttr.row)), .r (.sl (x5.Flow.map GElem.row)), .r (.int .i64 x5.Grid.Rows), .r (.int .i64 x5.Grid.Cols), .r (.sl (x5.Grid.Cells.map GCell.row)), .r (.sl (x5.Grid.Merges.map GRect.row)), .r (.sl (x5.Draw.map GDrawOp.row))]]) rfl (.inl rfl) rfl ⟨⟨_, (.inl rfl), .g (cs := [.int .i64 x4.ID, .int .i64 x4.Kind, .sl (x4.Attrs.map GAttr.row), .sl (x4.Flow.map GElem.row), .int .i64 x4.Grid.Rows, .int .i64 x4.Grid.Cols, .sl (x4.Grid.Cells.map GCell.row), .sl (x4.Grid.Merges.map GRect.row), .sl (x4.Draw.map GDrawOp.row)]) rfl rfl⟩, ⟨_, (.inl rfl), .g (cs := [.int .i64 x5.ID, .int .i64 x5.Kind, .sl (x5.Attrs.map GAttr.row), .sl (x5.Flow.map GElem.row), .int .i64 x5.Grid.Rows, .int .i64 x5.Grid.Cols, .sl (x5.Grid.Cells.map GCell.row), .sl (x5.Grid.Merges.map GRect.row), .sl (x5.Draw.map GDrawOp.row)]) rfl rfl⟩, trivial⟩ (fun _ => w_doc_SameNode (er1)) rfl) ?_
      refine AOps.step rfl rfl rfl (OpQ.spec (sp_not rfl (.inl rfl)) _) ?_
      refine AOps.nil ?_
      refine hK13 _ ?_
      refine AW.cond rfl (fun hc3 => ?_) (fun hc3 => ?_)
      · have h8 := ite_t hc3 h7
        refine AW.seq_w fun K14 hK14 wK14 => ?_
        refine AW.weak (s' := ⟨[], [], ((i3 0) + 2), 32⟩) (by exact Weak.cv trivial trivial (Nat.le_refl _)) ?_
        refine AW.region ?_
        refine AOps.step rfl rfl rfl (OpQ.spec (sp_assign rfl (.inl rfl)) _) ?_
        refine AOps.nil ?_
        refine hK14 _ ?_
        refine AW.ret ?_
        exact retf1 (P := Tryd.prog) (fun (r : Bool) => .r (.bool r)) (he1 _ (hx1 _ (Option.some.inj h8).symm)) (.inl rfl) (.t (.d rfl))
      · have h8 := ite_f hc3 h7
        refine AW.skip ?_
        refine hK10 _ ?_
        refine AW.region ?_
        refine ob1k h8 fun x6 ex6 h9 => ?_
        refine AOps.step rfl rfl rfl (OpQ.spec (ms_add rfl (.inl rfl) (.inl rfl) (fun _ => ex6)) _) ?_
        refine AOps.step rfl rfl rfl (OpQ.spec (sp_move rfl (.inl rfl)) _) ?_
        refine AOps.nil ?_
        exact NextQ1.mk h9 (vec [((i3 0) + 2)]) ((by exact Weak.cv ⟨.inl (.inl rfl), .inl (.inl rfl), .inl (.inl rfl), .inl (.inl rfl), .inl (.inl rfl), trivial⟩ trivial (Nat.le_refl _)))
    · have h4 := ite_f hc2 h3
      refine AW.exit ?_
      exact wK5 _ _ ((by exact Weak.cv trivial trivial (Nat.le_refl _))) (J1 _ (vec [(i3 0)]) (hx1 _ (Option.some.inj h4).symm))
set_option maxHeartbeats 4000000 in
set_option maxRecDepth 20000 in
theorem w_doc_Same {a1 : GDoc} {b1 : GDoc} {r : Bool} (h : doc_Same a1 b1 = some r) : ARO Tryd.prog 9 [.agg [.r (.sl (a1.Nodes.map GNode.row))], .agg [.r (.sl (b1.Nodes.map GNode.row))]] (.r (.bool r)) := by
  unfold doc_Same at h
  refine ARO.mkF Tryd.func9 rfl rfl Tryd.ntmps9 rfl (Nat.le_of_ble_eq_true rfl) fun n0 => ?_
  refine AW.seq_w fun K1 hK1 wK1 => ?_
  refine AW.region ?_
  refine AOps.step rfl rfl rfl (ms_box (cs := [.r (.sl (a1.Nodes.map GNode.row))]) 2 rfl (.inl rfl) rfl rfl) ?_
  refine AOps.step rfl rfl rfl (ms_box (cs := [.r (.sl (b1.Nodes.map GNode.row))]) 3 rfl (.inl rfl) rfl rfl) ?_
  refine AOps.step rfl rfl rfl (OpQ.spec (sp_assign rfl (.inl rfl)) _) ?_
  refine AOps.nil ?_
  refine hK1 _ ?_
  refine AW.seq_w fun K2 hK2 wK2 => ?_
  refine AW.region ?_
  refine AOps.step rfl rfl rfl (OpQ.spec (sp_fieldAddr_own (ob := .box _ _ _) rfl tf_24_0 (.inl rfl) (fun _ => rfl) rfl) _) ?_
  refine AOps.step rfl rfl rfl (OpQ.spec (ms_load_box (a := .r (.sl (a1.Nodes.map GNode.row))) rfl ts_22 (.inl rfl) rfl rfl) _) ?_
  refine AOps.step rfl rfl rfl (OpQ.spec (sp_fieldAddr_own (ob := .box _ _ _) rfl tf_24_0 (.inl rfl) (fun _ => rfl) rfl) _) ?_
  refine AOps.step rfl rfl rfl (OpQ.spec (ms_load_box (a := .r (.sl (b1.Nodes.map GNode.row))) rfl ts_22 (.inl rfl) rfl rfl) _) ?_
  refine ob1k h fun r1 er1 h1 => ?_
  refine AOps.step rfl rfl rfl (sp_call (r := .r (.bool r1)) (caps := []) (bs := [.r (.sl (a1.Nodes.map GNode.row)), .r (.sl (b1.Nodes.map GNode.row)), .fn 41 []]) rfl (.inl rfl) rfl ⟨⟨_, (.inl rfl), .d rfl⟩, ⟨_, (.inl rfl), .d rfl⟩, ⟨_, (.inl rfl), .one (.closed (.fn 41 []) rfl)⟩, trivial⟩ (fun _ => w_slices_EqualFunc_api_Node_api_Node_api_Node_api_Node__SameNode (er1)) rfl) ?_
  refine AOps.step rfl rfl rfl (OpQ.spec (sp_assign rfl (.inl rfl)) _) ?_
  refine AOps.nil ?_
  refine hK2 _ ?_
  refine AW.ret ?_
  exact retf1 (P := Tryd.prog) (fun (r : Bool) => .r (.bool r)) h1 (.inl rfl) (.t (.d rfl))
set_option maxHeartbeats 4000000 in
set_option maxRecDepth 20000 in
theorem w_flow_Copy {f1 : List GElem} {r : (List GElem)} (h : flow_Copy f1 = some r) : ARO Tryd.prog 101 [.r (.sl (f1.map GElem.row))] (.r (.sl (r.map GElem.row))) := by
  unfold flow_Copy at h
  refine ARO.mkF Tryd.func101 rfl rfl Tryd.ntmps101 rfl (Nat.le_of_ble_eq_true rfl) fun n0 => ?_
  refine AW.seq_w fun K1 hK1 wK1 => ?_
  refine AW.region ?_
  refine AOps.step rfl rfl rfl (OpQ.spec (sp_assign rfl (.inl rfl)) _) ?_
  refine AOps.nil ?_
  refine hK1 _ ?_
  refine AW.seq_w fun K2 hK2 wK2 => ?_
  refine AW.region ?_
  refine AOps.step rfl rfl rfl (OpQ.spec (sp_move rfl (.inl rfl)) _) ?_
  refine AOps.step rfl rfl rfl (OpQ.spec (ms_len rfl tg_28.slice (.inl rfl)) _) ?_
  refine ob1k h fun out1 eout1 h1 => ?_
  refine AOps.step rfl rfl rfl (ms_mk 8 rfl tg_28 (f := GElem.row) (z0 := (GElem.mk 0 0 [])) tr_70 (.inl rfl) (.inl rfl) eout1) ?_
  refine AOps.step rfl rfl rfl (OpQ.spec (sp_assign rfl (.inl rfl)) _) ?_
  refine AOps.nil ?_
  refine hK2 _ ?_
  refine AW.seq_w fun K3 hK3 wK3 => ?_
  refine AW.seq_w fun K4 hK4 wK4 => ?_
  refine AW.region ?_
  refine AOps.step rfl rfl rfl (OpQ.spec (sp_move rfl (.inl rfl)) _) ?_
  refine AOps.step rfl rfl rfl (OpQ.spec (ms_len rfl tg_28.slice (.inl rfl)) _) ?_
  refine AOps.step rfl rfl rfl (OpQ.spec (sp_move rfl (.inl rfl)) _) ?_
  refine AOps.nil ?_
  refine hK4 _ ?_
  refine AW.block ?_
  refine jb1k h1 fun o1 hit1 hk1 => ?_
  have J1 : ∀ (out5 : List GElem) (i5 : Nat → Nat), o1 = out5 → K3 ⟨[(3, .own 8 (i5 0))], [(8, some (.arr (i5 0) 70 3 (out5.map GElem.row)))], (i5 1), 29⟩ := by
    intro out5 i5 e
    have h2 := hk1 _ e
    refine hK3 _ ?_
    refine AW.seq_w fun K5 hK5 wK5 => ?_
    refine AW.region ?_
    refine AOps.step rfl rfl rfl (OpQ.spec (sp_move rfl (.inl rfl)) _) ?_
    refine AOps.step rfl rfl rfl (OpQ.spec (sp_assign rfl (.inl rfl)) _) ?_
    refine AOps.nil ?_
    refine hK5 _ ?_
    refine AW.ret ?_
    exact retf1 (P := Tryd.prog) (fun (r : (List GElem)) => .r (.sl (r.map GElem.row))) h2 (.inl rfl) (.t (.one (.own rfl)))
  refine AW.iter2 (fun (x2 : Int) (out3 : List GElem) i3 => ⟨[(3, .own 8 (i3 0)), (9, .r (.sl (f1.map GElem.row))), (10, .r (.int .i64 (f1.length : Int))), (11, .r (.int .i64 x2))], [(8, some (.arr (i3 0) 70 3 (out3.map GElem.row)))], (i3 1), 29⟩) (vec [n0, (n0 + 1)]) hit1 ((by exact Weak.cv ⟨.inl (.inl rfl), .inl (.inl rfl), .inl (.inl rfl), .inl (.inl rfl), trivial⟩ ⟨.inl rfl, trivial⟩ (Nat.le_refl _))) ?_
  intro x2 out3 i3 v1 hv1 hx1
  have h3 : flow_Copy_L1 f1 x2 out3 = some v1 := hv1; unfold flow_Copy_L1 at h3
  refine AW.seq_w fun K6 hK6 wK6 => ?_
  refine AW.region ?_
  refine AOps.step rfl rfl rfl (OpQ.spec (sp_lss rfl (.inl rfl) (.inl rfl)) _) ?_
  refine AOps.nil ?_
  refine hK6 _ ?_
  refine AW.seq_w fun K7 hK7 wK7 => ?_
  refine AW.cond rfl (fun hc1 => ?_) (fun hc1 => ?_)
  · have h4 := ite_t hc1 h3
    refine AW.skip ?_
    refine hK7 _ ?_
    refine AW.seq_w fun K8 hK8 wK8 => ?_
    refine AW.block ?_
    refine AW.seq_w fun K9 hK9 wK9 => ?_
    refine AW.region ?_
    refine AOps.step rfl rfl rfl (OpQ.spec (sp_move rfl (.inl rfl)) _) ?_
    refine ob1k h4 fun x4 ex4 h5 => ?_
    refine AOps.step rfl rfl rfl (OpQ.spec (ms_idx rfl tg_28.slice (.inl rfl) (.inl rfl) (fun _ => rfl) (fun _ => ex4)) _) ?_
    refine AOps.step rfl rfl rfl (OpQ.spec (ms_loadA (cs := [.r (.int .i64 x4.Char), .r (.int .i64 x4.Ref), .r (.sl (x4.Attrs.map GAttr.row))]) rfl ta_70 (.inl rfl) rfl rfl) _) ?_
    refine AOps.step rfl rfl rfl (ms_alloc (cs := [.r (.int .i64 0), .r (.int .i64 0), .cst (.slice none 0 0)]) 5 rfl t0_70 rfl rfl) ?_
    refine AOps.step rfl rfl rfl (OpQ.spec (sp_assign rfl (.inl rfl)) _) ?_
    refine AOps.step0 rfl rfl (ms_store_box (ds := [.r (.int .i64 x4.Char), .r (.int .i64 x4.Ref), .r (.sl (x4.Attrs.map GAttr.row))]) rfl tz_70 (.inl rfl) rfl (.inl rfl) rfl rfl rfl rfl) ?_
    refine AOps.nil ?_
    refine hK9 _ ?_
    refine ob1k h5 fun l1 el1 h6 => ?_
    refine AW.regionP 10 [⟨some 16, (fun _ => .own 8 (i3 0)), none, []⟩, ⟨some 17, (fun _ => .r (.int .i64 x2)), none, []⟩, ⟨some 18, (fun _ => .ptr 5 (i3 1) 0 0), none, []⟩, ⟨some 19, (fun _ => .r (.int .i64 x4.Char)), none, []⟩, ⟨some 20, (fun _ => .ptr 5 (i3 1) 0 1), none, []⟩, ⟨some 21, (fun _ => .r (.int .i64 x4.Ref)), none, []⟩, ⟨some 22, (fun _ => .ptr 5 (i3 1) 0 2), none, []⟩, ⟨some 23, (fun _ => .r (.sl (x4.Attrs.map GAttr.row))), none, []⟩, ⟨some 24, (fun G1 => .own 24 (G1 8)), some (24, (fun G1 => some (.arr (G1 8) 122 2 (l1.map GAttr.row)))), [8]⟩, ⟨some 25, (fun G1 => .agg [.r (.int .i64 x4.Char), .r (.int .i64 x4.Ref), .own 24 (G1 8)]), none, [8]⟩] hmix (by kernel_rfl) (by exact ⟨fun _ _ h => ⟨rfl, fun _ _ e => by cases e⟩, fun _ _ h => ⟨rfl, fun _ _ e => by cases e⟩, fun _ _ h => ⟨rfl, fun _ _ e => by cases e⟩, fun _ _ h => ⟨rfl, fun _ _ e => by cases e⟩, fun _ _ h => ⟨rfl, fun _ _ e => by cases e⟩, fun _ _ h => ⟨rfl, fun _ _ e => by cases e⟩, fun _ _ h => ⟨rfl, fun _ _ e => by cases e⟩, fun _ _ h => ⟨rfl, fun _ _ e => by cases e⟩, fun _ _ h => ⟨by simp only [h 8 rfl], fun _ _ e => by cases e; simp only [h 8 rfl]⟩, fun _ _ h => ⟨by simp only [h 8 rfl], fun _ _ e => by cases e⟩, trivial⟩) rfl (by exact ⟨Ob.quiet (n1 := fun n => n) rfl rfl (by intro d h; cases h; rfl) rfl (fun _ => [(3, .own 8 (i3 0))]) (fun _ => [(8, some (.arr (i3 0) 70 3 (out3.map GElem.row)))]) (fun D G1 hr => ⟨inE_base rfl rfl, trivial⟩) (fun D G1 hr => ⟨inH_base rfl rfl, trivial⟩) (fun _ _ => rfl) (fun G1 e h' n => OpQ.spec (v := .own 8 (i3 0)) (sp_move rfl (.inl rfl)) _),
        Ob.quiet (n1 := fun n => n) rfl rfl (by intro d h; cases h; rfl) rfl (fun _ => [(4, .r (.int .i64 x2))]) (fun _ => []) (fun D G1 hr => ⟨inE_base rfl rfl, trivial⟩) (fun D G1 hr => trivial) (fun _ _ => rfl) (fun G1 e h' n => OpQ.spec (v := .r (.int .i64 x2)) (sp_move rfl (.inl rfl)) _),
        Ob.quiet (n1 := fun n => n) rfl rfl (by intro d h; cases h; rfl) rfl (fun _ => [(5, .ptr 5 (i3 1) 0 0)]) (fun _ => [(5, some (.box (i3 1) 70 [.r (.int .i64 x4.Char), .r (.int .i64 x4.Ref), .r (.sl (x4.Attrs.map GAttr.row))]))]) (fun D G1 hr => ⟨inE_base rfl rfl, trivial⟩) (fun D G1 hr => ⟨inH_base rfl rfl, trivial⟩) (fun _ _ => rfl) (fun G1 e h' n => OpQ.spec (v := .ptr 5 (i3 1) 0 0) (sp_fieldAddr_own (ob := .box _ _ _) rfl tf_70_0 (.inl rfl) (fun _ => rfl) rfl) _),
        Ob.quiet (n1 := fun n => n) rfl rfl (by intro d h; cases h; rfl) rfl (fun _ => [(18, .ptr 5 (i3 1) 0 0)]) (fun _ => [(5, some (.box (i3 1) 70 [.r (.int .i64 x4.Char), .r (.int .i64 x4.Ref), .r (.sl (x4.Attrs.map GAttr.row))]))]) (fun D G1 hr => ⟨inE_op hr 2 rfl rfl (by kernel_rfl) rfl rfl, trivial⟩) (fun D G1 hr => ⟨inH_base rfl rfl, trivial⟩) (fun _ _ => rfl) (fun G1 e h' n => OpQ.spec (v := .r (.int .i64 x4.Char)) (ms_load_box (a := .r (.int .i64 x4.Char)) rfl ts_3 (.inl rfl) rfl rfl) _),
        Ob.quiet (n1 := fun n => n) rfl rfl (by intro d h; cases h; rfl) rfl (fun _ => [(5, .ptr 5 (i3 1) 0 0)]) (fun _ => [(5, some (.box (i3 1) 70 [.r (.int .i64 x4.Char), .r (.int .i64 x4.Ref), .r (.sl (x4.Attrs.map GAttr.row))]))]) (fun D G1 hr => ⟨inE_base rfl rfl, trivial⟩) (fun D G1 hr => ⟨inH_base rfl rfl, trivial⟩) (fun _ _ => rfl) (fun G1 e h' n => OpQ.spec (v := .ptr 5 (i3 1) 0 1) (sp_fieldAddr_own (ob := .box _ _ _) rfl tf_70_1 (.inl rfl) (fun _ => rfl) rfl) _),
        Ob.quiet (n1 := fun n => n) rfl rfl (by intro d h; cases h; rfl) rfl (fun _ => [(20, .ptr 5 (i3 1) 0 1)]) (fun _ => [(5, some (.box (i3 1) 70 [.r (.int .i64 x4.Char), .r (.int .i64 x4.Ref), .r (.sl (x4.Attrs.map GAttr.row))]))]) (fun D G1 hr => ⟨inE_op hr 4 rfl rfl (by kernel_rfl) rfl rfl, trivial⟩) (fun D G1 hr => ⟨inH_base rfl rfl, trivial⟩) (fun _ _ => rfl) (fun G1 e h' n => OpQ.spec (v := .r (.int .i64 x4.Ref)) (ms_load_box (a := .r (.int .i64 x4.Ref)) rfl ts_3 (.inl rfl) rfl rfl) _),
        Ob.quiet (n1 := fun n => n) rfl rfl (by intro d h; cases h; rfl) rfl (fun _ => [(5, .ptr 5 (i3 1) 0 0)]) (fun _ => [(5, some (.box (i3 1) 70 [.r (.int .i64 x4.Char), .r (.int .i64 x4.Ref), .r (.sl (x4.Attrs.map GAttr.row))]))]) (fun D G1 hr => ⟨inE_base rfl rfl, trivial⟩) (fun D G1 hr => ⟨inH_base rfl rfl, trivial⟩) (fun _ _ => rfl) (fun G1 e h' n => OpQ.spec (v := .ptr 5 (i3 1) 0 2) (sp_fieldAddr_own (ob := .box _ _ _) rfl tf_70_2 (.inl rfl) (fun _ => rfl) rfl) _),
        Ob.quiet (n1 := fun n => n) rfl rfl (by intro d h; cases h; rfl) rfl (fun _ => [(22, .ptr 5 (i3 1) 0 2)]) (fun _ => [(5, some (.box (i3 1) 70 [.r (.int .i64 x4.Char), .r (.int .i64 x4.Ref), .r (.sl (x4.Attrs.map GAttr.row))]))]) (fun D G1 hr => ⟨inE_op hr 6 rfl rfl (by kernel_rfl) rfl rfl, trivial⟩) (fun D G1 hr => ⟨inH_base rfl rfl, trivial⟩) (fun _ _ => rfl) (fun G1 e h' n => OpQ.spec (v := .r (.sl (x4.Attrs.map GAttr.row))) (ms_load_box (a := .r (.sl (x4.Attrs.map GAttr.row))) rfl ts_27 (.inl rfl) rfl rfl) _),
        Ob.make (n1 := fun n => n + 1) rfl rfl (by intro d h; cases h; rfl) rfl (fun _ => [(23, .r (.sl (x4.Attrs.map GAttr.row)))]) (fun _ => []) (fun D G1 hr => ⟨inE_op hr 7 rfl rfl (by kernel_rfl) rfl rfl, trivial⟩) (fun D G1 hr => trivial) (fun G1 e h' n => ms_app_nil 24 (f := GAttr.row) rfl tg_27 (.inl rfl) (.inl ⟨(.inl rfl), fun _ => rfl⟩) el1),
        Ob.quiet (n1 := fun n => n) rfl rfl (by intro d h; cases h; rfl) rfl (fun G1 => [(19, .r (.int .i64 x4.Char)), (21, .r (.int .i64 x4.Ref)), (24, .own 24 (G1 8))]) (fun G1 => [(24, some (.arr (G1 8) 122 2 (l1.map GAttr.row)))]) (fun D G1 hr => ⟨inE_op hr 3 rfl rfl (by kernel_rfl) rfl rfl, inE_op hr 5 rfl rfl (by kernel_rfl) rfl rfl, inE_op hr 8 rfl rfl (by kernel_rfl) rfl rfl, trivial⟩) (fun D G1 hr => ⟨inH_op hr 8 rfl rfl (by kernel_rfl) (by kernel_rfl) rfl, trivial⟩) (fun _ _ => rfl) (fun G1 e h' n => OpQ.spec (v := .agg [.r (.int .i64 x4.Char), .r (.int .i64 x4.Ref), .own 24 (G1 8)]) (sp_build rfl tb_70 (q := [(0, _), (1, _), (2, _)]) (by exact ⟨rfl, rfl, rfl, (.inl rfl), rfl, rfl, rfl, (.inl rfl), rfl, rfl, rfl, (.inl rfl), trivial⟩) (cs := [.r (.int .i64 x4.Char), .r (.int .i64 x4.Ref), .own 24 (G1 8)]) (by rfl)) _),
        trivial⟩) fun G1 n1 => ?_
    refine AOps.weak (s' := ⟨[(3, .own 8 (i3 0)), (4, .r (.int .i64 x2)), (5, .ptr 5 (i3 1) 0 0), (9, .r (.sl (f1.map GElem.row))), (10, .r (.int .i64 (f1.length : Int))), (11, .r (.int .i64 x2)), (12, .r (.bool (decide (x2 < (f1.length : Int))))), (13, .r (.int .i64 x2)), (14, .rop (GElem.row x4) 0), (15, .agg [.r (.int .i64 x4.Char), .r (.int .i64 x4.Ref), .r (.sl (x4.Attrs.map GAttr.row))]), (16, .own 8 (i3 0)), (17, .r (.int .i64 x2)), (18, .ptr 5 (i3 1) 0 0), (19, .r (.int .i64 x4.Char)), (20, .ptr 5 (i3 1) 0 1), (21, .r (.int .i64 x4.Ref)), (22, .ptr 5 (i3 1) 0 2), (23, .r (.sl (x4.Attrs.map GAttr.row))), (24, .own 24 (G1 8)), (25, .agg [.r (.int .i64 x4.Char), .r (.int .i64 x4.Ref), .own 24 (G1 8)])], [(5, some (.box (i3 1) 70 [.r (.int .i64 x4.Char), .r (.int .i64 x4.Ref), .r (.sl (x4.Attrs.map GAttr.row))])), (8, some (.arr (i3 0) 70 3 (out3.map GElem.row))), (24, some (.arr (G1 8) 122 2 (l1.map GAttr.row)))], n1, 29⟩) (by exact Weak.cv ⟨.inl (.inl rfl), .inl (.inl rfl), .inl (.inl rfl), .inl (.inl rfl), .inl (.inl rfl), .inl (.inl rfl), .inl (.inl rfl), .inl (.inl rfl), .inl (.inl rfl), .inl (.inl rfl), .inl (.inl rfl), .inl (.inl rfl), .inl (.inl rfl), .inl (.inl rfl), .inl (.inl rfl), .inl (.inl rfl), .inl (.inl rfl), .inl (.inl rfl), .inl (.inl rfl), .inl (.inl rfl), trivial⟩ ⟨.inl rfl, .inl rfl, .inl rfl, trivial⟩ (Nat.le_refl _)) ?_
    refine ob1k h6 fun x5 ex5 h7 => ?_
    refine AOps.step rfl rfl rfl (OpQ.spec (ms_idx_own rfl tg_28.slice (.inl rfl) rfl (.inl rfl) (fun _ => ex5)) _) ?_
    refine AOps.weak (by exact Weak.frz (e' := [(3, .own 8 (i3 0)), (4, .r (.int .i64 x2)), (5, .ptr 5 (i3 1) 0 0), (9, .r (.sl (f1.map GElem.row))), (10, .r (.int .i64 (f1.length : Int))), (11, .r (.int .i64 x2)), (12, .r (.bool (decide (x2 < (f1.length : Int))))), (13, .r (.int .i64 x2)), (14, .rop (GElem.row x4) 0), (15, .agg [.r (.int .i64 x4.Char), .r (.int .i64 x4.Ref), .r (.sl (x4.Attrs.map GAttr.row))]), (16, .own 8 (i3 0)), (17, .r (.int .i64 x2)), (18, .ptr 5 (i3 1) 0 0), (19, .r (.int .i64 x4.Char)), (20, .ptr 5 (i3 1) 0 1), (21, .r (.int .i64 x4.Ref)), (22, .ptr 5 (i3 1) 0 2), (23, .r (.sl (x4.Attrs.map GAttr.row))), (24, .r (.sl (l1.map GAttr.row))), (25, .agg [.r (.int .i64 x4.Char), .r (.int .i64 x4.Ref), .r (.sl (l1.map GAttr.row))]), (26, .ptr 8 (i3 0) x2.toNat 0)]) (h' := [(5, some (.box (i3 1) 70 [.r (.int .i64 x4.Char), .r (.int .i64 x4.Ref), .r (.sl (x4.Attrs.map GAttr.row))])), (8, some (.arr (i3 0) 70 3 (out3.map GElem.row)))]) 24 rfl ⟨.inl (.inl rfl), .inl (.inl rfl), .inl (.inl rfl), .inl (.inl rfl), .inl (.inl rfl), .inl (.inl rfl), .inl (.inl rfl), .inl (.inl rfl), .inl (.inl rfl), .inl (.inl rfl), .inl (.inl rfl), .inl (.inl rfl), .inl (.inl rfl), .inl (.inl rfl), .inl (.inl rfl), .inl (.inl rfl), .inl (.inl rfl), .inl (.inl rfl), .inl (.inr (.inr ⟨rfl, rfl⟩)), .inr ⟨_, _, rfl, rfl, ⟨.inl rfl, .inl rfl, .inr (.inr ⟨rfl, rfl⟩), trivial⟩⟩, .inl (.inl rfl), trivial⟩ ⟨rfl, .inl rfl, rfl, .inl rfl, trivial⟩) ?_
    refine AOps.step0 rfl rfl (ms_storeA (v := (GElem.mk x4.Char x4.Ref l1)) rfl tz_70 (.inl rfl) rfl ex5 (.inl rfl) rfl rfl rfl rfl) ?_
    refine AOps.nil ?_
    refine hK8 _ ?_
    refine AW.weak (s' := ⟨[(3, .own 8 (i3 0)), (9, .r (.sl (f1.map GElem.row))), (10, .r (.int .i64 (f1.length : Int))), (11, .r (.int .i64 x2))], [(8, some (.arr (i3 0) 70 3 ((out3.set x2.toNat (GElem.mk x4.Char x4.Ref l1)).map GElem.row)))], n1, 29⟩) (by exact Weak.cv ⟨.inl (.inl rfl), .inl (.inl rfl), .inl (.inl rfl), .inl (.inl rfl), trivial⟩ ⟨.inl rfl, trivial⟩ (Nat.le_refl _)) ?_
    refine AW.region ?_
    refine ob1k h7 fun x6 ex6 h8 => ?_
    refine AOps.step rfl rfl rfl (OpQ.spec (ms_add rfl (.inl rfl) (.inl rfl) (fun _ => ex6)) _) ?_
    refine AOps.step rfl rfl rfl (OpQ.spec (sp_move rfl (.inl rfl)) _) ?_
    refine AOps.nil ?_
    exact NextQ2.mk h8 (vec [(i3 0), n1]) ((by exact Weak.cv ⟨.inl (.inl rfl), .inl (.inl rfl), .inl (.inl rfl), .inl (.inl rfl), trivial⟩ ⟨.inl rfl, trivial⟩ (Nat.le_refl _)))
  · have h4 := ite_f hc1 h3
    refine AW.exit ?_
    exact wK3 _ _ ((by exact Weak.cv ⟨.inl (.inl rfl), trivial⟩ ⟨.inl rfl, trivial⟩ (Nat.le_refl _))) (J1 _ (vec [(i3 0), (i3 1)]) (hx1 _ (Option.some.inj h4).symm))
set_option maxHeartbeats 4000000 in
set_option maxRecDepth 20000 in
theorem w_doc_CopyNode {n1 : GNode} {r : GNode} (h : doc_CopyNode n1 = some r) : ARO Tryd.prog 42 [.agg [.r (.int .i64 n1.ID), .r (.int .i64 n1.Kind), .r (.sl (n1.Attrs.map GAttr.row)), .r (.sl (n1.Flow.map GElem.row)), .r (.int .i64 n1.Grid.Rows), .r (.int .i64 n1.Grid.Cols), .r (.sl (n1.Grid.Cells.map GCell.row)), .r (.sl (n1.Grid.Merges.map GRect.row)), .r (.sl (n1.Draw.map GDrawOp.row))]] (.agg [.r (.int .i64 r.ID), .r (.int .i64 r.Kind), .r (.sl (r.Attrs.map GAttr.row)), .r (.sl (r.Flow.map GElem.row)), .r (.int .i64 r.Grid.Rows), .r (.int .i64 r.Grid.Cols), .r (.sl (r.Grid.Cells.map GCell.row)), .r (.sl (r.Grid.Merges.map GRect.row)), .r (.sl (r.Draw.map GDrawOp.row))]) := by
  unfold doc_CopyNode at h
  refine ARO.mkF Tryd.func42 rfl rfl Tryd.ntmps42 rfl (Nat.le_of_ble_eq_true rfl) fun n0 => ?_
  refine AW.seq_w fun K1 hK1 wK1 => ?_
  refine AW.region ?_
  refine AOps.step rfl rfl rfl (ms_box (cs := [.r (.int .i64 n1.ID), .r (.int .i64 n1.Kind), .r (.sl (n1.Attrs.map GAttr.row)), .r (.sl (n1.Flow.map GElem.row)), .r (.int .i64 n1.Grid.Rows), .r (.int .i64 n1.Grid.Cols), .r (.sl (n1.Grid.Cells.map GCell.row)), .r (.sl (n1.Grid.Merges.map GRect.row)), .r (.sl (n1.Draw.map GDrawOp.row))]) 1 rfl (.inl rfl) rfl rfl) ?_
  refine AOps.step rfl rfl rfl (ms_alloc (cs := [.r (.int .i64 0), .r (.int .i64 0), .cst (.slice none 0 0), .cst (.slice none 0 0), .r (.int .i64 0), .r (.int .i64 0), .cst (.slice none 0 0), .cst (.slice none 0 0), .cst (.slice none 0 0)]) 2 rfl t0_35 rfl rfl) ?_
  refine AOps.nil ?_
  refine hK1 _ ?_
  refine AW.seq_w fun K2 hK2 wK2 => ?_
  refine AW.region ?_
  refine AOps.step rfl rfl rfl (OpQ.spec (sp_fieldAddr_own (ob := .box _ _ _) rfl tf_35_2 (.inl rfl) (fun _ => rfl) rfl) _) ?_
  refine AOps.step rfl rfl rfl (OpQ.spec (ms_load_box (a := .r (.sl (n1.Attrs.map GAttr.row))) rfl ts_27 (.inl rfl) rfl rfl) _) ?_
  refine ob1k h fun l1 el1 h1 => ?_
  refine AOps.step rfl rfl rfl (ms_app_nil 8 (f := GAttr.row) rfl tg_27 (.inl rfl) (.inl ⟨(.inl rfl), fun _ => rfl⟩) el1) ?_
  refine AOps.step rfl rfl rfl (OpQ.spec (sp_fieldAddr_own (ob := .box _ _ _) rfl tf_35_2 (.inl rfl) (fun _ => rfl) rfl) _) ?_
  refine AOps.step0 rfl rfl (ms_store_box (ds := [.r (.int .i64 n1.ID), .r (.int .i64 n1.Kind), .own 8 (n0 + 2), .r (.sl (n1.Flow.map GElem.row)), .r (.int .i64 n1.Grid.Rows), .r (.int .i64 n1.Grid.Cols), .r (.sl (n1.Grid.Cells.map GCell.row)), .r (.sl (n1.Grid.Merges.map GRect.row)), .r (.sl (n1.Draw.map GDrawOp.row))]) rfl tz_27 (.inl rfl) rfl (.inl rfl) rfl rfl rfl rfl) ?_
  refine AOps.nil ?_
  refine hK2 _ ?_
  refine AW.seq_w fun K3 hK3 wK3 => ?_
  refine AW.region ?_
  refine AOps.step rfl rfl rfl (OpQ.spec (sp_fieldAddr_own (ob := .box _ _ _) rfl tf_35_3 (.inl rfl) (fun _ => rfl) rfl) _) ?_
  refine AOps.step rfl rfl rfl (OpQ.spec (ms_load_box (a := .r (.sl (n1.Flow.map GElem.row))) rfl ts_28 (.inl rfl) rfl rfl) _) ?_
  refine ob1k h1 fun r1 er1 h2 => ?_
  refine AOps.step rfl rfl rfl (sp_callS (r := .r (.sl (r1.map GElem.row))) (caps := []) (bs := [.r (.sl (n1.Flow.map GElem.row))]) rfl (.inl rfl) rfl ⟨.inl ⟨(.inl rfl), rfl⟩, trivial⟩ (fun _ => w_flow_Copy (er1))) ?_
  refine AOps.step rfl rfl rfl (OpQ.spec (sp_fieldAddr_own (ob := .box _ _ _) rfl tf_35_3 (.inl rfl) (fun _ => rfl) rfl) _) ?_
  refine AOps.step0 rfl rfl (ms_store_box (ds := [.r (.int .i64 n1.ID), .r (.int .i64 n1.Kind), .own 8 (n0 + 2), .r (.sl (r1.map GElem.row)), .r (.int .i64 n1.Grid.Rows), .r (.int .i64 n1.Grid.Cols), .r (.sl (n1.Grid.Cells.map GCell.row)), .r (.sl (n1.Grid.Merges.map GRect.row)), .r (.sl (n1.Draw.map GDrawOp.row))]) rfl tz_28 (.inl rfl) rfl (.inl rfl) rfl rfl rfl rfl) ?_
  refine AOps.nil ?_
  refine hK3 _ ?_
  refine AW.seq_w fun K4 hK4 wK4 => ?_
  refine AW.weak (s' := ⟨[(1, .ptr 1 n0 0 0), (2, .ptr 2 (n0 + 1) 0 0)], [(1, some (.box n0 35 [.r (.int .i64 n1.ID), .r (.int .i64 n1.Kind), .own 8 (n0 + 2), .r (.sl (r1.map GElem.row)), .r (.int .i64 n1.Grid.Rows), .r (.int .i64 n1.Grid.Cols), .r (.sl (n1.Grid.Cells.map GCell.row)), .r (.sl (n1.Grid.Merges.map GRect.row)), .r (.sl (n1.Draw.map GDrawOp.row))])), (2, some (.box (n0 + 1) 35 [.r (.int .i64 0), .r (.int .i64 0), .cst (.slice none 0 0), .cst (.slice none 0 0), .r (.int .i64 0), .r (.int .i64 0), .cst (.slice none 0 0), .cst (.slice none 0 0), .cst (.slice none 0 0)])), (8, some (.arr (n0 + 2) 122 2 (l1.map GAttr.row)))], (n0 + 3), 48⟩) (by exact Weak.cv ⟨.inl (.inl rfl), .inl (.inl rfl), trivial⟩ ⟨.inl rfl, .inl rfl, .inl rfl, trivial⟩ (Nat.le_refl _)) ?_
  refine AW.region ?_
  refine AOps.step rfl rfl rfl (OpQ.spec (sp_fieldAddr_own (ob := .box _ _ _) rfl tf_35_5 (.inl rfl) (fun _ => rfl) rfl) _) ?_
  refine AOps.step rfl rfl rfl (OpQ.spec (ms_load_box (a := .r (.sl (n1.Draw.map GDrawOp.row))) rfl ts_33 (.inl rfl) rfl rfl) _) ?_
  refine ob1k h2 fun l2 el2 h3 => ?_
  refine AOps.step rfl rfl rfl (ms_app_nil 16 (f := GDrawOp.row) rfl tg_33 (.inl rfl) (.inl ⟨(.inl rfl), fun _ => rfl⟩) el2) ?_
  refine AOps.step rfl rfl rfl (OpQ.spec (sp_fieldAddr_own (ob := .box _ _ _) rfl tf_35_5 (.inl rfl) (fun _ => rfl) rfl) _) ?_
  refine AOps.step0 rfl rfl (ms_store_box (ds := [.r (.int .i64 n1.ID), .r (.int .i64 n1.Kind), .own 8 (n0 + 2), .r (.sl (r1.map GElem.row)), .r (.int .i64 n1.Grid.Rows), .r (.int .i64 n1.Grid.Cols), .r (.sl (n1.Grid.Cells.map GCell.row)), .r (.sl (n1.Grid.Merges.map GRect.row)), .own 16 (n0 + 3)]) rfl tz_33 (.inl rfl) rfl (.inl rfl) rfl rfl rfl rfl) ?_
  refine AOps.nil ?_
  refine hK4 _ ?_
  refine AW.seq_w fun K5 hK5 wK5 => ?_
  refine AW.region ?_
  refine AOps.step rfl rfl rfl (OpQ.spec (sp_fieldAddr_own (ob := .box _ _ _) rfl tf_35_4 (.inl rfl) (fun _ => rfl) rfl) _) ?_
  refine AOps.step rfl rfl rfl (OpQ.spec (ms_loadA_box_at (ds := [.r (.int .i64 n1.Grid.Rows), .r (.int .i64 n1.Grid.Cols), .r (.sl (n1.Grid.Cells.map GCell.row)), .r (.sl (n1.Grid.Merges.map GRect.row))]) rfl ta_32 (.inl rfl) rfl rfl rfl) _) ?_
  refine AOps.step rfl rfl rfl (ms_alloc (cs := [.r (.int .i64 0), .r (.int .i64 0), .cst (.slice none 0 0), .cst (.slice none 0 0)]) 3 rfl t0_32 rfl rfl) ?_
  refine AOps.step0 rfl rfl (ms_store_box (ds := [.r (.int .i64 n1.Grid.Rows), .r (.int .i64 n1.Grid.Cols), .r (.sl (n1.Grid.Cells.map GCell.row)), .r (.sl (n1.Grid.Merges.map GRect.row))]) rfl tz_32 (.inl rfl) rfl (.inl rfl) rfl rfl rfl rfl) ?_
  refine AOps.nil ?_
  refine hK5 _ ?_
  refine AW.seq_w fun K6 hK6 wK6 => ?_
  refine AW.region ?_
  refine AOps.step rfl rfl rfl (OpQ.spec (sp_fieldAddr_own (ob := .box _ _ _) rfl tf_32_3 (.inl rfl) (fun _ => rfl) rfl) _) ?_
  refine AOps.step rfl rfl rfl (OpQ.spec (ms_load_box (a := .r (.sl (n1.Grid.Merges.map GRect.row))) rfl ts_30 (.inl rfl) rfl rfl) _) ?_
  refine ob1k h3 fun l3 el3 h4 => ?_
  refine AOps.step rfl rfl rfl (ms_app_nil 22 (f := GRect.row) rfl tg_30 (.inl rfl) (.inl ⟨(.inl rfl), fun _ => rfl⟩) el3) ?_
  refine AOps.step rfl rfl rfl (OpQ.spec (sp_fieldAddr_own (ob := .box _ _ _) rfl tf_32_3 (.inl rfl) (fun _ => rfl) rfl) _) ?_
  refine AOps.step0 rfl rfl (ms_store_box (ds := [.r (.int .i64 n1.Grid.Rows), .r (.int .i64 n1.Grid.Cols), .r (.sl (n1.Grid.Cells.map GCell.row)), .own 22 (n0 + 5)]) rfl tz_30 (.inl rfl) rfl (.inl rfl) rfl rfl rfl rfl) ?_
  refine AOps.nil ?_
  refine hK6 _ ?_
  refine AW.seq_w fun K7 hK7 wK7 => ?_
  refine AW.weak (s' := ⟨[(1, .ptr 1 n0 0 0), (2, .ptr 2 (n0 + 1) 0 0), (3, .ptr 3 (n0 + 4) 0 0)], [(1, some (.box n0 35 [.r (.int .i64 n1.ID), .r (.int .i64 n1.Kind), .own 8 (n0 + 2), .r (.sl (r1.map GElem.row)), .r (.int .i64 n1.Grid.Rows), .r (.int .i64 n1.Grid.Cols), .r (.sl (n1.Grid.Cells.map GCell.row)), .r (.sl (n1.Grid.Merges.map GRect.row)), .own 16 (n0 + 3)])), (2, some (.box (n0 + 1) 35 [.r (.int .i64 0), .r (.int .i64 0), .cst (.slice none 0 0), .cst (.slice none 0 0), .r (.int .i64 0), .r (.int .i64 0), .cst (.slice none 0 0), .cst (.slice none 0 0), .cst (.slice none 0 0)])), (3, some (.box (n0 + 4) 32 [.r (.int .i64 n1.Grid.Rows), .r (.int .i64 n1.Grid.Cols), .r (.sl (n1.Grid.Cells.map GCell.row)), .own 22 (n0 + 5)])), (8, some (.arr (n0 + 2) 122 2 (l1.map GAttr.row))), (16, some (.arr (n0 + 3) 119 8 (l2.map GDrawOp.row))), (22, some (.arr (n0 + 5) 64 4 (l3.map GRect.row)))], (n0 + 6), 48⟩) (by exact Weak.cv ⟨.inl (.inl rfl), .inl (.inl rfl), .inl (.inl rfl), trivial⟩ ⟨.inl rfl, .inl rfl, .inl rfl, .inl rfl, .inl rfl, .inl rfl, trivial⟩ (Nat.le_refl _)) ?_
  refine AW.region ?_
  refine AOps.step rfl rfl rfl (OpQ.spec (sp_fieldAddr_own (ob := .box _ _ _) rfl tf_32_2 (.inl rfl) (fun _ => rfl) rfl) _) ?_
  refine AOps.step rfl rfl rfl (OpQ.spec (ms_load_box (a := .r (.sl (n1.Grid.Cells.map GCell.row))) rfl ts_29 (.inl rfl) rfl rfl) _) ?_
  refine ob1k h4 fun l4 el4 h5 => ?_
  refine AOps.step rfl rfl rfl (ms_app_nil 26 (f := GCell.row) rfl tg_29 (.inl rfl) (.inl ⟨(.inl rfl), fun _ => rfl⟩) el4) ?_
  refine AOps.step rfl rfl rfl (OpQ.spec (sp_fieldAddr_own (ob := .box _ _ _) rfl tf_32_2 (.inl rfl) (fun _ => rfl) rfl) _) ?_
  refine AOps.step0 rfl rfl (ms_store_box (ds := [.r (.int .i64 n1.Grid.Rows), .r (.int .i64 n1.Grid.Cols), .own 26 (n0 + 6), .own 22 (n0 + 5)]) rfl tz_29 (.inl rfl) rfl (.inl rfl) rfl rfl rfl rfl) ?_
  refine AOps.nil ?_
  refine hK7 _ ?_
  refine AW.seq_w fun K8 hK8 wK8 => ?_
  refine AW.seq_w fun K9 hK9 wK9 => ?_
  refine AW.region ?_
  refine AOps.step rfl rfl rfl (OpQ.spec (sp_fieldAddr_own (ob := .box _ _ _) rfl tf_32_2 (.inl rfl) (fun _ => rfl) rfl) _) ?_
  refine AOps.step rfl rfl rfl (OpQ.spec (ms_load_box (a := .own 26 (n0 + 6)) rfl ts_29 (.inl rfl) rfl rfl) _) ?_
  refine AOps.step rfl rfl rfl (OpQ.spec (ms_len_own rfl tg_29.slice (.inl rfl) rfl) _) ?_
  refine AOps.step rfl rfl rfl (OpQ.spec (sp_move rfl (.inl rfl)) _) ?_
  refine AOps.nil ?_
  refine hK9 _ ?_
  refine AW.block ?_
  refine jb1k h5 fun o1 hit1 hk1 => ?_
  have J1 : ∀ (g4 : GGrid) (i5 : Nat → Nat), o1 = g4 → K8 ⟨[(1, .ptr 1 n0 0 0), (2, .ptr 2 (n0 + 1) 0 0), (3, .ptr 3 (n0 + 4) 0 0)], [(1, some (.box n0 35 [.r (.int .i64 n1.ID), .r (.int .i64 n1.Kind), .own 8 (n0 + 2), .r (.sl (r1.map GElem.row)), .r (.int .i64 n1.Grid.Rows), .r (.int .i64 n1.Grid.Cols), .r (.sl (n1.Grid.Cells.map GCell.row)), .r (.sl (n1.Grid.Merges.map GRect.row)), .own 16 (n0 + 3)])), (2, some (.box (n0 + 1) 35 [.r (.int .i64 0), .r (.int .i64 0), .cst (.slice none 0 0), .cst (.slice none 0 0), .r (.int .i64 0), .r (.int .i64 0), .cst (.slice none 0 0), .cst (.slice none 0 0), .cst (.slice none 0 0)])), (3, some (.box (n0 + 4) 32 [.r (.int .i64 g4.Rows), .r (.int .i64 g4.Cols), .own 26 (i5 0), .own 22 (i5 1)])), (8, some (.arr (n0 + 2) 122 2 (l1.map GAttr.row))), (16, some (.arr (n0 + 3) 119 8 (l2.map GDrawOp.row))), (22, some (.arr (i5 1) 64 4 (g4.Merges.map GRect.row))), (26, some (.arr (i5 0) 60 5 (g4.Cells.map GCell.row)))], (i5 2), 48⟩ := by
    intro g4 i5 e
    have h6 := hk1 _ e
    refine hK8 _ ?_
    refine AW.seq_w fun K10 hK10 wK10 => ?_
    refine AW.region ?_
    refine AOps.step rfl rfl rfl (OpQ.spec (ms_loadA_box rfl ta_32 (.inl rfl) rfl rfl) _) ?_
    refine AOps.step rfl rfl rfl (OpQ.spec (sp_fieldAddr_own (ob := .box _ _ _) rfl tf_35_4 (.inl rfl) (fun _ => rfl) rfl) _) ?_
    refine AOps.step0 rfl rfl (ms_store_box (ds := [.r (.int .i64 n1.ID), .r (.int .i64 n1.Kind), .own 8 (n0 + 2), .r (.sl (r1.map GElem.row)), .r (.int .i64 g4.Rows), .r (.int .i64 g4.Cols), .own 26 (i5 0), .own 22 (i5 1), .own 16 (n0 + 3)]) rfl tz_32 (.inl rfl) rfl (.inl rfl) rfl rfl rfl rfl) ?_
    refine AOps.nil ?_
    refine hK10 _ ?_
    refine AW.seq_w fun K11 hK11 wK11 => ?_
    refine AW.region ?_
    refine AOps.step rfl rfl rfl (OpQ.spec (ms_loadA_box rfl ta_35 (.inl rfl) rfl rfl) _) ?_
    refine AOps.step0 rfl rfl (ms_store_box (ds := [.r (.int .i64 n1.ID), .r (.int .i64 n1.Kind), .own 8 (n0 + 2), .r (.sl (r1.map GElem.row)), .r (.int .i64 g4.Rows), .r (.int .i64 g4.Cols), .own 26 (i5 0), .own 22 (i5 1), .own 16 (n0 + 3)]) rfl tz_35 (.inl rfl) rfl (.inl rfl) rfl rfl rfl rfl) ?_
    refine AOps.nil ?_
    refine hK11 _ ?_
    refine AW.ret ?_
    exact retf1 (P := Tryd.prog) (fun (r : GNode) => .agg [.r (.int .i64 r.ID), .r (.int .i64 r.Kind), .r (.sl (r.Attrs.map GAttr.row)), .r (.sl (r.Flow.map GElem.row)), .r (.int .i64 r.Grid.Rows), .r (.int .i64 r.Grid.Cols), .r (.sl (r.Grid.Cells.map GCell.row)), .r (.sl (r.Grid.Merges.map GRect.row)), .r (.sl (r.Draw.map GDrawOp.row))]) h6 (.inl rfl) (.a ta_35 rfl rfl rfl (.agg ⟨.closed _ rfl, .closed _ rfl, .own rfl, .closed _ rfl, .closed _ rfl, .closed _ rfl, .own rfl, .own rfl, .own rfl, trivial⟩))
  refine AW.iter2 (fun (x2 : Int) (g2 : GGrid) i3 => ⟨[(1, .ptr 1 n0 0 0), (2, .ptr 2 (n0 + 1) 0 0), (3, .ptr 3 (n0 + 4) 0 0), (29, .own 26 (i3 0)), (30, .r (.int .i64 (l4.length : Int))), (31, .r (.int .i64 x2))], [(1, some (.box n0 35 [.r (.int .i64 n1.ID), .r (.int .i64 n1.Kind), .own 8 (n0 + 2), .r (.sl (r1.map GElem.row)), .r (.int .i64 n1.Grid.Rows), .r (.int .i64 n1.Grid.Cols), .r (.sl (n1.Grid.Cells.map GCell.row)), .r (.sl (n1.Grid.Merges.map GRect.row)), .own 16 (n0 + 3)])), (2, some (.box (n0 + 1) 35 [.r (.int .i64 0), .r (.int .i64 0), .cst (.slice none 0 0), .cst (.slice none 0 0), .r (.int .i64 0), .r (.int .i64 0), .cst (.slice none 0 0), .cst (.slice none 0 0), .cst (.slice none 0 0)])), (3, some (.box (n0 + 4) 32 [.r (.int .i64 g2.Rows), .r (.int .i64 g2.Cols), .own 26 (i3 0), .own 22 (i3 1)])), (8, some (.arr (n0 + 2) 122 2 (l1.map GAttr.row))), (16, some (.arr (n0 + 3) 119 8 (l2.map GDrawOp.row))), (22, some (.arr (i3 1) 64 4 (g2.Merges.map GRect.row))), (26, some (.arr (i3 0) 60 5 (g2.Cells.map GCell.row)))], (i3 2), 48⟩) (vec [(n0 + 6), (n0 + 5), (n0 + 7)]) hit1 ((by exact Weak.cv ⟨.inl (.inl rfl), .inl (.inl rfl), .inl (.inl rfl), .inl (.inl rfl), .inl (.inl rfl), .inl (.inl rfl), trivial⟩ ⟨.inl rfl, .inl rfl, .inl rfl, .inl rfl, .inl rfl, .inl rfl, .inl rfl, trivial⟩ (Nat.le_refl _))) ?_
  intro x2 g2 i3 v1 hv1 hx1
  have h7 : doc_CopyNode_L1 l4 x2 g2 = some v1 := hv1; unfold doc_CopyNode_L1 at h7
  refine AW.seq_w fun K12 hK12 wK12 => ?_
  refine AW.region ?_
  refine AOps.step rfl rfl rfl (OpQ.spec (sp_lss rfl (.inl rfl) (.inl rfl)) _) ?_
  refine AOps.nil ?_
  refine hK12 _ ?_
  refine AW.seq_w fun K13 hK13 wK13 => ?_
  refine AW.cond rfl (fun hc1 => ?_) (fun hc1 => ?_)
  · have h8 := ite_t hc1 h7
    refine AW.skip ?_
    refine hK13 _ ?_
    refine AW.seq_w fun K14 hK14 wK14 => ?_
    refine AW.block ?_
    refine AW.seq_w fun K15 hK15 wK15 => ?_
    refine AW.region ?_
    refine AOps.step rfl rfl rfl (OpQ.spec (sp_move rfl (.inl rfl)) _) ?_
    refine ob1k h8 fun x4 ex4 h9 => ?_
    refine AOps.step rfl rfl rfl (OpQ.spec (ms_idx_own rfl tg_29.slice (.inl rfl) rfl (.inl rfl) (fun _ => ex4)) _) ?_
    refine AOps.step rfl rfl rfl (OpQ.spec (ms_loadA_own (cs := [.r (.int .i64 x4.Row), .r (.int .i64 x4.Col), .r (.str x4.Text), .r (.int .i64 x4.Ref), .r (.sl (x4.Attrs.map GAttr.row))]) rfl ta_60 (.inl rfl) (fun _ => rfl) (fun _ => ex4) rfl) _) ?_
    refine AOps.step rfl rfl rfl (ms_alloc (cs := [.r (.int .i64 0), .r (.int .i64 0), .r (.str []), .r (.int .i64 0), .cst (.slice none 0 0)]) 5 rfl t0_60 rfl rfl) ?_
    refine AOps.step rfl rfl rfl (OpQ.spec (sp_assign rfl (.inl rfl)) _) ?_
    refine AOps.step0 rfl rfl (ms_store_box (ds := [.r (.int .i64 x4.Row), .r (.int .i64 x4.Col), .r (.str x4.Text), .r (.int .i64 x4.Ref), .r (.sl (x4.Attrs.map GAttr.row))]) rfl tz_60 (.inl rfl) rfl (.inl rfl) rfl rfl rfl rfl) ?_
    refine AOps.nil ?_
    refine hK15 _ ?_
    refine ob1k h9 fun l5 el5 h10 => ?_
    refine AW.regionP 6 [⟨some 36, (fun _ => .ptr 3 (n0 + 4) 0 2), none, []⟩, ⟨some 37, (fun _ => .own 26 (i3 0)), none, []⟩, ⟨some 38, (fun _ => .r (.int .i64 x2)), none, []⟩, ⟨some 39, (fun _ => .ptr 5 (i3 2) 0 4), none, []⟩, ⟨some 40, (fun _ => .r (.sl (x4.Attrs.map GAttr.row))), none, []⟩, ⟨some 41, (fun G1 => .own 41 (G1 5)), some (41, (fun G1 => some (.arr (G1 5) 122 2 (l5.map GAttr.row)))), [5]⟩] hmix (by kernel_rfl) (by exact ⟨fun _ _ h => ⟨rfl, fun _ _ e => by cases e⟩, fun _ _ h => ⟨rfl, fun _ _ e => by cases e⟩, fun _ _ h => ⟨rfl, fun _ _ e => by cases e⟩, fun _ _ h => ⟨rfl, fun _ _ e => by cases e⟩, fun _ _ h => ⟨rfl, fun _ _ e => by cases e⟩, fun _ _ h => ⟨by simp only [h 5 rfl], fun _ _ e => by cases e; simp only [h 5 rfl]⟩, trivial⟩) rfl (by exact ⟨Ob.quiet (n1 := fun n => n) rfl rfl (by intro d h; cases h; rfl) rfl (fun _ => [(3, .ptr 3 (n0 + 4) 0 0)]) (fun _ => [(3, some (.box (n0 + 4) 32 [.r (.int .i64 g2.Rows), .r (.int .i64 g2.Cols), .own 26 (i3 0), .own 22 (i3 1)]))]) (fun D G1 hr => ⟨inE_base rfl rfl, trivial⟩) (fun D G1 hr => ⟨inH_base rfl rfl, trivial⟩) (fun _ _ => rfl) (fun G1 e h' n => OpQ.spec (v := .ptr 3 (n0 + 4) 0 2) (sp_fieldAddr_own (ob := .box _ _ _) rfl tf_32_2 (.inl rfl) (fun _ => rfl) rfl) _),
        Ob.quiet (n1 := fun n => n) rfl rfl (by intro d h; cases h; rfl) rfl (fun _ => [(36, .ptr 3 (n0 + 4) 0 2)]) (fun _ => [(3, some (.box (n0 + 4) 32 [.r (.int .i64 g2.Rows), .r (.int .i64 g2.Cols), .own 26 (i3 0), .own 22 (i3 1)]))]) (fun D G1 hr => ⟨inE_op hr 0 rfl rfl (by kernel_rfl) rfl rfl, trivial⟩) (fun D G1 hr => ⟨inH_base rfl rfl, trivial⟩) (fun _ _ => rfl) (fun G1 e h' n => OpQ.spec (v := .own 26 (i3 0)) (ms_load_box (a := .own 26 (i3 0)) rfl ts_29 (.inl rfl) rfl rfl) _),
        Ob.quiet (n1 := fun n => n) rfl rfl (by intro d h; cases h; rfl) rfl (fun _ => [(4, .r (.int .i64 x2))]) (fun _ => []) (fun D G1 hr => ⟨inE_base rfl rfl, trivial⟩) (fun D G1 hr => trivial) (fun _ _ => rfl) (fun G1 e h' n => OpQ.spec (v := .r (.int .i64 x2)) (sp_move rfl (.inl rfl)) _),
        Ob.quiet (n1 := fun n => n) rfl rfl (by intro d h; cases h; rfl) rfl (fun _ => [(5, .ptr 5 (i3 2) 0 0)]) (fun _ => [(5, some (.box (i3 2) 60 [.r (.int .i64 x4.Row), .r (.int .i64 x4.Col), .r (.str x4.Text), .r (.int .i64 x4.Ref), .r (.sl (x4.Attrs.map GAttr.row))]))]) (fun D G1 hr => ⟨inE_base rfl rfl, trivial⟩) (fun D G1 hr => ⟨inH_base rfl rfl, trivial⟩) (fun _ _ => rfl) (fun G1 e h' n => OpQ.spec (v := .ptr 5 (i3 2) 0 4) (sp_fieldAddr_own (ob := .box _ _ _) rfl tf_60_4 (.inl rfl) (fun _ => rfl) rfl) _),
        Ob.quiet (n1 := fun n => n) rfl rfl (by intro d h; cases h; rfl) rfl (fun _ => [(39, .ptr 5 (i3 2) 0 4)]) (fun _ => [(5, some (.box (i3 2) 60 [.r (.int .i64 x4.Row), .r (.int .i64 x4.Col), .r (.str x4.Text), .r (.int .i64 x4.Ref), .r (.sl (x4.Attrs.map GAttr.row))]))]) (fun D G1 hr => ⟨inE_op hr 3 rfl rfl (by kernel_rfl) rfl rfl, trivial⟩) (fun D G1 hr => ⟨inH_base rfl rfl, trivial⟩) (fun _ _ => rfl) (fun G1 e h' n => OpQ.spec (v := .r (.sl (x4.Attrs.map GAttr.row))) (ms_load_box (a := .r (.sl (x4.Attrs.map GAttr.row))) rfl ts_27 (.inl rfl) rfl rfl) _),
        Ob.make (n1 := fun n => n + 1) rfl rfl (by intro d h; cases h; rfl) rfl (fun _ => [(40, .r (.sl (x4.Attrs.map GAttr.row)))]) (fun _ => []) (fun D G1 hr => ⟨inE_op hr 4 rfl rfl (by kernel_rfl) rfl rfl, trivial⟩) (fun D G1 hr => trivial) (fun G1 e h' n => ms_app_nil 41 (f := GAttr.row) rfl tg_27 (.inl rfl) (.inl ⟨(.inl rfl), fun _ => rfl⟩) el5),
        trivial⟩) fun G1 n2 => ?_
    refine AOps.weak (s' := ⟨[(1, .ptr 1 n0 0 0), (2, .ptr 2 (n0 + 1) 0 0), (3, .ptr 3 (n0 + 4) 0 0), (4, .r (.int .i64 x2)), (5, .ptr 5 (i3 2) 0 0), (29, .own 26 (i3 0)), (30, .r (.int .i64 (l4.length : Int))), (31, .r (.int .i64 x2)), (32, .r (.bool (decide (x2 < (l4.length : Int))))), (33, .r (.int .i64 x2)), (34, .ptr 26 (i3 0) x2.toNat 0), (35, .agg [.r (.int .i64 x4.Row), .r (.int .i64 x4.Col), .r (.str x4.Text), .r (.int .i64 x4.Ref), .r (.sl (x4.Attrs.map GAttr.row))]), (36, .ptr 3 (n0 + 4) 0 2), (37, .own 26 (i3 0)), (38, .r (.int .i64 x2)), (39, .ptr 5 (i3 2) 0 4), (40, .r (.sl (x4.Attrs.map GAttr.row))), (41, .own 41 (G1 5))], [(1, some (.box n0 35 [.r (.int .i64 n1.ID), .r (.int .i64 n1.Kind), .own 8 (n0 + 2), .r (.sl (r1.map GElem.row)), .r (.int .i64 n1.Grid.Rows), .r (.int .i64 n1.Grid.Cols), .r (.sl (n1.Grid.Cells.map GCell.row)), .r (.sl (n1.Grid.Merges.map GRect.row)), .own 16 (n0 + 3)])), (2, some (.box (n0 + 1) 35 [.r (.int .i64 0), .r (.int .i64 0), .cst (.slice none 0 0), .cst (.slice none 0 0), .r (.int .i64 0), .r (.int .i64 0), .cst (.slice none 0 0), .cst (.slice none 0 0), .cst (.slice none 0 0)])), (3, some (.box (n0 + 4) 32 [.r (.int .i64 g2.Rows), .r (.int .i64 g2.Cols), .own 26 (i3 0), .own 22 (i3 1)])), (5, some (.box (i3 2) 60 [.r (.int .i64 x4.Row), .r (.int .i64 x4.Col), .r (.str x4.Text), .r (.int .i64 x4.Ref), .r (.sl (x4.Attrs.map GAttr.row))])), (8, some (.arr (n0 + 2) 122 2 (l1.map GAttr.row))), (16, some (.arr (n0 + 3) 119 8 (l2.map GDrawOp.row))), (22, some (.arr (i3 1) 64 4 (g2.Merges.map GRect.row))), (26, some (.arr (i3 0) 60 5 (g2.Cells.map GCell.row))), (41, some (.arr (G1 5) 122 2 (l5.map GAttr.row)))], n2, 48⟩) (by exact Weak.cv ⟨.inl (.inl rfl), .inl (.inl rfl), .inl (.inl rfl), .inl (.inl rfl), .inl (.inl rfl), .inl (.inl rfl), .inl (.inl rfl), .inl (.inl rfl), .inl (.inl rfl), .inl (.inl rfl), .inl (.inl rfl), .inl (.inl rfl), .inl (.inl rfl), .inl (.inl rfl), .inl (.inl rfl), .inl (.inl rfl), .inl (.inl rfl), .inl (.inl rfl), trivial⟩ ⟨.inl rfl, .inl rfl, .inl rfl, .inl rfl, .inl rfl, .inl rfl, .inl rfl, .inl rfl, .inl rfl, trivial⟩ (Nat.le_refl _)) ?_
    refine AOps.step rfl rfl rfl (OpQ.spec (ms_idx_own rfl tg_29.slice (.inl rfl) rfl (.inl rfl) (fun _ => ex4)) _) ?_
    refine AOps.step rfl rfl rfl (OpQ.spec (sp_fieldAddr_own (ob := .arr _ _ _ _) rfl tf_60_4 (.inl rfl) (fun _ => rfl) rfl) _) ?_
    refine AOps.weak (by exact Weak.frz (e' := [(1, .ptr 1 n0 0 0), (2, .ptr 2 (n0 + 1) 0 0), (3, .ptr 3 (n0 + 4) 0 0), (4, .r (.int .i64 x2)), (5, .ptr 5 (i3 2) 0 0), (29, .own 26 (i3 0)), (30, .r (.int .i64 (l4.length : Int))), (31, .r (.int .i64 x2)), (32, .r (.bool (decide (x2 < (l4.length : Int))))), (33, .r (.int .i64 x2)), (34, .ptr 26 (i3 0) x2.toNat 0), (35, .agg [.r (.int .i64 x4.Row), .r (.int .i64 x4.Col), .r (.str x4.Text), .r (.int .i64 x4.Ref), .r (.sl (x4.Attrs.map GAttr.row))]), (36, .ptr 3 (n0 + 4) 0 2), (37, .own 26 (i3 0)), (38, .r (.int .i64 x2)), (39, .ptr 5 (i3 2) 0 4), (40, .r (.sl (x4.Attrs.map GAttr.row))), (41, .r (.sl (l5.map GAttr.row))), (42, .ptr 26 (i3 0) x2.toNat 0), (43, .ptr 26 (i3 0) x2.toNat 4)]) (h' := [(1, some (.box n0 35 [.r (.int .i64 n1.ID), .r (.int .i64 n1.Kind), .own 8 (n0 + 2), .r (.sl (r1.map GElem.row)), .r (.int .i64 n1.Grid.Rows), .r (.int .i64 n1.Grid.Cols), .r (.sl (n1.Grid.Cells.map GCell.row)), .r (.sl (n1.Grid.Merges.map GRect.row)), .own 16 (n0 + 3)])), (2, some (.box (n0 + 1) 35 [.r (.int .i64 0), .r (.int .i64 0), .cst (.slice none 0 0), .cst (.slice none 0 0), .r (.int .i64 0), .r (.int .i64 0), .cst (.slice none 0 0), .cst (.slice none 0 0), .cst (.slice none 0 0)])), (3, some (.box (n0 + 4) 32 [.r (.int .i64 g2.Rows), .r (.int .i64 g2.Cols), .own 26 (i3 0), .own 22 (i3 1)])), (5, some (.box (i3 2) 60 [.r (.int .i64 x4.Row), .r (.int .i64 x4.Col), .r (.str x4.Text), .r (.int .i64 x4.Ref), .r (.sl (x4.Attrs.map GAttr.row))])), (8, some (.arr (n0 + 2) 122 2 (l1.map GAttr.row))), (16, some (.arr (n0 + 3) 119 8 (l2.map GDrawOp.row))), (22, some (.arr (i3 1) 64 4 (g2.Merges.map GRect.row))), (26, some (.arr (i3 0) 60 5 (g2.Cells.map GCell.row)))]) 41 rfl ⟨.inl (.inl rfl), .inl (.inl rfl), .inl (.inl rfl), .inl (.inl rfl), .inl (.inl rfl), .inl (.inl rfl), .inl (.inl rfl), .inl (.inl rfl), .inl (.inl rfl), .inl (.inl rfl), .inl (.inl rfl), .inl (.inl rfl), .inl (.inl rfl), .inl (.inl rfl), .inl (.inl rfl), .inl (.inl rfl), .inl (.inl rfl), .inl (.inr (.inr ⟨rfl, rfl⟩)), .inl (.inl rfl), .inl (.inl rfl), trivial⟩ ⟨rfl, .inl rfl, rfl, .inl rfl, rfl, .inl rfl, rfl, .inl rfl, rfl, .inl rfl, rfl, .inl rfl, rfl, .inl rfl, rfl, .inl rfl, trivial⟩) ?_
    refine AOps.step0 rfl rfl (ms_store (v := (GCell.mk x4.Row x4.Col x4.Text x4.Ref l5)) rfl tz_27 (.inl rfl) rfl ex4 (.inl rfl) rfl rfl rfl rfl) ?_
    refine AOps.nil ?_
    refine hK14 _ ?_
    refine AW.weak (s' := ⟨[(1, .ptr 1 n0 0 0), (2, .ptr 2 (n0 + 1) 0 0), (3, .ptr 3 (n0 + 4) 0 0), (29, .own 26 (i3 0)), (30, .r (.int .i64 (l4.length : Int))), (31, .r (.int .i64 x2))], [(1, some (.box n0 35 [.r (.int .i64 n1.ID), .r (.int .i64 n1.Kind), .own 8 (n0 + 2), .r (.sl (r1.map GElem.row)), .r (.int .i64 n1.Grid.Rows), .r (.int .i64 n1.Grid.Cols), .r (.sl (n1.Grid.Cells.map GCell.row)), .r (.sl (n1.Grid.Merges.map GRect.row)), .own 16 (n0 + 3)])), (2, some (.box (n0 + 1) 35 [.r (.int .i64 0), .r (.int .i64 0), .cst (.slice none 0 0), .cst (.slice none 0 0), .r (.int .i64 0), .r (.int .i64 0), .cst (.slice none 0 0), .cst (.slice none 0 0), .cst (.slice none 0 0)])), (3, some (.box (n0 + 4) 32 [.r (.int .i64 g2.Rows), .r (.int .i64 g2.Cols), .own 26 (i3 0), .own 22 (i3 1)])), (8, some (.arr (n0 + 2) 122 2 (l1.map GAttr.row))), (16, some (.arr (n0 + 3) 119 8 (l2.map GDrawOp.row))), (22, some (.arr (i3 1) 64 4 (g2.Merges.map GRect.row))), (26, some (.arr (i3 0) 60 5 ((g2.Cells.set x2.toNat (GCell.mk x4.Row x4.Col x4.Text x4.Ref l5)).map GCell.row)))], n2, 48⟩) (by exact Weak.cv ⟨.inl (.inl rfl), .inl (.inl rfl), .inl (.inl rfl), .inl (.inl rfl), .inl (.inl rfl), .inl (.inl rfl), trivial⟩ ⟨.inl rfl, .inl rfl, .inl rfl, .inl rfl, .inl rfl, .inl rfl, .inl rfl, trivial⟩ (Nat.le_refl _)) ?_
    refine AW.region ?_
    refine ob1k h10 fun x5 ex5 h11 => ?_
    refine AOps.step rfl rfl rfl (OpQ.spec (ms_add rfl (.inl rfl) (.inl rfl) (fun _ => ex5)) _) ?_
    refine AOps.step rfl rfl rfl (OpQ.spec (sp_move rfl (.inl rfl)) _) ?_
    refine AOps.nil ?_
    exact NextQ2.mk h11 (vec [(i3 0), (i3 1), n2]) ((by exact Weak.cv ⟨.inl (.inl rfl), .inl (.inl rfl), .inl (.inl rfl), .inl (.inl rfl), .inl (.inl rfl), .inl (.inl rfl), trivial⟩ ⟨.inl rfl, .inl rfl, .inl rfl, .inl rfl, .inl rfl, .inl rfl, .inl rfl, trivial⟩ (Nat.le_refl _)))
  · have h8 := ite_f hc1 h7
    refine AW.exit ?_
    exact wK8 _ _ ((by exact Weak.cv ⟨.inl (.inl rfl), .inl (.inl rfl), .inl (.inl rfl), trivial⟩ ⟨.inl rfl, .inl rfl, .inl rfl, .inl rfl, .inl rfl, .inl rfl, .inl rfl, trivial⟩ (Nat.le_refl _))) (J1 _ (vec [(i3 0), (i3 1), (i3 2)]) (hx1 _ (Option.some.inj h8).symm))
set_option maxHeartbeats 4000000 in
set_option maxRecDepth 20000 in
theorem w_doc_Node {d1 : GDoc} {id1 : Int} {r : GNode × Bool} (h : doc_Node d1 id1 = some r) : ARO Tryd.prog 11 [.agg [.r (.sl (d1.Nodes.map GNode.row))], .r (.int .i64 id1)] (.tup [.agg [.r (.int .i64 r.1.ID), .r (.int .i64 r.1.Kind), .r (.sl (r.1.Attrs.map GAttr.row)), .r (.sl (r.1.Flow.map GElem.row)), .r (.int .i64 r.1.Grid.Rows), .r (.int .i64 r.1.Grid.Cols), .r (.sl (r.1.Grid.Cells.map GCell.row)), .r (.sl (r.1.Grid.Merges.map GRect.row)), .r (.sl (r.1.Draw.map GDrawOp.row))], .r (.bool r.2)]) := by
  unfold doc_Node at h
  refine ARO.mkF Tryd.func11 rfl rfl Tryd.ntmps11 rfl (Nat.le_of_ble_eq_true rfl) fun n0 => ?_
  refine AW.seq_w fun K1 hK1 wK1 => ?_
  refine AW.region ?_
  refine AOps.step rfl rfl rfl (ms_box (cs := [.r (.sl (d1.Nodes.map GNode.row))]) 2 rfl (.inl rfl) rfl rfl) ?_
  refine AOps.step rfl rfl rfl (ms_alloc (cs := [.r (.int .i64 0), .r (.int .i64 0), .cst (.slice none 0 0), .cst (.slice none 0 0), .r (.int .i64 0), .r (.int .i64 0), .cst (.slice none 0 0), .cst (.slice none 0 0), .cst (.slice none 0 0)]) 4 rfl t0_35 rfl rfl) ?_
  refine AOps.step rfl rfl rfl (OpQ.spec (sp_assign rfl (.inl rfl)) _) ?_
  refine AOps.nil ?_
  refine hK1 _ ?_
  refine AW.seq_w fun K2 hK2 wK2 => ?_
  refine AW.seq_w fun K3 hK3 wK3 => ?_
  refine AW.region ?_
  refine AOps.step rfl rfl rfl (OpQ.spec (sp_fieldAddr_own (ob := .box _ _ _) rfl tf_24_0 (.inl rfl) (fun _ => rfl) rfl) _) ?_
  refine AOps.step rfl rfl rfl (OpQ.spec (ms_load_box (a := .r (.sl (d1.Nodes.map GNode.row))) rfl ts_22 (.inl rfl) rfl rfl) _) ?_
  refine AOps.step rfl rfl rfl (OpQ.spec (ms_len rfl tg_22.slice (.inl rfl)) _) ?_
  refine AOps.step rfl rfl rfl (OpQ.spec (sp_move rfl (.inl rfl)) _) ?_
  refine AOps.nil ?_
  refine hK3 _ ?_
  refine AW.block ?_
  refine jc1k h fun o1 hit1 hk1 he1 => ?_
  have J1 : ∀ (u2 : Unit) (i5 : Nat → Nat), o1 = .nrm u2 → K2 ⟨[(4, .ptr 4 (n0 + 1) 0 0)], [(4, some (.box (n0 + 1) 35 [.r (.int .i64 0), .r (.int .i64 0), .cst (.slice none 0 0), .cst (.slice none 0 0), .r (.int .i64 0), .r (.int .i64 0), .cst (.slice none 0 0), .cst (.slice none 0 0), .cst (.slice none 0 0)]))], (i5 0), 23⟩ := by
    intro u2 i5 e
    have h1 := hk1 _ e
    refine hK2 _ ?_
    refine AW.seq_w fun K4 hK4 wK4 => ?_
    refine AW.region ?_
    refine AOps.step rfl rfl rfl (OpQ.spec (sp_build rfl tb_35 (q := []) (by exact trivial) (cs := [.r (.int .i64 0), .r (.int .i64 0), .cst (.slice none 0 0), .cst (.slice none 0 0), .r (.int .i64 0), .r (.int .i64 0), .cst (.slice none 0 0), .cst (.slice none 0 0), .cst (.slice none 0 0)]) (by rfl)) _) ?_
    refine AOps.step0 rfl rfl (ms_store_box (ds := [.r (.int .i64 0), .r (.int .i64 0), .cst (.slice none 0 0), .cst (.slice none 0 0), .r (.int .i64 0), .r (.int .i64 0), .cst (.slice none 0 0), .cst (.slice none 0 0), .cst (.slice none 0 0)]) rfl tz_35 (.inl rfl) rfl (.inl rfl) rfl rfl rfl rfl) ?_
    refine AOps.step rfl rfl rfl (OpQ.spec (sp_assign rfl (.inl rfl)) _) ?_
    refine AOps.nil ?_
    refine hK4 _ ?_
    refine AW.ret ?_
    exact retf2 (P := Tryd.prog) (fun (r : GNode × Bool) => .agg [.r (.int .i64 r.1.ID), .r (.int .i64 r.1.Kind), .r (.sl (r.1.Attrs.map GAttr.row)), .r (.sl (r.1.Flow.map GElem.row)), .r (.int .i64 r.1.Grid.Rows), .r (.int .i64 r.1.Grid.Cols), .r (.sl (r.1.Grid.Cells.map GCell.row)), .r (.sl (r.1.Grid.Merges.map GRect.row)), .r (.sl (r.1.Draw.map GDrawOp.row))]) (fun (r : GNode × Bool) => .r (.bool r.2)) h1 (.inl rfl) (.a ta_35 rfl rfl rfl (.agg ⟨.closed _ rfl, .closed _ rfl, .nil, .nil, .closed _ rfl, .closed _ rfl, .nil, .nil, .nil, trivial⟩)) (.t (.d rfl))
  refine AW.iter1 (fun (x2 : Int) i3 => ⟨[(1, .r (.int .i64 id1)), (4, .ptr 4 (n0 + 1) 0 0), (9, .r (.sl (d1.Nodes.map GNode.row))), (10, .r (.int .i64 (d1.Nodes.length : Int))), (11, .r (.int .i64 x2))], [(4, some (.box (n0 + 1) 35 [.r (.int .i64 0), .r (.int .i64 0), .cst (.slice none 0 0), .cst (.slice none 0 0), .r (.int .i64 0), .r (.int .i64 0), .cst (.slice none 0 0), .cst (.slice none 0 0), .cst (.slice none 0 0)]))], (i3 0), 23⟩) (vec [(n0 + 2)]) hit1 ((by exact Weak.cv ⟨.inl (.inl rfl), .inl (.inl rfl), .inl (.inl rfl), .inl (.inl rfl), .inl (.inl rfl), trivial⟩ ⟨.inl rfl, trivial⟩ (Nat.le_refl _))) ?_
  intro x2 i3 v1 hv1 hx1
  have h2 : doc_Node_L1 d1 id1 x2 = some v1 := hv1; unfold doc_Node_L1 at h2
  refine AW.seq_w fun K5 hK5 wK5 => ?_
  refine AW.region ?_
  refine AOps.step rfl rfl rfl (OpQ.spec (sp_lss rfl (.inl rfl) (.inl rfl)) _) ?_
  refine AOps.nil ?_
  refine hK5 _ ?_
  refine AW.seq_w fun K6 hK6 wK6 => ?_
  refine AW.cond rfl (fun hc1 => ?_) (fun hc1 => ?_)
  · have h3 := ite_t hc1 h2
    refine AW.skip ?_
    refine hK6 _ ?_
    refine AW.seq_w fun K7 hK7 wK7 => ?_
    refine AW.block ?_
    refine AW.seq_w fun K8 hK8 wK8 => ?_
    refine AW.region ?_
    refine ob1k h3 fun x4 ex4 h4 => ?_
    refine AOps.step rfl rfl rfl (OpQ.spec (ms_idx rfl tg_22.slice (.inl rfl) (.inl rfl) (fun _ => rfl) (fun _ => ex4)) _) ?_
    refine AOps.step rfl rfl rfl (OpQ.spec (ms_loadA (cs := [.r (.int .i64 x4.ID), .r (.int .i64 x4.Kind), .r (.sl (x4.Attrs.map GAttr.row)), .r (.sl (x4.Flow.map GElem.row)), .r (.int .i64 x4.Grid.Rows), .r (.int .i64 x4.Grid.Cols), .r (.sl (x4.Grid.Cells.map GCell.row)), .r (.sl (x4.Grid.Merges.map GRect.row)), .r (.sl (x4.Draw.map GDrawOp.row))]) rfl ta_35 (.inl rfl) rfl rfl) _) ?_
    refine AOps.step rfl rfl rfl (ms_alloc (cs := [.r (.int .i64 0), .r (.int .i64 0), .cst (.slice none 0 0), .cst (.slice none 0 0), .r (.int .i64 0), .r (.int .i64 0), .cst (.slice none 0 0), .cst (.slice none 0 0), .cst (.slice none 0 0)]) 7 rfl t0_35 rfl rfl) ?_
    refine AOps.step0 rfl rfl (ms_store_box (ds := [.r (.int .i64 x4.ID), .r (.int .i64 x4.Kind), .r (.sl (x4.Attrs.map GAttr.row)), .r (.sl (x4.Flow.map GElem.row)), .r (.int .i64 x4.Grid.Rows), .r (.int .i64 x4.Grid.Cols), .r (.sl (x4.Grid.Cells.map GCell.row)), .r (.sl (x4.Grid.Merges.map GRect.row)), .r (.sl (x4.Draw.map GDrawOp.row))]) rfl tz_35 (.inl rfl) rfl (.inl rfl) rfl rfl rfl rfl) ?_
    refine AOps.nil ?_
    refine hK8 _ ?_
    refine AW.seq_w fun K9 hK9 wK9 => ?_
    refine AW.region ?_
    refine AOps.step rfl rfl rfl (OpQ.spec (sp_fieldAddr_own (ob := .box _ _ _) rfl tf_35_0 (.inl rfl) (fun _ => rfl) rfl) _) ?_
    refine AOps.step rfl rfl rfl (OpQ.spec (ms_load_box (a := .r (.int .i64 x4.ID)) rfl ts_3 (.inl rfl) rfl rfl) _) ?_
    refine AOps.step rfl rfl rfl (OpQ.spec (sp_move rfl (.inl rfl)) _) ?_
    refine AOps.step rfl rfl rfl (OpQ.spec (sp_eql rfl (.inl rfl) (.inl rfl)) _) ?_
    refine AOps.nil ?_
    refine hK9 _ ?_
    refine AW.cond rfl (fun hc2 => ?_) (fun hc2 => ?_)
    · have h5 := ite_t hc2 h4
      refine AW.seq_w fun K10 hK10 wK10 => ?_
      refine AW.weak (s' := ⟨[(4, .ptr 4 (n0 + 1) 0 0), (7, .ptr 7 (i3 0) 0 0)], [(4, some (.box (n0 + 1) 35 [.r (.int .i64 0), .r (.int .i64 0), .cst (.slice none 0 0), .cst (.slice none 0 0), .r (.int .i64 0), .r (.int .i64 0), .cst (.slice none 0 0), .cst (.slice none 0 0), .cst (.slice none 0 0)])), (7, some (.box (i3 0) 35 [.r (.int .i64 x4.ID), .r (.int .i64 x4.Kind), .r (.sl (x4.Attrs.map GAttr.row)), .r (.sl (x4.Flow.map GElem.row)), .r (.int .i64 x4.Grid.Rows), .r (.int .i64 x4.Grid.Cols), .r (.sl (x4.Grid.Cells.map GCell.row)), .r (.sl (x4.Grid.Merges.map GRect.row)), .r (.sl (x4.Draw.map GDrawOp.row))]))], ((i3 0) + 1), 23⟩) (by exact Weak.cv ⟨.inl (.inl rfl), .inl (.inl rfl), trivial⟩ ⟨.inl rfl, .inl rfl, trivial⟩ (Nat.le_refl _)) ?_
      refine AW.region ?_
      refine AOps.step rfl rfl rfl (OpQ.spec (ms_loadA_box rfl ta_35 (.inl rfl) rfl rfl) _) ?_
      refine ob1k h5 fun r1 er1 h6 => ?_
      refine AOps.step rfl rfl rfl (sp_callS (r := .agg [.r (.int .i64 r1.ID), .r (.int .i64 r1.Kind), .r (.sl (r1.Attrs.map GAttr.row)), .r (.sl (r1.Flow.map GElem.row)), .r (.int .i64 r1.Grid.Rows), .r (.int .i64 r1.Grid.Cols), .r (.sl (r1.Grid.Cells.map GCell.row)), .r (.sl (r1.Grid.Merges.map GRect.row)), .r (.sl (r1.Draw.map GDrawOp.row))]) (caps := []) (bs := [.agg [.r (.int .i64 x4.ID), .r (.int .i64 x4.Kind), .r (.sl (x4.Attrs.map GAttr.row)), .r (.sl (x4.Flow.map GElem.row)), .r (.int .i64 x4.Grid.Rows), .r (.int .i64 x4.Grid.Cols), .r (.sl (x4.Grid.Cells.map GCell.row)), .r (.sl (x4.Grid.Merges.map GRect.row)), .r (.sl (x4.Draw.map GDrawOp.row))]]) rfl (.inl rfl) rfl ⟨.inl ⟨(.inl rfl), rfl⟩, trivial⟩ (fun _ => w_doc_CopyNode (er1))) ?_
      refine AOps.step0 rfl rfl (ms_store_box (ds := [.r (.int .i64 r1.ID), .r (.int .i64 r1.Kind), .r (.sl (r1.Attrs.map GAttr.row)), .r (.sl (r1.Flow.map GElem.row)), .r (.int .i64 r1.Grid.Rows), .r (.int .i64 r1.Grid.Cols), .r (.sl (r1.Grid.Cells.map GCell.row)), .r (.sl (r1.Grid.Merges.map GRect.row)), .r (.sl (r1.Draw.map GDrawOp.row))]) rfl tz_35 (.inl rfl) rfl (.inl rfl) rfl rfl rfl rfl) ?_
      refine AOps.step rfl rfl rfl (OpQ.spec (sp_assign rfl (.inl rfl)) _) ?_
      refine AOps.nil ?_
      refine hK10 _ ?_
      refine AW.ret ?_
      exact retf2 (P := Tryd.prog) (fun (r : GNode × Bool) => .agg [.r (.int .i64 r.1.ID), .r (.int .i64 r.1.Kind), .r (.sl (r.1.Attrs.map GAttr.row)), .r (.sl (r.1.Flow.map GElem.row)), .r (.int .i64 r.1.Grid.Rows), .r (.int .i64 r.1.Grid.Cols), .r (.sl (r.1.Grid.Cells.map GCell.row)), .r (.sl (r.1.Grid.Merges.map GRect.row)), .r (.sl (r.1.Draw.map GDrawOp.row))]) (fun (r : GNode × Bool) => .r (.bool r.2)) (he1 _ (hx1 _ (Option.some.inj h6).symm)) (.inl rfl) (.a ta_35 rfl rfl rfl (.g (cs := [.int .i64 r1.ID, .int .i64 r1.Kind, .sl (r1.Attrs.map GAttr.row), .sl (r1.Flow.map GElem.row), .int .i64 r1.Grid.Rows, .int .i64 r1.Grid.Cols, .sl (r1.Grid.Cells.map GCell.row), .sl (r1.Grid.Merges.map GRect.row), .sl (r1.Draw.map GDrawOp.row)]) rfl rfl)) (.t (.d rfl))
    · have h5 := ite_f hc2 h4
      refine AW.skip ?_
      refine hK7 _ ?_
      refine AW.region ?_
      refine ob1k h5 fun x5 ex5 h7 => ?_
      refine AOps.step rfl rfl rfl (OpQ.spec (ms_add rfl (.inl rfl) (.inl rfl) (fun _ => ex5)) _) ?_
      refine AOps.step rfl rfl rfl (OpQ.spec (sp_move rfl (.inl rfl)) _) ?_
      refine AOps.nil ?_
      exact NextQ1.mk h7 (vec [((i3 0) + 1)]) ((by exact Weak.cv ⟨.inl (.inl rfl), .inl (.inl rfl), .inl (.inl rfl), .inl (.inl rfl), .inl (.inl rfl), trivial⟩ ⟨.inl rfl, trivial⟩ (Nat.le_refl _)))
  · have h3 := ite_f hc1 h2
    refine AW.exit ?_
    exact wK2 _ _ ((by exact Weak.cv ⟨.inl (.inl rfl), trivial⟩ ⟨.inl rfl, trivial⟩ (Nat.le_refl _))) (J1 _ (vec [(i3 0)]) (hx1 _ (Option.some.inj h3).symm))
set_option maxHeartbeats 4000000 in
set_option maxRecDepth 20000 in
theorem w_ref_Find {d1 : GDoc} {id1 : Int} {r : Int} (h : ref_Find d1 id1 = some r) : ARO Tryd.prog 12 [.agg [.r (.sl (d1.Nodes.map GNode.row))], .r (.int .i64 id1)] (.r (.int .i64 r)) := by
  unfold ref_Find at h
  refine ARO.mkF Tryd.func12 rfl rfl Tryd.ntmps12 rfl (Nat.le_of_ble_eq_true rfl) fun n0 => ?_
  refine AW.seq_w fun K1 hK1 wK1 => ?_
  refine AW.region ?_
  refine AOps.step rfl rfl rfl (ms_box (cs := [.r (.sl (d1.Nodes.map GNode.row))]) 2 rfl (.inl rfl) rfl rfl) ?_
  refine AOps.step rfl rfl rfl (OpQ.spec (sp_assign rfl (.inl rfl)) _) ?_
  refine AOps.nil ?_
  refine hK1 _ ?_
  refine AW.seq_w fun K2 hK2 wK2 => ?_
  refine AW.seq_w fun K3 hK3 wK3 => ?_
  refine AW.region ?_
  refine AOps.step rfl rfl rfl (OpQ.spec (sp_fieldAddr_own (ob := .box _ _ _) rfl tf_24_0 (.inl rfl) (fun _ => rfl) rfl) _) ?_
  refine AOps.step rfl rfl rfl (OpQ.spec (ms_load_box (a := .r (.sl (d1.Nodes.map GNode.row))) rfl ts_22 (.inl rfl) rfl rfl) _) ?_
  refine AOps.step rfl rfl rfl (OpQ.spec (ms_len rfl tg_22.slice (.inl rfl)) _) ?_
  refine AOps.step rfl rfl rfl (OpQ.spec (sp_move rfl (.inl rfl)) _) ?_
  refine AOps.nil ?_
  refine hK3 _ ?_
  refine AW.block ?_
  refine jc1k h fun o1 hit1 hk1 he1 => ?_
  have J1 : ∀ (u2 : Unit) (i5 : Nat → Nat), o1 = .nrm u2 → K2 ⟨[], [], (i5 0), 22⟩ := by
    intro u2 i5 e
    have h1 := hk1 _ e
    refine hK2 _ ?_
    refine AW.seq_w fun K4 hK4 wK4 => ?_
    refine AW.region ?_
    refine AOps.step rfl rfl rfl (OpQ.spec (sp_assign rfl (.inl rfl)) _) ?_
    refine AOps.nil ?_
    refine hK4 _ ?_
    refine AW.ret ?_
    exact retf1 (P := Tryd.prog) (fun (r : Int) => .r (.int .i64 r)) h1 (.inl rfl) (.t (.d rfl))
  refine AW.iter1 (fun (x2 : Int) i3 => ⟨[(1, .r (.int .i64 id1)), (2, .ptr 2 n0 0 0), (8, .r (.int .i64 (d1.Nodes.length : Int))), (9, .r (.int .i64 x2))], [(2, some (.box n0 24 [.r (.sl (d1.Nodes.map GNode.row))]))], (i3 0), 22⟩) (vec [(n0 + 1)]) hit1 ((by exact Weak.cv ⟨.inl (.inl rfl), .inl (.inl rfl), .inl (.inl rfl), .inl (.inl rfl), trivial⟩ ⟨.inl rfl, trivial⟩ (Nat.le_refl _))) ?_
  intro x2 i3 v1 hv1 hx1
  have h2 : ref_Find_L1 d1 id1 x2 = some v1 := hv1; unfold ref_Find_L1 at h2
  refine AW.seq_w fun K5 hK5 wK5 => ?_
  refine AW.region ?_
  refine AOps.step rfl rfl rfl (OpQ.spec (sp_lss rfl (.inl rfl) (.inl rfl)) _) ?_
  refine AOps.nil ?_
  refine hK5 _ ?_
  refine AW.seq_w fun K6 hK6 wK6 => ?_
  refine AW.cond rfl (fun hc1 => ?_) (fun hc1 => ?_)
  · have h3 := ite_t hc1 h2
    refine AW.skip ?_
    refine hK6 _ ?_
    refine AW.seq_w fun K7 hK7 wK7 => ?_
    refine AW.block ?_
    refine AW.seq_w fun K8 hK8 wK8 => ?_
    refine AW.region ?_
    refine AOps.step rfl rfl rfl (OpQ.spec (sp_move rfl (.inl rfl)) _) ?_
    refine AOps.step rfl rfl rfl (OpQ.spec (sp_assign rfl (.inl rfl)) _) ?_
    refine AOps.nil ?_
    refine hK8 _ ?_
    refine AW.seq_w fun K9 hK9 wK9 => ?_
    refine AW.region ?_
    refine AOps.step rfl rfl rfl (OpQ.spec (sp_fieldAddr_own (ob := .box _ _ _) rfl tf_24_0 (.inl rfl) (fun _ => rfl) rfl) _) ?_
    refine AOps.step rfl rfl rfl (OpQ.spec (ms_load_box (a := .r (.sl (d1.Nodes.map GNode.row))) rfl ts_22 (.inl rfl) rfl rfl) _) ?_
    refine AOps.step rfl rfl rfl (OpQ.spec (sp_move rfl (.inl rfl)) _) ?_
    refine ob1k h3 fun x4 ex4 h4 => ?_
    refine AOps.step rfl rfl rfl (OpQ.spec (ms_idx rfl tg_22.slice (.inl rfl) (.inl rfl) (fun _ => rfl) (fun _ => ex4)) _) ?_
    refine AOps.step rfl rfl rfl (OpQ.spec (sp_fieldAddr_ro rfl tf_35_0 (.inl rfl)) _) ?_
    refine AOps.step rfl rfl rfl (OpQ.spec (ms_load (d := .int .i64 x4.ID) rfl ts_3 (.inl rfl) rfl) _) ?_
    refine AOps.step rfl rfl rfl (OpQ.spec (sp_move rfl (.inl rfl)) _) ?_
    refine AOps.step rfl rfl rfl (OpQ.spec (sp_eql rfl (.inl rfl) (.inl rfl)) _) ?_
    refine AOps.nil ?_
    refine hK9 _ ?_
    refine AW.cond rfl (fun hc2 => ?_) (fun hc2 => ?_)
    · have h5 := ite_t hc2 h4
      refine AW.seq_w fun K10 hK10 wK10 => ?_
      refine AW.weak (s' := ⟨[(5, .r (.int .i64 x2))], [], (i3 0), 22⟩) (by exact Weak.cv ⟨.inl (.inl rfl), trivial⟩ trivial (Nat.le_refl _)) ?_
      refine AW.region ?_
      refine AOps.step rfl rfl rfl (OpQ.spec (sp_move rfl (.inl rfl)) _) ?_
      refine AOps.step rfl rfl rfl (OpQ.spec (sp_assign rfl (.inl rfl)) _) ?_
      refine AOps.nil ?_
      refine hK10 _ ?_
      refine AW.ret ?_
      exact retf1 (P := Tryd.prog) (fun (r : Int) => .r (.int .i64 r)) (he1 _ (hx1 _ (Option.some.inj h5).symm)) (.inl rfl) (.t (.d rfl))
    · have h5 := ite_f hc2 h4
      refine AW.skip ?_
      refine hK7 _ ?_
      refine AW.weak (s' := ⟨[(1, .r (.int .i64 id1)), (2, .ptr 2 n0 0 0), (8, .r (.int .i64 (d1.Nodes.length : Int))), (9, .r (.int .i64 x2))], [(2, some (.box n0 24 [.r (.sl (d1.Nodes.map GNode.row))]))], (i3 0), 22⟩) (by exact Weak.cv ⟨.inl (.inl rfl), .inl (.inl rfl), .inl (.inl rfl), .inl (.inl rfl), trivial⟩ ⟨.inl rfl, trivial⟩ (Nat.le_refl _)) ?_
      refine AW.region ?_
      refine ob1k h5 fun x5 ex5 h6 => ?_
      refine AOps.step rfl rfl rfl (OpQ.spec (ms_add rfl (.inl rfl) (.inl rfl) (fun _ => ex5)) _) ?_
      refine AOps.step rfl rfl rfl (OpQ.spec (sp_move rfl (.inl rfl)) _) ?_
      refine AOps.nil ?_
      exact NextQ1.mk h6 (vec [(i3 0)]) ((by exact Weak.cv ⟨.inl (.inl rfl), .inl (.inl rfl), .inl (.inl rfl), .inl (.inl rfl), trivial⟩ ⟨.inl rfl, trivial⟩ (Nat.le_refl _)))
  · have h3 := ite_f hc1 h2
    refine AW.exit ?_
    exact wK2 _ _ ((by exact Weak.cv trivial trivial (Nat.le_refl _))) (J1 _ (vec [(i3 0)]) (hx1 _ (Option.some.inj h3).symm))
set_option maxHeartbeats 4000000 in
set_option maxRecDepth 20000 in
theorem w_doc_Site {id1 : Int} {r : Int} (h : doc_Site id1 = some r) : ARO Tryd.prog 14 [.r (.int .i64 id1)] (.r (.int .i64 r)) := by
  unfold doc_Site at h
  refine ARO.mkF Tryd.func14 rfl rfl Tryd.ntmps14 rfl (Nat.le_of_ble_eq_true rfl) fun n0 => ?_
  refine AW.seq_w fun K1 hK1 wK1 => ?_
  refine AW.region ?_
  refine AOps.step rfl rfl rfl (OpQ.spec (sp_assign rfl (.inl rfl)) _) ?_
  refine AOps.nil ?_
  refine hK1 _ ?_
  refine AW.seq_w fun K2 hK2 wK2 => ?_
  refine AW.region ?_
  refine AOps.step rfl rfl rfl (OpQ.spec (sp_move rfl (.inl rfl)) _) ?_
  refine AOps.step rfl rfl rfl (OpQ.spec (sp_shr (b := 16) rfl (.inl rfl) (.inl rfl)) _) ?_
  refine AOps.step rfl rfl rfl (OpQ.spec (sp_assign rfl (.inl rfl)) _) ?_
  refine AOps.nil ?_
  refine hK2 _ ?_
  refine AW.ret ?_
  exact retf1 (P := Tryd.prog) (fun (r : Int) => .r (.int .i64 r)) h (.inl rfl) (.t (.d rfl))
set_option maxHeartbeats 4000000 in
set_option maxRecDepth 20000 in
theorem w_law_DocNodeMatches {d1 : GDoc} {other1 : GDoc} {id1 : Int} {r : Bool} (h : law_DocNodeMatches d1 other1 id1 = some r) : ARO Tryd.prog 3 [.agg [.r (.sl (d1.Nodes.map GNode.row))], .agg [.r (.sl (other1.Nodes.map GNode.row))], .r (.int .i64 id1)] (.r (.bool r)) := by
  unfold law_DocNodeMatches at h
  refine ARO.mkF Tryd.func3 rfl rfl Tryd.ntmps3 rfl (Nat.le_of_ble_eq_true rfl) fun n0 => ?_
  refine AW.seq_w fun K1 hK1 wK1 => ?_
  refine AW.region ?_
  refine AOps.step rfl rfl rfl (ms_box (cs := [.r (.sl (d1.Nodes.map GNode.row))]) 3 rfl (.inl rfl) rfl rfl) ?_
  refine AOps.step rfl rfl rfl (ms_box (cs := [.r (.sl (other1.Nodes.map GNode.row))]) 4 rfl (.inl rfl) rfl rfl) ?_
  refine AOps.step rfl rfl rfl (OpQ.spec (sp_assign rfl (.inl rfl)) _) ?_
  refine AOps.nil ?_
  refine hK1 _ ?_
  refine AW.seq_w fun K2 hK2 wK2 => ?_
  refine AW.seq_w fun K3 hK3 wK3 => ?_
  refine AW.regionQ hmix (by kernel_rfl) ?_
  refine ob1k h fun r1 er1 h1 => ?_
  refine AQ.stepC rfl rfl rfl (r := .r (.bool r1)) (caps := []) (bs := []) rfl (.inl rfl) rfl trivial (fun _ => w_law_docs (er1)) rfl ?_
  refine AQ.step rfl rfl rfl (sp_not rfl (.inl rfl)) ?_
  refine AQ.step rfl rfl rfl (sp_move rfl (.inl rfl)) ?_
  refine AQ.stepW (.one rfl rfl rfl) rfl rfl (ms_loadA_box rfl ta_24 (.inl rfl) rfl rfl) ?_
  refine AQ.stepW (.one rfl rfl rfl) rfl rfl (ms_loadA_box rfl ta_24 (.inl rfl) rfl rfl) ?_
  refine ob1k h1 fun r2 er2 h2 => ?_
  refine AQ.stepWC (.one rfl rfl rfl) rfl rfl (r := .r (.bool r2)) (caps := []) (bs := [.agg [.r (.sl (d1.Nodes.map GNode.row))], .agg [.r (.sl (other1.Nodes.map GNode.row))]]) rfl (.inl rfl) rfl ⟨⟨_, (.inr ⟨_, (by exact id), rfl⟩), .g (cs := [.sl (d1.Nodes.map GNode.row)]) rfl rfl⟩, ⟨_, (.inr ⟨_, (by exact id), rfl⟩), .g (cs := [.sl (other1.Nodes.map GNode.row)]) rfl rfl⟩, trivial⟩ (fun hg => w_doc_Same (gdt er2 hg)) rfl ?_
  refine AQ.stepW (.one rfl rfl rfl) rfl rfl (ms_loadA_box rfl ta_24 (.inl rfl) rfl rfl) ?_
  refine AQ.stepW (.one rfl rfl rfl) rfl rfl (ms_loadA_box rfl ta_24 (.inl rfl) rfl rfl) ?_
  refine ob1k h2 fun r3 er3 h3 => ?_
  refine AQ.stepWC (.one rfl rfl rfl) rfl rfl (r := .r (.bool r3)) (caps := []) (bs := [.agg [.r (.sl (d1.Nodes.map GNode.row))], .agg [.r (.sl (other1.Nodes.map GNode.row))]]) rfl (.inl rfl) rfl ⟨⟨_, (.inr ⟨_, (by exact id), rfl⟩), .g (cs := [.sl (d1.Nodes.map GNode.row)]) rfl rfl⟩, ⟨_, (.inr ⟨_, (by exact id), rfl⟩), .g (cs := [.sl (other1.Nodes.map GNode.row)]) rfl rfl⟩, trivial⟩ (fun hg => w_ref_SameDoc (gdt er3 hg)) rfl ?_
  refine AQ.stepW (.one rfl rfl rfl) rfl rfl (sp_bneq rfl Tryd.underlying4 (.inr ⟨_, (by exact id), rfl⟩) (.inr ⟨_, (by exact id), rfl⟩)) ?_
  refine AQ.step rfl rfl rfl (sp_or rfl (.inl rfl) (.inr ⟨_, (by exact id), rfl⟩)) ?_
  refine AQ.nil ?_
  refine hK3 _ ?_
  refine AW.cond rfl (fun hc1 => ?_) (fun hc1 => ?_)
  · have h4 := ite_t hc1 h3
    refine AW.seq_w fun K4 hK4 wK4 => ?_
    refine AW.weak (s' := ⟨[], [], (n0 + 2), 60⟩) (by exact Weak.cv trivial trivial (Nat.le_refl _)) ?_
    refine AW.region ?_
    refine AOps.step rfl rfl rfl (OpQ.spec (sp_assign rfl (.inl rfl)) _) ?_
    refine AOps.nil ?_
    refine hK4 _ ?_
    refine AW.ret ?_
    exact retf1 (P := Tryd.prog) (fun (r : Bool) => .r (.bool r)) h4 (.inl rfl) (.t (.d rfl))
  · have h4 := ite_f hc1 h3
    refine AW.skip ?_
    refine hK2 _ ?_
    refine AW.seq_w fun K5 hK5 wK5 => ?_
    refine AW.weak (s' := ⟨[(2, .r (.int .i64 id1)), (3, .ptr 3 n0 0 0)], [(3, some (.box n0 24 [.r (.sl (d1.Nodes.map GNode.row))]))], (n0 + 2), 60⟩) (by exact Weak.cv ⟨.inl (.inl rfl), .inl (.inl rfl), trivial⟩ ⟨.inl rfl, trivial⟩ (Nat.le_refl _)) ?_
    refine AW.region ?_
    refine AOps.step rfl rfl rfl (OpQ.spec (ms_loadA_box rfl ta_24 (.inl rfl) rfl rfl) _) ?_
    refine AOps.step rfl rfl rfl (OpQ.spec (sp_move rfl (.inl rfl)) _) ?_
    refine ob2k h4 fun r4 r5 er4 h5 => ?_
    refine AOps.step rfl rfl rfl (sp_callS (r := .tup [.agg [.r (.int .i64 r4.ID), .r (.int .i64 r4.Kind), .r (.sl (r4.Attrs.map GAttr.row)), .r (.sl (r4.Flow.map GElem.row)), .r (.int .i64 r4.Grid.Rows), .r (.int .i64 r4.Grid.Cols), .r (.sl (r4.Grid.Cells.map GCell.row)), .r (.sl (r4.Grid.Merges.map GRect.row)), .r (.sl (r4.Draw.map GDrawOp.row))], .r (.bool r5)]) (caps := []) (bs := [.agg [.r (.sl (d1.Nodes.map GNode.row))], .r (.int .i64 id1)]) rfl (.inl rfl) rfl ⟨.inl ⟨(.inl rfl), rfl⟩, .inl ⟨(.inl rfl), rfl⟩, trivial⟩ (fun _ => w_doc_Node (er4))) ?_
    refine AOps.step rfl rfl rfl (OpQ.spec (sp_move rfl (.inl rfl)) _) ?_
    refine AOps.step rfl rfl rfl (OpQ.spec (sp_extract (a := .agg [.r (.int .i64 r4.ID), .r (.int .i64 r4.Kind), .r (.sl (r4.Attrs.map GAttr.row)), .r (.sl (r4.Flow.map GElem.row)), .r (.int .i64 r4.Grid.Rows), .r (.int .i64 r4.Grid.Cols), .r (.sl (r4.Grid.Cells.map GCell.row)), .r (.sl (r4.Grid.Merges.map GRect.row)), .r (.sl (r4.Draw.map GDrawOp.row))]) rfl (.inl rfl) rfl) _) ?_
    refine AOps.step rfl rfl rfl (OpQ.spec (sp_extract (a := .r (.bool r5)) rfl (.inl rfl) rfl) _) ?_
    refine AOps.step rfl rfl rfl (ms_alloc (cs := [.r (.int .i64 0), .r (.int .i64 0), .cst (.slice none 0 0), .cst (.slice none 0 0), .r (.int .i64 0), .r (.int .i64 0), .cst (.slice none 0 0), .cst (.slice none 0 0), .cst (.slice none 0 0)]) 7 rfl t0_35 rfl rfl) ?_
    refine AOps.step0 rfl rfl (ms_store_box (ds := [.r (.int .i64 r4.ID), .r (.int .i64 r4.Kind), .r (.sl (r4.Attrs.map GAttr.row)), .r (.sl (r4.Flow.map GElem.row)), .r (.int .i64 r4.Grid.Rows), .r (.int .i64 r4.Grid.Cols), .r (.sl (r4.Grid.Cells.map GCell.row)), .r (.sl (r4.Grid.Merges.map GRect.row)), .r (.sl (r4.Draw.map GDrawOp.row))]) rfl tz_35 (.inl rfl) rfl (.inl rfl) rfl rfl rfl rfl) ?_
    refine AOps.step rfl rfl rfl (OpQ.spec (sp_assign rfl (.inl rfl)) _) ?_
    refine AOps.nil ?_
    refine hK5 _ ?_
    refine AW.seq_w fun K6 hK6 wK6 => ?_
    refine AW.seq_w fun K7 hK7 wK7 => ?_
    refine AW.region ?_
    refine AOps.step rfl rfl rfl (OpQ.spec (ms_loadA_box rfl ta_24 (.inl rfl) rfl rfl) _) ?_
    refine AOps.step rfl rfl rfl (OpQ.spec (sp_move rfl (.inl rfl)) _) ?_
    refine ob1k h5 fun i1 ei1 h6 => ?_
    refine AOps.step rfl rfl rfl (sp_call (r := .r (.int .i64 i1)) (caps := []) (bs := [.agg [.r (.sl (d1.Nodes.map GNode.row))], .r (.int .i64 id1)]) rfl (.inl rfl) rfl ⟨⟨_, (.inl rfl), .g (cs := [.sl (d1.Nodes.map GNode.row)]) rfl rfl⟩, ⟨_, (.inl rfl), .d rfl⟩, trivial⟩ (fun _ => w_ref_Find (ei1)) rfl) ?_
    refine AOps.step rfl rfl rfl (OpQ.spec (sp_assign rfl (.inl rfl)) _) ?_
    refine AOps.nil ?_
    refine hK7 _ ?_
    refine AW.seq_w fun K8 hK8 wK8 => ?_
    refine AW.weak (s' := ⟨[(2, .r (.int .i64 id1)), (3, .ptr 3 n0 0 0), (7, .ptr 7 (n0 + 2) 0 0), (8, .r (.bool r5)), (9, .r (.int .i64 i1))], [(3, some (.box n0 24 [.r (.sl (d1.Nodes.map GNode.row))])), (7, some (.box (n0 + 2) 35 [.r (.int .i64 r4.ID), .r (.int .i64 r4.Kind), .r (.sl (r4.Attrs.map GAttr.row)), .r (.sl (r4.Flow.map GElem.row)), .r (.int .i64 r4.Grid.Rows), .r (.int .i64 r4.Grid.Cols), .r (.sl (r4.Grid.Cells.map GCell.row)), .r (.sl (r4.Grid.Merges.map GRect.row)), .r (.sl (r4.Draw.map GDrawOp.row))]))], (n0 + 3), 60⟩) (by exact Weak.cv ⟨.inl (.inl rfl), .inl (.inl rfl), .inl (.inl rfl), .inl (.inl rfl), .inl (.inl rfl), trivial⟩ ⟨.inl rfl, .inl rfl, trivial⟩ (Nat.le_refl _)) ?_
    refine AW.region ?_
    refine AOps.step rfl rfl rfl (OpQ.spec (sp_move rfl (.inl rfl)) _) ?_
    refine AOps.step rfl rfl rfl (OpQ.spec (sp_lss rfl (.inl rfl) (.inl rfl)) _) ?_
    refine AOps.nil ?_
    refine hK8 _ ?_
    refine jc1k h6 fun p1 hp1 hk1 he1 => ?_
    have J1 : ∀ (u1 : Unit) (i2 : Nat → Nat), p1 = .nrm u1 → K6 ⟨[(2, .r (.int .i64 id1))], [], (i2 0), 60⟩ := by
      intro u1 i2 e
      have h7 := hk1 _ e
      refine hK6 _ ?_
      refine AW.seq_w fun K9 hK9 wK9 => ?_
      refine AW.region ?_
      refine AOps.step rfl rfl rfl (OpQ.spec (sp_move rfl (.inl rfl)) _) ?_
      refine AOps.step rfl rfl rfl (OpQ.spec (sp_lss rfl (.inl rfl) (.inl rfl)) _) ?_
      refine AOps.step rfl rfl rfl (OpQ.spec (sp_move rfl (.inl rfl)) _) ?_
      refine AOps.stepW (.one rfl rfl rfl) rfl rfl (OpQ.spec (sp_move rfl (.inl rfl)) _) ?_
      refine ob1k h7 fun r6 er6 h8 => ?_
      refine AOps.stepW (.one rfl rfl rfl) rfl rfl (sp_call (r := .r (.int .i64 r6)) (caps := []) (bs := [.r (.int .i64 id1)]) rfl (.inl rfl) rfl ⟨⟨_, (.inr ⟨_, (by exact id), rfl⟩), .d rfl⟩, trivial⟩ (fun hg => w_doc_Site (gdt er6 hg)) rfl) ?_
      refine AOps.stepW (.one rfl rfl rfl) rfl rfl (OpQ.spec (sp_move rfl (.inl rfl)) _) ?_
      refine ob1k h8 fun x1 ex1 h9 => ?_
      refine AOps.stepW (.one rfl rfl rfl) rfl rfl (OpQ.spec (ms_quo rfl (.inr ⟨_, (by exact id), rfl⟩) (.inl rfl) (gdt ex1)) _) ?_
      refine AOps.stepW (.one rfl rfl rfl) rfl rfl (OpQ.spec (sp_eql rfl (.inr ⟨_, (by exact id), rfl⟩) (.inr ⟨_, (by exact id), rfl⟩)) _) ?_
      refine AOps.step rfl rfl rfl (OpQ.spec (sp_or rfl (.inl rfl) (.inr ⟨_, (by exact id), rfl⟩)) _) ?_
      refine AOps.step rfl rfl rfl (OpQ.spec (sp_assign rfl (.inl rfl)) _) ?_
      refine AOps.nil ?_
      refine hK9 _ ?_
      refine AW.ret ?_
      exact retf1 (P := Tryd.prog) (fun (r : Bool) => .r (.bool r)) h9 (.inl rfl) (.t (.d rfl))
    refine AW.cond rfl (fun hc2 => ?_) (fun hc2 => ?_)
    · have h10 := ite_t hc2 hp1
      refine AW.seq_w fun K10 hK10 wK10 => ?_
      refine AW.region ?_
      refine AOps.step rfl rfl rfl (OpQ.spec (sp_move rfl (.inl rfl)) _) ?_
      refine AOps.step rfl rfl rfl (OpQ.spec (sp_move rfl (.inl rfl)) _) ?_
      refine AOps.stepW (.one rfl rfl rfl) rfl rfl (OpQ.spec (ms_loadA_box rfl ta_35 (.inl rfl) rfl rfl) _) ?_
      refine AOps.stepW (.one rfl rfl rfl) rfl rfl (OpQ.spec (sp_build rfl tb_35 (q := []) (by exact trivial) (cs := [.r (.int .i64 0), .r (.int .i64 0), .cst (.slice none 0 0), .cst (.slice none 0 0), .r (.int .i64 0), .r (.int .i64 0), .cst (.slice none 0 0), .cst (.slice none 0 0), .cst (.slice none 0 0)]) (by rfl)) _) ?_
      refine jb1k h10 fun p2 hp2 hk2 => ?_
      have J2 : ∀ (x2 : Bool) (i3 : Nat → Nat), p2 = x2 → K10 ⟨[(2, .r (.int .i64 id1)), (38, .r (.bool x2))], [], (i3 0), 60⟩ := by
        intro x2 i3 e
        have h11 := hk2 _ e
        refine hK10 _ ?_
        refine AW.cond rfl (fun hc3 => ?_) (fun hc3 => ?_)
        · have h12 := ite_t hc3 h11
          refine AW.seq_w fun K11 hK11 wK11 => ?_
          refine AW.region ?_
          refine AOps.step rfl rfl rfl (OpQ.spec (sp_assign rfl (.inl rfl)) _) ?_
          refine AOps.nil ?_
          refine hK11 _ ?_
          refine AW.ret ?_
          exact retf1 (P := Tryd.prog) (fun (r : Bool) => .r (.bool r)) (he1 _ (Option.some.inj h12).symm) (.inl rfl) (.t (.d rfl))
        · have h12 := ite_f hc3 h11
          refine AW.skip ?_
          exact wK6 _ _ ((by exact Weak.cv ⟨.inl (.inl rfl), trivial⟩ trivial (Nat.le_refl _))) (J1 _ (vec [(i3 0)]) (Option.some.inj h12).symm)
      refine AOps.split (r5 == false) (fun hg1 => ?_) (fun hg1 => ?_)
      · have h13 := ite_t hg1 hp2
        refine AOps.weak (by exact Weak.unw2 (e' := [(2, .r (.int .i64 id1)), (3, .ptr 3 n0 0 0), (7, .ptr 7 (n0 + 2) 0 0), (8, .r (.bool r5)), (9, .r (.int .i64 i1)), (30, .r (.int .i64 i1)), (31, .r (.bool (decide (i1 < 0)))), (32, .r (.bool r5)), (33, .r (.bool r5)), (34, .agg [.r (.int .i64 r4.ID), .r (.int .i64 r4.Kind), .r (.sl (r4.Attrs.map GAttr.row)), .r (.sl (r4.Flow.map GElem.row)), .r (.int .i64 r4.Grid.Rows), .r (.int .i64 r4.Grid.Cols), .r (.sl (r4.Grid.Cells.map GCell.row)), .r (.sl (r4.Grid.Merges.map GRect.row)), .r (.sl (r4.Draw.map GDrawOp.row))]), (35, .agg [.r (.int .i64 0), .r (.int .i64 0), .cst (.slice none 0 0), .cst (.slice none 0 0), .r (.int .i64 0), .r (.int .i64 0), .cst (.slice none 0 0), .cst (.slice none 0 0), .cst (.slice none 0 0)])]) hg1 ⟨.inl rfl, .inl rfl, .inl rfl, .inl rfl, .inl rfl, .inl rfl, .inl rfl, .inl rfl, .inl rfl, .inr (.inl rfl), .inr (.inl rfl), trivial⟩) ?_
        refine AOps.weak (by exact Weak.cv (e' := [(2, .r (.int .i64 id1)), (3, .ptr 3 n0 0 0), (7, .ptr 7 (n0 + 2) 0 0), (8, .r (.bool r5)), (9, .r (.int .i64 i1)), (30, .r (.int .i64 i1)), (31, .r (.bool (decide (i1 < 0)))), (32, .r (.bool r5)), (33, .r (.bool r5)), (34, .agg [.r (.int .i64 r4.ID), .r (.int .i64 r4.Kind), .r (.sl (r4.Attrs.map GAttr.row)), .r (.sl (r4.Flow.map GElem.row)), .r (.int .i64 r4.Grid.Rows), .r (.int .i64 r4.Grid.Cols), .r (.sl (r4.Grid.Cells.map GCell.row)), .r (.sl (r4.Grid.Merges.map GRect.row)), .r (.sl (r4.Draw.map GDrawOp.row))]), (35, .agg [.r (.int .i64 0), .r (.int .i64 0), .r (.sl []), .r (.sl []), .r (.int .i64 0), .r (.int .i64 0), .r (.sl []), .r (.sl []), .r (.sl [])])]) (h' := [(3, some (.box n0 24 [.r (.sl (d1.Nodes.map GNode.row))])), (7, some (.box (n0 + 2) 35 [.r (.int .i64 r4.ID), .r (.int .i64 r4.Kind), .r (.sl (r4.Attrs.map GAttr.row)), .r (.sl (r4.Flow.map GElem.row)), .r (.int .i64 r4.Grid.Rows), .r (.int .i64 r4.Grid.Cols), .r (.sl (r4.Grid.Cells.map GCell.row)), .r (.sl (r4.Grid.Merges.map GRect.row)), .r (.sl (r4.Draw.map GDrawOp.row))]))]) ⟨.inl (.inl rfl), .inl (.inl rfl), .inl (.inl rfl), .inl (.inl rfl), .inl (.inl rfl), .inl (.inl rfl), .inl (.inl rfl), .inl (.inl rfl), .inl (.inl rfl), .inl (.inl rfl), .inr ⟨_, _, rfl, rfl, ⟨.inl rfl, .inl rfl, .inr (.inr ⟨rfl, rfl⟩), .inr (.inr ⟨rfl, rfl⟩), .inl rfl, .inl rfl, .inr (.inr ⟨rfl, rfl⟩), .inr (.inr ⟨rfl, rfl⟩), .inr (.inr ⟨rfl, rfl⟩), trivial⟩⟩, trivial⟩ ⟨.inl rfl, .inl rfl, trivial⟩ (Nat.le_refl _)) ?_
        refine ob1k h13 fun r7 er7 h14 => ?_
        refine AOps.stepGT (.one rfl rfl rfl) hg1 rfl rfl (sp_call (r := .r (.bool r7)) (caps := []) (bs := [.agg [.r (.int .i64 r4.ID), .r (.int .i64 r4.Kind), .r (.sl (r4.Attrs.map GAttr.row)), .r (.sl (r4.Flow.map GElem.row)), .r (.int .i64 r4.Grid.Rows), .r (.int .i64 r4.Grid.Cols), .r (.sl (r4.Grid.Cells.map GCell.row)), .r (.sl (r4.Grid.Merges.map GRect.row)), .r (.sl (r4.Draw.map GDrawOp.row))], .agg [.r (.int .i64 0), .r (.int .i64 0), .r (.sl []), .r (.sl []), .r (.int .i64 0), .r (.int .i64 0), .r (.sl []), .r (.sl []), .r (.sl [])]]) rfl (.inl rfl) rfl ⟨⟨_, (.inl rfl), .g (cs := [.int .i64 r4.ID, .int .i64 r4.Kind, .sl (r4.Attrs.map GAttr.row), .sl (r4.Flow.map GElem.row), .int .i64 r4.Grid.Rows, .int .i64 r4.Grid.Cols, .sl (r4.Grid.Cells.map GCell.row), .sl (r4.Grid.Merges.map GRect.row), .sl (r4.Draw.map GDrawOp.row)]) rfl rfl⟩, ⟨_, (.inl rfl), .g (cs := [.int .i64 0, .int .i64 0, .sl ([].map GAttr.row), .sl ([].map GElem.row), .int .i64 0, .int .i64 0, .sl ([].map GCell.row), .sl ([].map GRect.row), .sl ([].map GDrawOp.row)]) rfl rfl⟩, trivial⟩ (fun _ => w_ref_SameNode (er7)) rfl) ?_
        refine AOps.stepGT (.one rfl rfl rfl) hg1 rfl rfl (OpQ.spec (sp_not rfl (.inl rfl)) _) ?_
        refine AOps.step rfl rfl rfl (OpQ.spec (sp_or rfl (.inl rfl) (.inl rfl)) _) ?_
        refine AOps.nil ?_
        exact wK10 _ _ ((by exact Weak.cv ⟨.inl (.inl rfl), .inl (.inl rfl), trivial⟩ trivial (Nat.le_refl _))) (J2 _ (vec [(n0 + 3)]) (Option.some.inj h14).symm)
      · have h13 := ite_f hg1 hp2
        refine AOps.stepGF2 (.one rfl rfl rfl) hg1 rfl rfl ?_
        refine AOps.stepGF2 (.one rfl rfl rfl) hg1 rfl rfl ?_
        refine AOps.step rfl rfl rfl (OpQ.spec (sp_or rfl (.inl rfl) (.inr ⟨_, (by exact id), rfl⟩)) _) ?_
        refine AOps.nil ?_
        exact wK10 _ _ ((by exact Weak.cv ⟨.inl (.inl rfl), .inl (.inl rfl), trivial⟩ trivial (Nat.le_refl _))) (J2 _ (vec [(n0 + 3)]) (Option.some.inj h13).symm)
    · have h10 := ite_f hc2 hp1
      refine AW.seq_w fun K12 hK12 wK12 => ?_
      refine AW.regionQ hmix (by kernel_rfl) ?_
      refine AQ.step rfl rfl rfl (sp_move rfl (.inl rfl)) ?_
      refine AQ.step rfl rfl rfl (sp_not rfl (.inl rfl)) ?_
      refine AQ.step rfl rfl rfl (sp_move rfl (.inl rfl)) ?_
      refine AQ.stepW (.one rfl rfl rfl) rfl rfl (ms_loadA_box rfl ta_35 (.inl rfl) rfl rfl) ?_
      refine AQ.stepW (.one rfl rfl rfl) rfl rfl (sp_fieldAddr_own (ob := .box _ _ _) rfl tf_24_0 (.inl rfl) (fun _ => rfl) rfl) ?_
      refine AQ.stepW (.one rfl rfl rfl) rfl rfl (ms_load_box (a := .r (.sl (d1.Nodes.map GNode.row))) rfl ts_22 (.inr ⟨_, (by exact id), rfl⟩) rfl rfl) ?_
      refine AQ.stepW (.one rfl rfl rfl) rfl rfl (sp_move rfl (.inl rfl)) ?_
      refine ob1k h10 fun x3 ex3 h15 => ?_
      refine AQ.stepW (.one rfl rfl rfl) rfl rfl (ms_idx rfl tg_22.slice (.inr ⟨_, (by exact id), rfl⟩) (.inr ⟨_, (by exact id), rfl⟩) (fun _ => rfl) (gdt ex3)) ?_
      refine AQ.stepW (.one rfl rfl rfl) rfl rfl (ms_loadA (cs := [.r (.int .i64 x3.ID), .r (.int .i64 x3.Kind), .r (.sl (x3.Attrs.map GAttr.row)), .r (.sl (x3.Flow.map GElem.row)), .r (.int .i64 x3.Grid.Rows), .r (.int .i64 x3.Grid.Cols), .r (.sl (x3.Grid.Cells.map GCell.row)), .r (.sl (x3.Grid.Merges.map GRect.row)), .r (.sl (x3.Draw.map GDrawOp.row))]) rfl ta_35 (.inr ⟨_, (by exact id), rfl⟩) rfl rfl) ?_
      refine ob1k h15 fun r8 er8 h16 => ?_
      refine AQ.stepWC (.one rfl rfl rfl) rfl rfl (r := .r (.bool r8)) (caps := []) (bs := [.agg [.r (.int .i64 r4.ID), .r (.int .i64 r4.Kind), .r (.sl (r4.Attrs.map GAttr.row)), .r (.sl (r4.Flow.map GElem.row)), .r (.int .i64 r4.Grid.Rows), .r (.int .i64 r4.Grid.Cols), .r (.sl (r4.Grid.Cells.map GCell.row)), .r (.sl (r4.Grid.Merges.map GRect.row)), .r (.sl (r4.Draw.map GDrawOp.row))], .agg [.r (.int .i64 x3.ID), .r (.int .i64 x3.Kind), .r (.sl (x3.Attrs.map GAttr.row)), .r (.sl (x3.Flow.map GElem.row)), .r (.int .i64 x3.Grid.Rows), .r (.int .i64 x3.Grid.Cols), .r (.sl (x3.Grid.Cells.map GCell.row)), .r (.sl (x3.Grid.Merges.map GRect.row)), .r (.sl (x3.Draw.map GDrawOp.row))]]) rfl (.inl rfl) rfl ⟨⟨_, (.inr ⟨_, (by exact id), rfl⟩), .g (cs := [.int .i64 r4.ID, .int .i64 r4.Kind, .sl (r4.Attrs.map GAttr.row), .sl (r4.Flow.map GElem.row), .int .i64 r4.Grid.Rows, .int .i64 r4.Grid.Cols, .sl (r4.Grid.Cells.map GCell.row), .sl (r4.Grid.Merges.map GRect.row), .sl (r4.Draw.map GDrawOp.row)]) rfl rfl⟩, ⟨_, (.inr ⟨_, (by exact id), rfl⟩), .g (cs := [.int .i64 x3.ID, .int .i64 x3.Kind, .sl (x3.Attrs.map GAttr.row), .sl (x3.Flow.map GElem.row), .int .i64 x3.Grid.Rows, .int .i64 x3.Grid.Cols, .sl (x3.Grid.Cells.map GCell.row), .sl (x3.Grid.Merges.map GRect.row), .sl (x3.Draw.map GDrawOp.row)]) rfl rfl⟩, trivial⟩ (fun hg => w_ref_SameNode (gdt er8 hg)) rfl ?_
      refine AQ.stepW (.one rfl rfl rfl) rfl rfl (sp_not rfl (.inr ⟨_, (by exact id), rfl⟩)) ?_
      refine AQ.step rfl rfl rfl (sp_or rfl (.inl rfl) (.inr ⟨_, (by exact id), rfl⟩)) ?_
      refine AQ.nil ?_
      refine hK12 _ ?_
      refine AW.cond rfl (fun hc4 => ?_) (fun hc4 => ?_)
      · have h17 := ite_t hc4 h16
        refine AW.seq_w fun K13 hK13 wK13 => ?_
        refine AW.weak (s' := ⟨[], [], (n0 + 3), 60⟩) (by exact Weak.cv trivial trivial (Nat.le_refl _)) ?_
        refine AW.region ?_
        refine AOps.step rfl rfl rfl (OpQ.spec (sp_assign rfl (.inl rfl)) _) ?_
        refine AOps.nil ?_
        refine hK13 _ ?_
        refine AW.ret ?_
        exact retf1 (P := Tryd.prog) (fun (r : Bool) => .r (.bool r)) (he1 _ (Option.some.inj h17).symm) (.inl rfl) (.t (.d rfl))
      · have h17 := ite_f hc4 h16
        refine AW.skip ?_
        exact wK6 _ _ ((by exact Weak.cv ⟨.inl (.inl rfl), trivial⟩ trivial (Nat.le_refl _))) (J1 _ (vec [(n0 + 3)]) (Option.some.inj h17).symm)
end Go.Proofs.YtfkolgjapajekaaDoor.Al
