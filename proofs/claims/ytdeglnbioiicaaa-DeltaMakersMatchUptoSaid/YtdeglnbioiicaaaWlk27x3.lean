/- Walks, as printed. -/
import Derived.Test.YtdeglnbioiicaaaWlk27x2
import Derived.Test.YtdeglnbioiicaaaProg
set_option linter.unusedVariables false
namespace Go.Proofs.Ytdeglnbioiicaaa.Al
open Go.Proofs
set_option maxHeartbeats 4000000 in
set_option maxRecDepth 20000 in
theorem w_law_DeltaMakersMatch {n1 : Int} {from1 : Int} {to1 : Int} {elems1 : List GElem} {change1 : List GAttr} {d1 : List GStep} {r : Bool} (h : law_DeltaMakersMatch n1 from1 to1 elems1 change1 d1 = some r) : ARO Try.prog 7 [.r (.int .i64 n1), .r (.int .i64 from1), .r (.int .i64 to1), .r (.sl (elems1.map GElem.row)), .r (.sl (change1.map GAttr.row)), .r (.sl (d1.map GStep.row))] (.r (.bool r)) := by
  unfold law_DeltaMakersMatch at h
  refine ARO.mkF Try.func7 rfl rfl Try.ntmps7 rfl (Nat.le_of_ble_eq_true rfl) fun n0 => ?_
  refine AW.seq_w fun K1 hK1 wK1 => ?_
  refine AW.region ?_
  refine AOps.step rfl rfl rfl (OpQ.spec (sp_assign rfl (.inl rfl)) _) ?_
  refine AOps.nil ?_
  refine hK1 _ ?_
  refine AW.seq_w fun K2 hK2 wK2 => ?_
  refine AW.seq_w fun K3 hK3 wK3 => ?_
  refine AW.region ?_
  refine ob1k h fun r1 er1 h1 => ?_
  refine AOps.step rfl rfl rfl (sp_call (r := .r (.bool r1)) (caps := []) (bs := []) rfl (.inl rfl) rfl trivial (fun _ => w_law_deltas (er1)) rfl) ?_
  refine AOps.step rfl rfl rfl (OpQ.spec (sp_not rfl (.inl rfl)) _) ?_
  refine AOps.nil ?_
  refine hK3 _ ?_
  refine AW.cond rfl (fun hc1 => ?_) (fun hc1 => ?_)
  · have h2 := ite_t hc1 h1
    refine AW.seq_w fun K4 hK4 wK4 => ?_
    refine AW.weak (s' := ⟨[], [], n0, 200⟩) (by exact Weak.cv trivial trivial (Nat.le_refl _)) ?_
    refine AW.region ?_
    refine AOps.step rfl rfl rfl (OpQ.spec (sp_assign rfl (.inl rfl)) _) ?_
    refine AOps.nil ?_
    refine hK4 _ ?_
    refine AW.ret ?_
    exact retf1 (P := Try.prog) (fun (r : Bool) => .r (.bool r)) h2 (.inl rfl) (.t (.d rfl))
  · have h2 := ite_f hc1 h1
    refine AW.skip ?_
    refine hK2 _ ?_
    refine AW.seq_w fun K5 hK5 wK5 => ?_
    refine AW.region ?_
    refine AOps.step rfl rfl rfl (OpQ.spec (sp_move rfl (.inl rfl)) _) ?_
    refine AOps.step rfl rfl rfl (OpQ.spec (sp_move rfl (.inl rfl)) _) ?_
    refine AOps.step rfl rfl rfl (OpQ.spec (sp_move rfl (.inl rfl)) _) ?_
    refine AOps.step rfl rfl rfl (OpQ.spec (sp_move rfl (.inl rfl)) _) ?_
    refine ob2k h2 fun r2 r3 er2 h3 => ?_
    refine AOps.step rfl rfl rfl (sp_callS (r := .tup [.r (.sl (r2.map GStep.row)), .r (.int .i64 r3)]) (caps := []) (bs := [.r (.int .i64 n1), .r (.int .i64 from1), .r (.int .i64 to1), .r (.sl (elems1.map GElem.row))]) rfl (.inl rfl) rfl ⟨.inl ⟨(.inl rfl), rfl⟩, .inl ⟨(.inl rfl), rfl⟩, .inl ⟨(.inl rfl), rfl⟩, .inl ⟨(.inl rfl), rfl⟩, trivial⟩ (fun _ => w_delta_Replace (er2))) ?_
    refine AOps.step rfl rfl rfl (OpQ.spec (sp_move rfl (.inl rfl)) _) ?_
    refine AOps.step rfl rfl rfl (OpQ.spec (sp_extract (a := .r (.sl (r2.map GStep.row))) rfl (.inl rfl) rfl) _) ?_
    refine AOps.step rfl rfl rfl (OpQ.spec (sp_extract (a := .r (.int .i64 r3)) rfl (.inl rfl) rfl) _) ?_
    refine AOps.step rfl rfl rfl (OpQ.spec (sp_assign rfl (.inl rfl)) _) ?_
    refine AOps.step rfl rfl rfl (OpQ.spec (sp_assign rfl (.inl rfl)) _) ?_
    refine AOps.nil ?_
    refine hK5 _ ?_
    refine AW.seq_w fun K6 hK6 wK6 => ?_
    refine AW.weak (s' := ⟨[(0, .r (.int .i64 n1)), (1, .r (.int .i64 from1)), (2, .r (.int .i64 to1)), (3, .r (.sl (elems1.map GElem.row))), (4, .r (.sl (change1.map GAttr.row))), (5, .r (.sl (d1.map GStep.row))), (13, .r (.sl (r2.map GStep.row))), (14, .r (.int .i64 r3))], [], n0, 200⟩) (by exact Weak.cv ⟨.inl (.inl rfl), .inl (.inl rfl), .inl (.inl rfl), .inl (.inl rfl), .inl (.inl rfl), .inl (.inl rfl), .inl (.inl rfl), .inl (.inl rfl), trivial⟩ trivial (Nat.le_refl _)) ?_
    refine AW.region ?_
    refine AOps.step rfl rfl rfl (OpQ.spec (sp_move rfl (.inl rfl)) _) ?_
    refine AOps.step rfl rfl rfl (OpQ.spec (sp_move rfl (.inl rfl)) _) ?_
    refine AOps.step rfl rfl rfl (OpQ.spec (sp_move rfl (.inl rfl)) _) ?_
    refine AOps.step rfl rfl rfl (OpQ.spec (sp_move rfl (.inl rfl)) _) ?_
    refine ob2k h3 fun r4 r5 er4 h4 => ?_
    refine AOps.step rfl rfl rfl (sp_callS (r := .tup [.r (.sl (r4.map GStep.row)), .r (.int .i64 r5)]) (caps := []) (bs := [.r (.int .i64 n1), .r (.int .i64 from1), .r (.int .i64 to1), .r (.sl (change1.map GAttr.row))]) rfl (.inl rfl) rfl ⟨.inl ⟨(.inl rfl), rfl⟩, .inl ⟨(.inl rfl), rfl⟩, .inl ⟨(.inl rfl), rfl⟩, .inl ⟨(.inl rfl), rfl⟩, trivial⟩ (fun _ => w_delta_Restyle (er4))) ?_
    refine AOps.step rfl rfl rfl (OpQ.spec (sp_move rfl (.inl rfl)) _) ?_
    refine AOps.step rfl rfl rfl (OpQ.spec (sp_extract (a := .r (.sl (r4.map GStep.row))) rfl (.inl rfl) rfl) _) ?_
    refine AOps.step rfl rfl rfl (OpQ.spec (sp_extract (a := .r (.int .i64 r5)) rfl (.inl rfl) rfl) _) ?_
    refine AOps.step rfl rfl rfl (OpQ.spec (sp_assign rfl (.inl rfl)) _) ?_
    refine AOps.step rfl rfl rfl (OpQ.spec (sp_assign rfl (.inl rfl)) _) ?_
    refine AOps.nil ?_
    refine hK6 _ ?_
    refine AW.seq_w fun K7 hK7 wK7 => ?_
    refine AW.region ?_
    refine AOps.step rfl rfl rfl (OpQ.spec (sp_move rfl (.inl rfl)) _) ?_
    refine ob2k h4 fun r6 r7 er6 h5 => ?_
    refine AOps.step rfl rfl rfl (sp_callS (r := .tup [.r (.sl (r6.map GAxisStep.row)), .r (.int .i64 r7)]) (caps := []) (bs := [.r (.sl (d1.map GStep.row))]) rfl (.inl rfl) rfl ⟨.inl ⟨(.inl rfl), rfl⟩, trivial⟩ (fun _ => w_delta_Axis (er6))) ?_
    refine AOps.step rfl rfl rfl (OpQ.spec (sp_move rfl (.inl rfl)) _) ?_
    refine AOps.step rfl rfl rfl (OpQ.spec (sp_extract (a := .r (.sl (r6.map GAxisStep.row))) rfl (.inl rfl) rfl) _) ?_
    refine AOps.step rfl rfl rfl (OpQ.spec (sp_extract (a := .r (.int .i64 r7)) rfl (.inl rfl) rfl) _) ?_
    refine AOps.step rfl rfl rfl (OpQ.spec (sp_assign rfl (.inl rfl)) _) ?_
    refine AOps.step rfl rfl rfl (OpQ.spec (sp_assign rfl (.inl rfl)) _) ?_
    refine AOps.nil ?_
    refine hK7 _ ?_
    refine AW.seq_w fun K8 hK8 wK8 => ?_
    refine AW.seq_w fun K9 hK9 wK9 => ?_
    refine AW.weak (s' := ⟨[(0, .r (.int .i64 n1)), (1, .r (.int .i64 from1)), (2, .r (.int .i64 to1)), (3, .r (.sl (elems1.map GElem.row))), (4, .r (.sl (change1.map GAttr.row))), (5, .r (.sl (d1.map GStep.row))), (13, .r (.sl (r2.map GStep.row))), (14, .r (.int .i64 r3)), (15, .r (.sl (r4.map GStep.row))), (16, .r (.int .i64 r5)), (17, .r (.sl (r6.map GAxisStep.row))), (18, .r (.int .i64 r7))], [], n0, 200⟩) (by exact Weak.cv ⟨.inl (.inl rfl), .inl (.inl rfl), .inl (.inl rfl), .inl (.inl rfl), .inl (.inl rfl), .inl (.inl rfl), .inl (.inl rfl), .inl (.inl rfl), .inl (.inl rfl), .inl (.inl rfl), .inl (.inl rfl), .inl (.inl rfl), trivial⟩ trivial (Nat.le_refl _)) ?_
    refine AW.region ?_
    refine AOps.step rfl rfl rfl (OpQ.spec (sp_move rfl (.inl rfl)) _) ?_
    refine ob1k h5 fun f1 ef1 h6 => ?_
    refine AOps.step rfl rfl rfl (sp_call (r := .r (.int .i64 f1)) (caps := []) (bs := [.r (.sl (d1.map GStep.row))]) rfl (.inl rfl) rfl ⟨⟨_, (.inl rfl), .d rfl⟩, trivial⟩ (fun _ => w_ref_DeltaError (ef1)) rfl) ?_
    refine AOps.step rfl rfl rfl (OpQ.spec (sp_assign rfl (.inl rfl)) _) ?_
    refine AOps.nil ?_
    refine hK9 _ ?_
    refine AW.seq_w fun K10 hK10 wK10 => ?_
    refine AW.region ?_
    refine AOps.step rfl rfl rfl (OpQ.spec (sp_move rfl (.inl rfl)) _) ?_
    refine AOps.step rfl rfl rfl (OpQ.spec (sp_neq rfl (.inl rfl) (.inl rfl)) _) ?_
    refine AOps.nil ?_
    refine hK10 _ ?_
    refine jc1k h6 fun p1 hp1 hk1 he1 => ?_
    have J1 : ∀ (u1 : Unit) (i1 : Nat → Nat), p1 = .nrm u1 → K8 ⟨[(0, .r (.int .i64 n1)), (1, .r (.int .i64 from1)), (2, .r (.int .i64 to1)), (3, .r (.sl (elems1.map GElem.row))), (4, .r (.sl (change1.map GAttr.row))), (13, .r (.sl (r2.map GStep.row))), (14, .r (.int .i64 r3)), (15, .r (.sl (r4.map GStep.row))), (16, .r (.int .i64 r5))], [], (i1 0), 200⟩ := by
      intro u1 i1 e
      have h7 := hk1 _ e
      refine hK8 _ ?_
      refine AW.seq_w fun K11 hK11 wK11 => ?_
      refine AW.seq_w fun K12 hK12 wK12 => ?_
      refine AW.region ?_
      refine AOps.step rfl rfl rfl (OpQ.spec (sp_move rfl (.inl rfl)) _) ?_
      refine ob1k h7 fun r8 er8 h8 => ?_
      refine AOps.step rfl rfl rfl (sp_call (r := .r (.bool r8)) (caps := []) (bs := [.r (.int .i64 n1), .r (.int .i64 0), .r (.int .i64 2147483647)]) rfl (.inl rfl) rfl ⟨⟨_, (.inl rfl), .d rfl⟩, ⟨_, (.inl rfl), .d rfl⟩, ⟨_, (.inl rfl), .d rfl⟩, trivial⟩ (fun _ => w_ref_In (er8)) rfl) ?_
      refine AOps.step rfl rfl rfl (OpQ.spec (sp_not rfl (.inl rfl)) _) ?_
      refine AOps.step rfl rfl rfl (OpQ.spec (sp_move rfl (.inl rfl)) _) ?_
      refine AOps.stepW (.one rfl rfl rfl) rfl rfl (OpQ.spec (sp_move rfl (.inl rfl)) _) ?_
      refine AOps.stepW (.one rfl rfl rfl) rfl rfl (OpQ.spec (sp_lss rfl (.inr ⟨_, (by exact id), rfl⟩) (.inl rfl)) _) ?_
      refine AOps.step rfl rfl rfl (OpQ.spec (sp_or rfl (.inl rfl) (.inr ⟨_, (by exact id), rfl⟩)) _) ?_
      refine AOps.step rfl rfl rfl (OpQ.spec (sp_move rfl (.inl rfl)) _) ?_
      refine AOps.stepW (.one rfl rfl rfl) rfl rfl (OpQ.spec (sp_move rfl (.inl rfl)) _) ?_
      refine AOps.stepW (.one rfl rfl rfl) rfl rfl (OpQ.spec (sp_move rfl (.inl rfl)) _) ?_
      refine AOps.stepW (.one rfl rfl rfl) rfl rfl (OpQ.spec (sp_lss rfl (.inr ⟨_, (by exact id), rfl⟩) (.inr ⟨_, (by exact id), rfl⟩)) _) ?_
      refine AOps.step rfl rfl rfl (OpQ.spec (sp_or rfl (.inl rfl) (.inr ⟨_, (by exact id), rfl⟩)) _) ?_
      refine AOps.step rfl rfl rfl (OpQ.spec (sp_move rfl (.inl rfl)) _) ?_
      refine AOps.stepW (.one rfl rfl rfl) rfl rfl (OpQ.spec (sp_move rfl (.inl rfl)) _) ?_
      refine AOps.stepW (.one rfl rfl rfl) rfl rfl (OpQ.spec (sp_move rfl (.inl rfl)) _) ?_
      refine AOps.stepW (.one rfl rfl rfl) rfl rfl (OpQ.spec (sp_gtr rfl (.inr ⟨_, (by exact id), rfl⟩) (.inr ⟨_, (by exact id), rfl⟩)) _) ?_
      refine AOps.step rfl rfl rfl (OpQ.spec (sp_or rfl (.inl rfl) (.inr ⟨_, (by exact id), rfl⟩)) _) ?_
      refine AOps.nil ?_
      refine hK12 _ ?_
      refine AW.cond rfl (fun hc2 => ?_) (fun hc2 => ?_)
      · have h9 := ite_t hc2 h8
        refine AW.seq_w fun K13 hK13 wK13 => ?_
        refine AW.weak (s' := ⟨[(13, .r (.sl (r2.map GStep.row))), (14, .r (.int .i64 r3)), (15, .r (.sl (r4.map GStep.row))), (16, .r (.int .i64 r5))], [], (i1 0), 200⟩) (by exact Weak.cv ⟨.inl (.inl rfl), .inl (.inl rfl), .inl (.inl rfl), .inl (.inl rfl), trivial⟩ trivial (Nat.le_refl _)) ?_
        refine AW.region ?_
        refine AOps.step rfl rfl rfl (OpQ.spec (sp_move rfl (.inl rfl)) _) ?_
        refine AOps.step rfl rfl rfl (OpQ.spec (sp_eql rfl (.inl rfl) (.inl rfl)) _) ?_
        refine AOps.step rfl rfl rfl (OpQ.spec (sp_move rfl (.inl rfl)) _) ?_
        refine AOps.stepW (.one rfl rfl rfl) rfl rfl (OpQ.spec (sp_move rfl (.inl rfl)) _) ?_
        refine AOps.stepW (.one rfl rfl rfl) rfl rfl (OpQ.spec (sp_eql rfl (.inr ⟨_, (by exact id), rfl⟩) (.inl rfl)) _) ?_
        refine AOps.step rfl rfl rfl (OpQ.spec (sp_and rfl (.inl rfl) (.inr ⟨_, (by exact id), rfl⟩)) _) ?_
        refine AOps.step rfl rfl rfl (OpQ.spec (sp_move rfl (.inl rfl)) _) ?_
        refine AOps.stepW (.one rfl rfl rfl) rfl rfl (OpQ.spec (sp_move rfl (.inl rfl)) _) ?_
        refine AOps.stepW (.one rfl rfl rfl) rfl rfl (OpQ.spec (ms_len rfl tg_42.slice (.inr ⟨_, (by exact id), rfl⟩)) _) ?_
        refine AOps.stepW (.one rfl rfl rfl) rfl rfl (OpQ.spec (sp_move rfl (.inl rfl)) _) ?_
        refine AOps.stepW (.one rfl rfl rfl) rfl rfl (OpQ.spec (ms_len rfl tg_42.slice (.inr ⟨_, (by exact id), rfl⟩)) _) ?_
        refine ob1k h9 fun x1 ex1 h10 => ?_
        refine AOps.stepW (.one rfl rfl rfl) rfl rfl (OpQ.spec (ms_add rfl (.inr ⟨_, (by exact id), rfl⟩) (.inr ⟨_, (by exact id), rfl⟩) (gdt ex1)) _) ?_
        refine AOps.stepW (.one rfl rfl rfl) rfl rfl (OpQ.spec (sp_eql rfl (.inr ⟨_, (by exact id), rfl⟩) (.inl rfl)) _) ?_
        refine AOps.step rfl rfl rfl (OpQ.spec (sp_and rfl (.inl rfl) (.inr ⟨_, (by exact id), rfl⟩)) _) ?_
        refine AOps.step rfl rfl rfl (OpQ.spec (sp_assign rfl (.inl rfl)) _) ?_
        refine AOps.nil ?_
        refine hK13 _ ?_
        refine AW.ret ?_
        exact retf1 (P := Try.prog) (fun (r : Bool) => .r (.bool r)) h10 (.inl rfl) (.t (.d rfl))
      · have h9 := ite_f hc2 h8
        refine AW.skip ?_
        refine hK11 _ ?_
        refine AW.seq_w fun K14 hK14 wK14 => ?_
        refine AW.weak (s' := ⟨[(0, .r (.int .i64 n1)), (1, .r (.int .i64 from1)), (2, .r (.int .i64 to1)), (3, .r (.sl (elems1.map GElem.row))), (4, .r (.sl (change1.map GAttr.row))), (13, .r (.sl (r2.map GStep.row))), (14, .r (.int .i64 r3)), (15, .r (.sl (r4.map GStep.row))), (16, .r (.int .i64 r5))], [], (i1 0), 200⟩) (by exact Weak.cv ⟨.inl (.inl rfl), .inl (.inl rfl), .inl (.inl rfl), .inl (.inl rfl), .inl (.inl rfl), .inl (.inl rfl), .inl (.inl rfl), .inl (.inl rfl), .inl (.inl rfl), trivial⟩ trivial (Nat.le_refl _)) ?_
        refine AW.region ?_
        refine AOps.step rfl rfl rfl (OpQ.spec (sp_move rfl (.inl rfl)) _) ?_
        refine ob1k h9 fun p2 ep2 h11 => ?_
        refine AOps.step rfl rfl rfl (sp_call (r := .r (.int .i64 p2)) (caps := []) (bs := [.r (.sl (elems1.map GElem.row))]) rfl (.inl rfl) rfl ⟨⟨_, (.inl rfl), .d rfl⟩, trivial⟩ (fun _ => w_ref_PartError (ep2)) rfl) ?_
        refine AOps.step rfl rfl rfl (OpQ.spec (sp_move rfl (.inl rfl)) _) ?_
        refine ob1k h11 fun q1 eq1 h12 => ?_
        refine AOps.step rfl rfl rfl (sp_call (r := .r (.int .i64 q1)) (caps := []) (bs := [.r (.sl (change1.map GAttr.row)), .r (.bool true)]) rfl (.inl rfl) rfl ⟨⟨_, (.inl rfl), .d rfl⟩, ⟨_, (.inl rfl), .d rfl⟩, trivial⟩ (fun _ => w_ref_AttrsError (eq1)) rfl) ?_
        refine AOps.step rfl rfl rfl (OpQ.spec (sp_assign rfl (.inl rfl)) _) ?_
        refine AOps.step rfl rfl rfl (OpQ.spec (sp_assign rfl (.inl rfl)) _) ?_
        refine AOps.nil ?_
        refine hK14 _ ?_
        refine AW.seq_w fun K15 hK15 wK15 => ?_
        refine AW.seq_w fun K16 hK16 wK16 => ?_
        refine AW.region ?_
        refine AOps.step rfl rfl rfl (OpQ.spec (sp_move rfl (.inl rfl)) _) ?_
        refine AOps.step rfl rfl rfl (OpQ.spec (sp_neq rfl (.inl rfl) (.inl rfl)) _) ?_
        refine AOps.step rfl rfl rfl (OpQ.spec (sp_move rfl (.inl rfl)) _) ?_
        refine AOps.stepW (.one rfl rfl rfl) rfl rfl (OpQ.spec (sp_move rfl (.inl rfl)) _) ?_
        refine AOps.stepW (.one rfl rfl rfl) rfl rfl (OpQ.spec (sp_move rfl (.inl rfl)) _) ?_
        refine AOps.stepW (.one rfl rfl rfl) rfl rfl (OpQ.spec (sp_neq rfl (.inr ⟨_, (by exact id), rfl⟩) (.inr ⟨_, (by exact id), rfl⟩)) _) ?_
        refine AOps.stepW (.one rfl rfl rfl) rfl rfl (OpQ.spec (sp_move rfl (.inr ⟨_, (by exact id), rfl⟩)) _) ?_
        refine AOps.stepW (.two rfl rfl rfl) rfl rfl (OpQ.spec (sp_move rfl (.inl rfl)) _) ?_
        refine AOps.stepW (.two rfl rfl rfl) rfl rfl (OpQ.spec (ms_len rfl tg_42.slice (.inr ⟨_, (by exact id), rfl⟩)) _) ?_
        refine AOps.stepW (.two rfl rfl rfl) rfl rfl (OpQ.spec (sp_neq rfl (.inr ⟨_, (by exact id), rfl⟩) (.inl rfl)) _) ?_
        refine AOps.stepW (.one rfl rfl rfl) rfl rfl (OpQ.spec (sp_or rfl (.inr ⟨_, (by exact id), rfl⟩) (.inr ⟨_, (by exact id), rfl⟩)) _) ?_
        refine AOps.step rfl rfl rfl (OpQ.spec (sp_and rfl (.inl rfl) (.inr ⟨_, (by exact id), rfl⟩)) _) ?_
        refine AOps.step rfl rfl rfl (OpQ.spec (sp_move rfl (.inl rfl)) _) ?_
        refine AOps.stepW (.one rfl rfl rfl) rfl rfl (OpQ.spec (sp_move rfl (.inl rfl)) _) ?_
        refine AOps.stepW (.one rfl rfl rfl) rfl rfl (OpQ.spec (sp_neq rfl (.inr ⟨_, (by exact id), rfl⟩) (.inl rfl)) _) ?_
        refine AOps.stepW (.one rfl rfl rfl) rfl rfl (OpQ.spec (sp_move rfl (.inr ⟨_, (by exact id), rfl⟩)) _) ?_
        refine AOps.stepW (.two rfl rfl rfl) rfl rfl (OpQ.spec (sp_move rfl (.inl rfl)) _) ?_
        refine AOps.stepW (.two rfl rfl rfl) rfl rfl (OpQ.spec (sp_move rfl (.inl rfl)) _) ?_
        refine AOps.stepW (.two rfl rfl rfl) rfl rfl (OpQ.spec (sp_neq rfl (.inr ⟨_, (by exact id), rfl⟩) (.inr ⟨_, (by exact id), rfl⟩)) _) ?_
        refine AOps.stepW (.two rfl rfl rfl) rfl rfl (OpQ.spec (sp_move rfl (.inr ⟨_, (by exact id), rfl⟩)) _) ?_
        refine AOps.stepW (.two rfl rfl rfl) rfl rfl (OpQ.spec (sp_move rfl (.inl rfl)) _) ?_
        refine AOps.stepW (.two rfl rfl rfl) rfl rfl (OpQ.spec (ms_len rfl tg_42.slice (.inr ⟨_, (by exact id), rfl⟩)) _) ?_
        refine AOps.stepW (.two rfl rfl rfl) rfl rfl (OpQ.spec (sp_neq rfl (.inr ⟨_, (by exact id), rfl⟩) (.inl rfl)) _) ?_
        refine AOps.stepW (.two rfl rfl rfl) rfl rfl (OpQ.spec (sp_or rfl (.inr ⟨_, (by exact id), rfl⟩) (.inr ⟨_, (by exact id), rfl⟩)) _) ?_
        refine AOps.stepW (.one rfl rfl rfl) rfl rfl (OpQ.spec (sp_and rfl (.inr ⟨_, (by exact id), rfl⟩) (.inr ⟨_, (by exact id), rfl⟩)) _) ?_
        refine AOps.step rfl rfl rfl (OpQ.spec (sp_or rfl (.inl rfl) (.inr ⟨_, (by exact id), rfl⟩)) _) ?_
        refine AOps.nil ?_
        refine hK16 _ ?_
        refine AW.cond rfl (fun hc3 => ?_) (fun hc3 => ?_)
        · have h13 := ite_t hc3 h12
          refine AW.seq_w fun K17 hK17 wK17 => ?_
          refine AW.weak (s' := ⟨[], [], (i1 0), 200⟩) (by exact Weak.cv trivial trivial (Nat.le_refl _)) ?_
          refine AW.region ?_
          refine AOps.step rfl rfl rfl (OpQ.spec (sp_assign rfl (.inl rfl)) _) ?_
          refine AOps.nil ?_
          refine hK17 _ ?_
          refine AW.ret ?_
          exact retf1 (P := Try.prog) (fun (r : Bool) => .r (.bool r)) h13 (.inl rfl) (.t (.d rfl))
        · have h13 := ite_f hc3 h12
          refine AW.skip ?_
          refine hK15 _ ?_
          refine AW.seq_w fun K18 hK18 wK18 => ?_
          refine AW.seq_w fun K19 hK19 wK19 => ?_
          refine AW.weak (s' := ⟨[(0, .r (.int .i64 n1)), (1, .r (.int .i64 from1)), (2, .r (.int .i64 to1)), (3, .r (.sl (elems1.map GElem.row))), (4, .r (.sl (change1.map GAttr.row))), (13, .r (.sl (r2.map GStep.row))), (14, .r (.int .i64 r3)), (15, .r (.sl (r4.map GStep.row))), (16, .r (.int .i64 r5)), (20, .r (.int .i64 p2)), (21, .r (.int .i64 q1))], [], (i1 0), 200⟩) (by exact Weak.cv ⟨.inl (.inl rfl), .inl (.inl rfl), .inl (.inl rfl), .inl (.inl rfl), .inl (.inl rfl), .inl (.inl rfl), .inl (.inl rfl), .inl (.inl rfl), .inl (.inl rfl), .inl (.inl rfl), .inl (.inl rfl), trivial⟩ trivial (Nat.le_refl _)) ?_
          refine AW.region ?_
          refine AOps.step rfl rfl rfl (OpQ.spec (sp_move rfl (.inl rfl)) _) ?_
          refine AOps.step rfl rfl rfl (OpQ.spec (sp_gtr rfl (.inl rfl) (.inl rfl)) _) ?_
          refine AOps.nil ?_
          refine hK19 _ ?_
          refine AW.cond rfl (fun hc4 => ?_) (fun hc4 => ?_)
          · have h14 := ite_t hc4 h13
            refine AW.seq_w fun K20 hK20 wK20 => ?_
            refine AW.weak (s' := ⟨[], [], (i1 0), 200⟩) (by exact Weak.cv trivial trivial (Nat.le_refl _)) ?_
            refine AW.region ?_
            refine AOps.step rfl rfl rfl (OpQ.spec (sp_assign rfl (.inl rfl)) _) ?_
            refine AOps.nil ?_
            refine hK20 _ ?_
            refine AW.ret ?_
            exact retf1 (P := Try.prog) (fun (r : Bool) => .r (.bool r)) h14 (.inl rfl) (.t (.d rfl))
          · have h14 := ite_f hc4 h13
            refine AW.skip ?_
            refine hK18 _ ?_
            refine AW.seq_w fun K21 hK21 wK21 => ?_
            refine ob1k h14 fun x2 ex2 h15 => ?_
            refine ob1k h15 fun l1 el1 h16 => ?_
            refine ob1k h16 fun l2 el2 h17 => ?_
            refine ob1k h17 fun l3 el3 h18 => ?_
            refine AW.regionP 9 [⟨some 138, (fun _ => .r (.int .i64 n1)), none, []⟩, ⟨some 139, (fun _ => .r (.int .i64 x2)), none, []⟩, ⟨some 140, (fun G1 => .own 140 (G1 2)), some (140, (fun G1 => some (.arr (G1 2) 39 1 (l1.map (rSl GElem.row))))), [2]⟩, ⟨some 141, (fun _ => .r (.int .i64 n1)), none, []⟩, ⟨some 142, (fun G1 => .own 142 (G1 4)), some (142, (fun G1 => some (.arr (G1 4) 4 1 (l2.map rBool)))), [4]⟩, ⟨some 143, (fun _ => .r (.int .i64 n1)), none, []⟩, ⟨some 144, (fun G1 => .own 144 (G1 6)), some (144, (fun G1 => some (.arr (G1 6) 47 1 (l3.map (rSl GAttr.row))))), [6]⟩, ⟨some 145, (fun G1 => .agg [.own 140 (G1 2), .own 142 (G1 4), .own 144 (G1 6)]), none, [2, 4, 6]⟩, ⟨some 22, (fun G1 => .ptr 22 (G1 8) 0 0), some (22, (fun G1 => some (.box (G1 8) 34 [.cst (.slice none 0 0), .cst (.slice none 0 0), .cst (.slice none 0 0)]))), [8]⟩] hmix (by kernel_rfl) (by exact ⟨fun _ _ h => ⟨rfl, fun _ _ e => by cases e⟩, fun _ _ h => ⟨rfl, fun _ _ e => by cases e⟩, fun _ _ h => ⟨by simp only [h 2 rfl], fun _ _ e => by cases e; simp only [h 2 rfl]⟩, fun _ _ h => ⟨rfl, fun _ _ e => by cases e⟩, fun _ _ h => ⟨by simp only [h 4 rfl], fun _ _ e => by cases e; simp only [h 4 rfl]⟩, fun _ _ h => ⟨rfl, fun _ _ e => by cases e⟩, fun _ _ h => ⟨by simp only [h 6 rfl], fun _ _ e => by cases e; simp only [h 6 rfl]⟩, fun _ _ h => ⟨by simp only [h 2 rfl, h 4 rfl, h 6 rfl], fun _ _ e => by cases e⟩, fun _ _ h => ⟨by simp only [h 8 rfl], fun _ _ e => by cases e; simp only [h 8 rfl]⟩, trivial⟩) rfl (by exact ⟨Ob.quiet (n1 := fun n => n) rfl rfl (by intro d h; cases h; rfl) rfl (fun _ => [(0, .r (.int .i64 n1))]) (fun _ => []) (fun D G1 hr => ⟨inE_base rfl rfl, trivial⟩) (fun D G1 hr => trivial) (fun _ _ => rfl) (fun G1 e h' n => OpQ.spec (v := .r (.int .i64 n1)) (sp_move rfl (.inl rfl)) _),
                Ob.quiet (n1 := fun n => n) rfl rfl (by intro d h; cases h; rfl) rfl (fun _ => [(138, .r (.int .i64 n1))]) (fun _ => []) (fun D G1 hr => ⟨inE_op hr 0 rfl rfl (by kernel_rfl) rfl rfl, trivial⟩) (fun D G1 hr => trivial) (fun _ _ => rfl) (fun G1 e h' n => OpQ.spec (v := .r (.int .i64 x2)) (ms_add rfl (.inl rfl) (.inl rfl) (fun _ => ex2)) _),
                Ob.make (n1 := fun n => n + 1) rfl rfl (by intro d h; cases h; rfl) rfl (fun _ => [(139, .r (.int .i64 x2))]) (fun _ => []) (fun D G1 hr => ⟨inE_op hr 1 rfl rfl (by kernel_rfl) rfl rfl, trivial⟩) (fun D G1 hr => trivial) (fun G1 e h' n => ms_mk 140 rfl tg_30 (f := (rSl GElem.row)) (z0 := []) tr_39 (.inl rfl) (.inl rfl) el1),
                Ob.quiet (n1 := fun n => n) rfl rfl (by intro d h; cases h; rfl) rfl (fun _ => [(0, .r (.int .i64 n1))]) (fun _ => []) (fun D G1 hr => ⟨inE_base rfl rfl, trivial⟩) (fun D G1 hr => trivial) (fun _ _ => rfl) (fun G1 e h' n => OpQ.spec (v := .r (.int .i64 n1)) (sp_move rfl (.inl rfl)) _),
                Ob.make (n1 := fun n => n + 1) rfl rfl (by intro d h; cases h; rfl) rfl (fun _ => [(141, .r (.int .i64 n1))]) (fun _ => []) (fun D G1 hr => ⟨inE_op hr 3 rfl rfl (by kernel_rfl) rfl rfl, trivial⟩) (fun D G1 hr => trivial) (fun G1 e h' n => ms_mk 142 rfl tg_31 (f := rBool) (z0 := false) tr_4 (.inl rfl) (.inl rfl) el2),
                Ob.quiet (n1 := fun n => n) rfl rfl (by intro d h; cases h; rfl) rfl (fun _ => [(0, .r (.int .i64 n1))]) (fun _ => []) (fun D G1 hr => ⟨inE_base rfl rfl, trivial⟩) (fun D G1 hr => trivial) (fun _ _ => rfl) (fun G1 e h' n => OpQ.spec (v := .r (.int .i64 n1)) (sp_move rfl (.inl rfl)) _),
                Ob.make (n1 := fun n => n + 1) rfl rfl (by intro d h; cases h; rfl) rfl (fun _ => [(143, .r (.int .i64 n1))]) (fun _ => []) (fun D G1 hr => ⟨inE_op hr 5 rfl rfl (by kernel_rfl) rfl rfl, trivial⟩) (fun D G1 hr => trivial) (fun G1 e h' n => ms_mk 144 rfl tg_32 (f := (rSl GAttr.row)) (z0 := []) tr_47 (.inl rfl) (.inl rfl) el3),
                Ob.quiet (n1 := fun n => n) rfl rfl (by intro d h; cases h; rfl) rfl (fun G1 => [(140, .own 140 (G1 2)), (142, .own 142 (G1 4)), (144, .own 144 (G1 6))]) (fun G1 => [(140, some (.arr (G1 2) 39 1 (l1.map (rSl GElem.row)))), (142, some (.arr (G1 4) 4 1 (l2.map rBool))), (144, some (.arr (G1 6) 47 1 (l3.map (rSl GAttr.row))))]) (fun D G1 hr => ⟨inE_op hr 2 rfl rfl (by kernel_rfl) rfl rfl, inE_op hr 4 rfl rfl (by kernel_rfl) rfl rfl, inE_op hr 6 rfl rfl (by kernel_rfl) rfl rfl, trivial⟩) (fun D G1 hr => ⟨inH_op hr 2 rfl rfl (by kernel_rfl) (by kernel_rfl) rfl, inH_op hr 4 rfl rfl (by kernel_rfl) (by kernel_rfl) rfl, inH_op hr 6 rfl rfl (by kernel_rfl) (by kernel_rfl) rfl, trivial⟩) (fun _ _ => rfl) (fun G1 e h' n => OpQ.spec (v := .agg [.own 140 (G1 2), .own 142 (G1 4), .own 144 (G1 6)]) (sp_build rfl tb_34 (q := [(0, _), (1, _), (2, _)]) (by exact ⟨rfl, rfl, rfl, (.inl rfl), rfl, rfl, rfl, (.inl rfl), rfl, rfl, rfl, (.inl rfl), trivial⟩) (cs := [.own 140 (G1 2), .own 142 (G1 4), .own 144 (G1 6)]) (by rfl)) _),
                Ob.make (n1 := fun n => n + 1) rfl rfl (by intro d h; cases h; rfl) rfl (fun _ => []) (fun _ => []) (fun D G1 hr => trivial) (fun D G1 hr => trivial) (fun G1 e h' n => ms_alloc (cs := [.cst (.slice none 0 0), .cst (.slice none 0 0), .cst (.slice none 0 0)]) 22 rfl t0_34 rfl rfl),
                trivial⟩) fun G1 n2 => ?_
            refine AOps.weak (s' := ⟨[(0, .r (.int .i64 n1)), (1, .r (.int .i64 from1)), (2, .r (.int .i64 to1)), (3, .r (.sl (elems1.map GElem.row))), (4, .r (.sl (change1.map GAttr.row))), (13, .r (.sl (r2.map GStep.row))), (14, .r (.int .i64 r3)), (15, .r (.sl (r4.map GStep.row))), (16, .r (.int .i64 r5)), (20, .r (.int .i64 p2)), (21, .r (.int .i64 q1)), (22, .ptr 22 (G1 8) 0 0), (136, .r (.int .i64 n1)), (137, .r (.bool (decide (300 < n1)))), (138, .r (.int .i64 n1)), (139, .r (.int .i64 x2)), (140, .own 140 (G1 2)), (141, .r (.int .i64 n1)), (142, .own 142 (G1 4)), (143, .r (.int .i64 n1)), (144, .own 144 (G1 6)), (145, .agg [.own 140 (G1 2), .own 142 (G1 4), .own 144 (G1 6)])], [(22, some (.box (G1 8) 34 [.cst (.slice none 0 0), .cst (.slice none 0 0), .cst (.slice none 0 0)])), (140, some (.arr (G1 2) 39 1 (l1.map (rSl GElem.row)))), (142, some (.arr (G1 4) 4 1 (l2.map rBool))), (144, some (.arr (G1 6) 47 1 (l3.map (rSl GAttr.row))))], n2, 200⟩) (by exact Weak.cv ⟨.inl (.inl rfl), .inl (.inl rfl), .inl (.inl rfl), .inl (.inl rfl), .inl (.inl rfl), .inl (.inl rfl), .inl (.inl rfl), .inl (.inl rfl), .inl (.inl rfl), .inl (.inl rfl), .inl (.inl rfl), .inl (.inl rfl), .inl (.inl rfl), .inl (.inl rfl), .inl (.inl rfl), .inl (.inl rfl), .inl (.inl rfl), .inl (.inl rfl), .inl (.inl rfl), .inl (.inl rfl), .inl (.inl rfl), .inl (.inl rfl), trivial⟩ ⟨.inl rfl, .inl rfl, .inl rfl, .inl rfl, trivial⟩ (Nat.le_refl _)) ?_
            refine AOps.step0 rfl rfl (ms_store_box (ds := [.own 140 (G1 2), .own 142 (G1 4), .own 144 (G1 6)]) rfl tz_34 (.inl rfl) rfl (.inl rfl) rfl rfl rfl rfl) ?_
            refine AOps.nil ?_
            refine hK21 _ ?_
            refine AW.seq_w fun K22 hK22 wK22 => ?_
            refine AW.weak (s' := ⟨[(0, .r (.int .i64 n1)), (1, .r (.int .i64 from1)), (2, .r (.int .i64 to1)), (3, .r (.sl (elems1.map GElem.row))), (4, .r (.sl (change1.map GAttr.row))), (13, .r (.sl (r2.map GStep.row))), (14, .r (.int .i64 r3)), (15, .r (.sl (r4.map GStep.row))), (16, .r (.int .i64 r5)), (20, .r (.int .i64 p2)), (21, .r (.int .i64 q1)), (22, .ptr 22 (G1 8) 0 0)], [(22, some (.box (G1 8) 34 [.own 140 (G1 2), .own 142 (G1 4), .own 144 (G1 6)])), (140, some (.arr (G1 2) 39 1 (l1.map (rSl GElem.row)))), (142, some (.arr (G1 4) 4 1 (l2.map rBool))), (144, some (.arr (G1 6) 47 1 (l3.map (rSl GAttr.row))))], n2, 200⟩) (by exact Weak.cv ⟨.inl (.inl rfl), .inl (.inl rfl), .inl (.inl rfl), .inl (.inl rfl), .inl (.inl rfl), .inl (.inl rfl), .inl (.inl rfl), .inl (.inl rfl), .inl (.inl rfl), .inl (.inl rfl), .inl (.inl rfl), .inl (.inl rfl), trivial⟩ ⟨.inl rfl, .inl rfl, .inl rfl, .inl rfl, trivial⟩ (Nat.le_refl _)) ?_
            refine AW.regionP 9 [⟨some 146, (fun _ => .r (.int .i64 n1)), none, []⟩, ⟨some 147, (fun _ => .r (.int .i64 x2)), none, []⟩, ⟨some 148, (fun G2 => .own 148 (G2 2)), some (148, (fun G2 => some (.arr (G2 2) 39 1 (l1.map (rSl GElem.row))))), [2]⟩, ⟨some 149, (fun _ => .r (.int .i64 n1)), none, []⟩, ⟨some 150, (fun G2 => .own 150 (G2 4)), some (150, (fun G2 => some (.arr (G2 4) 4 1 (l2.map rBool)))), [4]⟩, ⟨some 151, (fun _ => .r (.int .i64 n1)), none, []⟩, ⟨some 152, (fun G2 => .own 152 (G2 6)), some (152, (fun G2 => some (.arr (G2 6) 47 1 (l3.map (rSl GAttr.row))))), [6]⟩, ⟨some 153, (fun G2 => .agg [.own 148 (G2 2), .own 150 (G2 4), .own 152 (G2 6)]), none, [2, 4, 6]⟩, ⟨some 23, (fun G2 => .ptr 23 (G2 8) 0 0), some (23, (fun G2 => some (.box (G2 8) 34 [.cst (.slice none 0 0), .cst (.slice none 0 0), .cst (.slice none 0 0)]))), [8]⟩] hmix (by kernel_rfl) (by exact ⟨fun _ _ h => ⟨rfl, fun _ _ e => by cases e⟩, fun _ _ h => ⟨rfl, fun _ _ e => by cases e⟩, fun _ _ h => ⟨by simp only [h 2 rfl], fun _ _ e => by cases e; simp only [h 2 rfl]⟩, fun _ _ h => ⟨rfl, fun _ _ e => by cases e⟩, fun _ _ h => ⟨by simp only [h 4 rfl], fun _ _ e => by cases e; simp only [h 4 rfl]⟩, fun _ _ h => ⟨rfl, fun _ _ e => by cases e⟩, fun _ _ h => ⟨by simp only [h 6 rfl], fun _ _ e => by cases e; simp only [h 6 rfl]⟩, fun _ _ h => ⟨by simp only [h 2 rfl, h 4 rfl, h 6 rfl], fun _ _ e => by cases e⟩, fun _ _ h => ⟨by simp only [h 8 rfl], fun _ _ e => by cases e; simp only [h 8 rfl]⟩, trivial⟩) rfl (by exact ⟨Ob.quiet (n1 := fun n => n) rfl rfl (by intro d h; cases h; rfl) rfl (fun _ => [(0, .r (.int .i64 n1))]) (fun _ => []) (fun D G2 hr => ⟨inE_base rfl rfl, trivial⟩) (fun D G2 hr => trivial) (fun _ _ => rfl) (fun G2 e h' n => OpQ.spec (v := .r (.int .i64 n1)) (sp_move rfl (.inl rfl)) _),
                Ob.quiet (n1 := fun n => n) rfl rfl (by intro d h; cases h; rfl) rfl (fun _ => [(146, .r (.int .i64 n1))]) (fun _ => []) (fun D G2 hr => ⟨inE_op hr 0 rfl rfl (by kernel_rfl) rfl rfl, trivial⟩) (fun D G2 hr => trivial) (fun _ _ => rfl) (fun G2 e h' n => OpQ.spec (v := .r (.int .i64 x2)) (ms_add rfl (.inl rfl) (.inl rfl) (fun _ => ex2)) _),
                Ob.make (n1 := fun n => n + 1) rfl rfl (by intro d h; cases h; rfl) rfl (fun _ => [(147, .r (.int .i64 x2))]) (fun _ => []) (fun D G2 hr => ⟨inE_op hr 1 rfl rfl (by kernel_rfl) rfl rfl, trivial⟩) (fun D G2 hr => trivial) (fun G2 e h' n => ms_mk 148 rfl tg_30 (f := (rSl GElem.row)) (z0 := []) tr_39 (.inl rfl) (.inl rfl) el1),
                Ob.quiet (n1 := fun n => n) rfl rfl (by intro d h; cases h; rfl) rfl (fun _ => [(0, .r (.int .i64 n1))]) (fun _ => []) (fun D G2 hr => ⟨inE_base rfl rfl, trivial⟩) (fun D G2 hr => trivial) (fun _ _ => rfl) (fun G2 e h' n => OpQ.spec (v := .r (.int .i64 n1)) (sp_move rfl (.inl rfl)) _),
                Ob.make (n1 := fun n => n + 1) rfl rfl (by intro d h; cases h; rfl) rfl (fun _ => [(149, .r (.int .i64 n1))]) (fun _ => []) (fun D G2 hr => ⟨inE_op hr 3 rfl rfl (by kernel_rfl) rfl rfl, trivial⟩) (fun D G2 hr => trivial) (fun G2 e h' n => ms_mk 150 rfl tg_31 (f := rBool) (z0 := false) tr_4 (.inl rfl) (.inl rfl) el2),
                Ob.quiet (n1 := fun n => n) rfl rfl (by intro d h; cases h; rfl) rfl (fun _ => [(0, .r (.int .i64 n1))]) (fun _ => []) (fun D G2 hr => ⟨inE_base rfl rfl, trivial⟩) (fun D G2 hr => trivial) (fun _ _ => rfl) (fun G2 e h' n => OpQ.spec (v := .r (.int .i64 n1)) (sp_move rfl (.inl rfl)) _),
                Ob.make (n1 := fun n => n + 1) rfl rfl (by intro d h; cases h; rfl) rfl (fun _ => [(151, .r (.int .i64 n1))]) (fun _ => []) (fun D G2 hr => ⟨inE_op hr 5 rfl rfl (by kernel_rfl) rfl rfl, trivial⟩) (fun D G2 hr => trivial) (fun G2 e h' n => ms_mk 152 rfl tg_32 (f := (rSl GAttr.row)) (z0 := []) tr_47 (.inl rfl) (.inl rfl) el3),
                Ob.quiet (n1 := fun n => n) rfl rfl (by intro d h; cases h; rfl) rfl (fun G2 => [(148, .own 148 (G2 2)), (150, .own 150 (G2 4)), (152, .own 152 (G2 6))]) (fun G2 => [(148, some (.arr (G2 2) 39 1 (l1.map (rSl GElem.row)))), (150, some (.arr (G2 4) 4 1 (l2.map rBool))), (152, some (.arr (G2 6) 47 1 (l3.map (rSl GAttr.row))))]) (fun D G2 hr => ⟨inE_op hr 2 rfl rfl (by kernel_rfl) rfl rfl, inE_op hr 4 rfl rfl (by kernel_rfl) rfl rfl, inE_op hr 6 rfl rfl (by kernel_rfl) rfl rfl, trivial⟩) (fun D G2 hr => ⟨inH_op hr 2 rfl rfl (by kernel_rfl) (by kernel_rfl) rfl, inH_op hr 4 rfl rfl (by kernel_rfl) (by kernel_rfl) rfl, inH_op hr 6 rfl rfl (by kernel_rfl) (by kernel_rfl) rfl, trivial⟩) (fun _ _ => rfl) (fun G2 e h' n => OpQ.spec (v := .agg [.own 148 (G2 2), .own 150 (G2 4), .own 152 (G2 6)]) (sp_build rfl tb_34 (q := [(0, _), (1, _), (2, _)]) (by exact ⟨rfl, rfl, rfl, (.inl rfl), rfl, rfl, rfl, (.inl rfl), rfl, rfl, rfl, (.inl rfl), trivial⟩) (cs := [.own 148 (G2 2), .own 150 (G2 4), .own 152 (G2 6)]) (by rfl)) _),
                Ob.make (n1 := fun n => n + 1) rfl rfl (by intro d h; cases h; rfl) rfl (fun _ => []) (fun _ => []) (fun D G2 hr => trivial) (fun D G2 hr => trivial) (fun G2 e h' n => ms_alloc (cs := [.cst (.slice none 0 0), .cst (.slice none 0 0), .cst (.slice none 0 0)]) 23 rfl t0_34 rfl rfl),
                trivial⟩) fun G2 n3 => ?_
            refine AOps.weak (s' := ⟨[(0, .r (.int .i64 n1)), (1, .r (.int .i64 from1)), (2, .r (.int .i64 to1)), (3, .r (.sl (elems1.map GElem.row))), (4, .r (.sl (change1.map GAttr.row))), (13, .r (.sl (r2.map GStep.row))), (14, .r (.int .i64 r3)), (15, .r (.sl (r4.map GStep.row))), (16, .r (.int .i64 r5)), (20, .r (.int .i64 p2)), (21, .r (.int .i64 q1)), (22, .ptr 22 (G1 8) 0 0), (23, .ptr 23 (G2 8) 0 0), (146, .r (.int .i64 n1)), (147, .r (.int .i64 x2)), (148, .own 148 (G2 2)), (149, .r (.int .i64 n1)), (150, .own 150 (G2 4)), (151, .r (.int .i64 n1)), (152, .own 152 (G2 6)), (153, .agg [.own 148 (G2 2), .own 150 (G2 4), .own 152 (G2 6)])], [(22, some (.box (G1 8) 34 [.own 140 (G1 2), .own 142 (G1 4), .own 144 (G1 6)])), (23, some (.box (G2 8) 34 [.cst (.slice none 0 0), .cst (.slice none 0 0), .cst (.slice none 0 0)])), (140, some (.arr (G1 2) 39 1 (l1.map (rSl GElem.row)))), (142, some (.arr (G1 4) 4 1 (l2.map rBool))), (144, some (.arr (G1 6) 47 1 (l3.map (rSl GAttr.row)))), (148, some (.arr (G2 2) 39 1 (l1.map (rSl GElem.row)))), (150, some (.arr (G2 4) 4 1 (l2.map rBool))), (152, some (.arr (G2 6) 47 1 (l3.map (rSl GAttr.row))))], n3, 200⟩) (by exact Weak.cv ⟨.inl (.inl rfl), .inl (.inl rfl), .inl (.inl rfl), .inl (.inl rfl), .inl (.inl rfl), .inl (.inl rfl), .inl (.inl rfl), .inl (.inl rfl), .inl (.inl rfl), .inl (.inl rfl), .inl (.inl rfl), .inl (.inl rfl), .inl (.inl rfl), .inl (.inl rfl), .inl (.inl rfl), .inl (.inl rfl), .inl (.inl rfl), .inl (.inl rfl), .inl (.inl rfl), .inl (.inl rfl), .inl (.inl rfl), trivial⟩ ⟨.inl rfl, .inl rfl, .inl rfl, .inl rfl, .inl rfl, .inl rfl, .inl rfl, .inl rfl, trivial⟩ (Nat.le_refl _)) ?_
            refine AOps.step0 rfl rfl (ms_store_box (ds := [.own 148 (G2 2), .own 150 (G2 4), .own 152 (G2 6)]) rfl tz_34 (.inl rfl) rfl (.inl rfl) rfl rfl rfl rfl) ?_
            refine AOps.nil ?_
            refine hK22 _ ?_
            refine AW.seq_w fun K23 hK23 wK23 => ?_
            refine AW.weak (s' := ⟨[(1, .r (.int .i64 from1)), (2, .r (.int .i64 to1)), (3, .r (.sl (elems1.map GElem.row))), (4, .r (.sl (change1.map GAttr.row))), (13, .r (.sl (r2.map GStep.row))), (14, .r (.int .i64 r3)), (15, .r (.sl (r4.map GStep.row))), (16, .r (.int .i64 r5)), (20, .r (.int .i64 p2)), (21, .r (.int .i64 q1)), (22, .ptr 22 (G1 8) 0 0), (23, .ptr 23 (G2 8) 0 0)], [(22, some (.box (G1 8) 34 [.own 140 (G1 2), .own 142 (G1 4), .own 144 (G1 6)])), (23, some (.box (G2 8) 34 [.own 148 (G2 2), .own 150 (G2 4), .own 152 (G2 6)])), (140, some (.arr (G1 2) 39 1 (l1.map (rSl GElem.row)))), (142, some (.arr (G1 4) 4 1 (l2.map rBool))), (144, some (.arr (G1 6) 47 1 (l3.map (rSl GAttr.row)))), (148, some (.arr (G2 2) 39 1 (l1.map (rSl GElem.row)))), (150, some (.arr (G2 4) 4 1 (l2.map rBool))), (152, some (.arr (G2 6) 47 1 (l3.map (rSl GAttr.row))))], n3, 200⟩) (by exact Weak.cv ⟨.inl (.inl rfl), .inl (.inl rfl), .inl (.inl rfl), .inl (.inl rfl), .inl (.inl rfl), .inl (.inl rfl), .inl (.inl rfl), .inl (.inl rfl), .inl (.inl rfl), .inl (.inl rfl), .inl (.inl rfl), .inl (.inl rfl), trivial⟩ ⟨.inl rfl, .inl rfl, .inl rfl, .inl rfl, .inl rfl, .inl rfl, .inl rfl, .inl rfl, trivial⟩ (Nat.le_refl _)) ?_
            refine AW.region ?_
            refine AOps.step rfl rfl rfl (OpQ.spec (sp_fieldAddr_own (ob := .box _ _ _) rfl tf_34_0 (.inl rfl) (fun _ => rfl) rfl) _) ?_
            refine AOps.step rfl rfl rfl (OpQ.spec (ms_load_box (a := .own 140 (G1 2)) rfl ts_30 (.inl rfl) rfl rfl) _) ?_
            refine AOps.step rfl rfl rfl (OpQ.spec (sp_move rfl (.inl rfl)) _) ?_
            refine AOps.step rfl rfl rfl (OpQ.spec (sp_move rfl (.inl rfl)) _) ?_
            refine ob1k h18 fun x3 ex3 h19 => ?_
            refine AOps.step rfl rfl rfl (OpQ.spec (ms_idx_own rfl tg_30.slice (.inl rfl) rfl (.inl rfl) (fun _ => ex3)) _) ?_
            refine AOps.step0 rfl rfl (ms_store (v := elems1) rfl tz_39 (.inl rfl) rfl ex3 (.inl rfl) rfl rfl rfl rfl) ?_
            refine AOps.nil ?_
            refine hK23 _ ?_
            refine AW.seq_w fun K24 hK24 wK24 => ?_
            refine AW.seq_w fun K25 hK25 wK25 => ?_
            refine AW.region ?_
            refine AOps.step rfl rfl rfl (OpQ.spec (sp_move rfl (.inl rfl)) _) ?_
            refine AOps.step rfl rfl rfl (OpQ.spec (sp_assign rfl (.inl rfl)) _) ?_
            refine AOps.nil ?_
            refine hK25 _ ?_
            refine AW.block ?_
            refine jb2k h19 fun o1 hit1 hk2 => ?_
            have J2 : ∀ (x7 : Ref_Act) (y4 : Ref_Act) (i9 : Nat → Nat), o1 = (x7, y4) → K24 ⟨[(13, .r (.sl (r2.map GStep.row))), (14, .r (.int .i64 r3)), (15, .r (.sl (r4.map GStep.row))), (16, .r (.int .i64 r5)), (20, .r (.int .i64 p2)), (21, .r (.int .i64 q1)), (22, .ptr 22 (G1 8) 0 0), (23, .ptr 23 (G2 8) 0 0)], [(22, some (.box (G1 8) 34 [.own 140 (i9 0), .own 142 (i9 1), .own 144 (i9 2)])), (23, some (.box (G2 8) 34 [.own 148 (i9 3), .own 150 (i9 4), .own 152 (i9 5)])), (140, some (.arr (i9 0) 39 1 (x7.Adds.map (rSl GElem.row)))), (142, some (.arr (i9 1) 4 1 (x7.Cuts.map rBool))), (144, some (.arr (i9 2) 47 1 (x7.Attrs.map (rSl GAttr.row)))), (148, some (.arr (i9 3) 39 1 (y4.Adds.map (rSl GElem.row)))), (150, some (.arr (i9 4) 4 1 (y4.Cuts.map rBool))), (152, some (.arr (i9 5) 47 1 (y4.Attrs.map (rSl GAttr.row))))], (i9 6), 200⟩ := by
              intro x7 y4 i9 e
              have h20 := hk2 _ _ e
              refine hK24 _ ?_
              refine AW.seq_w fun K26 hK26 wK26 => ?_
              refine AW.region ?_
              refine AOps.step rfl rfl rfl (OpQ.spec (sp_move rfl (.inl rfl)) _) ?_
              refine AOps.step rfl rfl rfl (OpQ.spec (sp_neq rfl (.inl rfl) (.inl rfl)) _) ?_
              refine AOps.step rfl rfl rfl (OpQ.spec (sp_move rfl (.inl rfl)) _) ?_
              refine AOps.stepW (.one rfl rfl rfl) rfl rfl (OpQ.spec (sp_move rfl (.inl rfl)) _) ?_
              refine AOps.stepW (.one rfl rfl rfl) rfl rfl (OpQ.spec (sp_eql rfl (.inr ⟨_, (by exact id), rfl⟩) (.inl rfl)) _) ?_
              refine AOps.stepW (.one rfl rfl rfl) rfl rfl (OpQ.spec (sp_move rfl (.inr ⟨_, (by exact id), rfl⟩)) _) ?_
              refine AOps.stepW (.two rfl rfl rfl) rfl rfl (OpQ.spec (sp_move rfl (.inl rfl)) _) ?_
              refine AOps.stepW (.two rfl rfl rfl) rfl rfl (OpQ.spec (ms_loadA_box rfl ta_34 (.inl rfl) rfl rfl) _) ?_
              refine jb1k h20 fun p3 hp2 hk3 => ?_
              have J3 : ∀ (x8 : Bool) (i10 : Nat → Nat), p3 = x8 → K26 ⟨[(12, .r (.bool x8))], [], (i10 0), 200⟩ := by
                intro x8 i10 e
                have h21 := hk3 _ e
                refine hK26 _ ?_
                refine AW.ret ?_
                exact retf1 (P := Try.prog) (fun (r : Bool) => .r (.bool r)) h21 (.inl rfl) (.t (.d rfl))
              refine AOps.split ((!decide (p2 = 0)) == false) (fun hg1 => ?_) (fun hg1 => ?_)
              · have h22 := ite_t hg1 hp2
                refine AOps.weak (by exact Weak.unw2 (e' := [(13, .r (.sl (r2.map GStep.row))), (14, .r (.int .i64 r3)), (15, .r (.sl (r4.map GStep.row))), (16, .r (.int .i64 r5)), (20, .r (.int .i64 p2)), (21, .r (.int .i64 q1)), (22, .ptr 22 (G1 8) 0 0), (23, .ptr 23 (G2 8) 0 0), (174, .r (.int .i64 p2)), (175, .r (.bool (!decide (p2 = 0)))), (176, .r (.bool (!decide (p2 = 0)))), (177, .r (.int .i64 r3)), (178, .r (.bool (decide (r3 = 0)))), (179, .r (.bool (decide (r3 = 0)))), (180, .whn ((decide (r3 = 0)) == true) (.r (.sl (r2.map GStep.row)))), (181, .whn ((decide (r3 = 0)) == true) (.agg [.own 140 (i9 0), .own 142 (i9 1), .own 144 (i9 2)]))]) hg1 ⟨.inl rfl, .inl rfl, .inl rfl, .inl rfl, .inl rfl, .inl rfl, .inl rfl, .inl rfl, .inl rfl, .inl rfl, .inl rfl, .inr (.inl rfl), .inr (.inl rfl), .inr (.inl rfl), .inr (.inr (.inl ⟨_, _, rfl, rfl⟩)), .inr (.inr (.inl ⟨_, _, rfl, rfl⟩)), trivial⟩) ?_
                refine AOps.split ((decide (r3 = 0)) == true) (fun hg2 => ?_) (fun hg2 => ?_)
                · have h23 := ite_t hg2 h22
                  refine AOps.weak (by exact Weak.unw2 (e' := [(13, .r (.sl (r2.map GStep.row))), (14, .r (.int .i64 r3)), (15, .r (.sl (r4.map GStep.row))), (16, .r (.int .i64 r5)), (20, .r (.int .i64 p2)), (21, .r (.int .i64 q1)), (22, .ptr 22 (G1 8) 0 0), (23, .ptr 23 (G2 8) 0 0), (174, .r (.int .i64 p2)), (175, .r (.bool (!decide (p2 = 0)))), (176, .r (.bool (!decide (p2 = 0)))), (177, .r (.int .i64 r3)), (178, .r (.bool (decide (r3 = 0)))), (179, .r (.bool (decide (r3 = 0)))), (180, .r (.sl (r2.map GStep.row))), (181, .agg [.own 140 (i9 0), .own 142 (i9 1), .own 144 (i9 2)])]) hg2 ⟨.inl rfl, .inl rfl, .inl rfl, .inl rfl, .inl rfl, .inl rfl, .inl rfl, .inl rfl, .inl rfl, .inl rfl, .inl rfl, .inl rfl, .inl rfl, .inl rfl, .inr (.inl rfl), .inr (.inl rfl), trivial⟩) ?_
                  refine AOps.weak (by exact Weak.frz (e' := [(13, .r (.sl (r2.map GStep.row))), (14, .r (.int .i64 r3)), (15, .r (.sl (r4.map GStep.row))), (16, .r (.int .i64 r5)), (20, .r (.int .i64 p2)), (21, .r (.int .i64 q1)), (22, .ptr 22 (G1 8) 0 0), (23, .ptr 23 (G2 8) 0 0), (174, .r (.int .i64 p2)), (175, .r (.bool (!decide (p2 = 0)))), (176, .r (.bool (!decide (p2 = 0)))), (177, .r (.int .i64 r3)), (178, .r (.bool (decide (r3 = 0)))), (179, .r (.bool (decide (r3 = 0)))), (180, .r (.sl (r2.map GStep.row))), (181, .agg [.r (.sl (x7.Adds.map (rSl GElem.row))), .own 142 (i9 1), .own 144 (i9 2)])]) (h' := [(22, some (.box (G1 8) 34 [.r (.sl (x7.Adds.map (rSl GElem.row))), .own 142 (i9 1), .own 144 (i9 2)])), (23, some (.box (G2 8) 34 [.own 148 (i9 3), .own 150 (i9 4), .own 152 (i9 5)])), (142, some (.arr (i9 1) 4 1 (x7.Cuts.map rBool))), (144, some (.arr (i9 2) 47 1 (x7.Attrs.map (rSl GAttr.row)))), (148, some (.arr (i9 3) 39 1 (y4.Adds.map (rSl GElem.row)))), (150, some (.arr (i9 4) 4 1 (y4.Cuts.map rBool))), (152, some (.arr (i9 5) 47 1 (y4.Attrs.map (rSl GAttr.row))))]) 140 rfl ⟨.inl (.inl rfl), .inl (.inl rfl), .inl (.inl rfl), .inl (.inl rfl), .inl (.inl rfl), .inl (.inl rfl), .inl (.inl rfl), .inl (.inl rfl), .inl (.inl rfl), .inl (.inl rfl), .inl (.inl rfl), .inl (.inl rfl), .inl (.inl rfl), .inl (.inl rfl), .inl (.inl rfl), .inr ⟨_, _, rfl, rfl, ⟨.inr (.inr ⟨rfl, rfl⟩), .inl rfl, .inl rfl, trivial⟩⟩, trivial⟩ ⟨rfl, .inr (.inr ⟨_, _, _, _, rfl, rfl, ⟨.inr (.inr ⟨rfl, rfl⟩), .inl rfl, .inl rfl, trivial⟩⟩), rfl, .inl rfl, rfl, .inl rfl, rfl, .inl rfl, rfl, .inl rfl, rfl, .inl rfl, rfl, .inl rfl, trivial⟩) ?_
                  refine AOps.weak (by exact Weak.frz (e' := [(13, .r (.sl (r2.map GStep.row))), (14, .r (.int .i64 r3)), (15, .r (.sl (r4.map GStep.row))), (16, .r (.int .i64 r5)), (20, .r (.int .i64 p2)), (21, .r (.int .i64 q1)), (22, .ptr 22 (G1 8) 0 0), (23, .ptr 23 (G2 8) 0 0), (174, .r (.int .i64 p2)), (175, .r (.bool (!decide (p2 = 0)))), (176, .r (.bool (!decide (p2 = 0)))), (177, .r (.int .i64 r3)), (178, .r (.bool (decide (r3 = 0)))), (179, .r (.bool (decide (r3 = 0)))), (180, .r (.sl (r2.map GStep.row))), (181, .agg [.r (.sl (x7.Adds.map (rSl GElem.row))), .r (.sl (x7.Cuts.map rBool)), .own 144 (i9 2)])]) (h' := [(22, some (.box (G1 8) 34 [.r (.sl (x7.Adds.map (rSl GElem.row))), .r (.sl (x7.Cuts.map rBool)), .own 144 (i9 2)])), (23, some (.box (G2 8) 34 [.own 148 (i9 3), .own 150 (i9 4), .own 152 (i9 5)])), (144, some (.arr (i9 2) 47 1 (x7.Attrs.map (rSl GAttr.row)))), (148, some (.arr (i9 3) 39 1 (y4.Adds.map (rSl GElem.row)))), (150, some (.arr (i9 4) 4 1 (y4.Cuts.map rBool))), (152, some (.arr (i9 5) 47 1 (y4.Attrs.map (rSl GAttr.row))))]) 142 rfl ⟨.inl (.inl rfl), .inl (.inl rfl), .inl (.inl rfl), .inl (.inl rfl), .inl (.inl rfl), .inl (.inl rfl), .inl (.inl rfl), .inl (.inl rfl), .inl (.inl rfl), .inl (.inl rfl), .inl (.inl rfl), .inl (.inl rfl), .inl (.inl rfl), .inl (.inl rfl), .inl (.inl rfl), .inr ⟨_, _, rfl, rfl, ⟨.inl rfl, .inr (.inr ⟨rfl, rfl⟩), .inl rfl, trivial⟩⟩, trivial⟩ ⟨rfl, .inr (.inr ⟨_, _, _, _, rfl, rfl, ⟨.inl rfl, .inr (.inr ⟨rfl, rfl⟩), .inl rfl, trivial⟩⟩), rfl, .inl rfl, rfl, .inl rfl, rfl, .inl rfl, rfl, .inl rfl, rfl, .inl rfl, trivial⟩) ?_
                  refine AOps.weak (by exact Weak.frz (e' := [(13, .r (.sl (r2.map GStep.row))), (14, .r (.int .i64 r3)), (15, .r (.sl (r4.map GStep.row))), (16, .r (.int .i64 r5)), (20, .r (.int .i64 p2)), (21, .r (.int .i64 q1)), (22, .ptr 22 (G1 8) 0 0), (23, .ptr 23 (G2 8) 0 0), (174, .r (.int .i64 p2)), (175, .r (.bool (!decide (p2 = 0)))), (176, .r (.bool (!decide (p2 = 0)))), (177, .r (.int .i64 r3)), (178, .r (.bool (decide (r3 = 0)))), (179, .r (.bool (decide (r3 = 0)))), (180, .r (.sl (r2.map GStep.row))), (181, .agg [.r (.sl (x7.Adds.map (rSl GElem.row))), .r (.sl (x7.Cuts.map rBool)), .r (.sl (x7.Attrs.map (rSl GAttr.row)))])]) (h' := [(22, some (.box (G1 8) 34 [.r (.sl (x7.Adds.map (rSl GElem.row))), .r (.sl (x7.Cuts.map rBool)), .r (.sl (x7.Attrs.map (rSl GAttr.row)))])), (23, some (.box (G2 8) 34 [.own 148 (i9 3), .own 150 (i9 4), .own 152 (i9 5)])), (148, some (.arr (i9 3) 39 1 (y4.Adds.map (rSl GElem.row)))), (150, some (.arr (i9 4) 4 1 (y4.Cuts.map rBool))), (152, some (.arr (i9 5) 47 1 (y4.Attrs.map (rSl GAttr.row))))]) 144 rfl ⟨.inl (.inl rfl), .inl (.inl rfl), .inl (.inl rfl), .inl (.inl rfl), .inl (.inl rfl), .inl (.inl rfl), .inl (.inl rfl), .inl (.inl rfl), .inl (.inl rfl), .inl (.inl rfl), .inl (.inl rfl), .inl (.inl rfl), .inl (.inl rfl), .inl (.inl rfl), .inl (.inl rfl), .inr ⟨_, _, rfl, rfl, ⟨.inl rfl, .inl rfl, .inr (.inr ⟨rfl, rfl⟩), trivial⟩⟩, trivial⟩ ⟨rfl, .inr (.inr ⟨_, _, _, _, rfl, rfl, ⟨.inl rfl, .inl rfl, .inr (.inr ⟨rfl, rfl⟩), trivial⟩⟩), rfl, .inl rfl, rfl, .inl rfl, rfl, .inl rfl, rfl, .inl rfl, trivial⟩) ?_
                  refine ob1k h23 fun r9 er9 h24 => ?_
                  refine AOps.stepGT (.one rfl rfl rfl) hg2 rfl rfl (sp_callS (r := .r (.sl (r9.map GStep.row))) (caps := []) (bs := [.agg [.r (.sl (x7.Adds.map (rSl GElem.row))), .r (.sl (x7.Cuts.map rBool)), .r (.sl (x7.Attrs.map (rSl GAttr.row)))]]) rfl (.inl rfl) rfl ⟨.inl ⟨(.inl rfl), rfl⟩, trivial⟩ (fun _ => w_ref_DeltaOf (er9))) ?_
                  refine ob1k h24 fun r10 er10 h25 => ?_
                  refine AOps.stepGT (.one rfl rfl rfl) hg2 rfl rfl (sp_call (r := .r (.bool r10)) (caps := []) (bs := [.r (.sl (r2.map GStep.row)), .r (.sl (r9.map GStep.row))]) rfl (.inl rfl) rfl ⟨⟨_, (.inl rfl), .d rfl⟩, ⟨_, (.inl rfl), .d rfl⟩, trivial⟩ (fun _ => w_ref_SameDelta (er10)) rfl) ?_
                  refine AOps.stepGT (.one rfl rfl rfl) hg1 rfl rfl (OpQ.spec (sp_and rfl (.inl rfl) (.inl rfl)) _) ?_
                  refine AOps.step rfl rfl rfl (OpQ.spec (sp_or rfl (.inl rfl) (.inl rfl)) _) ?_
                  refine AOps.step rfl rfl rfl (OpQ.spec (sp_move rfl (.inl rfl)) _) ?_
                  refine AOps.stepW (.one rfl rfl rfl) rfl rfl (OpQ.spec (sp_move rfl (.inl rfl)) _) ?_
                  refine AOps.stepW (.one rfl rfl rfl) rfl rfl (OpQ.spec (sp_neq rfl (.inr ⟨_, (by exact id), rfl⟩) (.inl rfl)) _) ?_
                  refine AOps.stepW (.one rfl rfl rfl) rfl rfl (OpQ.spec (sp_move rfl (.inr ⟨_, (by exact id), rfl⟩)) _) ?_
                  refine AOps.stepW (.two rfl rfl rfl) rfl rfl (OpQ.spec (sp_move rfl (.inl rfl)) _) ?_
                  refine AOps.stepW (.two rfl rfl rfl) rfl rfl (OpQ.spec (sp_eql rfl (.inr ⟨_, (by exact id), rfl⟩) (.inl rfl)) _) ?_
                  refine AOps.stepW (.two rfl rfl rfl) rfl rfl (OpQ.spec (sp_move rfl (.inr ⟨_, (by exact id), rfl⟩)) _) ?_
                  refine AOps.stepW (.two rfl rfl rfl) rfl rfl (OpQ.spec (sp_move rfl (.inl rfl)) _) ?_
                  refine AOps.stepW (.two rfl rfl rfl) rfl rfl (OpQ.spec (ms_loadA_box rfl ta_34 (.inl rfl) rfl rfl) _) ?_
                  refine AOps.split (((!decide (p2 = 0)) || ((decide (r3 = 0)) && r10)) == true) (fun hg3 => ?_) (fun hg3 => ?_)
                  · have h26 := ite_t hg3 h25
                    refine AOps.weak (by exact Weak.unw2 (e' := [(13, .r (.sl (r2.map GStep.row))), (14, .r (.int .i64 r3)), (15, .r (.sl (r4.map GStep.row))), (16, .r (.int .i64 r5)), (20, .r (.int .i64 p2)), (21, .r (.int .i64 q1)), (22, .ptr 22 (G1 8) 0 0), (23, .ptr 23 (G2 8) 0 0), (174, .r (.int .i64 p2)), (175, .r (.bool (!decide (p2 = 0)))), (176, .r (.bool (!decide (p2 = 0)))), (177, .r (.int .i64 r3)), (178, .r (.bool (decide (r3 = 0)))), (179, .r (.bool (decide (r3 = 0)))), (180, .r (.sl (r2.map GStep.row))), (181, .agg [.r (.sl (x7.Adds.map (rSl GElem.row))), .r (.sl (x7.Cuts.map rBool)), .r (.sl (x7.Attrs.map (rSl GAttr.row)))]), (182, .r (.sl (r9.map GStep.row))), (183, .r (.bool r10)), (184, .r (.bool ((decide (r3 = 0)) && r10))), (185, .r (.bool ((!decide (p2 = 0)) || ((decide (r3 = 0)) && r10)))), (186, .r (.bool ((!decide (p2 = 0)) || ((decide (r3 = 0)) && r10)))), (187, .r (.int .i64 q1)), (188, .r (.bool (!decide (q1 = 0)))), (189, .r (.bool (!decide (q1 = 0)))), (190, .whn ((!decide (q1 = 0)) == false) (.r (.int .i64 r5))), (191, .whn ((!decide (q1 = 0)) == false) (.r (.bool (decide (r5 = 0))))), (192, .whn ((!decide (q1 = 0)) == false) (.r (.bool (decide (r5 = 0))))), (193, .whn (((!decide (q1 = 0)) == false) && ((decide (r5 = 0)) == true)) (.r (.sl (r4.map GStep.row)))), (194, .whn (((!decide (q1 = 0)) == false) && ((decide (r5 = 0)) == true)) (.agg [.own 148 (i9 3), .own 150 (i9 4), .own 152 (i9 5)]))]) hg3 ⟨.inl rfl, .inl rfl, .inl rfl, .inl rfl, .inl rfl, .inl rfl, .inl rfl, .inl rfl, .inl rfl, .inl rfl, .inl rfl, .inl rfl, .inl rfl, .inl rfl, .inl rfl, .inl rfl, .inl rfl, .inl rfl, .inl rfl, .inl rfl, .inl rfl, .inr (.inl rfl), .inr (.inl rfl), .inr (.inl rfl), .inr (.inr (.inl ⟨_, _, rfl, rfl⟩)), .inr (.inr (.inl ⟨_, _, rfl, rfl⟩)), .inr (.inr (.inl ⟨_, _, rfl, rfl⟩)), .inr (.inr (.inr ⟨_, _, _, rfl, rfl⟩)), .inr (.inr (.inr ⟨_, _, _, rfl, rfl⟩)), trivial⟩) ?_
                    refine AOps.split ((!decide (q1 = 0)) == false) (fun hg4 => ?_) (fun hg4 => ?_)
                    · have h27 := ite_t hg4 h26
                      refine AOps.weak (by exact Weak.unw2 (e' := [(13, .r (.sl (r2.map GStep.row))), (14, .r (.int .i64 r3)), (15, .r (.sl (r4.map GStep.row))), (16, .r (.int .i64 r5)), (20, .r (.int .i64 p2)), (21, .r (.int .i64 q1)), (22, .ptr 22 (G1 8) 0 0), (23, .ptr 23 (G2 8) 0 0), (174, .r (.int .i64 p2)), (175, .r (.bool (!decide (p2 = 0)))), (176, .r (.bool (!decide (p2 = 0)))), (177, .r (.int .i64 r3)), (178, .r (.bool (decide (r3 = 0)))), (179, .r (.bool (decide (r3 = 0)))), (180, .r (.sl (r2.map GStep.row))), (181, .agg [.r (.sl (x7.Adds.map (rSl GElem.row))), .r (.sl (x7.Cuts.map rBool)), .r (.sl (x7.Attrs.map (rSl GAttr.row)))]), (182, .r (.sl (r9.map GStep.row))), (183, .r (.bool r10)), (184, .r (.bool ((decide (r3 = 0)) && r10))), (185, .r (.bool ((!decide (p2 = 0)) || ((decide (r3 = 0)) && r10)))), (186, .r (.bool ((!decide (p2 = 0)) || ((decide (r3 = 0)) && r10)))), (187, .r (.int .i64 q1)), (188, .r (.bool (!decide (q1 = 0)))), (189, .r (.bool (!decide (q1 = 0)))), (190, .r (.int .i64 r5)), (191, .r (.bool (decide (r5 = 0)))), (192, .r (.bool (decide (r5 = 0)))), (193, .whn ((decide (r5 = 0)) == true) (.r (.sl (r4.map GStep.row)))), (194, .whn ((decide (r5 = 0)) == true) (.agg [.own 148 (i9 3), .own 150 (i9 4), .own 152 (i9 5)]))]) hg4 ⟨.inl rfl, .inl rfl, .inl rfl, .inl rfl, .inl rfl, .inl rfl, .inl rfl, .inl rfl, .inl rfl, .inl rfl, .inl rfl, .inl rfl, .inl rfl, .inl rfl, .inl rfl, .inl rfl, .inl rfl, .inl rfl, .inl rfl, .inl rfl, .inl rfl, .inl rfl, .inl rfl, .inl rfl, .inr (.inl rfl), .inr (.inl rfl), .inr (.inl rfl), .inr (.inr (.inl ⟨_, _, rfl, rfl⟩)), .inr (.inr (.inl ⟨_, _, rfl, rfl⟩)), trivial⟩) ?_
                      refine AOps.split ((decide (r5 = 0)) == true) (fun hg5 => ?_) (fun hg5 => ?_)
                      · have h28 := ite_t hg5 h27
                        refine AOps.weak (by exact Weak.unw2 (e' := [(13, .r (.sl (r2.map GStep.row))), (14, .r (.int .i64 r3)), (15, .r (.sl (r4.map GStep.row))), (16, .r (.int .i64 r5)), (20, .r (.int .i64 p2)), (21, .r (.int .i64 q1)), (22, .ptr 22 (G1 8) 0 0), (23, .ptr 23 (G2 8) 0 0), (174, .r (.int .i64 p2)), (175, .r (.bool (!decide (p2 = 0)))), (176, .r (.bool (!decide (p2 = 0)))), (177, .r (.int .i64 r3)), (178, .r (.bool (decide (r3 = 0)))), (179, .r (.bool (decide (r3 = 0)))), (180, .r (.sl (r2.map GStep.row))), (181, .agg [.r (.sl (x7.Adds.map (rSl GElem.row))), .r (.sl (x7.Cuts.map rBool)), .r (.sl (x7.Attrs.map (rSl GAttr.row)))]), (182, .r (.sl (r9.map GStep.row))), (183, .r (.bool r10)), (184, .r (.bool ((decide (r3 = 0)) && r10))), (185, .r (.bool ((!decide (p2 = 0)) || ((decide (r3 = 0)) && r10)))), (186, .r (.bool ((!decide (p2 = 0)) || ((decide (r3 = 0)) && r10)))), (187, .r (.int .i64 q1)), (188, .r (.bool (!decide (q1 = 0)))), (189, .r (.bool (!decide (q1 = 0)))), (190, .r (.int .i64 r5)), (191, .r (.bool (decide (r5 = 0)))), (192, .r (.bool (decide (r5 = 0)))), (193, .r (.sl (r4.map GStep.row))), (194, .agg [.own 148 (i9 3), .own 150 (i9 4), .own 152 (i9 5)])]) hg5 ⟨.inl rfl, .inl rfl, .inl rfl, .inl rfl, .inl rfl, .inl rfl, .inl rfl, .inl rfl, .inl rfl, .inl rfl, .inl rfl, .inl rfl, .inl rfl, .inl rfl, .inl rfl, .inl rfl, .inl rfl, .inl rfl, .inl rfl, .inl rfl, .inl rfl, .inl rfl, .inl rfl, .inl rfl, .inl rfl, .inl rfl, .inl rfl, .inr (.inl rfl), .inr (.inl rfl), trivial⟩) ?_
                        refine AOps.weak (by exact Weak.frz (e' := [(13, .r (.sl (r2.map GStep.row))), (14, .r (.int .i64 r3)), (15, .r (.sl (r4.map GStep.row))), (16, .r (.int .i64 r5)), (20, .r (.int .i64 p2)), (21, .r (.int .i64 q1)), (22, .ptr 22 (G1 8) 0 0), (23, .ptr 23 (G2 8) 0 0), (174, .r (.int .i64 p2)), (175, .r (.bool (!decide (p2 = 0)))), (176, .r (.bool (!decide (p2 = 0)))), (177, .r (.int .i64 r3)), (178, .r (.bool (decide (r3 = 0)))), (179, .r (.bool (decide (r3 = 0)))), (180, .r (.sl (r2.map GStep.row))), (181, .agg [.r (.sl (x7.Adds.map (rSl GElem.row))), .r (.sl (x7.Cuts.map rBool)), .r (.sl (x7.Attrs.map (rSl GAttr.row)))]), (182, .r (.sl (r9.map GStep.row))), (183, .r (.bool r10)), (184, .r (.bool ((decide (r3 = 0)) && r10))), (185, .r (.bool ((!decide (p2 = 0)) || ((decide (r3 = 0)) && r10)))), (186, .r (.bool ((!decide (p2 = 0)) || ((decide (r3 = 0)) && r10)))), (187, .r (.int .i64 q1)), (188, .r (.bool (!decide (q1 = 0)))), (189, .r (.bool (!decide (q1 = 0)))), (190, .r (.int .i64 r5)), (191, .r (.bool (decide (r5 = 0)))), (192, .r (.bool (decide (r5 = 0)))), (193, .r (.sl (r4.map GStep.row))), (194, .agg [.r (.sl (y4.Adds.map (rSl GElem.row))), .own 150 (i9 4), .own 152 (i9 5)])]) (h' := [(22, some (.box (G1 8) 34 [.r (.sl (x7.Adds.map (rSl GElem.row))), .r (.sl (x7.Cuts.map rBool)), .r (.sl (x7.Attrs.map (rSl GAttr.row)))])), (23, some (.box (G2 8) 34 [.r (.sl (y4.Adds.map (rSl GElem.row))), .own 150 (i9 4), .own 152 (i9 5)])), (150, some (.arr (i9 4) 4 1 (y4.Cuts.map rBool))), (152, some (.arr (i9 5) 47 1 (y4.Attrs.map (rSl GAttr.row))))]) 148 rfl ⟨.inl (.inl rfl), .inl (.inl rfl), .inl (.inl rfl), .inl (.inl rfl), .inl (.inl rfl), .inl (.inl rfl), .inl (.inl rfl), .inl (.inl rfl), .inl (.inl rfl), .inl (.inl rfl), .inl (.inl rfl), .inl (.inl rfl), .inl (.inl rfl), .inl (.inl rfl), .inl (.inl rfl), .inl (.inl rfl), .inl (.inl rfl), .inl (.inl rfl), .inl (.inl rfl), .inl (.inl rfl), .inl (.inl rfl), .inl (.inl rfl), .inl (.inl rfl), .inl (.inl rfl), .inl (.inl rfl), .inl (.inl rfl), .inl (.inl rfl), .inl (.inl rfl), .inr ⟨_, _, rfl, rfl, ⟨.inr (.inr ⟨rfl, rfl⟩), .inl rfl, .inl rfl, trivial⟩⟩, trivial⟩ ⟨rfl, .inl rfl, rfl, .inr (.inr ⟨_, _, _, _, rfl, rfl, ⟨.inr (.inr ⟨rfl, rfl⟩), .inl rfl, .inl rfl, trivial⟩⟩), rfl, .inl rfl, rfl, .inl rfl, trivial⟩) ?_
                        refine AOps.weak (by exact Weak.frz (e' := [(13, .r (.sl (r2.map GStep.row))), (14, .r (.int .i64 r3)), (15, .r (.sl (r4.map GStep.row))), (16, .r (.int .i64 r5)), (20, .r (.int .i64 p2)), (21, .r (.int .i64 q1)), (22, .ptr 22 (G1 8) 0 0), (23, .ptr 23 (G2 8) 0 0), (174, .r (.int .i64 p2)), (175, .r (.bool (!decide (p2 = 0)))), (176, .r (.bool (!decide (p2 = 0)))), (177, .r (.int .i64 r3)), (178, .r (.bool (decide (r3 = 0)))), (179, .r (.bool (decide (r3 = 0)))), (180, .r (.sl (r2.map GStep.row))), (181, .agg [.r (.sl (x7.Adds.map (rSl GElem.row))), .r (.sl (x7.Cuts.map rBool)), .r (.sl (x7.Attrs.map (rSl GAttr.row)))]), (182, .r (.sl (r9.map GStep.row))), (183, .r (.bool r10)), (184, .r (.bool ((decide (r3 = 0)) && r10))), (185, .r (.bool ((!decide (p2 = 0)) || ((decide (r3 = 0)) && r10)))), (186, .r (.bool ((!decide (p2 = 0)) || ((decide (r3 = 0)) && r10)))), (187, .r (.int .i64 q1)), (188, .r (.bool (!decide (q1 = 0)))), (189, .r (.bool (!decide (q1 = 0)))), (190, .r (.int .i64 r5)), (191, .r (.bool (decide (r5 = 0)))), (192, .r (.bool (decide (r5 = 0)))), (193, .r (.sl (r4.map GStep.row))), (194, .agg [.r (.sl (y4.Adds.map (rSl GElem.row))), .r (.sl (y4.Cuts.map rBool)), .own 152 (i9 5)])]) (h' := [(22, some (.box (G1 8) 34 [.r (.sl (x7.Adds.map (rSl GElem.row))), .r (.sl (x7.Cuts.map rBool)), .r (.sl (x7.Attrs.map (rSl GAttr.row)))])), (23, some (.box (G2 8) 34 [.r (.sl (y4.Adds.map (rSl GElem.row))), .r (.sl (y4.Cuts.map rBool)), .own 152 (i9 5)])), (152, some (.arr (i9 5) 47 1 (y4.Attrs.map (rSl GAttr.row))))]) 150 rfl ⟨.inl (.inl rfl), .inl (.inl rfl), .inl (.inl rfl), .inl (.inl rfl), .inl (.inl rfl), .inl (.inl rfl), .inl (.inl rfl), .inl (.inl rfl), .inl (.inl rfl), .inl (.inl rfl), .inl (.inl rfl), .inl (.inl rfl), .inl (.inl rfl), .inl (.inl rfl), .inl (.inl rfl), .inl (.inl rfl), .inl (.inl rfl), .inl (.inl rfl), .inl (.inl rfl), .inl (.inl rfl), .inl (.inl rfl), .inl (.inl rfl), .inl (.inl rfl), .inl (.inl rfl), .inl (.inl rfl), .inl (.inl rfl), .inl (.inl rfl), .inl (.inl rfl), .inr ⟨_, _, rfl, rfl, ⟨.inl rfl, .inr (.inr ⟨rfl, rfl⟩), .inl rfl, trivial⟩⟩, trivial⟩ ⟨rfl, .inl rfl, rfl, .inr (.inr ⟨_, _, _, _, rfl, rfl, ⟨.inl rfl, .inr (.inr ⟨rfl, rfl⟩), .inl rfl, trivial⟩⟩), rfl, .inl rfl, trivial⟩) ?_
                        refine AOps.weak (by exact Weak.frz (e' := [(13, .r (.sl (r2.map GStep.row))), (14, .r (.int .i64 r3)), (15, .r (.sl (r4.map GStep.row))), (16, .r (.int .i64 r5)), (20, .r (.int .i64 p2)), (21, .r (.int .i64 q1)), (22, .ptr 22 (G1 8) 0 0), (23, .ptr 23 (G2 8) 0 0), (174, .r (.int .i64 p2)), (175, .r (.bool (!decide (p2 = 0)))), (176, .r (.bool (!decide (p2 = 0)))), (177, .r (.int .i64 r3)), (178, .r (.bool (decide (r3 = 0)))), (179, .r (.bool (decide (r3 = 0)))), (180, .r (.sl (r2.map GStep.row))), (181, .agg [.r (.sl (x7.Adds.map (rSl GElem.row))), .r (.sl (x7.Cuts.map rBool)), .r (.sl (x7.Attrs.map (rSl GAttr.row)))]), (182, .r (.sl (r9.map GStep.row))), (183, .r (.bool r10)), (184, .r (.bool ((decide (r3 = 0)) && r10))), (185, .r (.bool ((!decide (p2 = 0)) || ((decide (r3 = 0)) && r10)))), (186, .r (.bool ((!decide (p2 = 0)) || ((decide (r3 = 0)) && r10)))), (187, .r (.int .i64 q1)), (188, .r (.bool (!decide (q1 = 0)))), (189, .r (.bool (!decide (q1 = 0)))), (190, .r (.int .i64 r5)), (191, .r (.bool (decide (r5 = 0)))), (192, .r (.bool (decide (r5 = 0)))), (193, .r (.sl (r4.map GStep.row))), (194, .agg [.r (.sl (y4.Adds.map (rSl GElem.row))), .r (.sl (y4.Cuts.map rBool)), .r (.sl (y4.Attrs.map (rSl GAttr.row)))])]) (h' := [(22, some (.box (G1 8) 34 [.r (.sl (x7.Adds.map (rSl GElem.row))), .r (.sl (x7.Cuts.map rBool)), .r (.sl (x7.Attrs.map (rSl GAttr.row)))])), (23, some (.box (G2 8) 34 [.r (.sl (y4.Adds.map (rSl GElem.row))), .r (.sl (y4.Cuts.map rBool)), .r (.sl (y4.Attrs.map (rSl GAttr.row)))]))]) 152 rfl ⟨.inl (.inl rfl), .inl (.inl rfl), .inl (.inl rfl), .inl (.inl rfl), .inl (.inl rfl), .inl (.inl rfl), .inl (.inl rfl), .inl (.inl rfl), .inl (.inl rfl), .inl (.inl rfl), .inl (.inl rfl), .inl (.inl rfl), .inl (.inl rfl), .inl (.inl rfl), .inl (.inl rfl), .inl (.inl rfl), .inl (.inl rfl), .inl (.inl rfl), .inl (.inl rfl), .inl (.inl rfl), .inl (.inl rfl), .inl (.inl rfl), .inl (.inl rfl), .inl (.inl rfl), .inl (.inl rfl), .inl (.inl rfl), .inl (.inl rfl), .inl (.inl rfl), .inr ⟨_, _, rfl, rfl, ⟨.inl rfl, .inl rfl, .inr (.inr ⟨rfl, rfl⟩), trivial⟩⟩, trivial⟩ ⟨rfl, .inl rfl, rfl, .inr (.inr ⟨_, _, _, _, rfl, rfl, ⟨.inl rfl, .inl rfl, .inr (.inr ⟨rfl, rfl⟩), trivial⟩⟩), trivial⟩) ?_
                        refine ob1k h28 fun r11 er11 h29 => ?_
                        refine AOps.stepGT (.one rfl rfl rfl) hg5 rfl rfl (sp_callS (r := .r (.sl (r11.map GStep.row))) (caps := []) (bs := [.agg [.r (.sl (y4.Adds.map (rSl GElem.row))), .r (.sl (y4.Cuts.map rBool)), .r (.sl (y4.Attrs.map (rSl GAttr.row)))]]) rfl (.inl rfl) rfl ⟨.inl ⟨(.inl rfl), rfl⟩, trivial⟩ (fun _ => w_ref_DeltaOf (er11))) ?_
                        refine ob1k h29 fun r12 er12 h30 => ?_
                        refine AOps.stepGT (.one rfl rfl rfl) hg5 rfl rfl (sp_call (r := .r (.bool r12)) (caps := []) (bs := [.r (.sl (r4.map GStep.row)), .r (.sl (r11.map GStep.row))]) rfl (.inl rfl) rfl ⟨⟨_, (.inl rfl), .d rfl⟩, ⟨_, (.inl rfl), .d rfl⟩, trivial⟩ (fun _ => w_ref_SameDelta (er12)) rfl) ?_
                        refine AOps.stepGT (.one rfl rfl rfl) hg4 rfl rfl (OpQ.spec (sp_and rfl (.inl rfl) (.inl rfl)) _) ?_
                        refine AOps.stepGT (.one rfl rfl rfl) hg3 rfl rfl (OpQ.spec (sp_or rfl (.inl rfl) (.inl rfl)) _) ?_
                        refine AOps.step rfl rfl rfl (OpQ.spec (sp_and rfl (.inl rfl) (.inl rfl)) _) ?_
                        refine AOps.step rfl rfl rfl (OpQ.spec (sp_assign rfl (.inl rfl)) _) ?_
                        refine AOps.nil ?_
                        exact wK26 _ _ ((by exact Weak.cv ⟨.inl (.inl rfl), trivial⟩ trivial (Nat.le_refl _))) (J3 _ (vec [(i9 6)]) (Option.some.inj h30).symm)
                      · have h28 := ite_f hg5 h27
                        refine AOps.stepGF2 (.one rfl rfl rfl) hg5 rfl rfl ?_
                        refine AOps.stepGF2 (.one rfl rfl rfl) hg5 rfl rfl ?_
                        refine AOps.stepGT (.one rfl rfl rfl) hg4 rfl rfl (OpQ.spec (sp_and rfl (.inl rfl) (.inr ⟨_, (by exact id), rfl⟩)) _) ?_
                        refine AOps.stepGT (.one rfl rfl rfl) hg3 rfl rfl (OpQ.spec (sp_or rfl (.inl rfl) (.inl rfl)) _) ?_
                        refine AOps.step rfl rfl rfl (OpQ.spec (sp_and rfl (.inl rfl) (.inl rfl)) _) ?_
                        refine AOps.step rfl rfl rfl (OpQ.spec (sp_assign rfl (.inl rfl)) _) ?_
                        refine AOps.nil ?_
                        exact wK26 _ _ ((by exact Weak.cv ⟨.inl (.inl rfl), trivial⟩ trivial (Nat.le_refl _))) (J3 _ (vec [(i9 6)]) (Option.some.inj h28).symm)
                    · have h27 := ite_f hg4 h26
                      refine AOps.stepGF2 (.two rfl rfl rfl) (andF hg4) rfl rfl ?_
                      refine AOps.stepGF2 (.two rfl rfl rfl) (andF hg4) rfl rfl ?_
                      refine AOps.stepGF2 (.one rfl rfl rfl) hg4 rfl rfl ?_
                      refine AOps.stepGT (.one rfl rfl rfl) hg3 rfl rfl (OpQ.spec (sp_or rfl (.inl rfl) (.inr ⟨_, (by exact id), rfl⟩)) _) ?_
                      refine AOps.step rfl rfl rfl (OpQ.spec (sp_and rfl (.inl rfl) (.inl rfl)) _) ?_
                      refine AOps.step rfl rfl rfl (OpQ.spec (sp_assign rfl (.inl rfl)) _) ?_
                      refine AOps.nil ?_
                      exact wK26 _ _ ((by exact Weak.cv ⟨.inl (.inl rfl), trivial⟩ trivial (Nat.le_refl _))) (J3 _ (vec [(i9 6)]) (Option.some.inj h27).symm)
                  · have h26 := ite_f hg3 h25
                    refine AOps.stepGF2 (.two rfl rfl rfl) (andF (andF hg3)) rfl rfl ?_
                    refine AOps.stepGF2 (.two rfl rfl rfl) (andF (andF hg3)) rfl rfl ?_
                    refine AOps.stepGF2 (.two rfl rfl rfl) (andF hg3) rfl rfl ?_
                    refine AOps.stepGF2 (.one rfl rfl rfl) hg3 rfl rfl ?_
                    refine AOps.step rfl rfl rfl (OpQ.spec (sp_and rfl (.inl rfl) (.inr ⟨_, (by exact id), rfl⟩)) _) ?_
                    refine AOps.step rfl rfl rfl (OpQ.spec (sp_assign rfl (.inl rfl)) _) ?_
                    refine AOps.nil ?_
                    exact wK26 _ _ ((by exact Weak.cv ⟨.inl (.inl rfl), trivial⟩ trivial (Nat.le_refl _))) (J3 _ (vec [(i9 6)]) (Option.some.inj h26).symm)
                · have h23 := ite_f hg2 h22
                  refine AOps.stepGF2 (.one rfl rfl rfl) hg2 rfl rfl ?_
                  refine AOps.stepGF2 (.one rfl rfl rfl) hg2 rfl rfl ?_
                  refine AOps.stepGT (.one rfl rfl rfl) hg1 rfl rfl (OpQ.spec (sp_and rfl (.inl rfl) (.inr ⟨_, (by exact id), rfl⟩)) _) ?_
                  refine AOps.step rfl rfl rfl (OpQ.spec (sp_or rfl (.inl rfl) (.inl rfl)) _) ?_
                  refine AOps.step rfl rfl rfl (OpQ.spec (sp_move rfl (.inl rfl)) _) ?_
                  refine AOps.stepW (.one rfl rfl rfl) rfl rfl (OpQ.spec (sp_move rfl (.inl rfl)) _) ?_
                  refine AOps.stepW (.one rfl rfl rfl) rfl rfl (OpQ.spec (sp_neq rfl (.inr ⟨_, (by exact id), rfl⟩) (.inl rfl)) _) ?_
                  refine AOps.stepW (.one rfl rfl rfl) rfl rfl (OpQ.spec (sp_move rfl (.inr ⟨_, (by exact id), rfl⟩)) _) ?_
                  refine AOps.stepW (.two rfl rfl rfl) rfl rfl (OpQ.spec (sp_move rfl (.inl rfl)) _) ?_
                  refine AOps.stepW (.two rfl rfl rfl) rfl rfl (OpQ.spec (sp_eql rfl (.inr ⟨_, (by exact id), rfl⟩) (.inl rfl)) _) ?_
                  refine AOps.stepW (.two rfl rfl rfl) rfl rfl (OpQ.spec (sp_move rfl (.inr ⟨_, (by exact id), rfl⟩)) _) ?_
                  refine AOps.stepW (.two rfl rfl rfl) rfl rfl (OpQ.spec (sp_move rfl (.inl rfl)) _) ?_
                  refine AOps.stepW (.two rfl rfl rfl) rfl rfl (OpQ.spec (ms_loadA_box rfl ta_34 (.inl rfl) rfl rfl) _) ?_
                  refine AOps.split (((!decide (p2 = 0)) || ((decide (r3 = 0)) && false)) == true) (fun hg6 => ?_) (fun hg6 => ?_)
                  · have h31 := ite_t hg6 h23
                    refine AOps.weak (by exact Weak.unw2 (e' := [(13, .r (.sl (r2.map GStep.row))), (14, .r (.int .i64 r3)), (15, .r (.sl (r4.map GStep.row))), (16, .r (.int .i64 r5)), (20, .r (.int .i64 p2)), (21, .r (.int .i64 q1)), (22, .ptr 22 (G1 8) 0 0), (23, .ptr 23 (G2 8) 0 0), (174, .r (.int .i64 p2)), (175, .r (.bool (!decide (p2 = 0)))), (176, .r (.bool (!decide (p2 = 0)))), (177, .r (.int .i64 r3)), (178, .r (.bool (decide (r3 = 0)))), (179, .r (.bool (decide (r3 = 0)))), (184, .r (.bool ((decide (r3 = 0)) && false))), (185, .r (.bool ((!decide (p2 = 0)) || ((decide (r3 = 0)) && false)))), (186, .r (.bool ((!decide (p2 = 0)) || ((decide (r3 = 0)) && false)))), (187, .r (.int .i64 q1)), (188, .r (.bool (!decide (q1 = 0)))), (189, .r (.bool (!decide (q1 = 0)))), (190, .whn ((!decide (q1 = 0)) == false) (.r (.int .i64 r5))), (191, .whn ((!decide (q1 = 0)) == false) (.r (.bool (decide (r5 = 0))))), (192, .whn ((!decide (q1 = 0)) == false) (.r (.bool (decide (r5 = 0))))), (193, .whn (((!decide (q1 = 0)) == false) && ((decide (r5 = 0)) == true)) (.r (.sl (r4.map GStep.row)))), (194, .whn (((!decide (q1 = 0)) == false) && ((decide (r5 = 0)) == true)) (.agg [.own 148 (i9 3), .own 150 (i9 4), .own 152 (i9 5)]))]) hg6 ⟨.inl rfl, .inl rfl, .inl rfl, .inl rfl, .inl rfl, .inl rfl, .inl rfl, .inl rfl, .inl rfl, .inl rfl, .inl rfl, .inl rfl, .inl rfl, .inl rfl, .inl rfl, .inl rfl, .inl rfl, .inr (.inl rfl), .inr (.inl rfl), .inr (.inl rfl), .inr (.inr (.inl ⟨_, _, rfl, rfl⟩)), .inr (.inr (.inl ⟨_, _, rfl, rfl⟩)), .inr (.inr (.inl ⟨_, _, rfl, rfl⟩)), .inr (.inr (.inr ⟨_, _, _, rfl, rfl⟩)), .inr (.inr (.inr ⟨_, _, _, rfl, rfl⟩)), trivial⟩) ?_
                    refine AOps.split ((!decide (q1 = 0)) == false) (fun hg7 => ?_) (fun hg7 => ?_)
                    · have h32 := ite_t hg7 h31
                      refine AOps.weak (by exact Weak.unw2 (e' := [(13, .r (.sl (r2.map GStep.row))), (14, .r (.int .i64 r3)), (15, .r (.sl (r4.map GStep.row))), (16, .r (.int .i64 r5)), (20, .r (.int .i64 p2)), (21, .r (.int .i64 q1)), (22, .ptr 22 (G1 8) 0 0), (23, .ptr 23 (G2 8) 0 0), (174, .r (.int .i64 p2)), (175, .r (.bool (!decide (p2 = 0)))), (176, .r (.bool (!decide (p2 = 0)))), (177, .r (.int .i64 r3)), (178, .r (.bool (decide (r3 = 0)))), (179, .r (.bool (decide (r3 = 0)))), (184, .r (.bool ((decide (r3 = 0)) && false))), (185, .r (.bool ((!decide (p2 = 0)) || ((decide (r3 = 0)) && false)))), (186, .r (.bool ((!decide (p2 = 0)) || ((decide (r3 = 0)) && false)))), (187, .r (.int .i64 q1)), (188, .r (.bool (!decide (q1 = 0)))), (189, .r (.bool (!decide (q1 = 0)))), (190, .r (.int .i64 r5)), (191, .r (.bool (decide (r5 = 0)))), (192, .r (.bool (decide (r5 = 0)))), (193, .whn ((decide (r5 = 0)) == true) (.r (.sl (r4.map GStep.row)))), (194, .whn ((decide (r5 = 0)) == true) (.agg [.own 148 (i9 3), .own 150 (i9 4), .own 152 (i9 5)]))]) hg7 ⟨.inl rfl, .inl rfl, .inl rfl, .inl rfl, .inl rfl, .inl rfl, .inl rfl, .inl rfl, .inl rfl, .inl rfl, .inl rfl, .inl rfl, .inl rfl, .inl rfl, .inl rfl, .inl rfl, .inl rfl, .inl rfl, .inl rfl, .inl rfl, .inr (.inl rfl), .inr (.inl rfl), .inr (.inl rfl), .inr (.inr (.inl ⟨_, _, rfl, rfl⟩)), .inr (.inr (.inl ⟨_, _, rfl, rfl⟩)), trivial⟩) ?_
                      refine AOps.split ((decide (r5 = 0)) == true) (fun hg8 => ?_) (fun hg8 => ?_)
                      · have h33 := ite_t hg8 h32
                        refine AOps.weak (by exact Weak.unw2 (e' := [(13, .r (.sl (r2.map GStep.row))), (14, .r (.int .i64 r3)), (15, .r (.sl (r4.map GStep.row))), (16, .r (.int .i64 r5)), (20, .r (.int .i64 p2)), (21, .r (.int .i64 q1)), (22, .ptr 22 (G1 8) 0 0), (23, .ptr 23 (G2 8) 0 0), (174, .r (.int .i64 p2)), (175, .r (.bool (!decide (p2 = 0)))), (176, .r (.bool (!decide (p2 = 0)))), (177, .r (.int .i64 r3)), (178, .r (.bool (decide (r3 = 0)))), (179, .r (.bool (decide (r3 = 0)))), (184, .r (.bool ((decide (r3 = 0)) && false))), (185, .r (.bool ((!decide (p2 = 0)) || ((decide (r3 = 0)) && false)))), (186, .r (.bool ((!decide (p2 = 0)) || ((decide (r3 = 0)) && false)))), (187, .r (.int .i64 q1)), (188, .r (.bool (!decide (q1 = 0)))), (189, .r (.bool (!decide (q1 = 0)))), (190, .r (.int .i64 r5)), (191, .r (.bool (decide (r5 = 0)))), (192, .r (.bool (decide (r5 = 0)))), (193, .r (.sl (r4.map GStep.row))), (194, .agg [.own 148 (i9 3), .own 150 (i9 4), .own 152 (i9 5)])]) hg8 ⟨.inl rfl, .inl rfl, .inl rfl, .inl rfl, .inl rfl, .inl rfl, .inl rfl, .inl rfl, .inl rfl, .inl rfl, .inl rfl, .inl rfl, .inl rfl, .inl rfl, .inl rfl, .inl rfl, .inl rfl, .inl rfl, .inl rfl, .inl rfl, .inl rfl, .inl rfl, .inl rfl, .inr (.inl rfl), .inr (.inl rfl), trivial⟩) ?_
                        refine AOps.weak (by exact Weak.frz (e' := [(13, .r (.sl (r2.map GStep.row))), (14, .r (.int .i64 r3)), (15, .r (.sl (r4.map GStep.row))), (16, .r (.int .i64 r5)), (20, .r (.int .i64 p2)), (21, .r (.int .i64 q1)), (22, .ptr 22 (G1 8) 0 0), (23, .ptr 23 (G2 8) 0 0), (174, .r (.int .i64 p2)), (175, .r (.bool (!decide (p2 = 0)))), (176, .r (.bool (!decide (p2 = 0)))), (177, .r (.int .i64 r3)), (178, .r (.bool (decide (r3 = 0)))), (179, .r (.bool (decide (r3 = 0)))), (184, .r (.bool ((decide (r3 = 0)) && false))), (185, .r (.bool ((!decide (p2 = 0)) || ((decide (r3 = 0)) && false)))), (186, .r (.bool ((!decide (p2 = 0)) || ((decide (r3 = 0)) && false)))), (187, .r (.int .i64 q1)), (188, .r (.bool (!decide (q1 = 0)))), (189, .r (.bool (!decide (q1 = 0)))), (190, .r (.int .i64 r5)), (191, .r (.bool (decide (r5 = 0)))), (192, .r (.bool (decide (r5 = 0)))), (193, .r (.sl (r4.map GStep.row))), (194, .agg [.r (.sl (y4.Adds.map (rSl GElem.row))), .own 150 (i9 4), .own 152 (i9 5)])]) (h' := [(22, some (.box (G1 8) 34 [.own 140 (i9 0), .own 142 (i9 1), .own 144 (i9 2)])), (23, some (.box (G2 8) 34 [.r (.sl (y4.Adds.map (rSl GElem.row))), .own 150 (i9 4), .own 152 (i9 5)])), (140, some (.arr (i9 0) 39 1 (x7.Adds.map (rSl GElem.row)))), (142, some (.arr (i9 1) 4 1 (x7.Cuts.map rBool))), (144, some (.arr (i9 2) 47 1 (x7.Attrs.map (rSl GAttr.row)))), (150, some (.arr (i9 4) 4 1 (y4.Cuts.map rBool))), (152, some (.arr (i9 5) 47 1 (y4.Attrs.map (rSl GAttr.row))))]) 148 rfl ⟨.inl (.inl rfl), .inl (.inl rfl), .inl (.inl rfl), .inl (.inl rfl), .inl (.inl rfl), .inl (.inl rfl), .inl (.inl rfl), .inl (.inl rfl), .inl (.inl rfl), .inl (.inl rfl), .inl (.inl rfl), .inl (.inl rfl), .inl (.inl rfl), .inl (.inl rfl), .inl (.inl rfl), .inl (.inl rfl), .inl (.inl rfl), .inl (.inl rfl), .inl (.inl rfl), .inl (.inl rfl), .inl (.inl rfl), .inl (.inl rfl), .inl (.inl rfl), .inl (.inl rfl), .inr ⟨_, _, rfl, rfl, ⟨.inr (.inr ⟨rfl, rfl⟩), .inl rfl, .inl rfl, trivial⟩⟩, trivial⟩ ⟨rfl, .inl rfl, rfl, .inr (.inr ⟨_, _, _, _, rfl, rfl, ⟨.inr (.inr ⟨rfl, rfl⟩), .inl rfl, .inl rfl, trivial⟩⟩), rfl, .inl rfl, rfl, .inl rfl, rfl, .inl rfl, rfl, .inl rfl, rfl, .inl rfl, trivial⟩) ?_
                        refine AOps.weak (by exact Weak.frz (e' := [(13, .r (.sl (r2.map GStep.row))), (14, .r (.int .i64 r3)), (15, .r (.sl (r4.map GStep.row))), (16, .r (.int .i64 r5)), (20, .r (.int .i64 p2)), (21, .r (.int .i64 q1)), (22, .ptr 22 (G1 8) 0 0), (23, .ptr 23 (G2 8) 0 0), (174, .r (.int .i64 p2)), (175, .r (.bool (!decide (p2 = 0)))), (176, .r (.bool (!decide (p2 = 0)))), (177, .r (.int .i64 r3)), (178, .r (.bool (decide (r3 = 0)))), (179, .r (.bool (decide (r3 = 0)))), (184, .r (.bool ((decide (r3 = 0)) && false))), (185, .r (.bool ((!decide (p2 = 0)) || ((decide (r3 = 0)) && false)))), (186, .r (.bool ((!decide (p2 = 0)) || ((decide (r3 = 0)) && false)))), (187, .r (.int .i64 q1)), (188, .r (.bool (!decide (q1 = 0)))), (189, .r (.bool (!decide (q1 = 0)))), (190, .r (.int .i64 r5)), (191, .r (.bool (decide (r5 = 0)))), (192, .r (.bool (decide (r5 = 0)))), (193, .r (.sl (r4.map GStep.row))), (194, .agg [.r (.sl (y4.Adds.map (rSl GElem.row))), .r (.sl (y4.Cuts.map rBool)), .own 152 (i9 5)])]) (h' := [(22, some (.box (G1 8) 34 [.own 140 (i9 0), .own 142 (i9 1), .own 144 (i9 2)])), (23, some (.box (G2 8) 34 [.r (.sl (y4.Adds.map (rSl GElem.row))), .r (.sl (y4.Cuts.map rBool)), .own 152 (i9 5)])), (140, some (.arr (i9 0) 39 1 (x7.Adds.map (rSl GElem.row)))), (142, some (.arr (i9 1) 4 1 (x7.Cuts.map rBool))), (144, some (.arr (i9 2) 47 1 (x7.Attrs.map (rSl GAttr.row)))), (152, some (.arr (i9 5) 47 1 (y4.Attrs.map (rSl GAttr.row))))]) 150 rfl ⟨.inl (.inl rfl), .inl (.inl rfl), .inl (.inl rfl), .inl (.inl rfl), .inl (.inl rfl), .inl (.inl rfl), .inl (.inl rfl), .inl (.inl rfl), .inl (.inl rfl), .inl (.inl rfl), .inl (.inl rfl), .inl (.inl rfl), .inl (.inl rfl), .inl (.inl rfl), .inl (.inl rfl), .inl (.inl rfl), .inl (.inl rfl), .inl (.inl rfl), .inl (.inl rfl), .inl (.inl rfl), .inl (.inl rfl), .inl (.inl rfl), .inl (.inl rfl), .inl (.inl rfl), .inr ⟨_, _, rfl, rfl, ⟨.inl rfl, .inr (.inr ⟨rfl, rfl⟩), .inl rfl, trivial⟩⟩, trivial⟩ ⟨rfl, .inl rfl, rfl, .inr (.inr ⟨_, _, _, _, rfl, rfl, ⟨.inl rfl, .inr (.inr ⟨rfl, rfl⟩), .inl rfl, trivial⟩⟩), rfl, .inl rfl, rfl, .inl rfl, rfl, .inl rfl, rfl, .inl rfl, trivial⟩) ?_
                        refine AOps.weak (by exact Weak.frz (e' := [(13, .r (.sl (r2.map GStep.row))), (14, .r (.int .i64 r3)), (15, .r (.sl (r4.map GStep.row))), (16, .r (.int .i64 r5)), (20, .r (.int .i64 p2)), (21, .r (.int .i64 q1)), (22, .ptr 22 (G1 8) 0 0), (23, .ptr 23 (G2 8) 0 0), (174, .r (.int .i64 p2)), (175, .r (.bool (!decide (p2 = 0)))), (176, .r (.bool (!decide (p2 = 0)))), (177, .r (.int .i64 r3)), (178, .r (.bool (decide (r3 = 0)))), (179, .r (.bool (decide (r3 = 0)))), (184, .r (.bool ((decide (r3 = 0)) && false))), (185, .r (.bool ((!decide (p2 = 0)) || ((decide (r3 = 0)) && false)))), (186, .r (.bool ((!decide (p2 = 0)) || ((decide (r3 = 0)) && false)))), (187, .r (.int .i64 q1)), (188, .r (.bool (!decide (q1 = 0)))), (189, .r (.bool (!decide (q1 = 0)))), (190, .r (.int .i64 r5)), (191, .r (.bool (decide (r5 = 0)))), (192, .r (.bool (decide (r5 = 0)))), (193, .r (.sl (r4.map GStep.row))), (194, .agg [.r (.sl (y4.Adds.map (rSl GElem.row))), .r (.sl (y4.Cuts.map rBool)), .r (.sl (y4.Attrs.map (rSl GAttr.row)))])]) (h' := [(22, some (.box (G1 8) 34 [.own 140 (i9 0), .own 142 (i9 1), .own 144 (i9 2)])), (23, some (.box (G2 8) 34 [.r (.sl (y4.Adds.map (rSl GElem.row))), .r (.sl (y4.Cuts.map rBool)), .r (.sl (y4.Attrs.map (rSl GAttr.row)))])), (140, some (.arr (i9 0) 39 1 (x7.Adds.map (rSl GElem.row)))), (142, some (.arr (i9 1) 4 1 (x7.Cuts.map rBool))), (144, some (.arr (i9 2) 47 1 (x7.Attrs.map (rSl GAttr.row))))]) 152 rfl ⟨.inl (.inl rfl), .inl (.inl rfl), .inl (.inl rfl), .inl (.inl rfl), .inl (.inl rfl), .inl (.inl rfl), .inl (.inl rfl), .inl (.inl rfl), .inl (.inl rfl), .inl (.inl rfl), .inl (.inl rfl), .inl (.inl rfl), .inl (.inl rfl), .inl (.inl rfl), .inl (.inl rfl), .inl (.inl rfl), .inl (.inl rfl), .inl (.inl rfl), .inl (.inl rfl), .inl (.inl rfl), .inl (.inl rfl), .inl (.inl rfl), .inl (.inl rfl), .inl (.inl rfl), .inr ⟨_, _, rfl, rfl, ⟨.inl rfl, .inl rfl, .inr (.inr ⟨rfl, rfl⟩), trivial⟩⟩, trivial⟩ ⟨rfl, .inl rfl, rfl, .inr (.inr ⟨_, _, _, _, rfl, rfl, ⟨.inl rfl, .inl rfl, .inr (.inr ⟨rfl, rfl⟩), trivial⟩⟩), rfl, .inl rfl, rfl, .inl rfl, rfl, .inl rfl, trivial⟩) ?_
                        refine ob1k h33 fun r13 er13 h34 => ?_
                        refine AOps.stepGT (.one rfl rfl rfl) hg8 rfl rfl (sp_callS (r := .r (.sl (r13.map GStep.row))) (caps := []) (bs := [.agg [.r (.sl (y4.Adds.map (rSl GElem.row))), .r (.sl (y4.Cuts.map rBool)), .r (.sl (y4.Attrs.map (rSl GAttr.row)))]]) rfl (.inl rfl) rfl ⟨.inl ⟨(.inl rfl), rfl⟩, trivial⟩ (fun _ => w_ref_DeltaOf (er13))) ?_
                        refine ob1k h34 fun r14 er14 h35 => ?_
                        refine AOps.stepGT (.one rfl rfl rfl) hg8 rfl rfl (sp_call (r := .r (.bool r14)) (caps := []) (bs := [.r (.sl (r4.map GStep.row)), .r (.sl (r13.map GStep.row))]) rfl (.inl rfl) rfl ⟨⟨_, (.inl rfl), .d rfl⟩, ⟨_, (.inl rfl), .d rfl⟩, trivial⟩ (fun _ => w_ref_SameDelta (er14)) rfl) ?_
                        refine AOps.stepGT (.one rfl rfl rfl) hg7 rfl rfl (OpQ.spec (sp_and rfl (.inl rfl) (.inl rfl)) _) ?_
                        refine AOps.stepGT (.one rfl rfl rfl) hg6 rfl rfl (OpQ.spec (sp_or rfl (.inl rfl) (.inl rfl)) _) ?_
                        refine AOps.step rfl rfl rfl (OpQ.spec (sp_and rfl (.inl rfl) (.inl rfl)) _) ?_
                        refine AOps.step rfl rfl rfl (OpQ.spec (sp_assign rfl (.inl rfl)) _) ?_
                        refine AOps.nil ?_
                        exact wK26 _ _ ((by exact Weak.cv ⟨.inl (.inl rfl), trivial⟩ trivial (Nat.le_refl _))) (J3 _ (vec [(i9 6)]) (Option.some.inj h35).symm)
                      · have h33 := ite_f hg8 h32
                        refine AOps.stepGF2 (.one rfl rfl rfl) hg8 rfl rfl ?_
                        refine AOps.stepGF2 (.one rfl rfl rfl) hg8 rfl rfl ?_
                        refine AOps.stepGT (.one rfl rfl rfl) hg7 rfl rfl (OpQ.spec (sp_and rfl (.inl rfl) (.inr ⟨_, (by exact id), rfl⟩)) _) ?_
                        refine AOps.stepGT (.one rfl rfl rfl) hg6 rfl rfl (OpQ.spec (sp_or rfl (.inl rfl) (.inl rfl)) _) ?_
                        refine AOps.step rfl rfl rfl (OpQ.spec (sp_and rfl (.inl rfl) (.inl rfl)) _) ?_
                        refine AOps.step rfl rfl rfl (OpQ.spec (sp_assign rfl (.inl rfl)) _) ?_
                        refine AOps.nil ?_
                        exact wK26 _ _ ((by exact Weak.cv ⟨.inl (.inl rfl), trivial⟩ trivial (Nat.le_refl _))) (J3 _ (vec [(i9 6)]) (Option.some.inj h33).symm)
                    · have h32 := ite_f hg7 h31
                      refine AOps.stepGF2 (.two rfl rfl rfl) (andF hg7) rfl rfl ?_
                      refine AOps.stepGF2 (.two rfl rfl rfl) (andF hg7) rfl rfl ?_
                      refine AOps.stepGF2 (.one rfl rfl rfl) hg7 rfl rfl ?_
                      refine AOps.stepGT (.one rfl rfl rfl) hg6 rfl rfl (OpQ.spec (sp_or rfl (.inl rfl) (.inr ⟨_, (by exact id), rfl⟩)) _) ?_
                      refine AOps.step rfl rfl rfl (OpQ.spec (sp_and rfl (.inl rfl) (.inl rfl)) _) ?_
                      refine AOps.step rfl rfl rfl (OpQ.spec (sp_assign rfl (.inl rfl)) _) ?_
                      refine AOps.nil ?_
                      exact wK26 _ _ ((by exact Weak.cv ⟨.inl (.inl rfl), trivial⟩ trivial (Nat.le_refl _))) (J3 _ (vec [(i9 6)]) (Option.some.inj h32).symm)
                  · have h31 := ite_f hg6 h23
                    refine AOps.stepGF2 (.two rfl rfl rfl) (andF (andF hg6)) rfl rfl ?_
                    refine AOps.stepGF2 (.two rfl rfl rfl) (andF (andF hg6)) rfl rfl ?_
                    refine AOps.stepGF2 (.two rfl rfl rfl) (andF hg6) rfl rfl ?_
                    refine AOps.stepGF2 (.one rfl rfl rfl) hg6 rfl rfl ?_
                    refine AOps.step rfl rfl rfl (OpQ.spec (sp_and rfl (.inl rfl) (.inr ⟨_, (by exact id), rfl⟩)) _) ?_
                    refine AOps.step rfl rfl rfl (OpQ.spec (sp_assign rfl (.inl rfl)) _) ?_
                    refine AOps.nil ?_
                    exact wK26 _ _ ((by exact Weak.cv ⟨.inl (.inl rfl), trivial⟩ trivial (Nat.le_refl _))) (J3 _ (vec [(i9 6)]) (Option.some.inj h31).symm)
              · have h22 := ite_f hg1 hp2
                refine AOps.stepGF2 (.two rfl rfl rfl) (andF hg1) rfl rfl ?_
                refine AOps.stepGF2 (.two rfl rfl rfl) (andF hg1) rfl rfl ?_
                refine AOps.stepGF2 (.one rfl rfl rfl) hg1 rfl rfl ?_
                refine AOps.step rfl rfl rfl (OpQ.spec (sp_or rfl (.inl rfl) (.inr ⟨_, (by exact id), rfl⟩)) _) ?_
                refine AOps.step rfl rfl rfl (OpQ.spec (sp_move rfl (.inl rfl)) _) ?_
                refine AOps.stepW (.one rfl rfl rfl) rfl rfl (OpQ.spec (sp_move rfl (.inl rfl)) _) ?_
                refine AOps.stepW (.one rfl rfl rfl) rfl rfl (OpQ.spec (sp_neq rfl (.inr ⟨_, (by exact id), rfl⟩) (.inl rfl)) _) ?_
                refine AOps.stepW (.one rfl rfl rfl) rfl rfl (OpQ.spec (sp_move rfl (.inr ⟨_, (by exact id), rfl⟩)) _) ?_
                refine AOps.stepW (.two rfl rfl rfl) rfl rfl (OpQ.spec (sp_move rfl (.inl rfl)) _) ?_
                refine AOps.stepW (.two rfl rfl rfl) rfl rfl (OpQ.spec (sp_eql rfl (.inr ⟨_, (by exact id), rfl⟩) (.inl rfl)) _) ?_
                refine AOps.stepW (.two rfl rfl rfl) rfl rfl (OpQ.spec (sp_move rfl (.inr ⟨_, (by exact id), rfl⟩)) _) ?_
                refine AOps.stepW (.two rfl rfl rfl) rfl rfl (OpQ.spec (sp_move rfl (.inl rfl)) _) ?_
                refine AOps.stepW (.two rfl rfl rfl) rfl rfl (OpQ.spec (ms_loadA_box rfl ta_34 (.inl rfl) rfl rfl) _) ?_
                refine AOps.split (((!decide (p2 = 0)) || false) == true) (fun hg9 => ?_) (fun hg9 => ?_)
                · have h36 := ite_t hg9 h22
                  refine AOps.weak (by exact Weak.unw2 (e' := [(13, .r (.sl (r2.map GStep.row))), (14, .r (.int .i64 r3)), (15, .r (.sl (r4.map GStep.row))), (16, .r (.int .i64 r5)), (20, .r (.int .i64 p2)), (21, .r (.int .i64 q1)), (22, .ptr 22 (G1 8) 0 0), (23, .ptr 23 (G2 8) 0 0), (174, .r (.int .i64 p2)), (175, .r (.bool (!decide (p2 = 0)))), (176, .r (.bool (!decide (p2 = 0)))), (185, .r (.bool ((!decide (p2 = 0)) || false))), (186, .r (.bool ((!decide (p2 = 0)) || false))), (187, .r (.int .i64 q1)), (188, .r (.bool (!decide (q1 = 0)))), (189, .r (.bool (!decide (q1 = 0)))), (190, .whn ((!decide (q1 = 0)) == false) (.r (.int .i64 r5))), (191, .whn ((!decide (q1 = 0)) == false) (.r (.bool (decide (r5 = 0))))), (192, .whn ((!decide (q1 = 0)) == false) (.r (.bool (decide (r5 = 0))))), (193, .whn (((!decide (q1 = 0)) == false) && ((decide (r5 = 0)) == true)) (.r (.sl (r4.map GStep.row)))), (194, .whn (((!decide (q1 = 0)) == false) && ((decide (r5 = 0)) == true)) (.agg [.own 148 (i9 3), .own 150 (i9 4), .own 152 (i9 5)]))]) hg9 ⟨.inl rfl, .inl rfl, .inl rfl, .inl rfl, .inl rfl, .inl rfl, .inl rfl, .inl rfl, .inl rfl, .inl rfl, .inl rfl, .inl rfl, .inl rfl, .inr (.inl rfl), .inr (.inl rfl), .inr (.inl rfl), .inr (.inr (.inl ⟨_, _, rfl, rfl⟩)), .inr (.inr (.inl ⟨_, _, rfl, rfl⟩)), .inr (.inr (.inl ⟨_, _, rfl, rfl⟩)), .inr (.inr (.inr ⟨_, _, _, rfl, rfl⟩)), .inr (.inr (.inr ⟨_, _, _, rfl, rfl⟩)), trivial⟩) ?_
                  refine AOps.split ((!decide (q1 = 0)) == false) (fun hg10 => ?_) (fun hg10 => ?_)
                  · have h37 := ite_t hg10 h36
                    refine AOps.weak (by exact Weak.unw2 (e' := [(13, .r (.sl (r2.map GStep.row))), (14, .r (.int .i64 r3)), (15, .r (.sl (r4.map GStep.row))), (16, .r (.int .i64 r5)), (20, .r (.int .i64 p2)), (21, .r (.int .i64 q1)), (22, .ptr 22 (G1 8) 0 0), (23, .ptr 23 (G2 8) 0 0), (174, .r (.int .i64 p2)), (175, .r (.bool (!decide (p2 = 0)))), (176, .r (.bool (!decide (p2 = 0)))), (185, .r (.bool ((!decide (p2 = 0)) || false))), (186, .r (.bool ((!decide (p2 = 0)) || false))), (187, .r (.int .i64 q1)), (188, .r (.bool (!decide (q1 = 0)))), (189, .r (.bool (!decide (q1 = 0)))), (190, .r (.int .i64 r5)), (191, .r (.bool (decide (r5 = 0)))), (192, .r (.bool (decide (r5 = 0)))), (193, .whn ((decide (r5 = 0)) == true) (.r (.sl (r4.map GStep.row)))), (194, .whn ((decide (r5 = 0)) == true) (.agg [.own 148 (i9 3), .own 150 (i9 4), .own 152 (i9 5)]))]) hg10 ⟨.inl rfl, .inl rfl, .inl rfl, .inl rfl, .inl rfl, .inl rfl, .inl rfl, .inl rfl, .inl rfl, .inl rfl, .inl rfl, .inl rfl, .inl rfl, .inl rfl, .inl rfl, .inl rfl, .inr (.inl rfl), .inr (.inl rfl), .inr (.inl rfl), .inr (.inr (.inl ⟨_, _, rfl, rfl⟩)), .inr (.inr (.inl ⟨_, _, rfl, rfl⟩)), trivial⟩) ?_
                    refine AOps.split ((decide (r5 = 0)) == true) (fun hg11 => ?_) (fun hg11 => ?_)
                    · have h38 := ite_t hg11 h37
                      refine AOps.weak (by exact Weak.unw2 (e' := [(13, .r (.sl (r2.map GStep.row))), (14, .r (.int .i64 r3)), (15, .r (.sl (r4.map GStep.row))), (16, .r (.int .i64 r5)), (20, .r (.int .i64 p2)), (21, .r (.int .i64 q1)), (22, .ptr 22 (G1 8) 0 0), (23, .ptr 23 (G2 8) 0 0), (174, .r (.int .i64 p2)), (175, .r (.bool (!decide (p2 = 0)))), (176, .r (.bool (!decide (p2 = 0)))), (185, .r (.bool ((!decide (p2 = 0)) || false))), (186, .r (.bool ((!decide (p2 = 0)) || false))), (187, .r (.int .i64 q1)), (188, .r (.bool (!decide (q1 = 0)))), (189, .r (.bool (!decide (q1 = 0)))), (190, .r (.int .i64 r5)), (191, .r (.bool (decide (r5 = 0)))), (192, .r (.bool (decide (r5 = 0)))), (193, .r (.sl (r4.map GStep.row))), (194, .agg [.own 148 (i9 3), .own 150 (i9 4), .own 152 (i9 5)])]) hg11 ⟨.inl rfl, .inl rfl, .inl rfl, .inl rfl, .inl rfl, .inl rfl, .inl rfl, .inl rfl, .inl rfl, .inl rfl, .inl rfl, .inl rfl, .inl rfl, .inl rfl, .inl rfl, .inl rfl, .inl rfl, .inl rfl, .inl rfl, .inr (.inl rfl), .inr (.inl rfl), trivial⟩) ?_
                      refine AOps.weak (by exact Weak.frz (e' := [(13, .r (.sl (r2.map GStep.row))), (14, .r (.int .i64 r3)), (15, .r (.sl (r4.map GStep.row))), (16, .r (.int .i64 r5)), (20, .r (.int .i64 p2)), (21, .r (.int .i64 q1)), (22, .ptr 22 (G1 8) 0 0), (23, .ptr 23 (G2 8) 0 0), (174, .r (.int .i64 p2)), (175, .r (.bool (!decide (p2 = 0)))), (176, .r (.bool (!decide (p2 = 0)))), (185, .r (.bool ((!decide (p2 = 0)) || false))), (186, .r (.bool ((!decide (p2 = 0)) || false))), (187, .r (.int .i64 q1)), (188, .r (.bool (!decide (q1 = 0)))), (189, .r (.bool (!decide (q1 = 0)))), (190, .r (.int .i64 r5)), (191, .r (.bool (decide (r5 = 0)))), (192, .r (.bool (decide (r5 = 0)))), (193, .r (.sl (r4.map GStep.row))), (194, .agg [.r (.sl (y4.Adds.map (rSl GElem.row))), .own 150 (i9 4), .own 152 (i9 5)])]) (h' := [(22, some (.box (G1 8) 34 [.own 140 (i9 0), .own 142 (i9 1), .own 144 (i9 2)])), (23, some (.box (G2 8) 34 [.r (.sl (y4.Adds.map (rSl GElem.row))), .own 150 (i9 4), .own 152 (i9 5)])), (140, some (.arr (i9 0) 39 1 (x7.Adds.map (rSl GElem.row)))), (142, some (.arr (i9 1) 4 1 (x7.Cuts.map rBool))), (144, some (.arr (i9 2) 47 1 (x7.Attrs.map (rSl GAttr.row)))), (150, some (.arr (i9 4) 4 1 (y4.Cuts.map rBool))), (152, some (.arr (i9 5) 47 1 (y4.Attrs.map (rSl GAttr.row))))]) 148 rfl ⟨.inl (.inl rfl), .inl (.inl rfl), .inl (.inl rfl), .inl (.inl rfl), .inl (.inl rfl), .inl (.inl rfl), .inl (.inl rfl), .inl (.inl rfl), .inl (.inl rfl), .inl (.inl rfl), .inl (.inl rfl), .inl (.inl rfl), .inl (.inl rfl), .inl (.inl rfl), .inl (.inl rfl), .inl (.inl rfl), .inl (.inl rfl), .inl (.inl rfl), .inl (.inl rfl), .inl (.inl rfl), .inr ⟨_, _, rfl, rfl, ⟨.inr (.inr ⟨rfl, rfl⟩), .inl rfl, .inl rfl, trivial⟩⟩, trivial⟩ ⟨rfl, .inl rfl, rfl, .inr (.inr ⟨_, _, _, _, rfl, rfl, ⟨.inr (.inr ⟨rfl, rfl⟩), .inl rfl, .inl rfl, trivial⟩⟩), rfl, .inl rfl, rfl, .inl rfl, rfl, .inl rfl, rfl, .inl rfl, rfl, .inl rfl, trivial⟩) ?_
                      refine AOps.weak (by exact Weak.frz (e' := [(13, .r (.sl (r2.map GStep.row))), (14, .r (.int .i64 r3)), (15, .r (.sl (r4.map GStep.row))), (16, .r (.int .i64 r5)), (20, .r (.int .i64 p2)), (21, .r (.int .i64 q1)), (22, .ptr 22 (G1 8) 0 0), (23, .ptr 23 (G2 8) 0 0), (174, .r (.int .i64 p2)), (175, .r (.bool (!decide (p2 = 0)))), (176, .r (.bool (!decide (p2 = 0)))), (185, .r (.bool ((!decide (p2 = 0)) || false))), (186, .r (.bool ((!decide (p2 = 0)) || false))), (187, .r (.int .i64 q1)), (188, .r (.bool (!decide (q1 = 0)))), (189, .r (.bool (!decide (q1 = 0)))), (190, .r (.int .i64 r5)), (191, .r (.bool (decide (r5 = 0)))), (192, .r (.bool (decide (r5 = 0)))), (193, .r (.sl (r4.map GStep.row))), (194, .agg [.r (.sl (y4.Adds.map (rSl GElem.row))), .r (.sl (y4.Cuts.map rBool)), .own 152 (i9 5)])]) (h' := [(22, some (.box (G1 8) 34 [.own 140 (i9 0), .own 142 (i9 1), .own 144 (i9 2)])), (23, some (.box (G2 8) 34 [.r (.sl (y4.Adds.map (rSl GElem.row))), .r (.sl (y4.Cuts.map rBool)), .own 152 (i9 5)])), (140, some (.arr (i9 0) 39 1 (x7.Adds.map (rSl GElem.row)))), (142, some (.arr (i9 1) 4 1 (x7.Cuts.map rBool))), (144, some (.arr (i9 2) 47 1 (x7.Attrs.map (rSl GAttr.row)))), (152, some (.arr (i9 5) 47 1 (y4.Attrs.map (rSl GAttr.row))))]) 150 rfl ⟨.inl (.inl rfl), .inl (.inl rfl), .inl (.inl rfl), .inl (.inl rfl), .inl (.inl rfl), .inl (.inl rfl), .inl (.inl rfl), .inl (.inl rfl), .inl (.inl rfl), .inl (.inl rfl), .inl (.inl rfl), .inl (.inl rfl), .inl (.inl rfl), .inl (.inl rfl), .inl (.inl rfl), .inl (.inl rfl), .inl (.inl rfl), .inl (.inl rfl), .inl (.inl rfl), .inl (.inl rfl), .inr ⟨_, _, rfl, rfl, ⟨.inl rfl, .inr (.inr ⟨rfl, rfl⟩), .inl rfl, trivial⟩⟩, trivial⟩ ⟨rfl, .inl rfl, rfl, .inr (.inr ⟨_, _, _, _, rfl, rfl, ⟨.inl rfl, .inr (.inr ⟨rfl, rfl⟩), .inl rfl, trivial⟩⟩), rfl, .inl rfl, rfl, .inl rfl, rfl, .inl rfl, rfl, .inl rfl, trivial⟩) ?_
                      refine AOps.weak (by exact Weak.frz (e' := [(13, .r (.sl (r2.map GStep.row))), (14, .r (.int .i64 r3)), (15, .r (.sl (r4.map GStep.row))), (16, .r (.int .i64 r5)), (20, .r (.int .i64 p2)), (21, .r (.int .i64 q1)), (22, .ptr 22 (G1 8) 0 0), (23, .ptr 23 (G2 8) 0 0), (174, .r (.int .i64 p2)), (175, .r (.bool (!decide (p2 = 0)))), (176, .r (.bool (!decide (p2 = 0)))), (185, .r (.bool ((!decide (p2 = 0)) || false))), (186, .r (.bool ((!decide (p2 = 0)) || false))), (187, .r (.int .i64 q1)), (188, .r (.bool (!decide (q1 = 0)))), (189, .r (.bool (!decide (q1 = 0)))), (190, .r (.int .i64 r5)), (191, .r (.bool (decide (r5 = 0)))), (192, .r (.bool (decide (r5 = 0)))), (193, .r (.sl (r4.map GStep.row))), (194, .agg [.r (.sl (y4.Adds.map (rSl GElem.row))), .r (.sl (y4.Cuts.map rBool)), .r (.sl (y4.Attrs.map (rSl GAttr.row)))])]) (h' := [(22, some (.box (G1 8) 34 [.own 140 (i9 0), .own 142 (i9 1), .own 144 (i9 2)])), (23, some (.box (G2 8) 34 [.r (.sl (y4.Adds.map (rSl GElem.row))), .r (.sl (y4.Cuts.map rBool)), .r (.sl (y4.Attrs.map (rSl GAttr.row)))])), (140, some (.arr (i9 0) 39 1 (x7.Adds.map (rSl GElem.row)))), (142, some (.arr (i9 1) 4 1 (x7.Cuts.map rBool))), (144, some (.arr (i9 2) 47 1 (x7.Attrs.map (rSl GAttr.row))))]) 152 rfl ⟨.inl (.inl rfl), .inl (.inl rfl), .inl (.inl rfl), .inl (.inl rfl), .inl (.inl rfl), .inl (.inl rfl), .inl (.inl rfl), .inl (.inl rfl), .inl (.inl rfl), .inl (.inl rfl), .inl (.inl rfl), .inl (.inl rfl), .inl (.inl rfl), .inl (.inl rfl), .inl (.inl rfl), .inl (.inl rfl), .inl (.inl rfl), .inl (.inl rfl), .inl (.inl rfl), .inl (.inl rfl), .inr ⟨_, _, rfl, rfl, ⟨.inl rfl, .inl rfl, .inr (.inr ⟨rfl, rfl⟩), trivial⟩⟩, trivial⟩ ⟨rfl, .inl rfl, rfl, .inr (.inr ⟨_, _, _, _, rfl, rfl, ⟨.inl rfl, .inl rfl, .inr (.inr ⟨rfl, rfl⟩), trivial⟩⟩), rfl, .inl rfl, rfl, .inl rfl, rfl, .inl rfl, trivial⟩) ?_
                      refine ob1k h38 fun r15 er15 h39 => ?_
                      refine AOps.stepGT (.one rfl rfl rfl) hg11 rfl rfl (sp_callS (r := .r (.sl (r15.map GStep.row))) (caps := []) (bs := [.agg [.r (.sl (y4.Adds.map (rSl GElem.row))), .r (.sl (y4.Cuts.map rBool)), .r (.sl (y4.Attrs.map (rSl GAttr.row)))]]) rfl (.inl rfl) rfl ⟨.inl ⟨(.inl rfl), rfl⟩, trivial⟩ (fun _ => w_ref_DeltaOf (er15))) ?_
                      refine ob1k h39 fun r16 er16 h40 => ?_
                      refine AOps.stepGT (.one rfl rfl rfl) hg11 rfl rfl (sp_call (r := .r (.bool r16)) (caps := []) (bs := [.r (.sl (r4.map GStep.row)), .r (.sl (r15.map GStep.row))]) rfl (.inl rfl) rfl ⟨⟨_, (.inl rfl), .d rfl⟩, ⟨_, (.inl rfl), .d rfl⟩, trivial⟩ (fun _ => w_ref_SameDelta (er16)) rfl) ?_
                      refine AOps.stepGT (.one rfl rfl rfl) hg10 rfl rfl (OpQ.spec (sp_and rfl (.inl rfl) (.inl rfl)) _) ?_
                      refine AOps.stepGT (.one rfl rfl rfl) hg9 rfl rfl (OpQ.spec (sp_or rfl (.inl rfl) (.inl rfl)) _) ?_
                      refine AOps.step rfl rfl rfl (OpQ.spec (sp_and rfl (.inl rfl) (.inl rfl)) _) ?_
                      refine AOps.step rfl rfl rfl (OpQ.spec (sp_assign rfl (.inl rfl)) _) ?_
                      refine AOps.nil ?_
                      exact wK26 _ _ ((by exact Weak.cv ⟨.inl (.inl rfl), trivial⟩ trivial (Nat.le_refl _))) (J3 _ (vec [(i9 6)]) (Option.some.inj h40).symm)
                    · have h38 := ite_f hg11 h37
                      refine AOps.stepGF2 (.one rfl rfl rfl) hg11 rfl rfl ?_
                      refine AOps.stepGF2 (.one rfl rfl rfl) hg11 rfl rfl ?_
                      refine AOps.stepGT (.one rfl rfl rfl) hg10 rfl rfl (OpQ.spec (sp_and rfl (.inl rfl) (.inr ⟨_, (by exact id), rfl⟩)) _) ?_
                      refine AOps.stepGT (.one rfl rfl rfl) hg9 rfl rfl (OpQ.spec (sp_or rfl (.inl rfl) (.inl rfl)) _) ?_
                      refine AOps.step rfl rfl rfl (OpQ.spec (sp_and rfl (.inl rfl) (.inl rfl)) _) ?_
                      refine AOps.step rfl rfl rfl (OpQ.spec (sp_assign rfl (.inl rfl)) _) ?_
                      refine AOps.nil ?_
                      exact wK26 _ _ ((by exact Weak.cv ⟨.inl (.inl rfl), trivial⟩ trivial (Nat.le_refl _))) (J3 _ (vec [(i9 6)]) (Option.some.inj h38).symm)
                  · have h37 := ite_f hg10 h36
                    refine AOps.stepGF2 (.two rfl rfl rfl) (andF hg10) rfl rfl ?_
                    refine AOps.stepGF2 (.two rfl rfl rfl) (andF hg10) rfl rfl ?_
                    refine AOps.stepGF2 (.one rfl rfl rfl) hg10 rfl rfl ?_
                    refine AOps.stepGT (.one rfl rfl rfl) hg9 rfl rfl (OpQ.spec (sp_or rfl (.inl rfl) (.inr ⟨_, (by exact id), rfl⟩)) _) ?_
                    refine AOps.step rfl rfl rfl (OpQ.spec (sp_and rfl (.inl rfl) (.inl rfl)) _) ?_
                    refine AOps.step rfl rfl rfl (OpQ.spec (sp_assign rfl (.inl rfl)) _) ?_
                    refine AOps.nil ?_
                    exact wK26 _ _ ((by exact Weak.cv ⟨.inl (.inl rfl), trivial⟩ trivial (Nat.le_refl _))) (J3 _ (vec [(i9 6)]) (Option.some.inj h37).symm)
                · have h36 := ite_f hg9 h22
                  refine AOps.stepGF2 (.two rfl rfl rfl) (andF (andF hg9)) rfl rfl ?_
                  refine AOps.stepGF2 (.two rfl rfl rfl) (andF (andF hg9)) rfl rfl ?_
                  refine AOps.stepGF2 (.two rfl rfl rfl) (andF hg9) rfl rfl ?_
                  refine AOps.stepGF2 (.one rfl rfl rfl) hg9 rfl rfl ?_
                  refine AOps.step rfl rfl rfl (OpQ.spec (sp_and rfl (.inl rfl) (.inr ⟨_, (by exact id), rfl⟩)) _) ?_
                  refine AOps.step rfl rfl rfl (OpQ.spec (sp_assign rfl (.inl rfl)) _) ?_
                  refine AOps.nil ?_
                  exact wK26 _ _ ((by exact Weak.cv ⟨.inl (.inl rfl), trivial⟩ trivial (Nat.le_refl _))) (J3 _ (vec [(i9 6)]) (Option.some.inj h36).symm)
            refine AW.iter3 (fun (i5 : Int) (x5 : Ref_Act) (y2 : Ref_Act) i6 => ⟨[(2, .r (.int .i64 to1)), (4, .r (.sl (change1.map GAttr.row))), (13, .r (.sl (r2.map GStep.row))), (14, .r (.int .i64 r3)), (15, .r (.sl (r4.map GStep.row))), (16, .r (.int .i64 r5)), (20, .r (.int .i64 p2)), (21, .r (.int .i64 q1)), (22, .ptr 22 (G1 8) 0 0), (23, .ptr 23 (G2 8) 0 0), (24, .r (.int .i64 i5))], [(22, some (.box (G1 8) 34 [.own 140 (i6 0), .own 142 (i6 1), .own 144 (i6 2)])), (23, some (.box (G2 8) 34 [.own 148 (i6 3), .own 150 (i6 4), .own 152 (i6 5)])), (140, some (.arr (i6 0) 39 1 (x5.Adds.map (rSl GElem.row)))), (142, some (.arr (i6 1) 4 1 (x5.Cuts.map rBool))), (144, some (.arr (i6 2) 47 1 (x5.Attrs.map (rSl GAttr.row)))), (148, some (.arr (i6 3) 39 1 (y2.Adds.map (rSl GElem.row)))), (150, some (.arr (i6 4) 4 1 (y2.Cuts.map rBool))), (152, some (.arr (i6 5) 47 1 (y2.Attrs.map (rSl GAttr.row))))], (i6 6), 200⟩) (vec [(G1 2), (G1 4), (G1 6), (G2 2), (G2 4), (G2 6), n3]) hit1 ((by exact Weak.cv ⟨.inl (.inl rfl), .inl (.inl rfl), .inl (.inl rfl), .inl (.inl rfl), .inl (.inl rfl), .inl (.inl rfl), .inl (.inl rfl), .inl (.inl rfl), .inl (.inl rfl), .inl (.inl rfl), .inl (.inl rfl), trivial⟩ ⟨.inl rfl, .inl rfl, .inl rfl, .inl rfl, .inl rfl, .inl rfl, .inl rfl, .inl rfl, trivial⟩ (Nat.le_refl _))) ?_
            intro i5 x5 y2 i6 v1 hv1 hx1
            have h41 : law_DeltaMakersMatch_L1 to1 change1 i5 x5 y2 = some v1 := hv1; unfold law_DeltaMakersMatch_L1 at h41
            refine AW.seq_w fun K27 hK27 wK27 => ?_
            refine AW.seq_w fun K28 hK28 wK28 => ?_
            refine AW.region ?_
            refine AOps.step rfl rfl rfl (OpQ.spec (sp_move rfl (.inl rfl)) _) ?_
            refine AOps.step rfl rfl rfl (OpQ.spec (sp_move rfl (.inl rfl)) _) ?_
            refine AOps.step rfl rfl rfl (OpQ.spec (sp_lss rfl (.inl rfl) (.inl rfl)) _) ?_
            refine AOps.nil ?_
            refine hK28 _ ?_
            refine AW.cond rfl (fun hc5 => ?_) (fun hc5 => ?_)
            · have h42 := ite_t hc5 h41
              refine AW.skip ?_
              refine hK27 _ ?_
              refine AW.seq_w fun K29 hK29 wK29 => ?_
              refine AW.block ?_
              refine ob1k h42 fun x9 ex9 h43 => ?_
              refine AW.regionP 9 [⟨some 165, (fun _ => .ptr 22 (G1 8) 0 1), none, []⟩, ⟨some 166, (fun _ => .own 142 (i6 1)), none, []⟩, ⟨some 167, (fun _ => .r (.int .i64 i5)), none, []⟩, ⟨some 168, (fun _ => .ptr 23 (G2 8) 0 2), none, []⟩, ⟨some 169, (fun _ => .own 152 (i6 5)), none, []⟩, ⟨some 170, (fun _ => .r (.int .i64 i5)), none, []⟩, ⟨some 171, (fun _ => .r (.sl (change1.map GAttr.row))), none, []⟩, ⟨some 172, (fun _ => .ptr 142 (i6 1) i5.toNat 0), none, []⟩, ⟨none, (fun _ => .any), some (142, (fun _ => some (.arr (i6 1) 4 1 ((x5.Cuts.set i5.toNat true).map rBool)))), []⟩] hmix (by kernel_rfl) (by exact ⟨fun _ _ h => ⟨rfl, fun _ _ e => by cases e⟩, fun _ _ h => ⟨rfl, fun _ _ e => by cases e⟩, fun _ _ h => ⟨rfl, fun _ _ e => by cases e⟩, fun _ _ h => ⟨rfl, fun _ _ e => by cases e⟩, fun _ _ h => ⟨rfl, fun _ _ e => by cases e⟩, fun _ _ h => ⟨rfl, fun _ _ e => by cases e⟩, fun _ _ h => ⟨rfl, fun _ _ e => by cases e⟩, fun _ _ h => ⟨rfl, fun _ _ e => by cases e⟩, fun _ _ h => ⟨rfl, fun _ _ e => by cases e; rfl⟩, trivial⟩) rfl (by exact ⟨Ob.quiet (n1 := fun n => n) rfl rfl (by intro d h; cases h; rfl) rfl (fun _ => [(22, .ptr 22 (G1 8) 0 0)]) (fun _ => [(22, some (.box (G1 8) 34 [.own 140 (i6 0), .own 142 (i6 1), .own 144 (i6 2)]))]) (fun D G3 hr => ⟨inE_base rfl rfl, trivial⟩) (fun D G3 hr => ⟨inH_base rfl rfl, trivial⟩) (fun _ _ => rfl) (fun G3 e h' n => OpQ.spec (v := .ptr 22 (G1 8) 0 1) (sp_fieldAddr_own (ob := .box _ _ _) rfl tf_34_1 (.inl rfl) (fun _ => rfl) rfl) _),
                  Ob.quiet (n1 := fun n => n) rfl rfl (by intro d h; cases h; rfl) rfl (fun _ => [(165, .ptr 22 (G1 8) 0 1)]) (fun _ => [(22, some (.box (G1 8) 34 [.own 140 (i6 0), .own 142 (i6 1), .own 144 (i6 2)]))]) (fun D G3 hr => ⟨inE_op hr 0 rfl rfl (by kernel_rfl) rfl rfl, trivial⟩) (fun D G3 hr => ⟨inH_base rfl rfl, trivial⟩) (fun _ _ => rfl) (fun G3 e h' n => OpQ.spec (v := .own 142 (i6 1)) (ms_load_box (a := .own 142 (i6 1)) rfl ts_31 (.inl rfl) rfl rfl) _),
                  Ob.quiet (n1 := fun n => n) rfl rfl (by intro d h; cases h; rfl) rfl (fun _ => [(24, .r (.int .i64 i5))]) (fun _ => []) (fun D G3 hr => ⟨inE_base rfl rfl, trivial⟩) (fun D G3 hr => trivial) (fun _ _ => rfl) (fun G3 e h' n => OpQ.spec (v := .r (.int .i64 i5)) (sp_move rfl (.inl rfl)) _),
                  Ob.quiet (n1 := fun n => n) rfl rfl (by intro d h; cases h; rfl) rfl (fun _ => [(23, .ptr 23 (G2 8) 0 0)]) (fun _ => [(23, some (.box (G2 8) 34 [.own 148 (i6 3), .own 150 (i6 4), .own 152 (i6 5)]))]) (fun D G3 hr => ⟨inE_base rfl rfl, trivial⟩) (fun D G3 hr => ⟨inH_base rfl rfl, trivial⟩) (fun _ _ => rfl) (fun G3 e h' n => OpQ.spec (v := .ptr 23 (G2 8) 0 2) (sp_fieldAddr_own (ob := .box _ _ _) rfl tf_34_2 (.inl rfl) (fun _ => rfl) rfl) _),
                  Ob.quiet (n1 := fun n => n) rfl rfl (by intro d h; cases h; rfl) rfl (fun _ => [(168, .ptr 23 (G2 8) 0 2)]) (fun _ => [(23, some (.box (G2 8) 34 [.own 148 (i6 3), .own 150 (i6 4), .own 152 (i6 5)]))]) (fun D G3 hr => ⟨inE_op hr 3 rfl rfl (by kernel_rfl) rfl rfl, trivial⟩) (fun D G3 hr => ⟨inH_base rfl rfl, trivial⟩) (fun _ _ => rfl) (fun G3 e h' n => OpQ.spec (v := .own 152 (i6 5)) (ms_load_box (a := .own 152 (i6 5)) rfl ts_32 (.inl rfl) rfl rfl) _),
                  Ob.quiet (n1 := fun n => n) rfl rfl (by intro d h; cases h; rfl) rfl (fun _ => [(24, .r (.int .i64 i5))]) (fun _ => []) (fun D G3 hr => ⟨inE_base rfl rfl, trivial⟩) (fun D G3 hr => trivial) (fun _ _ => rfl) (fun G3 e h' n => OpQ.spec (v := .r (.int .i64 i5)) (sp_move rfl (.inl rfl)) _),
                  Ob.quiet (n1 := fun n => n) rfl rfl (by intro d h; cases h; rfl) rfl (fun _ => [(4, .r (.sl (change1.map GAttr.row)))]) (fun _ => []) (fun D G3 hr => ⟨inE_base rfl rfl, trivial⟩) (fun D G3 hr => trivial) (fun _ _ => rfl) (fun G3 e h' n => OpQ.spec (v := .r (.sl (change1.map GAttr.row))) (sp_move rfl (.inl rfl)) _),
                  Ob.quiet (n1 := fun n => n) rfl rfl (by intro d h; cases h; rfl) rfl (fun _ => [(166, .own 142 (i6 1)), (167, .r (.int .i64 i5))]) (fun _ => [(142, some (.arr (i6 1) 4 1 (x5.Cuts.map rBool)))]) (fun D G3 hr => ⟨inE_op hr 1 rfl rfl (by kernel_rfl) rfl rfl, inE_op hr 2 rfl rfl (by kernel_rfl) rfl rfl, trivial⟩) (fun D G3 hr => ⟨inH_baseL hr (by kernel_rfl) rfl, trivial⟩) (fun _ _ => rfl) (fun G3 e h' n => OpQ.spec (v := .ptr 142 (i6 1) i5.toNat 0) (ms_idx_own rfl tg_31.slice (.inl rfl) rfl (.inl rfl) (fun _ => ex9)) _),
                  Ob.make (n1 := fun n => n) rfl rfl (by intro d h; cases h) rfl (fun _ => [(172, .ptr 142 (i6 1) i5.toNat 0)]) (fun _ => [(142, some (.arr (i6 1) 4 1 (x5.Cuts.map rBool)))]) (fun D G3 hr => ⟨inE_op hr 7 rfl rfl (by kernel_rfl) rfl rfl, trivial⟩) (fun D G3 hr => ⟨inH_baseL hr (by kernel_rfl) rfl, trivial⟩) (fun G3 e h' n => ms_store (v := true) rfl tz_4 (.inl rfl) rfl ex9 (.inl rfl) rfl rfl rfl rfl),
                  trivial⟩) fun G3 n4 => ?_
              refine AOps.weak (s' := ⟨[(2, .r (.int .i64 to1)), (4, .r (.sl (change1.map GAttr.row))), (13, .r (.sl (r2.map GStep.row))), (14, .r (.int .i64 r3)), (15, .r (.sl (r4.map GStep.row))), (16, .r (.int .i64 r5)), (20, .r (.int .i64 p2)), (21, .r (.int .i64 q1)), (22, .ptr 22 (G1 8) 0 0), (23, .ptr 23 (G2 8) 0 0), (24, .r (.int .i64 i5)), (160, .r (.int .i64 i5)), (161, .r (.int .i64 to1)), (162, .r (.bool (decide (i5 < to1)))), (165, .ptr 22 (G1 8) 0 1), (166, .own 142 (i6 1)), (167, .r (.int .i64 i5)), (168, .ptr 23 (G2 8) 0 2), (169, .own 152 (i6 5)), (170, .r (.int .i64 i5)), (171, .r (.sl (change1.map GAttr.row))), (172, .ptr 142 (i6 1) i5.toNat 0)], [(22, some (.box (G1 8) 34 [.own 140 (i6 0), .own 142 (i6 1), .own 144 (i6 2)])), (23, some (.box (G2 8) 34 [.own 148 (i6 3), .own 150 (i6 4), .own 152 (i6 5)])), (140, some (.arr (i6 0) 39 1 (x5.Adds.map (rSl GElem.row)))), (142, some (.arr (i6 1) 4 1 ((x5.Cuts.set i5.toNat true).map rBool))), (144, some (.arr (i6 2) 47 1 (x5.Attrs.map (rSl GAttr.row)))), (148, some (.arr (i6 3) 39 1 (y2.Adds.map (rSl GElem.row)))), (150, some (.arr (i6 4) 4 1 (y2.Cuts.map rBool))), (152, some (.arr (i6 5) 47 1 (y2.Attrs.map (rSl GAttr.row))))], n4, 200⟩) (by exact Weak.cv ⟨.inl (.inl rfl), .inl (.inl rfl), .inl (.inl rfl), .inl (.inl rfl), .inl (.inl rfl), .inl (.inl rfl), .inl (.inl rfl), .inl (.inl rfl), .inl (.inl rfl), .inl (.inl rfl), .inl (.inl rfl), .inl (.inl rfl), .inl (.inl rfl), .inl (.inl rfl), .inl (.inl rfl), .inl (.inl rfl), .inl (.inl rfl), .inl (.inl rfl), .inl (.inl rfl), .inl (.inl rfl), .inl (.inl rfl), .inl (.inl rfl), trivial⟩ ⟨.inl rfl, .inl rfl, .inl rfl, .inl rfl, .inl rfl, .inl rfl, .inl rfl, .inl rfl, trivial⟩ (Nat.le_refl _)) ?_
              refine ob1k h43 fun x10 ex10 h44 => ?_
              refine AOps.step rfl rfl rfl (OpQ.spec (ms_idx_own rfl tg_32.slice (.inl rfl) rfl (.inl rfl) (fun _ => ex10)) _) ?_
              refine AOps.step0 rfl rfl (ms_store (v := change1) rfl tz_47 (.inl rfl) rfl ex10 (.inl rfl) rfl rfl rfl rfl) ?_
              refine AOps.nil ?_
              refine hK29 _ ?_
              refine AW.weak (s' := ⟨[(2, .r (.int .i64 to1)), (4, .r (.sl (change1.map GAttr.row))), (13, .r (.sl (r2.map GStep.row))), (14, .r (.int .i64 r3)), (15, .r (.sl (r4.map GStep.row))), (16, .r (.int .i64 r5)), (20, .r (.int .i64 p2)), (21, .r (.int .i64 q1)), (22, .ptr 22 (G1 8) 0 0), (23, .ptr 23 (G2 8) 0 0), (24, .r (.int .i64 i5))], [(22, some (.box (G1 8) 34 [.own 140 (i6 0), .own 142 (i6 1), .own 144 (i6 2)])), (23, some (.box (G2 8) 34 [.own 148 (i6 3), .own 150 (i6 4), .own 152 (i6 5)])), (140, some (.arr (i6 0) 39 1 (x5.Adds.map (rSl GElem.row)))), (142, some (.arr (i6 1) 4 1 ((x5.Cuts.set i5.toNat true).map rBool))), (144, some (.arr (i6 2) 47 1 (x5.Attrs.map (rSl GAttr.row)))), (148, some (.arr (i6 3) 39 1 (y2.Adds.map (rSl GElem.row)))), (150, some (.arr (i6 4) 4 1 (y2.Cuts.map rBool))), (152, some (.arr (i6 5) 47 1 ((y2.Attrs.set i5.toNat change1).map (rSl GAttr.row))))], n4, 200⟩) (by exact Weak.cv ⟨.inl (.inl rfl), .inl (.inl rfl), .inl (.inl rfl), .inl (.inl rfl), .inl (.inl rfl), .inl (.inl rfl), .inl (.inl rfl), .inl (.inl rfl), .inl (.inl rfl), .inl (.inl rfl), .inl (.inl rfl), trivial⟩ ⟨.inl rfl, .inl rfl, .inl rfl, .inl rfl, .inl rfl, .inl rfl, .inl rfl, .inl rfl, trivial⟩ (Nat.le_refl _)) ?_
              refine AW.region ?_
              refine AOps.step rfl rfl rfl (OpQ.spec (sp_move rfl (.inl rfl)) _) ?_
              refine ob1k h44 fun i11 ei11 h45 => ?_
              refine AOps.step rfl rfl rfl (OpQ.spec (ms_add rfl (.inl rfl) (.inl rfl) (fun _ => ei11)) _) ?_
              refine AOps.step rfl rfl rfl (OpQ.spec (sp_assign rfl (.inl rfl)) _) ?_
              refine AOps.nil ?_
              exact NextQ3.mk h45 (vec [(i6 0), (i6 1), (i6 2), (i6 3), (i6 4), (i6 5), n4]) ((by exact Weak.cv ⟨.inl (.inl rfl), .inl (.inl rfl), .inl (.inl rfl), .inl (.inl rfl), .inl (.inl rfl), .inl (.inl rfl), .inl (.inl rfl), .inl (.inl rfl), .inl (.inl rfl), .inl (.inl rfl), .inl (.inl rfl), trivial⟩ ⟨.inl rfl, .inl rfl, .inl rfl, .inl rfl, .inl rfl, .inl rfl, .inl rfl, .inl rfl, trivial⟩ (Nat.le_refl _)))
            · have h42 := ite_f hc5 h41
              refine AW.exit ?_
              exact wK24 _ _ ((by exact Weak.cv ⟨.inl (.inl rfl), .inl (.inl rfl), .inl (.inl rfl), .inl (.inl rfl), .inl (.inl rfl), .inl (.inl rfl), .inl (.inl rfl), .inl (.inl rfl), trivial⟩ ⟨.inl rfl, .inl rfl, .inl rfl, .inl rfl, .inl rfl, .inl rfl, .inl rfl, .inl rfl, trivial⟩ (Nat.le_refl _))) (J2 _ _ (vec [(i6 0), (i6 1), (i6 2), (i6 3), (i6 4), (i6 5), (i6 6)]) (hx1 _ (Option.some.inj h42).symm))
    refine AW.cond rfl (fun hc6 => ?_) (fun hc6 => ?_)
    · have h46 := ite_t hc6 hp1
      refine AW.seq_w fun K30 hK30 wK30 => ?_
      refine AW.region ?_
      refine AOps.step rfl rfl rfl (OpQ.spec (sp_move rfl (.inl rfl)) _) ?_
      refine AOps.step rfl rfl rfl (OpQ.spec (sp_move rfl (.inl rfl)) _) ?_
      refine AOps.step rfl rfl rfl (OpQ.spec (sp_neq rfl (.inl rfl) (.inl rfl)) _) ?_
      refine AOps.step rfl rfl rfl (OpQ.spec (sp_move rfl (.inl rfl)) _) ?_
      refine AOps.stepW (.one rfl rfl rfl) rfl rfl (OpQ.spec (sp_move rfl (.inl rfl)) _) ?_
      refine AOps.stepW (.one rfl rfl rfl) rfl rfl (OpQ.spec (ms_len rfl tg_22.slice (.inr ⟨_, (by exact id), rfl⟩)) _) ?_
      refine AOps.stepW (.one rfl rfl rfl) rfl rfl (OpQ.spec (sp_neq rfl (.inr ⟨_, (by exact id), rfl⟩) (.inl rfl)) _) ?_
      refine AOps.step rfl rfl rfl (OpQ.spec (sp_or rfl (.inl rfl) (.inr ⟨_, (by exact id), rfl⟩)) _) ?_
      refine AOps.nil ?_
      refine hK30 _ ?_
      refine AW.cond rfl (fun hc7 => ?_) (fun hc7 => ?_)
      · have h47 := ite_t hc7 h46
        refine AW.seq_w fun K31 hK31 wK31 => ?_
        refine AW.weak (s' := ⟨[], [], n0, 200⟩) (by exact Weak.cv trivial trivial (Nat.le_refl _)) ?_
        refine AW.region ?_
        refine AOps.step rfl rfl rfl (OpQ.spec (sp_assign rfl (.inl rfl)) _) ?_
        refine AOps.nil ?_
        refine hK31 _ ?_
        refine AW.ret ?_
        exact retf1 (P := Try.prog) (fun (r : Bool) => .r (.bool r)) (he1 _ (Option.some.inj h47).symm) (.inl rfl) (.t (.d rfl))
      · have h47 := ite_f hc7 h46
        refine AW.skip ?_
        exact wK8 _ _ ((by exact Weak.cv ⟨.inl (.inl rfl), .inl (.inl rfl), .inl (.inl rfl), .inl (.inl rfl), .inl (.inl rfl), .inl (.inl rfl), .inl (.inl rfl), .inl (.inl rfl), .inl (.inl rfl), trivial⟩ trivial (Nat.le_refl _))) (J1 _ (vec [n0]) (Option.some.inj h47).symm)
    · have h46 := ite_f hc6 hp1
      refine AW.seq_w fun K32 hK32 wK32 => ?_
      refine AW.region ?_
      refine AOps.step rfl rfl rfl (OpQ.spec (sp_move rfl (.inl rfl)) _) ?_
      refine ob1k h46 fun r17 er17 h48 => ?_
      refine AOps.step rfl rfl rfl (sp_call (r := .r (.bool r17)) (caps := []) (bs := [.r (.sl (d1.map GStep.row))]) rfl (.inl rfl) rfl ⟨⟨_, (.inl rfl), .d rfl⟩, trivial⟩ (fun _ => w_law_short (er17)) rfl) ?_
      refine AOps.step rfl rfl rfl (OpQ.spec (sp_move rfl (.inl rfl)) _) ?_
      refine AOps.stepW (.one rfl rfl rfl) rfl rfl (OpQ.spec (sp_move rfl (.inl rfl)) _) ?_
      refine AOps.stepW (.one rfl rfl rfl) rfl rfl (OpQ.spec (sp_neq rfl (.inr ⟨_, (by exact id), rfl⟩) (.inl rfl)) _) ?_
      refine AOps.stepW (.one rfl rfl rfl) rfl rfl (OpQ.spec (sp_move rfl (.inr ⟨_, (by exact id), rfl⟩)) _) ?_
      refine AOps.stepW (.two rfl rfl rfl) rfl rfl (OpQ.spec (sp_move rfl (.inl rfl)) _) ?_
      refine AOps.stepW (.two rfl rfl rfl) rfl rfl (OpQ.spec (sp_move rfl (.inl rfl)) _) ?_
      refine jb1k h48 fun p4 hp3 hk4 => ?_
      have J4 : ∀ (x11 : Bool) (i12 : Nat → Nat), p4 = x11 → K32 ⟨[(0, .r (.int .i64 n1)), (1, .r (.int .i64 from1)), (2, .r (.int .i64 to1)), (3, .r (.sl (elems1.map GElem.row))), (4, .r (.sl (change1.map GAttr.row))), (13, .r (.sl (r2.map GStep.row))), (14, .r (.int .i64 r3)), (15, .r (.sl (r4.map GStep.row))), (16, .r (.int .i64 r5)), (74, .r (.bool x11))], [], (i12 0), 200⟩ := by
        intro x11 i12 e
        have h49 := hk4 _ e
        refine hK32 _ ?_
        refine AW.cond rfl (fun hc8 => ?_) (fun hc8 => ?_)
        · have h50 := ite_t hc8 h49
          refine AW.seq_w fun K33 hK33 wK33 => ?_
          refine AW.weak (s' := ⟨[], [], (i12 0), 200⟩) (by exact Weak.cv trivial trivial (Nat.le_refl _)) ?_
          refine AW.region ?_
          refine AOps.step rfl rfl rfl (OpQ.spec (sp_assign rfl (.inl rfl)) _) ?_
          refine AOps.nil ?_
          refine hK33 _ ?_
          refine AW.ret ?_
          exact retf1 (P := Try.prog) (fun (r : Bool) => .r (.bool r)) (he1 _ (Option.some.inj h50).symm) (.inl rfl) (.t (.d rfl))
        · have h50 := ite_f hc8 h49
          refine AW.skip ?_
          exact wK8 _ _ ((by exact Weak.cv ⟨.inl (.inl rfl), .inl (.inl rfl), .inl (.inl rfl), .inl (.inl rfl), .inl (.inl rfl), .inl (.inl rfl), .inl (.inl rfl), .inl (.inl rfl), .inl (.inl rfl), trivial⟩ trivial (Nat.le_refl _))) (J1 _ (vec [(i12 0)]) (Option.some.inj h50).symm)
      refine AOps.split (r17 == true) (fun hg12 => ?_) (fun hg12 => ?_)
      · have h51 := ite_t hg12 hp3
        refine AOps.weak (by exact Weak.unw2 (e' := [(0, .r (.int .i64 n1)), (1, .r (.int .i64 from1)), (2, .r (.int .i64 to1)), (3, .r (.sl (elems1.map GElem.row))), (4, .r (.sl (change1.map GAttr.row))), (5, .r (.sl (d1.map GStep.row))), (13, .r (.sl (r2.map GStep.row))), (14, .r (.int .i64 r3)), (15, .r (.sl (r4.map GStep.row))), (16, .r (.int .i64 r5)), (17, .r (.sl (r6.map GAxisStep.row))), (18, .r (.int .i64 r7)), (19, .r (.int .i64 f1)), (48, .r (.sl (d1.map GStep.row))), (49, .r (.int .i64 f1)), (50, .r (.int .i64 f1)), (51, .r (.bool (!decide (f1 = 0)))), (60, .r (.sl (d1.map GStep.row))), (61, .r (.bool r17)), (62, .r (.bool r17)), (63, .r (.int .i64 r7)), (64, .r (.bool (!decide (r7 = 0)))), (65, .r (.bool (!decide (r7 = 0)))), (66, .whn ((!decide (r7 = 0)) == false) (.r (.sl (r6.map GAxisStep.row)))), (67, .whn ((!decide (r7 = 0)) == false) (.r (.sl (d1.map GStep.row))))]) hg12 ⟨.inl rfl, .inl rfl, .inl rfl, .inl rfl, .inl rfl, .inl rfl, .inl rfl, .inl rfl, .inl rfl, .inl rfl, .inl rfl, .inl rfl, .inl rfl, .inl rfl, .inl rfl, .inl rfl, .inl rfl, .inl rfl, .inl rfl, .inl rfl, .inr (.inl rfl), .inr (.inl rfl), .inr (.inl rfl), .inr (.inr (.inl ⟨_, _, rfl, rfl⟩)), .inr (.inr (.inl ⟨_, _, rfl, rfl⟩)), trivial⟩) ?_
        refine AOps.split ((!decide (r7 = 0)) == false) (fun hg13 => ?_) (fun hg13 => ?_)
        · have h52 := ite_t hg13 h51
          refine AOps.weak (by exact Weak.unw2 (e' := [(0, .r (.int .i64 n1)), (1, .r (.int .i64 from1)), (2, .r (.int .i64 to1)), (3, .r (.sl (elems1.map GElem.row))), (4, .r (.sl (change1.map GAttr.row))), (5, .r (.sl (d1.map GStep.row))), (13, .r (.sl (r2.map GStep.row))), (14, .r (.int .i64 r3)), (15, .r (.sl (r4.map GStep.row))), (16, .r (.int .i64 r5)), (17, .r (.sl (r6.map GAxisStep.row))), (18, .r (.int .i64 r7)), (19, .r (.int .i64 f1)), (48, .r (.sl (d1.map GStep.row))), (49, .r (.int .i64 f1)), (50, .r (.int .i64 f1)), (51, .r (.bool (!decide (f1 = 0)))), (60, .r (.sl (d1.map GStep.row))), (61, .r (.bool r17)), (62, .r (.bool r17)), (63, .r (.int .i64 r7)), (64, .r (.bool (!decide (r7 = 0)))), (65, .r (.bool (!decide (r7 = 0)))), (66, .r (.sl (r6.map GAxisStep.row))), (67, .r (.sl (d1.map GStep.row)))]) hg13 ⟨.inl rfl, .inl rfl, .inl rfl, .inl rfl, .inl rfl, .inl rfl, .inl rfl, .inl rfl, .inl rfl, .inl rfl, .inl rfl, .inl rfl, .inl rfl, .inl rfl, .inl rfl, .inl rfl, .inl rfl, .inl rfl, .inl rfl, .inl rfl, .inl rfl, .inl rfl, .inl rfl, .inr (.inl rfl), .inr (.inl rfl), trivial⟩) ?_
          refine ob1k h52 fun r18 er18 h53 => ?_
          refine AOps.stepGT (.one rfl rfl rfl) hg13 rfl rfl (sp_callS (r := .agg [.r (.sl (r18.Adds.map (rSl GElem.row))), .r (.sl (r18.Cuts.map rBool)), .r (.sl (r18.Attrs.map (rSl GAttr.row)))]) (caps := []) (bs := [.r (.sl (d1.map GStep.row))]) rfl (.inl rfl) rfl ⟨.inl ⟨(.inl rfl), rfl⟩, trivial⟩ (fun _ => w_ref_ActOf (er18))) ?_
          refine ob1k h53 fun r19 er19 h54 => ?_
          refine AOps.stepGT (.one rfl rfl rfl) hg13 rfl rfl (sp_callS (r := .agg [.r (.sl (r19.Adds.map (rSl GElem.row))), .r (.sl (r19.Cuts.map rBool)), .r (.sl (r19.Attrs.map (rSl GAttr.row)))]) (caps := []) (bs := [.agg [.r (.sl (r18.Adds.map (rSl GElem.row))), .r (.sl (r18.Cuts.map rBool)), .r (.sl (r18.Attrs.map (rSl GAttr.row)))]]) rfl (.inl rfl) rfl ⟨.inl ⟨(.inl rfl), rfl⟩, trivial⟩ (fun _ => w_law_plain (er19))) ?_
          refine ob1k h54 fun r20 er20 h55 => ?_
          refine AOps.stepGT (.one rfl rfl rfl) hg13 rfl rfl (sp_callS (r := .r (.sl (r20.map GAxisStep.row))) (caps := []) (bs := [.agg [.r (.sl (r19.Adds.map (rSl GElem.row))), .r (.sl (r19.Cuts.map rBool)), .r (.sl (r19.Attrs.map (rSl GAttr.row)))]]) rfl (.inl rfl) rfl ⟨.inl ⟨(.inl rfl), rfl⟩, trivial⟩ (fun _ => w_law_steps (er20))) ?_
          refine ob1k h55 fun r21 er21 h56 => ?_
          refine AOps.stepGT (.one rfl rfl rfl) hg13 rfl rfl (sp_call (r := .r (.bool r21)) (caps := []) (bs := [.r (.sl (r6.map GAxisStep.row)), .r (.sl (r20.map GAxisStep.row))]) rfl (.inl rfl) rfl ⟨⟨_, (.inl rfl), .d rfl⟩, ⟨_, (.inl rfl), .d rfl⟩, trivial⟩ (fun _ => w_ref_SameSteps (er21)) rfl) ?_
          refine AOps.stepGT (.one rfl rfl rfl) hg13 rfl rfl (OpQ.spec (sp_not rfl (.inl rfl)) _) ?_
          refine AOps.stepGT (.one rfl rfl rfl) hg12 rfl rfl (OpQ.spec (sp_or rfl (.inl rfl) (.inl rfl)) _) ?_
          refine AOps.step rfl rfl rfl (OpQ.spec (sp_and rfl (.inl rfl) (.inl rfl)) _) ?_
          refine AOps.nil ?_
          exact wK32 _ _ ((by exact Weak.cv ⟨.inl (.inl rfl), .inl (.inl rfl), .inl (.inl rfl), .inl (.inl rfl), .inl (.inl rfl), .inl (.inl rfl), .inl (.inl rfl), .inl (.inl rfl), .inl (.inl rfl), .inl (.inl rfl), trivial⟩ trivial (Nat.le_refl _))) (J4 _ (vec [n0]) (Option.some.inj h56).symm)
        · have h52 := ite_f hg13 h51
          refine AOps.stepGF2 (.one rfl rfl rfl) hg13 rfl rfl ?_
          refine AOps.stepGF2 (.one rfl rfl rfl) hg13 rfl rfl ?_
          refine AOps.stepGF2 (.one rfl rfl rfl) hg13 rfl rfl ?_
          refine AOps.stepGF2 (.one rfl rfl rfl) hg13 rfl rfl ?_
          refine AOps.stepGF2 (.one rfl rfl rfl) hg13 rfl rfl ?_
          refine AOps.stepGT (.one rfl rfl rfl) hg12 rfl rfl (OpQ.spec (sp_or rfl (.inl rfl) (.inr ⟨_, (by exact id), rfl⟩)) _) ?_
          refine AOps.step rfl rfl rfl (OpQ.spec (sp_and rfl (.inl rfl) (.inl rfl)) _) ?_
          refine AOps.nil ?_
          exact wK32 _ _ ((by exact Weak.cv ⟨.inl (.inl rfl), .inl (.inl rfl), .inl (.inl rfl), .inl (.inl rfl), .inl (.inl rfl), .inl (.inl rfl), .inl (.inl rfl), .inl (.inl rfl), .inl (.inl rfl), .inl (.inl rfl), trivial⟩ trivial (Nat.le_refl _))) (J4 _ (vec [n0]) (Option.some.inj h52).symm)
      · have h51 := ite_f hg12 hp3
        refine AOps.stepGF2 (.two rfl rfl rfl) (andF hg12) rfl rfl ?_
        refine AOps.stepGF2 (.two rfl rfl rfl) (andF hg12) rfl rfl ?_
        refine AOps.stepGF2 (.two rfl rfl rfl) (andF hg12) rfl rfl ?_
        refine AOps.stepGF2 (.two rfl rfl rfl) (andF hg12) rfl rfl ?_
        refine AOps.stepGF2 (.two rfl rfl rfl) (andF hg12) rfl rfl ?_
        refine AOps.stepGF2 (.one rfl rfl rfl) hg12 rfl rfl ?_
        refine AOps.step rfl rfl rfl (OpQ.spec (sp_and rfl (.inl rfl) (.inr ⟨_, (by exact id), rfl⟩)) _) ?_
        refine AOps.nil ?_
        exact wK32 _ _ ((by exact Weak.cv ⟨.inl (.inl rfl), .inl (.inl rfl), .inl (.inl rfl), .inl (.inl rfl), .inl (.inl rfl), .inl (.inl rfl), .inl (.inl rfl), .inl (.inl rfl), .inl (.inl rfl), .inl (.inl rfl), trivial⟩ trivial (Nat.le_refl _))) (J4 _ (vec [n0]) (Option.some.inj h51).symm)
end Go.Proofs.Ytdeglnbioiicaaa.Al
