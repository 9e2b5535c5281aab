/- Walks, as printed. -/
import Derived.Test.YthoepnnckmfipaaGreatDoorWlkECx2
import Derived.Test.YthoepnnckmfipaaGreatDoorProg
set_option maxHeartbeats 4000000
set_option maxRecDepth 20000
set_option linter.unusedVariables false
namespace Go.Proofs.YthoepnnckmfipaaGreatDoor.Al
open Go.Proofs Go.Proofs.Tryz
theorem w_ref_CellsError {l1 : List GCell} {rows1 : Int} {cols1 : Int} {none1 : Bool} {r : Int} (h : ref_CellsError l1 rows1 cols1 none1 = some r) : ARO prog 97 [qc l1, rI (rows1), rI (cols1), rB (none1)] (rI (r)) := by
 unfold ref_CellsError at h
 refine ARO.mkF func97 rfl rfl ntmps97 rfl (Nat.le_of_ble_eq_true rfl) fun n0 => ?_
 refine aS fun K1 hK1 wK1 => (aR (sA rfl rfl (aZ (hK1 _ ?_))))
 refine aS fun K2 hK2 wK2 => (aS fun K3 hK3 wK3 => (aR (sM rfl rfl (sQ rfl (ms_len rfl tg_28.slice iL) (sM rfl rfl (aZ (hK3 _ ?_)))))))
 refine AW.block ?_
 refine jc1k h fun o1 hit1 hk1 he1 => ?_
 have J1 : ∀ (u2 : Unit) (i5 : Nat → Nat), o1 = .nrm u2 → K2 ⟨[], [], (i5 0), 93⟩ := by
  intro u2 i5 e
  have h1 := hk1 _ e
  refine hK2 _ ?_
  refine aS fun K4 hK4 wK4 => (aR (sA rfl rfl (aZ (hK4 _ ?_))))
  refine AW.ret ?_
  exact retf1 (P := prog) (fun (r : Int) => rI (r)) h1 iL (.t (.d rfl))
 refine AW.iter1 (fun (x2 : Int) i3 => ⟨[(0, qc l1), (1, rI (rows1)), (2, rI (cols1)), (3, rB (none1)), (13, rI ((l1.length : Int))), (14, rI (x2))], [], (i3 0), 93⟩) (vec [n0]) hit1 ((by exact Weak.cv ⟨jL, jL, jL, jL, jL, jL, trivial⟩ trivial nL)) ?_
 intro x2 i3 v1 hv1 hx1
 have h2 : ref_CellsError_L1 l1 rows1 cols1 none1 x2 = some v1 := hv1; unfold ref_CellsError_L1 at h2
 refine aS fun K5 hK5 wK5 => (aR (sQ rfl (sp_lss rfl iL iL) (aZ (hK5 _ ?_))))
 refine aS fun K6 hK6 wK6 => ?_
 refine aC rfl (fun hc1 => ?_) (fun hc1 => ?_)
 ·have h3 := ite_t hc1 h2
  refine AW.skip ?_
  refine hK6 _ ?_
  refine aS fun K7 hK7 wK7 => (AW.block (aS fun K8 hK8 wK8 => (aR (sM rfl rfl (sA rfl rfl (aZ (hK8 _ ?_)))))))
  refine aS fun K9 hK9 wK9 => (aR (sM rfl rfl (sM rfl rfl (ob1k h3 fun x4 ex4 h4 => (sQ rfl (ms_idx rfl tg_28.slice iL iL (fun _ => rfl) (fun _ => ex4)) (sQ rfl (ms_loadA (cs := [rI (x4.Row), rI (x4.Col), .r (.str x4.Text), rI (x4.Ref), qa x4.Attrs]) rfl ta_178 iL rfl rfl) (AOps.step rfl rfl rfl (ms_alloc (cs := [rI (0), rI (0), .r (.str []), rI (0), .cst (.slice none 0 0)]) 10 rfl t0_178 rfl rfl) (AOps.step0 rfl rfl (ms_store_box (ds := [rI (x4.Row), rI (x4.Col), .r (.str x4.Text), rI (x4.Ref), qa x4.Attrs]) rfl tz_178 iL rfl iL rfl rfl rfl rfl) (aZ (hK9 _ ?_))))))))))
  refine aS fun K10 hK10 wK10 => (aS fun K11 hK11 wK11 => (aR (sQ rfl (fB rfl tf_178_0 iL fR rfl) (sQ rfl (ms_load_box (a := rI (x4.Row)) rfl ts_3 iL rfl rfl) (sM rfl rfl (ob1k h4 fun x5 ex5 h5 => (sQ rfl (ms_sub rfl iL iL (fun _ => ex5)) (ob1k h5 fun r1 er1 h6 => (AOps.step rfl rfl rfl (sp_call (r := rB (r1)) (caps := []) (bs := [rI (x4.Row), rI (0), rI (x5)]) rfl iL rfl ⟨⟨_, iL, .d rfl⟩, ⟨_, iL, .d rfl⟩, ⟨_, iL, .d rfl⟩, trivial⟩ (fun _ => w_ref_In (er1)) rfl) (sQ rfl (sp_not rfl iL) (sM rfl rfl (sV rfl rfl rfl (fB rfl tf_178_1 iL fR rfl) (sV rfl rfl rfl (ms_load_box (a := rI (x4.Col)) rfl ts_3 (iR rfl) rfl rfl) (sV rfl rfl rfl (sp_move rfl iL) (ob1k h6 fun x6 ex6 h7 => (sV rfl rfl rfl (ms_sub rfl (iR rfl) iL (gdt ex6)) (ob1k h7 fun r2 er2 h8 => ?_)))))))))))))))))
  refine AOps.stepW (.one rfl rfl rfl) rfl rfl (sp_call (r := rB (r2)) (caps := []) (bs := [rI (x4.Col), rI (0), rI (x6)]) rfl iL rfl ⟨⟨_, (iR rfl), .d rfl⟩, ⟨_, iL, .d rfl⟩, ⟨_, (iR rfl), .d rfl⟩, trivial⟩ (fun hg => w_ref_In (gdt er2 hg)) rfl) ?_
  refine sV rfl rfl rfl (sp_not rfl (iR rfl)) (sQ rfl (sp_or rfl iL (iR rfl)) (sM rfl rfl (sV rfl rfl rfl (fB rfl tf_178_3 iL fR rfl) (sV rfl rfl rfl (ms_load_box (a := rI (x4.Ref)) rfl ts_3 (iR rfl) rfl rfl) (ob1k h8 fun r3 er3 h9 => ?_)))))
  refine AOps.stepW (.one rfl rfl rfl) rfl rfl (sp_call (r := rB (r3)) (caps := []) (bs := [rI (x4.Ref), rI (0), rI (1073741824)]) rfl iL rfl ⟨⟨_, (iR rfl), .d rfl⟩, ⟨_, iL, .d rfl⟩, ⟨_, iL, .d rfl⟩, trivial⟩ (fun hg => w_ref_In (gdt er3 hg)) rfl) ?_
  refine sV rfl rfl rfl (sp_not rfl (iR rfl)) (sQ rfl (sp_or rfl iL (iR rfl)) (aZ (hK11 _ ?_)))
  refine aC rfl (fun hc2 => ?_) (fun hc2 => ?_)
  ·have h10 := ite_t hc2 h9
   refine aS fun K12 hK12 wK12 => ?_
   refine AW.weak (s' := ⟨[], [], ((i3 0) + 1), 93⟩) (by exact Weak.cv trivial trivial nL) ?_
   refine aR (sA rfl rfl (aZ (hK12 _ ?_)))
   refine AW.ret ?_
   exact retf1 (P := prog) (fun (r : Int) => rI (r)) (he1 _ (hx1 _ (Option.some.inj h10).symm)) iL (.t (.d rfl))
  ·have h10 := ite_f hc2 h9
   refine AW.skip ?_
   refine hK10 _ ?_
   refine aS fun K13 hK13 wK13 => (aS fun K14 hK14 wK14 => ?_)
   refine AW.weak (s' := ⟨[(0, qc l1), (1, rI (rows1)), (2, rI (cols1)), (3, rB (none1)), (9, rI (x2)), (10, .ptr 10 (i3 0) 0 0), (13, rI ((l1.length : Int))), (14, rI (x2))], [(10, some (.box (i3 0) 178 [rI (x4.Row), rI (x4.Col), .r (.str x4.Text), rI (x4.Ref), qa x4.Attrs]))], ((i3 0) + 1), 93⟩) (by exact Weak.cv ⟨jL, jL, jL, jL, jL, jL, jL, jL, trivial⟩ ⟨.inl rfl, trivial⟩ nL) ?_
   refine aR (sQ rfl (fB rfl tf_178_2 iL fR rfl) (sQ rfl (ms_load_box (a := .r (.str x4.Text)) rfl ts_9 iL rfl rfl) (ob1k h10 fun r4 er4 h11 => (AOps.step rfl rfl rfl (sp_call (r := rB (r4)) (caps := []) (bs := [.r (.str x4.Text)]) rfl iL rfl ⟨⟨_, iL, .d rfl⟩, trivial⟩ (fun _ => w_ref_CellText (er4)) rfl) (sQ rfl (sp_not rfl iL) (aZ (hK14 _ ?_)))))))
   refine aC rfl (fun hc3 => ?_) (fun hc3 => ?_)
   ·have h12 := ite_t hc3 h11
    refine aS fun K15 hK15 wK15 => ?_
    refine AW.weak (s' := ⟨[], [], ((i3 0) + 1), 93⟩) (by exact Weak.cv trivial trivial nL) ?_
    refine aR (sA rfl rfl (aZ (hK15 _ ?_)))
    refine AW.ret ?_
    exact retf1 (P := prog) (fun (r : Int) => rI (r)) (he1 _ (hx1 _ (Option.some.inj h12).symm)) iL (.t (.d rfl))
   ·have h12 := ite_f hc3 h11
    refine AW.skip ?_
    refine hK13 _ ?_
    refine aS fun K16 hK16 wK16 => (aS fun K17 hK17 wK17 => (aR (sQ rfl (fB rfl tf_178_4 iL fR rfl) (sQ rfl (ms_load_box (a := qa x4.Attrs) rfl ts_26 iL rfl rfl) (ob1k h12 fun e1 ee1 h13 => (AOps.step rfl rfl rfl (sp_call (r := rI (e1)) (caps := []) (bs := [qa x4.Attrs, rB (false)]) rfl iL rfl ⟨⟨_, iL, .d rfl⟩, ⟨_, iL, .d rfl⟩, trivial⟩ (fun _ => w_ref_AttrsError (ee1)) rfl) (sA rfl rfl (aZ (hK17 _ ?_)))))))))
    refine aS fun K18 hK18 wK18 => (aR (sM rfl rfl (sQ rfl (sp_neq rfl iL iL) (aZ (hK18 _ ?_)))))
    refine aC rfl (fun hc4 => ?_) (fun hc4 => ?_)
    ·have h14 := ite_t hc4 h13
     refine aS fun K19 hK19 wK19 => ?_
     refine AW.weak (s' := ⟨[(11, rI (e1))], [], ((i3 0) + 1), 93⟩) (by exact Weak.cv ⟨jL, trivial⟩ trivial nL) ?_
     refine aR (sM rfl rfl (sA rfl rfl (aZ (hK19 _ ?_))))
     refine AW.ret ?_
     exact retf1 (P := prog) (fun (r : Int) => rI (r)) (he1 _ (hx1 _ (Option.some.inj h14).symm)) iL (.t (.d rfl))
    ·have h14 := ite_f hc4 h13
     refine AW.skip ?_
     refine hK16 _ ?_
     refine aS fun K20 hK20 wK20 => (aS fun K21 hK21 wK21 => ?_)
     refine AW.weak (s' := ⟨[(0, qc l1), (1, rI (rows1)), (2, rI (cols1)), (3, rB (none1)), (9, rI (x2)), (10, .ptr 10 (i3 0) 0 0), (13, rI ((l1.length : Int))), (14, rI (x2))], [(10, some (.box (i3 0) 178 [rI (x4.Row), rI (x4.Col), .r (.str x4.Text), rI (x4.Ref), qa x4.Attrs]))], ((i3 0) + 1), 93⟩) (by exact Weak.cv ⟨jL, jL, jL, jL, jL, jL, jL, jL, trivial⟩ ⟨.inl rfl, trivial⟩ nL) ?_
     refine aR (sM rfl rfl (sQ rfl (sp_not rfl iL) (sM rfl rfl (sV rfl rfl rfl (ms_loadA_box rfl ta_178 iL rfl rfl) (ob1k h14 fun r5 er5 h15 => ?_)))))
     refine AOps.stepW (.one rfl rfl rfl) rfl rfl (sp_call (r := rB (r5)) (caps := []) (bs := [.agg [rI (x4.Row), rI (x4.Col), .r (.str x4.Text), rI (x4.Ref), qa x4.Attrs]]) rfl iL rfl ⟨⟨_, (iR rfl), .g (cs := [.int .i64 x4.Row, .int .i64 x4.Col, .str x4.Text, .int .i64 x4.Ref, .sl (x4.Attrs.map GAttr.row)]) rfl rfl⟩, trivial⟩ (fun hg => w_ref_EmptyCell (gdt er5 hg)) rfl) ?_
     refine sQ rfl (sp_and rfl iL (iR rfl)) (aZ (hK21 _ ?_))
     refine aC rfl (fun hc5 => ?_) (fun hc5 => ?_)
     ·have h16 := ite_t hc5 h15
      refine aS fun K22 hK22 wK22 => ?_
      refine AW.weak (s' := ⟨[], [], ((i3 0) + 1), 93⟩) (by exact Weak.cv trivial trivial nL) ?_
      refine aR (sA rfl rfl (aZ (hK22 _ ?_)))
      refine AW.ret ?_
      exact retf1 (P := prog) (fun (r : Int) => rI (r)) (he1 _ (hx1 _ (Option.some.inj h16).symm)) iL (.t (.d rfl))
     ·have h16 := ite_f hc5 h15
      refine AW.skip ?_
      refine hK20 _ ?_
      refine aS fun K23 hK23 wK23 => ?_
      refine AW.regionQ hmix (by kernel_rfl) ?_
      refine AQ.step rfl rfl rfl (sp_move rfl iL) (AQ.step rfl rfl rfl (sp_gtr rfl iL iL) (AQ.step rfl rfl rfl (sp_move rfl iL) ?_))
      refine AQ.stepW (.one rfl rfl rfl) rfl rfl (fB rfl tf_178_0 iL fR rfl) ?_
      refine AQ.stepW (.one rfl rfl rfl) rfl rfl (ms_load_box (a := rI (x4.Row)) rfl ts_3 (iR rfl) rfl rfl) ?_
      refine AQ.stepW (.one rfl rfl rfl) rfl rfl (sp_move rfl iL) ?_
      refine AQ.stepW (.one rfl rfl rfl) rfl rfl (sp_move rfl iL) ?_
      refine ob1k h16 fun x7 ex7 h17 => ?_
      refine AQ.stepW (.one rfl rfl rfl) rfl rfl (ms_sub rfl (iR rfl) iL (gdt ex7)) ?_
      refine ob1k h17 fun x8 ex8 h18 => ?_
      refine AQ.stepW (.one rfl rfl rfl) rfl rfl (ms_idx rfl tg_28.slice (iR rfl) (iR rfl) (fun _ => rfl) (gdt ex8)) ?_
      refine AQ.stepW (.one rfl rfl rfl) rfl rfl (sp_fieldAddr_ro rfl tf_178_0 (iR rfl)) ?_
      refine AQ.stepW (.one rfl rfl rfl) rfl rfl (ms_load (d := .int .i64 x8.Row) rfl ts_3 (iR rfl) rfl) ?_
      refine AQ.stepW (.one rfl rfl rfl) rfl rfl (sp_lss rfl (iR rfl) (iR rfl)) ?_
      refine AQ.stepW (.one rfl rfl rfl) rfl rfl (sp_move rfl (iR rfl)) ?_
      refine AQ.stepW (.two rfl rfl rfl) rfl rfl (fB rfl tf_178_0 iL fR rfl) ?_
      refine AQ.stepW (.two rfl rfl rfl) rfl rfl (ms_load_box (a := rI (x4.Row)) rfl ts_3 (iR rfl) rfl rfl) ?_
      refine AQ.stepW (.two rfl rfl rfl) rfl rfl (sp_move rfl iL) ?_
      refine AQ.stepW (.two rfl rfl rfl) rfl rfl (sp_move rfl iL) ?_
      refine AQ.stepW (.two rfl rfl rfl) rfl rfl (ms_sub rfl (iR rfl) iL (fun h => gdt ex7 (Bool.and_eq_true_iff.1 h).1)) ?_
      refine AQ.stepW (.two rfl rfl rfl) rfl rfl (ms_idx rfl tg_28.slice (iR rfl) (iR rfl) (fun _ => rfl) (fun h => gdt ex8 (Bool.and_eq_true_iff.1 h).1)) ?_
      refine AQ.stepW (.two rfl rfl rfl) rfl rfl (sp_fieldAddr_ro rfl tf_178_0 (iR rfl)) ?_
      refine AQ.stepW (.two rfl rfl rfl) rfl rfl (ms_load (d := .int .i64 x8.Row) rfl ts_3 (iR rfl) rfl) ?_
      refine AQ.stepW (.two rfl rfl rfl) rfl rfl (sp_eql rfl (iR rfl) (iR rfl)) ?_
      refine AQ.stepW (.two rfl rfl rfl) rfl rfl (sp_move rfl (iR rfl)) ?_
      refine AQ.stepW (.two rfl rfl rfl) rfl rfl (fB rfl tf_178_1 iL fR rfl) ?_
      refine AQ.stepW (.two rfl rfl rfl) rfl rfl (ms_load_box (a := rI (x4.Col)) rfl ts_3 (iR rfl) rfl rfl) ?_
      refine AQ.stepW (.two rfl rfl rfl) rfl rfl (sp_move rfl iL) ?_
      refine AQ.stepW (.two rfl rfl rfl) rfl rfl (sp_move rfl iL) ?_
      refine ob1k h18 fun x9 ex9 h19 => ?_
      refine AQ.stepW (.two rfl rfl rfl) rfl rfl (ms_sub rfl (iR rfl) iL (gdt ex9)) ?_
      refine ob1k h19 fun x10 ex10 h20 => ?_
      refine AQ.stepW (.two rfl rfl rfl) rfl rfl (ms_idx rfl tg_28.slice (iR rfl) (iR rfl) (fun _ => rfl) (gdt ex10)) ?_
      refine AQ.stepW (.two rfl rfl rfl) rfl rfl (sp_fieldAddr_ro rfl tf_178_1 (iR rfl)) ?_
      refine AQ.stepW (.two rfl rfl rfl) rfl rfl (ms_load (d := .int .i64 x10.Col) rfl ts_3 (iR rfl) rfl) ?_
      refine AQ.stepW (.two rfl rfl rfl) rfl rfl (sp_leq rfl (iR rfl) (iR rfl)) ?_
      refine AQ.stepW (.two rfl rfl rfl) rfl rfl (sp_and rfl (iR rfl) (iR rfl)) ?_
      refine AQ.stepW (.one rfl rfl rfl) rfl rfl (sp_or rfl (iR rfl) (iR rfl)) ?_
      refine AQ.step rfl rfl rfl (sp_and rfl iL (iR rfl)) ?_
      refine AQ.nil ?_
      refine hK23 _ ?_
      refine aC rfl (fun hc6 => ?_) (fun hc6 => ?_)
      ·have h21 := ite_t hc6 h20
       refine aS fun K24 hK24 wK24 => ?_
       refine AW.weak (s' := ⟨[], [], ((i3 0) + 1), 93⟩) (by exact Weak.cv trivial trivial nL) ?_
       refine aR (sA rfl rfl (aZ (hK24 _ ?_)))
       refine AW.ret ?_
       exact retf1 (P := prog) (fun (r : Int) => rI (r)) (he1 _ (hx1 _ (Option.some.inj h21).symm)) iL (.t (.d rfl))
      ·have h21 := ite_f hc6 h20
       refine AW.skip ?_
       refine hK7 _ ?_
       refine AW.weak (s' := ⟨[(0, qc l1), (1, rI (rows1)), (2, rI (cols1)), (3, rB (none1)), (13, rI ((l1.length : Int))), (14, rI (x2))], [], ((i3 0) + 1), 93⟩) (by exact Weak.cv ⟨jL, jL, jL, jL, jL, jL, trivial⟩ trivial nL) ?_
       refine aR (ob1k h21 fun x11 ex11 h22 => (sQ rfl (ms_add rfl iL iL (fun _ => ex11)) (sM rfl rfl ?_)))
       refine AOps.nil ?_
       exact NextQ1.mk h22 (vec [((i3 0) + 1)]) ((by exact Weak.cv ⟨jL, jL, jL, jL, jL, jL, trivial⟩ trivial nL))
 ·have h3 := ite_f hc1 h2
  refine AW.exit ?_
  exact wK2 _ _ ((by exact Weak.cv trivial trivial nL)) (J1 _ (vec [(i3 0)]) (hx1 _ (Option.some.inj h3).symm))
theorem w_ref_Lies {r1 : GRect} {rows1 : Int} {cols1 : Int} {r : Bool} (h : ref_Lies r1 rows1 cols1 = some r) : ARO prog 98 [.agg [rI (r1.Row), rI (r1.Col), rI (r1.H), rI (r1.W)], rI (rows1), rI (cols1)] (rB (r)) := by
 unfold ref_Lies at h
 refine ARO.mkF func98 rfl rfl ntmps98 rfl (Nat.le_of_ble_eq_true rfl) fun n0 => ?_
 refine aS fun K1 hK1 wK1 => (aR (AOps.step rfl rfl rfl (ms_box (cs := [rI (r1.Row), rI (r1.Col), rI (r1.H), rI (r1.W)]) 3 rfl iL rfl rfl) (sA rfl rfl (aZ (hK1 _ ?_)))))
 refine aS fun K2 hK2 wK2 => (aR (sQ rfl (fB rfl tf_138_0 iL fR rfl) (sQ rfl (ms_load_box (a := rI (r1.Row)) rfl ts_3 iL rfl rfl) (sM rfl rfl (ob1k h fun x1 ex1 h1 => (sQ rfl (ms_sub rfl iL iL (fun _ => ex1)) (ob1k h1 fun r2 er2 h2 => (AOps.step rfl rfl rfl (sp_call (r := rB (r2)) (caps := []) (bs := [rI (r1.Row), rI (0), rI (x1)]) rfl iL rfl ⟨⟨_, iL, .d rfl⟩, ⟨_, iL, .d rfl⟩, ⟨_, iL, .d rfl⟩, trivial⟩ (fun _ => w_ref_In (er2)) rfl) (sM rfl rfl (sV rfl rfl rfl (fB rfl tf_138_1 iL fR rfl) (sV rfl rfl rfl (ms_load_box (a := rI (r1.Col)) rfl ts_3 (iR rfl) rfl rfl) (sV rfl rfl rfl (sp_move rfl iL) (ob1k h2 fun x2 ex2 h3 => (sV rfl rfl rfl (ms_sub rfl (iR rfl) iL (gdt ex2)) (ob1k h3 fun r3 er3 h4 => ?_)))))))))))))))
 refine AOps.stepW (.one rfl rfl rfl) rfl rfl (sp_call (r := rB (r3)) (caps := []) (bs := [rI (r1.Col), rI (0), rI (x2)]) rfl iL rfl ⟨⟨_, (iR rfl), .d rfl⟩, ⟨_, iL, .d rfl⟩, ⟨_, (iR rfl), .d rfl⟩, trivial⟩ (fun hg => w_ref_In (gdt er3 hg)) rfl) ?_
 refine sQ rfl (sp_and rfl iL (iR rfl)) (sM rfl rfl (sV rfl rfl rfl (fB rfl tf_138_2 iL fR rfl) (sV rfl rfl rfl (ms_load_box (a := rI (r1.H)) rfl ts_3 (iR rfl) rfl rfl) (sV rfl rfl rfl (sp_move rfl iL) (sV rfl rfl rfl (fB rfl tf_138_0 iL fR rfl) (sV rfl rfl rfl (ms_load_box (a := rI (r1.Row)) rfl ts_3 (iR rfl) rfl rfl) (ob1k h4 fun x3 ex3 h5 => (sV rfl rfl rfl (ms_sub rfl (iR rfl) (iR rfl) (gdt ex3)) (ob1k h5 fun r4 er4 h6 => ?_)))))))))
 refine AOps.stepW (.one rfl rfl rfl) rfl rfl (sp_call (r := rB (r4)) (caps := []) (bs := [rI (r1.H), rI (1), rI (x3)]) rfl iL rfl ⟨⟨_, (iR rfl), .d rfl⟩, ⟨_, iL, .d rfl⟩, ⟨_, (iR rfl), .d rfl⟩, trivial⟩ (fun hg => w_ref_In (gdt er4 hg)) rfl) ?_
 refine sQ rfl (sp_and rfl iL (iR rfl)) (sM rfl rfl (sV rfl rfl rfl (fB rfl tf_138_3 iL fR rfl) (sV rfl rfl rfl (ms_load_box (a := rI (r1.W)) rfl ts_3 (iR rfl) rfl rfl) (sV rfl rfl rfl (sp_move rfl iL) (sV rfl rfl rfl (fB rfl tf_138_1 iL fR rfl) (sV rfl rfl rfl (ms_load_box (a := rI (r1.Col)) rfl ts_3 (iR rfl) rfl rfl) (ob1k h6 fun x4 ex4 h7 => (sV rfl rfl rfl (ms_sub rfl (iR rfl) (iR rfl) (gdt ex4)) (ob1k h7 fun r5 er5 h8 => ?_)))))))))
 refine AOps.stepW (.one rfl rfl rfl) rfl rfl (sp_call (r := rB (r5)) (caps := []) (bs := [rI (r1.W), rI (1), rI (x4)]) rfl iL rfl ⟨⟨_, (iR rfl), .d rfl⟩, ⟨_, iL, .d rfl⟩, ⟨_, (iR rfl), .d rfl⟩, trivial⟩ (fun hg => w_ref_In (gdt er5 hg)) rfl) ?_
 refine sQ rfl (sp_and rfl iL (iR rfl)) (sA rfl rfl (aZ (hK2 _ ?_)))
 refine AW.ret ?_
 exact retf1 (P := prog) (fun (r : Bool) => rB (r)) h8 iL (.t (.d rfl))
theorem w_ref_Share {a1 : GRect} {b1 : GRect} {r : Bool} (h : ref_Share a1 b1 = some r) : ARO prog 154 [.agg [rI (a1.Row), rI (a1.Col), rI (a1.H), rI (a1.W)], .agg [rI (b1.Row), rI (b1.Col), rI (b1.H), rI (b1.W)]] (rB (r)) := by
 unfold ref_Share at h
 refine ARO.mkF func154 rfl rfl ntmps154 rfl (Nat.le_of_ble_eq_true rfl) fun n0 => ?_
 refine aS fun K1 hK1 wK1 => (aR (AOps.step rfl rfl rfl (ms_box (cs := [rI (a1.Row), rI (a1.Col), rI (a1.H), rI (a1.W)]) 2 rfl iL rfl rfl) (AOps.step rfl rfl rfl (ms_box (cs := [rI (b1.Row), rI (b1.Col), rI (b1.H), rI (b1.W)]) 3 rfl iL rfl rfl) (sA rfl rfl (aZ (hK1 _ ?_))))))
 refine aS fun K2 hK2 wK2 => ?_
 refine AW.regionQ hmix (by kernel_rfl) ?_
 refine AQ.step rfl rfl rfl (fB rfl tf_138_0 iL fR rfl) (AQ.step rfl rfl rfl (ms_load_box (a := rI (a1.Row)) rfl ts_3 iL rfl rfl) (AQ.step rfl rfl rfl (fB rfl tf_138_0 iL fR rfl) (AQ.step rfl rfl rfl (ms_load_box (a := rI (b1.Row)) rfl ts_3 iL rfl rfl) (AQ.step rfl rfl rfl (sp_max rfl iL iL) (AQ.step rfl rfl rfl (fB rfl tf_138_1 iL fR rfl) (AQ.step rfl rfl rfl (ms_load_box (a := rI (a1.Col)) rfl ts_3 iL rfl rfl) (AQ.step rfl rfl rfl (fB rfl tf_138_1 iL fR rfl) (AQ.step rfl rfl rfl (ms_load_box (a := rI (b1.Col)) rfl ts_3 iL rfl rfl) (AQ.step rfl rfl rfl (sp_max rfl iL iL) (AQ.step rfl rfl rfl (sp_assign rfl iL) (AQ.step rfl rfl rfl (sp_assign rfl iL) ?_)))))))))))
 refine AQ.nil ?_
 refine hK2 _ ?_
 refine aS fun K3 hK3 wK3 => ?_
 refine AW.weak (s' := ⟨[(2, .ptr 2 n0 0 0), (3, .ptr 3 (n0 + 1) 0 0), (5, rI ((max a1.Row b1.Row))), (6, rI ((max a1.Col b1.Col)))], [(2, some (.box n0 138 [rI (a1.Row), rI (a1.Col), rI (a1.H), rI (a1.W)])), (3, some (.box (n0 + 1) 138 [rI (b1.Row), rI (b1.Col), rI (b1.H), rI (b1.W)]))], (n0 + 2), 45⟩) (by exact Weak.cv ⟨jL, jL, jL, jL, trivial⟩ ⟨.inl rfl, .inl rfl, trivial⟩ nL) ?_
 refine aR (sM rfl rfl (sQ rfl (fB rfl tf_138_0 iL fR rfl) (sQ rfl (ms_load_box (a := rI (a1.Row)) rfl ts_3 iL rfl rfl) (sQ rfl (fB rfl tf_138_2 iL fR rfl) (sQ rfl (ms_load_box (a := rI (a1.H)) rfl ts_3 iL rfl rfl) (ob1k h fun x1 ex1 h1 => (sQ rfl (ms_add rfl iL iL (fun _ => ex1)) (sQ rfl (fB rfl tf_138_0 iL fR rfl) (sQ rfl (ms_load_box (a := rI (b1.Row)) rfl ts_3 iL rfl rfl) (sQ rfl (fB rfl tf_138_2 iL fR rfl) (sQ rfl (ms_load_box (a := rI (b1.H)) rfl ts_3 iL rfl rfl) (ob1k h1 fun x2 ex2 h2 => (sQ rfl (ms_add rfl iL iL (fun _ => ex2)) (sQ rfl (sp_min rfl iL iL) (sQ rfl (sp_lss rfl iL iL) (sM rfl rfl (sV rfl rfl rfl (sp_move rfl iL) (sV rfl rfl rfl (fB rfl tf_138_1 iL fR rfl) (sV rfl rfl rfl (ms_load_box (a := rI (a1.Col)) rfl ts_3 (iR rfl) rfl rfl) (sV rfl rfl rfl (fB rfl tf_138_3 iL fR rfl) (sV rfl rfl rfl (ms_load_box (a := rI (a1.W)) rfl ts_3 (iR rfl) rfl rfl) (ob1k h2 fun x3 ex3 h3 => (sV rfl rfl rfl (ms_add rfl (iR rfl) (iR rfl) (gdt ex3)) (sV rfl rfl rfl (fB rfl tf_138_1 iL fR rfl) (sV rfl rfl rfl (ms_load_box (a := rI (b1.Col)) rfl ts_3 (iR rfl) rfl rfl) (sV rfl rfl rfl (fB rfl tf_138_3 iL fR rfl) (sV rfl rfl rfl (ms_load_box (a := rI (b1.W)) rfl ts_3 (iR rfl) rfl rfl) (ob1k h3 fun x4 ex4 h4 => (sV rfl rfl rfl (ms_add rfl (iR rfl) (iR rfl) (gdt ex4)) ?_)))))))))))))))))))))))))))))
 refine sV rfl rfl rfl (sp_min rfl (iR rfl) (iR rfl)) (sV rfl rfl rfl (sp_lss rfl (iR rfl) (iR rfl)) (sQ rfl (sp_and rfl iL (iR rfl)) (sA rfl rfl (aZ (hK3 _ ?_)))))
 refine AW.ret ?_
 exact retf1 (P := prog) (fun (r : Bool) => rB (r)) h4 iL (.t (.d rfl))
theorem w_ref_GridError {g1 : GGrid} {r : Int} (h : ref_GridError g1 = some r) : ARO prog 93 [.agg [rI (g1.Rows), rI (g1.Cols), qc g1.Cells, qb g1.Merges]] (rI (r)) := by
 unfold ref_GridError at h
 refine ARO.mkF func93 rfl rfl ntmps93 rfl (Nat.le_of_ble_eq_true rfl) fun n0 => ?_
 refine aS fun K1 hK1 wK1 => (aR (AOps.step rfl rfl rfl (ms_box (cs := [rI (g1.Rows), rI (g1.Cols), qc g1.Cells, qb g1.Merges]) 1 rfl iL rfl rfl) (sA rfl rfl (aZ (hK1 _ ?_)))))
 refine aS fun K2 hK2 wK2 => (aS fun K3 hK3 wK3 => (aR (sQ rfl (fB rfl tf_31_0 iL fR rfl) (sQ rfl (ms_load_box (a := rI (g1.Rows)) rfl ts_3 iL rfl rfl) (ob1k h fun r1 er1 h1 => (AOps.step rfl rfl rfl (sp_call (r := rB (r1)) (caps := []) (bs := [rI (g1.Rows), rI (0), rI (2147483647)]) rfl iL rfl ⟨⟨_, iL, .d rfl⟩, ⟨_, iL, .d rfl⟩, ⟨_, iL, .d rfl⟩, trivial⟩ (fun _ => w_ref_In (er1)) rfl) (sQ rfl (sp_not rfl iL) (sM rfl rfl (sV rfl rfl rfl (fB rfl tf_31_1 iL fR rfl) (sV rfl rfl rfl (ms_load_box (a := rI (g1.Cols)) rfl ts_3 (iR rfl) rfl rfl) (ob1k h1 fun r2 er2 h2 => ?_)))))))))))
 refine AOps.stepW (.one rfl rfl rfl) rfl rfl (sp_call (r := rB (r2)) (caps := []) (bs := [rI (g1.Cols), rI (0), rI (2147483647)]) rfl iL rfl ⟨⟨_, (iR rfl), .d rfl⟩, ⟨_, iL, .d rfl⟩, ⟨_, iL, .d rfl⟩, trivial⟩ (fun hg => w_ref_In (gdt er2 hg)) rfl) ?_
 refine sV rfl rfl rfl (sp_not rfl (iR rfl)) (sQ rfl (sp_or rfl iL (iR rfl)) (aZ (hK3 _ ?_)))
 refine aC rfl (fun hc1 => ?_) (fun hc1 => ?_)
 ·have h3 := ite_t hc1 h2
  refine aS fun K4 hK4 wK4 => ?_
  refine AW.weak (s' := ⟨[], [], (n0 + 1), 104⟩) (by exact Weak.cv trivial trivial nL) ?_
  refine aR (sA rfl rfl (aZ (hK4 _ ?_)))
  refine AW.ret ?_
  exact retf1 (P := prog) (fun (r : Int) => rI (r)) h3 iL (.t (.d rfl))
 ·have h3 := ite_f hc1 h2
  refine AW.skip ?_
  refine hK2 _ ?_
  refine aS fun K5 hK5 wK5 => (aS fun K6 hK6 wK6 => ?_)
  refine AW.weak (s' := ⟨[(1, .ptr 1 n0 0 0)], [(1, some (.box n0 31 [rI (g1.Rows), rI (g1.Cols), qc g1.Cells, qb g1.Merges]))], (n0 + 1), 104⟩) (by exact Weak.cv ⟨jL, trivial⟩ ⟨.inl rfl, trivial⟩ nL) ?_
  refine aR (sQ rfl (fB rfl tf_31_2 iL fR rfl) (sQ rfl (ms_load_box (a := qc g1.Cells) rfl ts_28 iL rfl rfl) (sQ rfl (fB rfl tf_31_0 iL fR rfl) (sQ rfl (ms_load_box (a := rI (g1.Rows)) rfl ts_3 iL rfl rfl) (sQ rfl (fB rfl tf_31_1 iL fR rfl) (sQ rfl (ms_load_box (a := rI (g1.Cols)) rfl ts_3 iL rfl rfl) (ob1k h3 fun e1 ee1 h4 => (AOps.step rfl rfl rfl (sp_call (r := rI (e1)) (caps := []) (bs := [qc g1.Cells, rI (g1.Rows), rI (g1.Cols), rB (false)]) rfl iL rfl ⟨⟨_, iL, .d rfl⟩, ⟨_, iL, .d rfl⟩, ⟨_, iL, .d rfl⟩, ⟨_, iL, .d rfl⟩, trivial⟩ (fun _ => w_ref_CellsError (ee1)) rfl) (sA rfl rfl (aZ (hK6 _ ?_)))))))))))
  refine aS fun K7 hK7 wK7 => (aR (sM rfl rfl (sQ rfl (sp_neq rfl iL iL) (aZ (hK7 _ ?_)))))
  refine aC rfl (fun hc2 => ?_) (fun hc2 => ?_)
  ·have h5 := ite_t hc2 h4
   refine aS fun K8 hK8 wK8 => ?_
   refine AW.weak (s' := ⟨[(3, rI (e1))], [], (n0 + 1), 104⟩) (by exact Weak.cv ⟨jL, trivial⟩ trivial nL) ?_
   refine aR (sM rfl rfl (sA rfl rfl (aZ (hK8 _ ?_))))
   refine AW.ret ?_
   exact retf1 (P := prog) (fun (r : Int) => rI (r)) h5 iL (.t (.d rfl))
  ·have h5 := ite_f hc2 h4
   refine AW.skip ?_
   refine hK5 _ ?_
   refine aS fun K9 hK9 wK9 => (aS fun K10 hK10 wK10 => ?_)
   refine AW.weak (s' := ⟨[(1, .ptr 1 n0 0 0)], [(1, some (.box n0 31 [rI (g1.Rows), rI (g1.Cols), qc g1.Cells, qb g1.Merges]))], (n0 + 1), 104⟩) (by exact Weak.cv ⟨jL, trivial⟩ ⟨.inl rfl, trivial⟩ nL) ?_
   refine aR (sQ rfl (fB rfl tf_31_3 iL fR rfl) (sQ rfl (ms_load_box (a := qb g1.Merges) rfl ts_29 iL rfl rfl) (sQ rfl (ms_len rfl tg_29.slice iL) (sM rfl rfl (aZ (hK10 _ ?_))))))
   refine AW.block ?_
   refine jc1k h5 fun o1 hit1 hk1 he1 => ?_
   have J1 : ∀ (u2 : Unit) (i5 : Nat → Nat), o1 = .nrm u2 → K9 ⟨[], [], (i5 0), 104⟩ := by
    intro u2 i5 e
    have h6 := hk1 _ e
    refine hK9 _ ?_
    refine aS fun K11 hK11 wK11 => (aR (sA rfl rfl (aZ (hK11 _ ?_))))
    refine AW.ret ?_
    exact retf1 (P := prog) (fun (r : Int) => rI (r)) h6 iL (.t (.d rfl))
   refine AW.iter1 (fun (x2 : Int) i3 => ⟨[(1, .ptr 1 n0 0 0), (29, rI ((g1.Merges.length : Int))), (30, rI (x2))], [(1, some (.box n0 31 [rI (g1.Rows), rI (g1.Cols), qc g1.Cells, qb g1.Merges]))], (i3 0), 104⟩) (vec [(n0 + 1)]) hit1 ((by exact Weak.cv ⟨jL, jL, jL, trivial⟩ ⟨.inl rfl, trivial⟩ nL)) ?_
   intro x2 i3 v1 hv1 hx1
   have h7 : ref_GridError_L1 g1 x2 = some v1 := hv1; unfold ref_GridError_L1 at h7
   refine aS fun K12 hK12 wK12 => (aR (sQ rfl (sp_lss rfl iL iL) (aZ (hK12 _ ?_))))
   refine aS fun K13 hK13 wK13 => ?_
   refine aC rfl (fun hc3 => ?_) (fun hc3 => ?_)
   ·have h8 := ite_t hc3 h7
    refine AW.skip ?_
    refine hK13 _ ?_
    refine aS fun K14 hK14 wK14 => (AW.block (aS fun K15 hK15 wK15 => (aR (sM rfl rfl (sA rfl rfl (aZ (hK15 _ ?_)))))))
    refine aS fun K16 hK16 wK16 => (aR (sQ rfl (fB rfl tf_31_3 iL fR rfl) (sQ rfl (ms_load_box (a := qb g1.Merges) rfl ts_29 iL rfl rfl) (sM rfl rfl (ob1k h8 fun x4 ex4 h9 => (sQ rfl (ms_idx rfl tg_29.slice iL iL (fun _ => rfl) (fun _ => ex4)) (sQ rfl (ms_loadA (cs := [rI (x4.Row), rI (x4.Col), rI (x4.H), rI (x4.W)]) rfl ta_138 iL rfl rfl) (AOps.step rfl rfl rfl (ms_alloc (cs := [rI (0), rI (0), rI (0), rI (0)]) 5 rfl t0_138 rfl rfl) (AOps.step0 rfl rfl (ms_store_box (ds := [rI (x4.Row), rI (x4.Col), rI (x4.H), rI (x4.W)]) rfl tz_138 iL rfl iL rfl rfl rfl rfl) (aZ (hK16 _ ?_)))))))))))
    refine aS fun K17 hK17 wK17 => (aS fun K18 hK18 wK18 => (aR (sQ rfl (ms_loadA_box rfl ta_138 iL rfl rfl) (sQ rfl (fB rfl tf_31_0 iL fR rfl) (sQ rfl (ms_load_box (a := rI (g1.Rows)) rfl ts_3 iL rfl rfl) (sQ rfl (fB rfl tf_31_1 iL fR rfl) (sQ rfl (ms_load_box (a := rI (g1.Cols)) rfl ts_3 iL rfl rfl) (ob1k h9 fun r3 er3 h10 => (AOps.step rfl rfl rfl (sp_call (r := rB (r3)) (caps := []) (bs := [.agg [rI (x4.Row), rI (x4.Col), rI (x4.H), rI (x4.W)], rI (g1.Rows), rI (g1.Cols)]) rfl iL rfl ⟨⟨_, iL, .g (cs := [.int .i64 x4.Row, .int .i64 x4.Col, .int .i64 x4.H, .int .i64 x4.W]) rfl rfl⟩, ⟨_, iL, .d rfl⟩, ⟨_, iL, .d rfl⟩, trivial⟩ (fun _ => w_ref_Lies (er3)) rfl) (sQ rfl (sp_not rfl iL) (aZ (hK18 _ ?_))))))))))))
    refine aC rfl (fun hc4 => ?_) (fun hc4 => ?_)
    ·have h11 := ite_t hc4 h10
     refine aS fun K19 hK19 wK19 => ?_
     refine AW.weak (s' := ⟨[], [], ((i3 0) + 1), 104⟩) (by exact Weak.cv trivial trivial nL) ?_
     refine aR (sA rfl rfl (aZ (hK19 _ ?_)))
     refine AW.ret ?_
     exact retf1 (P := prog) (fun (r : Int) => rI (r)) (he1 _ (hx1 _ (Option.some.inj h11).symm)) iL (.t (.d rfl))
    ·have h11 := ite_f hc4 h10
     refine AW.skip ?_
     refine hK17 _ ?_
     refine aS fun K20 hK20 wK20 => (aS fun K21 hK21 wK21 => ?_)
     refine AW.weak (s' := ⟨[(1, .ptr 1 n0 0 0), (4, rI (x2)), (5, .ptr 5 (i3 0) 0 0), (29, rI ((g1.Merges.length : Int))), (30, rI (x2))], [(1, some (.box n0 31 [rI (g1.Rows), rI (g1.Cols), qc g1.Cells, qb g1.Merges])), (5, some (.box (i3 0) 138 [rI (x4.Row), rI (x4.Col), rI (x4.H), rI (x4.W)]))], ((i3 0) + 1), 104⟩) (by exact Weak.cv ⟨jL, jL, jL, jL, jL, trivial⟩ ⟨.inl rfl, .inl rfl, trivial⟩ nL) ?_
     refine aR (sQ rfl (fB rfl tf_138_2 iL fR rfl) (sQ rfl (ms_load_box (a := rI (x4.H)) rfl ts_3 iL rfl rfl) (sQ rfl (sp_eql rfl iL iL) (sM rfl rfl (sV rfl rfl rfl (fB rfl tf_138_3 iL fR rfl) (sV rfl rfl rfl (ms_load_box (a := rI (x4.W)) rfl ts_3 (iR rfl) rfl rfl) (sV rfl rfl rfl (sp_eql rfl (iR rfl) iL) (sQ rfl (sp_and rfl iL (iR rfl)) (aZ (hK21 _ ?_))))))))))
     refine aC rfl (fun hc5 => ?_) (fun hc5 => ?_)
     ·have h12 := ite_t hc5 h11
      refine aS fun K22 hK22 wK22 => ?_
      refine AW.weak (s' := ⟨[], [], ((i3 0) + 1), 104⟩) (by exact Weak.cv trivial trivial nL) ?_
      refine aR (sA rfl rfl (aZ (hK22 _ ?_)))
      refine AW.ret ?_
      exact retf1 (P := prog) (fun (r : Int) => rI (r)) (he1 _ (hx1 _ (Option.some.inj h12).symm)) iL (.t (.d rfl))
     ·have h12 := ite_f hc5 h11
      refine AW.skip ?_
      refine hK20 _ ?_
      refine aS fun K23 hK23 wK23 => (aS fun K24 hK24 wK24 => ?_)
      refine AW.regionQ hmix (by kernel_rfl) ?_
      refine AQ.step rfl rfl rfl (sp_move rfl iL) (AQ.step rfl rfl rfl (sp_gtr rfl iL iL) (AQ.step rfl rfl rfl (sp_move rfl iL) ?_))
      refine AQ.stepW (.one rfl rfl rfl) rfl rfl (fB rfl tf_138_0 iL fR rfl) ?_
      refine AQ.stepW (.one rfl rfl rfl) rfl rfl (ms_load_box (a := rI (x4.Row)) rfl ts_3 (iR rfl) rfl rfl) ?_
      refine AQ.stepW (.one rfl rfl rfl) rfl rfl (fB rfl tf_31_3 iL fR rfl) ?_
      refine AQ.stepW (.one rfl rfl rfl) rfl rfl (ms_load_box (a := qb g1.Merges) rfl ts_29 (iR rfl) rfl rfl) ?_
      refine AQ.stepW (.one rfl rfl rfl) rfl rfl (sp_move rfl iL) ?_
      refine ob1k h12 fun x5 ex5 h13 => ?_
      refine AQ.stepW (.one rfl rfl rfl) rfl rfl (ms_sub rfl (iR rfl) iL (gdt ex5)) ?_
      refine ob1k h13 fun x6 ex6 h14 => ?_
      refine AQ.stepW (.one rfl rfl rfl) rfl rfl (ms_idx rfl tg_29.slice (iR rfl) (iR rfl) (fun _ => rfl) (gdt ex6)) ?_
      refine AQ.stepW (.one rfl rfl rfl) rfl rfl (sp_fieldAddr_ro rfl tf_138_0 (iR rfl)) ?_
      refine AQ.stepW (.one rfl rfl rfl) rfl rfl (ms_load (d := .int .i64 x6.Row) rfl ts_3 (iR rfl) rfl) ?_
      refine AQ.stepW (.one rfl rfl rfl) rfl rfl (sp_lss rfl (iR rfl) (iR rfl)) ?_
      refine AQ.stepW (.one rfl rfl rfl) rfl rfl (sp_move rfl (iR rfl)) ?_
      refine AQ.stepW (.two rfl rfl rfl) rfl rfl (fB rfl tf_138_0 iL fR rfl) ?_
      refine AQ.stepW (.two rfl rfl rfl) rfl rfl (ms_load_box (a := rI (x4.Row)) rfl ts_3 (iR rfl) rfl rfl) ?_
      refine AQ.stepW (.two rfl rfl rfl) rfl rfl (fB rfl tf_31_3 iL fR rfl) ?_
      refine AQ.stepW (.two rfl rfl rfl) rfl rfl (ms_load_box (a := qb g1.Merges) rfl ts_29 (iR rfl) rfl rfl) ?_
      refine AQ.stepW (.two rfl rfl rfl) rfl rfl (sp_move rfl iL) ?_
      refine AQ.stepW (.two rfl rfl rfl) rfl rfl (ms_sub rfl (iR rfl) iL (fun h => gdt ex5 (Bool.and_eq_true_iff.1 h).1)) ?_
      refine AQ.stepW (.two rfl rfl rfl) rfl rfl (ms_idx rfl tg_29.slice (iR rfl) (iR rfl) (fun _ => rfl) (fun h => gdt ex6 (Bool.and_eq_true_iff.1 h).1)) ?_
      refine AQ.stepW (.two rfl rfl rfl) rfl rfl (sp_fieldAddr_ro rfl tf_138_0 (iR rfl)) ?_
      refine AQ.stepW (.two rfl rfl rfl) rfl rfl (ms_load (d := .int .i64 x6.Row) rfl ts_3 (iR rfl) rfl) ?_
      refine AQ.stepW (.two rfl rfl rfl) rfl rfl (sp_eql rfl (iR rfl) (iR rfl)) ?_
      refine AQ.stepW (.two rfl rfl rfl) rfl rfl (sp_move rfl (iR rfl)) ?_
      refine AQ.stepW (.two rfl rfl rfl) rfl rfl (fB rfl tf_138_1 iL fR rfl) ?_
      refine AQ.stepW (.two rfl rfl rfl) rfl rfl (ms_load_box (a := rI (x4.Col)) rfl ts_3 (iR rfl) rfl rfl) ?_
      refine AQ.stepW (.two rfl rfl rfl) rfl rfl (fB rfl tf_31_3 iL fR rfl) ?_
      refine AQ.stepW (.two rfl rfl rfl) rfl rfl (ms_load_box (a := qb g1.Merges) rfl ts_29 (iR rfl) rfl rfl) ?_
      refine AQ.stepW (.two rfl rfl rfl) rfl rfl (sp_move rfl iL) ?_
      refine ob1k h14 fun x7 ex7 h15 => ?_
      refine AQ.stepW (.two rfl rfl rfl) rfl rfl (ms_sub rfl (iR rfl) iL (gdt ex7)) ?_
      refine ob1k h15 fun x8 ex8 h16 => ?_
      refine AQ.stepW (.two rfl rfl rfl) rfl rfl (ms_idx rfl tg_29.slice (iR rfl) (iR rfl) (fun _ => rfl) (gdt ex8)) ?_
      refine AQ.stepW (.two rfl rfl rfl) rfl rfl (sp_fieldAddr_ro rfl tf_138_1 (iR rfl)) ?_
      refine AQ.stepW (.two rfl rfl rfl) rfl rfl (ms_load (d := .int .i64 x8.Col) rfl ts_3 (iR rfl) rfl) ?_
      refine AQ.stepW (.two rfl rfl rfl) rfl rfl (sp_leq rfl (iR rfl) (iR rfl)) ?_
      refine AQ.stepW (.two rfl rfl rfl) rfl rfl (sp_and rfl (iR rfl) (iR rfl)) ?_
      refine AQ.stepW (.one rfl rfl rfl) rfl rfl (sp_or rfl (iR rfl) (iR rfl)) ?_
      refine AQ.step rfl rfl rfl (sp_and rfl iL (iR rfl)) ?_
      refine AQ.nil ?_
      refine hK24 _ ?_
      refine aC rfl (fun hc6 => ?_) (fun hc6 => ?_)
      ·have h17 := ite_t hc6 h16
       refine aS fun K25 hK25 wK25 => ?_
       refine AW.weak (s' := ⟨[], [], ((i3 0) + 1), 104⟩) (by exact Weak.cv trivial trivial nL) ?_
       refine aR (sA rfl rfl (aZ (hK25 _ ?_)))
       refine AW.ret ?_
       exact retf1 (P := prog) (fun (r : Int) => rI (r)) (he1 _ (hx1 _ (Option.some.inj h17).symm)) iL (.t (.d rfl))
      ·have h17 := ite_f hc6 h16
       refine AW.skip ?_
       refine hK23 _ ?_
       refine aS fun K26 hK26 wK26 => ?_
       refine AW.weak (s' := ⟨[(1, .ptr 1 n0 0 0), (4, rI (x2)), (5, .ptr 5 (i3 0) 0 0), (29, rI ((g1.Merges.length : Int))), (30, rI (x2))], [(1, some (.box n0 31 [rI (g1.Rows), rI (g1.Cols), qc g1.Cells, qb g1.Merges])), (5, some (.box (i3 0) 138 [rI (x4.Row), rI (x4.Col), rI (x4.H), rI (x4.W)]))], ((i3 0) + 1), 104⟩) (by exact Weak.cv ⟨jL, jL, jL, jL, jL, trivial⟩ ⟨.inl rfl, .inl rfl, trivial⟩ nL) ?_
       refine aR (sM rfl rfl (sM rfl rfl (aZ (hK26 _ ?_))))
       refine AW.block ?_
       refine jc1k h17 fun o2 hit2 hk2 he2 => ?_
       have J2 : ∀ (u4 : Unit) (i10 : Nat → Nat), o2 = .nrm u4 → K14 ⟨[(1, .ptr 1 n0 0 0), (29, rI ((g1.Merges.length : Int))), (30, rI (x2))], [(1, some (.box n0 31 [rI (g1.Rows), rI (g1.Cols), qc g1.Cells, qb g1.Merges]))], (i10 0), 104⟩ := by
        intro u4 i10 e
        have h18 := hk2 _ e
        refine hK14 _ ?_
        refine aR (ob1k h18 fun x12 ex12 h19 => (sQ rfl (ms_add rfl iL iL (fun _ => ex12)) (sM rfl rfl ?_)))
        refine AOps.nil ?_
        exact NextQ1.mk h19 (vec [(i10 0)]) ((by exact Weak.cv ⟨jL, jL, jL, trivial⟩ ⟨.inl rfl, trivial⟩ nL))
       refine AW.iter1 (fun (x10 : Int) i8 => ⟨[(1, .ptr 1 n0 0 0), (5, .ptr 5 (i3 0) 0 0), (29, rI ((g1.Merges.length : Int))), (30, rI (x2)), (91, rI (x2)), (92, rI (x10))], [(1, some (.box n0 31 [rI (g1.Rows), rI (g1.Cols), qc g1.Cells, qb g1.Merges])), (5, some (.box (i3 0) 138 [rI (x4.Row), rI (x4.Col), rI (x4.H), rI (x4.W)]))], (i8 0), 104⟩) (vec [((i3 0) + 1)]) hit2 ((by exact Weak.cv ⟨jL, jL, jL, jL, jL, jL, trivial⟩ ⟨.inl rfl, .inl rfl, trivial⟩ nL)) ?_
       intro x10 i8 v2 hv2 hx2
       have h20 : ref_GridError_L2 g1 x2 x4 x10 = some v2 := hv2; unfold ref_GridError_L2 at h20
       refine aS fun K27 hK27 wK27 => (aR (sQ rfl (sp_lss rfl iL iL) (aZ (hK27 _ ?_))))
       refine aS fun K28 hK28 wK28 => ?_
       refine aC rfl (fun hc7 => ?_) (fun hc7 => ?_)
       ·have h21 := ite_t hc7 h20
        refine AW.skip ?_
        refine hK28 _ ?_
        refine aS fun K29 hK29 wK29 => (AW.block (aS fun K30 hK30 wK30 => (aR (sM rfl rfl (sA rfl rfl (aZ (hK30 _ ?_)))))))
        refine aS fun K31 hK31 wK31 => ?_
        refine AW.regionQ hmix (by kernel_rfl) ?_
        refine AQ.step rfl rfl rfl (ms_loadA_box rfl ta_138 iL rfl rfl) (AQ.step rfl rfl rfl (fB rfl tf_31_3 iL fR rfl) (AQ.step rfl rfl rfl (ms_load_box (a := qb g1.Merges) rfl ts_29 iL rfl rfl) (AQ.step rfl rfl rfl (sp_move rfl iL) (ob1k h21 fun x13 ex13 h22 => (AQ.step rfl rfl rfl (ms_idx rfl tg_29.slice iL iL (fun _ => rfl) (fun _ => ex13)) (AQ.step rfl rfl rfl (ms_loadA (cs := [rI (x13.Row), rI (x13.Col), rI (x13.H), rI (x13.W)]) rfl ta_138 iL rfl rfl) (ob1k h22 fun r4 er4 h23 => ?_)))))))
        refine AQ.stepC rfl rfl rfl (r := rB (r4)) (caps := []) (bs := [.agg [rI (x4.Row), rI (x4.Col), rI (x4.H), rI (x4.W)], .agg [rI (x13.Row), rI (x13.Col), rI (x13.H), rI (x13.W)]]) rfl iL rfl ⟨⟨_, iL, .g (cs := [.int .i64 x4.Row, .int .i64 x4.Col, .int .i64 x4.H, .int .i64 x4.W]) rfl rfl⟩, ⟨_, iL, .g (cs := [.int .i64 x13.Row, .int .i64 x13.Col, .int .i64 x13.H, .int .i64 x13.W]) rfl rfl⟩, trivial⟩ (fun _ => w_ref_Share (er4)) rfl ?_
        refine AQ.nil ?_
        refine hK31 _ ?_
        refine aC rfl (fun hc8 => ?_) (fun hc8 => ?_)
        ·have h24 := ite_t hc8 h23
         refine aS fun K32 hK32 wK32 => ?_
         refine AW.weak (s' := ⟨[], [], (i8 0), 104⟩) (by exact Weak.cv trivial trivial nL) ?_
         refine aR (sA rfl rfl (aZ (hK32 _ ?_)))
         refine AW.ret ?_
         exact retf1 (P := prog) (fun (r : Int) => rI (r)) (he1 _ (hx1 _ (Option.some.inj (he2 _ (hx2 _ (Option.some.inj h24).symm))).symm)) iL (.t (.d rfl))
        ·have h24 := ite_f hc8 h23
         refine AW.skip ?_
         refine hK29 _ ?_
         refine AW.weak (s' := ⟨[(1, .ptr 1 n0 0 0), (5, .ptr 5 (i3 0) 0 0), (29, rI ((g1.Merges.length : Int))), (30, rI (x2)), (91, rI (x2)), (92, rI (x10))], [(1, some (.box n0 31 [rI (g1.Rows), rI (g1.Cols), qc g1.Cells, qb g1.Merges])), (5, some (.box (i3 0) 138 [rI (x4.Row), rI (x4.Col), rI (x4.H), rI (x4.W)]))], (i8 0), 104⟩) (by exact Weak.cv ⟨jL, jL, jL, jL, jL, jL, trivial⟩ ⟨.inl rfl, .inl rfl, trivial⟩ nL) ?_
         refine aR (ob1k h24 fun x14 ex14 h25 => (sQ rfl (ms_add rfl iL iL (fun _ => ex14)) (sM rfl rfl ?_)))
         refine AOps.nil ?_
         exact NextQ1.mk h25 (vec [(i8 0)]) ((by exact Weak.cv ⟨jL, jL, jL, jL, jL, jL, trivial⟩ ⟨.inl rfl, .inl rfl, trivial⟩ nL))
       ·have h21 := ite_f hc7 h20
        refine AW.exit ?_
        exact wK14 _ _ ((by exact Weak.cv ⟨jL, jL, jL, trivial⟩ ⟨.inl rfl, trivial⟩ nL)) (J2 _ (vec [(i8 0)]) (hx2 _ (Option.some.inj h21).symm))
   ·have h8 := ite_f hc3 h7
    refine AW.exit ?_
    exact wK9 _ _ ((by exact Weak.cv trivial trivial nL)) (J1 _ (vec [(i3 0)]) (hx1 _ (Option.some.inj h8).symm))
theorem w_ref_CellKinds {kind1 : Int} {l1 : List GCell} {r : Int} (h : ref_CellKinds kind1 l1 = some r) : ARO prog 94 [rI (kind1), qc l1] (rI (r)) := by
 unfold ref_CellKinds at h
 refine ARO.mkF func94 rfl rfl ntmps94 rfl (Nat.le_of_ble_eq_true rfl) fun n0 => ?_
 refine aS fun K1 hK1 wK1 => (aR (sA rfl rfl (aZ (hK1 _ ?_))))
 refine aS fun K2 hK2 wK2 => (aS fun K3 hK3 wK3 => (aR (sM rfl rfl (sQ rfl (ms_len rfl tg_28.slice iL) (sM rfl rfl (aZ (hK3 _ ?_)))))))
 refine AW.block ?_
 refine jc1k h fun o1 hit1 hk1 he1 => ?_
 have J1 : ∀ (u2 : Unit) (i5 : Nat → Nat), o1 = .nrm u2 → K2 ⟨[], [], (i5 0), 43⟩ := by
  intro u2 i5 e
  have h1 := hk1 _ e
  refine hK2 _ ?_
  refine aS fun K4 hK4 wK4 => (aR (sA rfl rfl (aZ (hK4 _ ?_))))
  refine AW.ret ?_
  exact retf1 (P := prog) (fun (r : Int) => rI (r)) h1 iL (.t (.d rfl))
 refine AW.iter1 (fun (x2 : Int) i3 => ⟨[(0, rI (kind1)), (1, qc l1), (7, rI ((l1.length : Int))), (8, rI (x2))], [], (i3 0), 43⟩) (vec [n0]) hit1 ((by exact Weak.cv ⟨jL, jL, jL, jL, trivial⟩ trivial nL)) ?_
 intro x2 i3 v1 hv1 hx1
 have h2 : ref_CellKinds_L1 kind1 l1 x2 = some v1 := hv1; unfold ref_CellKinds_L1 at h2
 refine aS fun K5 hK5 wK5 => (aR (sQ rfl (sp_lss rfl iL iL) (aZ (hK5 _ ?_))))
 refine aS fun K6 hK6 wK6 => ?_
 refine aC rfl (fun hc1 => ?_) (fun hc1 => ?_)
 ·have h3 := ite_t hc1 h2
  refine AW.skip ?_
  refine hK6 _ ?_
  refine aS fun K7 hK7 wK7 => (AW.block (aS fun K8 hK8 wK8 => (aR (sM rfl rfl (sA rfl rfl (aZ (hK8 _ ?_)))))))
  refine aS fun K9 hK9 wK9 => (aR (sM rfl rfl (sQ rfl (sp_eql rfl iL iL) (sM rfl rfl (sV rfl rfl rfl (sp_move rfl iL) (sV rfl rfl rfl (sp_move rfl iL) (ob1k h3 fun x4 ex4 h4 => (sV rfl rfl rfl (ms_idx rfl tg_28.slice (iR rfl) (iR rfl) (fun _ => rfl) (gdt ex4)) (sV rfl rfl rfl (sp_fieldAddr_ro rfl tf_178_2 (iR rfl)) (sV rfl rfl rfl (ms_load (d := .str x4.Text) rfl ts_9 (iR rfl) rfl) (sV rfl rfl rfl (sp_sneq rfl (iR rfl) iL) (sV rfl rfl rfl (sp_move rfl (iR rfl)) ?_))))))))))))
  refine sW (.two rfl rfl rfl) rfl (sp_move rfl iL) ?_
  refine sW (.two rfl rfl rfl) rfl (sp_move rfl iL) ?_
  refine sW (.two rfl rfl rfl) rfl (ms_idx rfl tg_28.slice (iR rfl) (iR rfl) (fun _ => rfl) (fun h => gdt ex4 (Bool.and_eq_true_iff.1 h).1)) ?_
  refine sW (.two rfl rfl rfl) rfl (sp_fieldAddr_ro rfl tf_178_4 (iR rfl)) ?_
  refine sW (.two rfl rfl rfl) rfl (ms_load (d := .sl (x4.Attrs.map GAttr.row)) rfl ts_26 (iR rfl) rfl) ?_
  refine sW (.two rfl rfl rfl) rfl (ms_len rfl tg_26.slice (iR rfl)) ?_
  refine sW (.two rfl rfl rfl) rfl (sp_gtr rfl (iR rfl) iL) ?_
  refine sV rfl rfl rfl (sp_or rfl (iR rfl) (iR rfl)) (sQ rfl (sp_and rfl iL (iR rfl)) (sM rfl rfl (sV rfl rfl rfl (sp_move rfl iL) (sV rfl rfl rfl (sp_eql rfl (iR rfl) iL) (sV rfl rfl rfl (sp_move rfl (iR rfl)) ?_)))))
  refine sW (.two rfl rfl rfl) rfl (sp_move rfl iL) ?_
  refine sW (.two rfl rfl rfl) rfl (sp_move rfl iL) ?_
  refine ob1k h4 fun x5 ex5 h5 => ?_
  refine sW (.two rfl rfl rfl) rfl (ms_idx rfl tg_28.slice (iR rfl) (iR rfl) (fun _ => rfl) (gdt ex5)) ?_
  refine sW (.two rfl rfl rfl) rfl (sp_fieldAddr_ro rfl tf_178_3 (iR rfl)) ?_
  refine sW (.two rfl rfl rfl) rfl (ms_load (d := .int .i64 x5.Ref) rfl ts_3 (iR rfl) rfl) ?_
  refine sW (.two rfl rfl rfl) rfl (sp_neq rfl (iR rfl) iL) ?_
  refine sV rfl rfl rfl (sp_and rfl (iR rfl) (iR rfl)) (sQ rfl (sp_or rfl iL (iR rfl)) (aZ (hK9 _ ?_)))
  refine aC rfl (fun hc2 => ?_) (fun hc2 => ?_)
  ·have h6 := ite_t hc2 h5
   refine aS fun K10 hK10 wK10 => ?_
   refine AW.weak (s' := ⟨[], [], (i3 0), 43⟩) (by exact Weak.cv trivial trivial nL) ?_
   refine aR (sA rfl rfl (aZ (hK10 _ ?_)))
   refine AW.ret ?_
   exact retf1 (P := prog) (fun (r : Int) => rI (r)) (he1 _ (hx1 _ (Option.some.inj h6).symm)) iL (.t (.d rfl))
  ·have h6 := ite_f hc2 h5
   refine AW.skip ?_
   refine hK7 _ ?_
   refine AW.weak (s' := ⟨[(0, rI (kind1)), (1, qc l1), (7, rI ((l1.length : Int))), (8, rI (x2))], [], (i3 0), 43⟩) (by exact Weak.cv ⟨jL, jL, jL, jL, trivial⟩ trivial nL) ?_
   refine aR (ob1k h6 fun x6 ex6 h7 => (sQ rfl (ms_add rfl iL iL (fun _ => ex6)) (sM rfl rfl ?_)))
   refine AOps.nil ?_
   exact NextQ1.mk h7 (vec [(i3 0)]) ((by exact Weak.cv ⟨jL, jL, jL, jL, trivial⟩ trivial nL))
 ·have h3 := ite_f hc1 h2
  refine AW.exit ?_
  exact wK2 _ _ ((by exact Weak.cv trivial trivial nL)) (J1 _ (vec [(i3 0)]) (hx1 _ (Option.some.inj h3).symm))
theorem w_ref_Place {s1 : List UInt8} {r : Bool} (h : ref_Place s1 = some r) : ARO prog 99 [.r (.str s1)] (rB (r)) := by
 unfold ref_Place at h
 refine ARO.mkF func99 rfl rfl ntmps99 rfl (Nat.le_of_ble_eq_true rfl) fun n0 => ?_
 refine aS fun K1 hK1 wK1 => (aR (sA rfl rfl (aZ (hK1 _ ?_))))
 refine aS fun K2 hK2 wK2 => (aS fun K3 hK3 wK3 => (aR (sM rfl rfl (sQ rfl (sp_len_str rfl underlying9 iL) (sM rfl rfl (aZ (hK3 _ ?_)))))))
 refine AW.block ?_
 refine jc1k h fun o1 hit1 hk1 he1 => ?_
 have J1 : ∀ (u2 : Unit) (i5 : Nat → Nat), o1 = .nrm u2 → K2 ⟨[(0, .r (.str s1))], [], (i5 0), 36⟩ := by
  intro u2 i5 e
  have h1 := hk1 _ e
  refine hK2 _ ?_
  refine aS fun K4 hK4 wK4 => (aR (sM rfl rfl (sQ rfl (sp_len_str rfl underlying9 iL) (sQ rfl (sp_geq rfl iL iL) (sM rfl rfl (sV rfl rfl rfl (sp_move rfl iL) (sV rfl rfl rfl (sp_len_str rfl underlying9 (iR rfl)) (sV rfl rfl rfl (sp_leq rfl (iR rfl) iL) (sQ rfl (sp_and rfl iL (iR rfl)) (sM rfl rfl (sV rfl rfl rfl (sp_move rfl iL) (sV rfl rfl rfl (sp_move rfl iL) (sV rfl rfl rfl (sp_len_str rfl underlying9 (iR rfl)) (ob1k h1 fun x4 ex4 h2 => (sV rfl rfl rfl (ms_sub rfl (iR rfl) iL (gdt ex4)) (ob1k h2 fun ch1 ech1 h3 => (sV rfl rfl rfl (ms_idx_str rfl underlying9 (iR rfl) (iR rfl) (gdt ech1)) (sV rfl rfl rfl (sp_neq rfl (iR rfl) iL) (sQ rfl (sp_and rfl iL (iR rfl)) (sA rfl rfl (aZ (hK4 _ ?_))))))))))))))))))))))
  refine AW.ret ?_
  exact retf1 (P := prog) (fun (r : Bool) => rB (r)) h3 iL (.t (.d rfl))
 refine AW.iter1 (fun (x2 : Int) i3 => ⟨[(0, .r (.str s1)), (5, rI ((s1.length : Int))), (6, rI (x2))], [], (i3 0), 36⟩) (vec [n0]) hit1 ((by exact Weak.cv ⟨jL, jL, jL, trivial⟩ trivial nL)) ?_
 intro x2 i3 v1 hv1 hx1
 have h4 : ref_Place_L1 s1 x2 = some v1 := hv1; unfold ref_Place_L1 at h4
 refine aS fun K5 hK5 wK5 => (aR (sQ rfl (sp_lss rfl iL iL) (aZ (hK5 _ ?_))))
 refine aS fun K6 hK6 wK6 => ?_
 refine aC rfl (fun hc1 => ?_) (fun hc1 => ?_)
 ·have h5 := ite_t hc1 h4
  refine AW.skip ?_
  refine hK6 _ ?_
  refine aS fun K7 hK7 wK7 => (AW.block (aS fun K8 hK8 wK8 => (aR (sM rfl rfl (sA rfl rfl (aZ (hK8 _ ?_)))))))
  refine aS fun K9 hK9 wK9 => (aR (sM rfl rfl (sM rfl rfl (ob1k h5 fun ch2 ech2 h6 => (sQ rfl (ms_idx_str rfl underlying9 iL iL (fun _ => ech2)) (sQ rfl (sp_lss rfl iL iL) (sM rfl rfl (sV rfl rfl rfl (sp_move rfl iL) (sV rfl rfl rfl (sp_move rfl iL) (sV rfl rfl rfl (ms_idx_str rfl underlying9 (iR rfl) (iR rfl) (fun _ => ech2)) (sV rfl rfl rfl (sp_gtr rfl (iR rfl) iL) (sQ rfl (sp_or rfl iL (iR rfl)) (aZ (hK9 _ ?_))))))))))))))
  refine aC rfl (fun hc2 => ?_) (fun hc2 => ?_)
  ·have h7 := ite_t hc2 h6
   refine aS fun K10 hK10 wK10 => ?_
   refine AW.weak (s' := ⟨[], [], (i3 0), 36⟩) (by exact Weak.cv trivial trivial nL) ?_
   refine aR (sA rfl rfl (aZ (hK10 _ ?_)))
   refine AW.ret ?_
   exact retf1 (P := prog) (fun (r : Bool) => rB (r)) (he1 _ (hx1 _ (Option.some.inj h7).symm)) iL (.t (.d rfl))
  ·have h7 := ite_f hc2 h6
   refine AW.skip ?_
   refine hK7 _ ?_
   refine AW.weak (s' := ⟨[(0, .r (.str s1)), (5, rI ((s1.length : Int))), (6, rI (x2))], [], (i3 0), 36⟩) (by exact Weak.cv ⟨jL, jL, jL, trivial⟩ trivial nL) ?_
   refine aR (ob1k h7 fun x5 ex5 h8 => (sQ rfl (ms_add rfl iL iL (fun _ => ex5)) (sM rfl rfl ?_)))
   refine AOps.nil ?_
   exact NextQ1.mk h8 (vec [(i3 0)]) ((by exact Weak.cv ⟨jL, jL, jL, trivial⟩ trivial nL))
 ·have h5 := ite_f hc1 h4
  refine AW.exit ?_
  exact wK2 _ _ ((by exact Weak.cv ⟨jL, trivial⟩ trivial nL)) (J1 _ (vec [(i3 0)]) (hx1 _ (Option.some.inj h5).symm))
theorem w_ref_Earlier {a1 : GDrawOp} {b1 : GDrawOp} {r : Bool} (h : ref_Earlier a1 b1 = some r) : ARO prog 100 [.agg [rI (a1.Clock), rI (a1.Site), rI (a1.Kind), rI (a1.Item), rI (a1.Parent), .r (.str a1.Place), .r (.str a1.Name), .r (.str a1.Value)], .agg [rI (b1.Clock), rI (b1.Site), rI (b1.Kind), rI (b1.Item), rI (b1.Parent), .r (.str b1.Place), .r (.str b1.Name), .r (.str b1.Value)]] (rB (r)) := by
 unfold ref_Earlier at h
 refine ARO.mkF func100 rfl rfl ntmps100 rfl (Nat.le_of_ble_eq_true rfl) fun n0 => ?_
 refine aS fun K1 hK1 wK1 => (aR (AOps.step rfl rfl rfl (ms_box (cs := [rI (a1.Clock), rI (a1.Site), rI (a1.Kind), rI (a1.Item), rI (a1.Parent), .r (.str a1.Place), .r (.str a1.Name), .r (.str a1.Value)]) 2 rfl iL rfl rfl) (AOps.step rfl rfl rfl (ms_box (cs := [rI (b1.Clock), rI (b1.Site), rI (b1.Kind), rI (b1.Item), rI (b1.Parent), .r (.str b1.Place), .r (.str b1.Name), .r (.str b1.Value)]) 3 rfl iL rfl rfl) (sA rfl rfl (aZ (hK1 _ ?_))))))
 refine aS fun K2 hK2 wK2 => (aR (sQ rfl (fB rfl tf_140_0 iL fR rfl) (sQ rfl (ms_load_box (a := rI (a1.Clock)) rfl ts_3 iL rfl rfl) (sQ rfl (fB rfl tf_140_0 iL fR rfl) (sQ rfl (ms_load_box (a := rI (b1.Clock)) rfl ts_3 iL rfl rfl) (sQ rfl (sp_lss rfl iL iL) (sM rfl rfl (sV rfl rfl rfl (fB rfl tf_140_0 iL fR rfl) (sV rfl rfl rfl (ms_load_box (a := rI (a1.Clock)) rfl ts_3 (iR rfl) rfl rfl) (sV rfl rfl rfl (fB rfl tf_140_0 iL fR rfl) (sV rfl rfl rfl (ms_load_box (a := rI (b1.Clock)) rfl ts_3 (iR rfl) rfl rfl) (sV rfl rfl rfl (sp_eql rfl (iR rfl) (iR rfl)) (sV rfl rfl rfl (sp_move rfl (iR rfl)) ?_)))))))))))))
 refine sW (.two rfl rfl rfl) rfl (fB rfl tf_140_1 iL fR rfl) ?_
 refine sW (.two rfl rfl rfl) rfl (ms_load_box (a := rI (a1.Site)) rfl ts_3 (iR rfl) rfl rfl) ?_
 refine sW (.two rfl rfl rfl) rfl (fB rfl tf_140_1 iL fR rfl) ?_
 refine sW (.two rfl rfl rfl) rfl (ms_load_box (a := rI (b1.Site)) rfl ts_3 (iR rfl) rfl rfl) ?_
 refine sW (.two rfl rfl rfl) rfl (sp_lss rfl (iR rfl) (iR rfl)) ?_
 refine sV rfl rfl rfl (sp_and rfl (iR rfl) (iR rfl)) (sQ rfl (sp_or rfl iL (iR rfl)) (sA rfl rfl (aZ (hK2 _ ?_))))
 refine AW.ret ?_
 exact retf1 (P := prog) (fun (r : Bool) => rB (r)) h iL (.t (.d rfl))
theorem w_ref_DrawError {l1 : List GDrawOp} {r : Int} (h : ref_DrawError l1 = some r) : ARO prog 42 [qe l1] (rI (r)) := by
 unfold ref_DrawError at h
 refine ARO.mkF func42 rfl rfl ntmps42 rfl (Nat.le_of_ble_eq_true rfl) fun n0 => ?_
 refine aS fun K1 hK1 wK1 => (aR (sA rfl rfl (aZ (hK1 _ ?_))))
 refine aS fun K2 hK2 wK2 => (aS fun K3 hK3 wK3 => (aR (sM rfl rfl (sQ rfl (ms_len rfl tg_32.slice iL) (sM rfl rfl (aZ (hK3 _ ?_)))))))
 refine AW.block ?_
 refine jc1k h fun o1 hit1 hk1 he1 => ?_
 have J1 : ∀ (u2 : Unit) (i5 : Nat → Nat), o1 = .nrm u2 → K2 ⟨[], [], (i5 0), 91⟩ := by
  intro u2 i5 e
  have h1 := hk1 _ e
  refine hK2 _ ?_
  refine aS fun K4 hK4 wK4 => (aR (sA rfl rfl (aZ (hK4 _ ?_))))
  refine AW.ret ?_
  exact retf1 (P := prog) (fun (r : Int) => rI (r)) h1 iL (.t (.d rfl))
 refine AW.iter1 (fun (x2 : Int) i3 => ⟨[(0, qe l1), (6, rI ((l1.length : Int))), (7, rI (x2))], [], (i3 0), 91⟩) (vec [n0]) hit1 ((by exact Weak.cv ⟨jL, jL, jL, trivial⟩ trivial nL)) ?_
 intro x2 i3 v1 hv1 hx1
 have h2 : ref_DrawError_L1 l1 x2 = some v1 := hv1; unfold ref_DrawError_L1 at h2
 refine aS fun K5 hK5 wK5 => (aR (sQ rfl (sp_lss rfl iL iL) (aZ (hK5 _ ?_))))
 refine aS fun K6 hK6 wK6 => ?_
 refine aC rfl (fun hc1 => ?_) (fun hc1 => ?_)
 ·have h3 := ite_t hc1 h2
  refine AW.skip ?_
  refine hK6 _ ?_
  refine aS fun K7 hK7 wK7 => (AW.block (aS fun K8 hK8 wK8 => (aR (sM rfl rfl (sA rfl rfl (aZ (hK8 _ ?_)))))))
  refine aS fun K9 hK9 wK9 => (aR (sM rfl rfl (sM rfl rfl (ob1k h3 fun x4 ex4 h4 => (sQ rfl (ms_idx rfl tg_32.slice iL iL (fun _ => rfl) (fun _ => ex4)) (sQ rfl (ms_loadA (cs := [rI (x4.Clock), rI (x4.Site), rI (x4.Kind), rI (x4.Item), rI (x4.Parent), .r (.str x4.Place), .r (.str x4.Name), .r (.str x4.Value)]) rfl ta_140 iL rfl rfl) (AOps.step rfl rfl rfl (ms_alloc (cs := [rI (0), rI (0), rI (0), rI (0), rI (0), .r (.str []), .r (.str []), .r (.str [])]) 4 rfl t0_140 rfl rfl) (AOps.step0 rfl rfl (ms_store_box (ds := [rI (x4.Clock), rI (x4.Site), rI (x4.Kind), rI (x4.Item), rI (x4.Parent), .r (.str x4.Place), .r (.str x4.Name), .r (.str x4.Value)]) rfl tz_140 iL rfl iL rfl rfl rfl rfl) (aZ (hK9 _ ?_))))))))))
  refine aS fun K10 hK10 wK10 => (aS fun K11 hK11 wK11 => (aR (sQ rfl (fB rfl tf_140_2 iL fR rfl) (sQ rfl (ms_load_box (a := rI (x4.Kind)) rfl ts_3 iL rfl rfl) (sQ rfl (sp_neq rfl iL iL) (sM rfl rfl (sV rfl rfl rfl (fB rfl tf_140_2 iL fR rfl) (sV rfl rfl rfl (ms_load_box (a := rI (x4.Kind)) rfl ts_3 (iR rfl) rfl rfl) (sV rfl rfl rfl (sp_neq rfl (iR rfl) iL) (sQ rfl (sp_and rfl iL (iR rfl)) (aZ (hK11 _ ?_))))))))))))
  refine aC rfl (fun hc2 => ?_) (fun hc2 => ?_)
  ·have h5 := ite_t hc2 h4
   refine aS fun K12 hK12 wK12 => ?_
   refine AW.weak (s' := ⟨[], [], ((i3 0) + 1), 91⟩) (by exact Weak.cv trivial trivial nL) ?_
   refine aR (sA rfl rfl (aZ (hK12 _ ?_)))
   refine AW.ret ?_
   exact retf1 (P := prog) (fun (r : Int) => rI (r)) (he1 _ (hx1 _ (Option.some.inj h5).symm)) iL (.t (.d rfl))
  ·have h5 := ite_f hc2 h4
   refine AW.skip ?_
   refine hK10 _ ?_
   refine aS fun K13 hK13 wK13 => (aS fun K14 hK14 wK14 => ?_)
   refine AW.weak (s' := ⟨[(0, qe l1), (3, rI (x2)), (4, .ptr 4 (i3 0) 0 0), (6, rI ((l1.length : Int))), (7, rI (x2))], [(4, some (.box (i3 0) 140 [rI (x4.Clock), rI (x4.Site), rI (x4.Kind), rI (x4.Item), rI (x4.Parent), .r (.str x4.Place), .r (.str x4.Name), .r (.str x4.Value)]))], ((i3 0) + 1), 91⟩) (by exact Weak.cv ⟨jL, jL, jL, jL, jL, trivial⟩ ⟨.inl rfl, trivial⟩ nL) ?_
   refine aR (sQ rfl (fB rfl tf_140_0 iL fR rfl) (sQ rfl (ms_load_box (a := rI (x4.Clock)) rfl ts_3 iL rfl rfl) (ob1k h5 fun r1 er1 h6 => (AOps.step rfl rfl rfl (sp_call (r := rB (r1)) (caps := []) (bs := [rI (x4.Clock), rI (1), rI (1073741824)]) rfl iL rfl ⟨⟨_, iL, .d rfl⟩, ⟨_, iL, .d rfl⟩, ⟨_, iL, .d rfl⟩, trivial⟩ (fun _ => w_ref_In (er1)) rfl) (sQ rfl (sp_not rfl iL) (sM rfl rfl (sV rfl rfl rfl (fB rfl tf_140_1 iL fR rfl) (sV rfl rfl rfl (ms_load_box (a := rI (x4.Site)) rfl ts_3 (iR rfl) rfl rfl) (ob1k h6 fun r2 er2 h7 => ?_)))))))))
   refine AOps.stepW (.one rfl rfl rfl) rfl rfl (sp_call (r := rB (r2)) (caps := []) (bs := [rI (x4.Site), rI (0), rI (1000)]) rfl iL rfl ⟨⟨_, (iR rfl), .d rfl⟩, ⟨_, iL, .d rfl⟩, ⟨_, iL, .d rfl⟩, trivial⟩ (fun hg => w_ref_In (gdt er2 hg)) rfl) ?_
   refine sV rfl rfl rfl (sp_not rfl (iR rfl)) (sQ rfl (sp_or rfl iL (iR rfl)) (sM rfl rfl (sV rfl rfl rfl (fB rfl tf_140_3 iL fR rfl) (sV rfl rfl rfl (ms_load_box (a := rI (x4.Item)) rfl ts_3 (iR rfl) rfl rfl) (ob1k h7 fun r3 er3 h8 => ?_)))))
   refine AOps.stepW (.one rfl rfl rfl) rfl rfl (sp_call (r := rB (r3)) (caps := []) (bs := [rI (x4.Item), rI (1), rI (1073741824)]) rfl iL rfl ⟨⟨_, (iR rfl), .d rfl⟩, ⟨_, iL, .d rfl⟩, ⟨_, iL, .d rfl⟩, trivial⟩ (fun hg => w_ref_In (gdt er3 hg)) rfl) ?_
   refine sV rfl rfl rfl (sp_not rfl (iR rfl)) (sQ rfl (sp_or rfl iL (iR rfl)) (aZ (hK14 _ ?_)))
   refine aC rfl (fun hc3 => ?_) (fun hc3 => ?_)
   ·have h9 := ite_t hc3 h8
    refine aS fun K15 hK15 wK15 => ?_
    refine AW.weak (s' := ⟨[], [], ((i3 0) + 1), 91⟩) (by exact Weak.cv trivial trivial nL) ?_
    refine aR (sA rfl rfl (aZ (hK15 _ ?_)))
    refine AW.ret ?_
    exact retf1 (P := prog) (fun (r : Int) => rI (r)) (he1 _ (hx1 _ (Option.some.inj h9).symm)) iL (.t (.d rfl))
   ·have h9 := ite_f hc3 h8
    refine AW.skip ?_
    refine hK13 _ ?_
    refine aS fun K16 hK16 wK16 => (aS fun K17 hK17 wK17 => (aR (sQ rfl (fB rfl tf_140_2 iL fR rfl) (sQ rfl (ms_load_box (a := rI (x4.Kind)) rfl ts_3 iL rfl rfl) (sQ rfl (sp_eql rfl iL iL) (aZ (hK17 _ ?_)))))))
    refine jc1k h9 fun p1 hp1 hk2 he2 => ?_
    have J2 : ∀ (u3 : Unit) (i6 : Nat → Nat), p1 = .nrm u3 → K16 ⟨[(0, qe l1), (3, rI (x2)), (4, .ptr 4 (i3 0) 0 0), (6, rI ((l1.length : Int))), (7, rI (x2))], [(4, some (.box (i3 0) 140 [rI (x4.Clock), rI (x4.Site), rI (x4.Kind), rI (x4.Item), rI (x4.Parent), .r (.str x4.Place), .r (.str x4.Name), .r (.str x4.Value)]))], (i6 0), 91⟩ := by
     intro u3 i6 e
     have h10 := hk2 _ e
     refine hK16 _ ?_
     refine aS fun K18 hK18 wK18 => ?_
     refine AW.regionQ hmix (by kernel_rfl) ?_
     refine AQ.step rfl rfl rfl (sp_move rfl iL) (AQ.step rfl rfl rfl (sp_gtr rfl iL iL) (AQ.step rfl rfl rfl (sp_move rfl iL) ?_))
     refine AQ.stepW (.one rfl rfl rfl) rfl rfl (sp_move rfl iL) ?_
     refine AQ.stepW (.one rfl rfl rfl) rfl rfl (sp_move rfl iL) ?_
     refine ob1k h10 fun x5 ex5 h11 => ?_
     refine AQ.stepW (.one rfl rfl rfl) rfl rfl (ms_sub rfl (iR rfl) iL (gdt ex5)) ?_
     refine ob1k h11 fun x6 ex6 h12 => ?_
     refine AQ.stepW (.one rfl rfl rfl) rfl rfl (ms_idx rfl tg_32.slice (iR rfl) (iR rfl) (fun _ => rfl) (gdt ex6)) ?_
     refine AQ.stepW (.one rfl rfl rfl) rfl rfl (ms_loadA (cs := [rI (x6.Clock), rI (x6.Site), rI (x6.Kind), rI (x6.Item), rI (x6.Parent), .r (.str x6.Place), .r (.str x6.Name), .r (.str x6.Value)]) rfl ta_140 (iR rfl) rfl rfl) ?_
     refine AQ.stepW (.one rfl rfl rfl) rfl rfl (ms_loadA_box rfl ta_140 iL rfl rfl) ?_
     refine ob1k h12 fun r4 er4 h13 => ?_
     refine AQ.stepWC (.one rfl rfl rfl) rfl rfl (r := rB (r4)) (caps := []) (bs := [.agg [rI (x6.Clock), rI (x6.Site), rI (x6.Kind), rI (x6.Item), rI (x6.Parent), .r (.str x6.Place), .r (.str x6.Name), .r (.str x6.Value)], .agg [rI (x4.Clock), rI (x4.Site), rI (x4.Kind), rI (x4.Item), rI (x4.Parent), .r (.str x4.Place), .r (.str x4.Name), .r (.str x4.Value)]]) rfl iL rfl ⟨⟨_, (iR rfl), .g (cs := [.int .i64 x6.Clock, .int .i64 x6.Site, .int .i64 x6.Kind, .int .i64 x6.Item, .int .i64 x6.Parent, .str x6.Place, .str x6.Name, .str x6.Value]) rfl rfl⟩, ⟨_, (iR rfl), .g (cs := [.int .i64 x4.Clock, .int .i64 x4.Site, .int .i64 x4.Kind, .int .i64 x4.Item, .int .i64 x4.Parent, .str x4.Place, .str x4.Name, .str x4.Value]) rfl rfl⟩, trivial⟩ (fun hg => w_ref_Earlier (gdt er4 hg)) rfl ?_
     refine AQ.stepW (.one rfl rfl rfl) rfl rfl (sp_not rfl (iR rfl)) ?_
     refine AQ.step rfl rfl rfl (sp_and rfl iL (iR rfl)) ?_
     refine AQ.nil ?_
     refine hK18 _ ?_
     refine aC rfl (fun hc4 => ?_) (fun hc4 => ?_)
     ·have h14 := ite_t hc4 h13
      refine aS fun K19 hK19 wK19 => ?_
      refine AW.weak (s' := ⟨[], [], (i6 0), 91⟩) (by exact Weak.cv trivial trivial nL) ?_
      refine aR (sA rfl rfl (aZ (hK19 _ ?_)))
      refine AW.ret ?_
      exact retf1 (P := prog) (fun (r : Int) => rI (r)) (he1 _ (hx1 _ (Option.some.inj h14).symm)) iL (.t (.d rfl))
     ·have h14 := ite_f hc4 h13
      refine AW.skip ?_
      refine hK7 _ ?_
      refine aR (ob1k h14 fun x7 ex7 h15 => (sQ rfl (ms_add rfl iL iL (fun _ => ex7)) (sM rfl rfl ?_)))
      refine AOps.nil ?_
      exact NextQ1.mk h15 (vec [(i6 0)]) ((by exact Weak.cv ⟨jL, jL, jL, trivial⟩ trivial nL))
    refine aC rfl (fun hc5 => ?_) (fun hc5 => ?_)
    ·have h16 := ite_t hc5 hp1
     refine aS fun K20 hK20 wK20 => (aS fun K21 hK21 wK21 => ?_)
     refine AW.weak (s' := ⟨[(0, qe l1), (3, rI (x2)), (4, .ptr 4 (i3 0) 0 0), (6, rI ((l1.length : Int))), (7, rI (x2))], [(4, some (.box (i3 0) 140 [rI (x4.Clock), rI (x4.Site), rI (x4.Kind), rI (x4.Item), rI (x4.Parent), .r (.str x4.Place), .r (.str x4.Name), .r (.str x4.Value)]))], ((i3 0) + 1), 91⟩) (by exact Weak.cv ⟨jL, jL, jL, jL, jL, trivial⟩ ⟨.inl rfl, trivial⟩ nL) ?_
     refine aR (sQ rfl (fB rfl tf_140_6 iL fR rfl) (sQ rfl (ms_load_box (a := .r (.str x4.Name)) rfl ts_9 iL rfl rfl) (sQ rfl (sp_sneq rfl iL iL) (sM rfl rfl (sV rfl rfl rfl (fB rfl tf_140_7 iL fR rfl) (sV rfl rfl rfl (ms_load_box (a := .r (.str x4.Value)) rfl ts_9 (iR rfl) rfl rfl) (sV rfl rfl rfl (sp_sneq rfl (iR rfl) iL) (sQ rfl (sp_or rfl iL (iR rfl)) (aZ (hK21 _ ?_))))))))))
     refine aC rfl (fun hc6 => ?_) (fun hc6 => ?_)
     ·have h17 := ite_t hc6 h16
      refine aS fun K22 hK22 wK22 => ?_
      refine AW.weak (s' := ⟨[], [], ((i3 0) + 1), 91⟩) (by exact Weak.cv trivial trivial nL) ?_
      refine aR (sA rfl rfl (aZ (hK22 _ ?_)))
      refine AW.ret ?_
      exact retf1 (P := prog) (fun (r : Int) => rI (r)) (he1 _ (hx1 _ (Option.some.inj (he2 _ (Option.some.inj h17).symm)).symm)) iL (.t (.d rfl))
     ·have h17 := ite_f hc6 h16
      refine AW.skip ?_
      refine hK20 _ ?_
      refine aS fun K23 hK23 wK23 => (aS fun K24 hK24 wK24 => (aR (sQ rfl (fB rfl tf_140_4 iL fR rfl) (sQ rfl (ms_load_box (a := rI (x4.Parent)) rfl ts_3 iL rfl rfl) (ob1k h17 fun r5 er5 h18 => (AOps.step rfl rfl rfl (sp_call (r := rB (r5)) (caps := []) (bs := [rI (x4.Parent), rI ((-1)), rI (1073741824)]) rfl iL rfl ⟨⟨_, iL, .d rfl⟩, ⟨_, iL, .d rfl⟩, ⟨_, iL, .d rfl⟩, trivial⟩ (fun _ => w_ref_In (er5)) rfl) (sQ rfl (sp_not rfl iL) (aZ (hK24 _ ?_)))))))))
      refine aC rfl (fun hc7 => ?_) (fun hc7 => ?_)
      ·have h19 := ite_t hc7 h18
       refine aS fun K25 hK25 wK25 => ?_
       refine AW.weak (s' := ⟨[], [], ((i3 0) + 1), 91⟩) (by exact Weak.cv trivial trivial nL) ?_
       refine aR (sA rfl rfl (aZ (hK25 _ ?_)))
       refine AW.ret ?_
       exact retf1 (P := prog) (fun (r : Int) => rI (r)) (he1 _ (hx1 _ (Option.some.inj (he2 _ (Option.some.inj h19).symm)).symm)) iL (.t (.d rfl))
      ·have h19 := ite_f hc7 h18
       refine AW.skip ?_
       refine hK23 _ ?_
       refine aS fun K26 hK26 wK26 => ?_
       refine AW.weak (s' := ⟨[(0, qe l1), (3, rI (x2)), (4, .ptr 4 (i3 0) 0 0), (6, rI ((l1.length : Int))), (7, rI (x2))], [(4, some (.box (i3 0) 140 [rI (x4.Clock), rI (x4.Site), rI (x4.Kind), rI (x4.Item), rI (x4.Parent), .r (.str x4.Place), .r (.str x4.Name), .r (.str x4.Value)]))], ((i3 0) + 1), 91⟩) (by exact Weak.cv ⟨jL, jL, jL, jL, jL, trivial⟩ ⟨.inl rfl, trivial⟩ nL) ?_
       refine aR (sQ rfl (fB rfl tf_140_5 iL fR rfl) (sQ rfl (ms_load_box (a := .r (.str x4.Place)) rfl ts_9 iL rfl rfl) (ob1k h19 fun r6 er6 h20 => (AOps.step rfl rfl rfl (sp_call (r := rB (r6)) (caps := []) (bs := [.r (.str x4.Place)]) rfl iL rfl ⟨⟨_, iL, .d rfl⟩, trivial⟩ (fun _ => w_ref_Place (er6)) rfl) (sQ rfl (sp_not rfl iL) (aZ (hK26 _ ?_)))))))
       refine aC rfl (fun hc8 => ?_) (fun hc8 => ?_)
       ·have h21 := ite_t hc8 h20
        refine aS fun K27 hK27 wK27 => ?_
        refine AW.weak (s' := ⟨[], [], ((i3 0) + 1), 91⟩) (by exact Weak.cv trivial trivial nL) ?_
        refine aR (sA rfl rfl (aZ (hK27 _ ?_)))
        refine AW.ret ?_
        exact retf1 (P := prog) (fun (r : Int) => rI (r)) (he1 _ (hx1 _ (Option.some.inj (he2 _ (Option.some.inj h21).symm)).symm)) iL (.t (.d rfl))
       ·have h21 := ite_f hc8 h20
        refine AW.skip ?_
        exact wK16 _ _ ((by exact Weak.cv ⟨jL, jL, jL, jL, jL, trivial⟩ ⟨.inl rfl, trivial⟩ nL)) (J2 _ (vec [((i3 0) + 1)]) (Option.some.inj h21).symm)
    ·have h16 := ite_f hc5 hp1
     refine aS fun K28 hK28 wK28 => (aS fun K29 hK29 wK29 => ?_)
     refine AW.weak (s' := ⟨[(0, qe l1), (3, rI (x2)), (4, .ptr 4 (i3 0) 0 0), (6, rI ((l1.length : Int))), (7, rI (x2))], [(4, some (.box (i3 0) 140 [rI (x4.Clock), rI (x4.Site), rI (x4.Kind), rI (x4.Item), rI (x4.Parent), .r (.str x4.Place), .r (.str x4.Name), .r (.str x4.Value)]))], ((i3 0) + 1), 91⟩) (by exact Weak.cv ⟨jL, jL, jL, jL, jL, trivial⟩ ⟨.inl rfl, trivial⟩ nL) ?_
     refine aR (sQ rfl (fB rfl tf_140_4 iL fR rfl) (sQ rfl (ms_load_box (a := rI (x4.Parent)) rfl ts_3 iL rfl rfl) (sQ rfl (sp_neq rfl iL iL) (sM rfl rfl (sV rfl rfl rfl (fB rfl tf_140_5 iL fR rfl) (sV rfl rfl rfl (ms_load_box (a := .r (.str x4.Place)) rfl ts_9 (iR rfl) rfl rfl) (sV rfl rfl rfl (sp_sneq rfl (iR rfl) iL) (sQ rfl (sp_or rfl iL (iR rfl)) (aZ (hK29 _ ?_))))))))))
     refine aC rfl (fun hc9 => ?_) (fun hc9 => ?_)
     ·have h22 := ite_t hc9 h16
      refine aS fun K30 hK30 wK30 => ?_
      refine AW.weak (s' := ⟨[], [], ((i3 0) + 1), 91⟩) (by exact Weak.cv trivial trivial nL) ?_
      refine aR (sA rfl rfl (aZ (hK30 _ ?_)))
      refine AW.ret ?_
      exact retf1 (P := prog) (fun (r : Int) => rI (r)) (he1 _ (hx1 _ (Option.some.inj (he2 _ (Option.some.inj h22).symm)).symm)) iL (.t (.d rfl))
     ·have h22 := ite_f hc9 h16
      refine AW.skip ?_
      refine hK28 _ ?_
      refine aS fun K31 hK31 wK31 => (aS fun K32 hK32 wK32 => (aR (sQ rfl (fB rfl tf_140_6 iL fR rfl) (sQ rfl (ms_load_box (a := .r (.str x4.Name)) rfl ts_9 iL rfl rfl) (ob1k h22 fun r7 er7 h23 => (AOps.step rfl rfl rfl (sp_call (r := rB (r7)) (caps := []) (bs := [.r (.str x4.Name)]) rfl iL rfl ⟨⟨_, iL, .d rfl⟩, trivial⟩ (fun _ => w_ref_Name (er7)) rfl) (sQ rfl (sp_not rfl iL) (aZ (hK32 _ ?_)))))))))
      refine aC rfl (fun hc10 => ?_) (fun hc10 => ?_)
      ·have h24 := ite_t hc10 h23
       refine aS fun K33 hK33 wK33 => ?_
       refine AW.weak (s' := ⟨[], [], ((i3 0) + 1), 91⟩) (by exact Weak.cv trivial trivial nL) ?_
       refine aR (sA rfl rfl (aZ (hK33 _ ?_)))
       refine AW.ret ?_
       exact retf1 (P := prog) (fun (r : Int) => rI (r)) (he1 _ (hx1 _ (Option.some.inj (he2 _ (Option.some.inj h24).symm)).symm)) iL (.t (.d rfl))
      ·have h24 := ite_f hc10 h23
       refine AW.skip ?_
       refine hK31 _ ?_
       refine aS fun K34 hK34 wK34 => ?_
       refine AW.weak (s' := ⟨[(0, qe l1), (3, rI (x2)), (4, .ptr 4 (i3 0) 0 0), (6, rI ((l1.length : Int))), (7, rI (x2))], [(4, some (.box (i3 0) 140 [rI (x4.Clock), rI (x4.Site), rI (x4.Kind), rI (x4.Item), rI (x4.Parent), .r (.str x4.Place), .r (.str x4.Name), .r (.str x4.Value)]))], ((i3 0) + 1), 91⟩) (by exact Weak.cv ⟨jL, jL, jL, jL, jL, trivial⟩ ⟨.inl rfl, trivial⟩ nL) ?_
       refine aR (sQ rfl (fB rfl tf_140_7 iL fR rfl) (sQ rfl (ms_load_box (a := .r (.str x4.Value)) rfl ts_9 iL rfl rfl) (sQ rfl (sp_sneq rfl iL iL) (sM rfl rfl (sV rfl rfl rfl (fB rfl tf_140_7 iL fR rfl) (sV rfl rfl rfl (ms_load_box (a := .r (.str x4.Value)) rfl ts_9 (iR rfl) rfl rfl) (ob1k h24 fun r8 er8 h25 => ?_)))))))
       refine AOps.stepW (.one rfl rfl rfl) rfl rfl (sp_call (r := rB (r8)) (caps := []) (bs := [.r (.str x4.Value)]) rfl iL rfl ⟨⟨_, (iR rfl), .d rfl⟩, trivial⟩ (fun hg => w_ref_Value (gdt er8 hg)) rfl) ?_
       refine sV rfl rfl rfl (sp_not rfl (iR rfl)) (sQ rfl (sp_and rfl iL (iR rfl)) (aZ (hK34 _ ?_)))
       refine aC rfl (fun hc11 => ?_) (fun hc11 => ?_)
       ·have h26 := ite_t hc11 h25
        refine aS fun K35 hK35 wK35 => ?_
        refine AW.weak (s' := ⟨[], [], ((i3 0) + 1), 91⟩) (by exact Weak.cv trivial trivial nL) ?_
        refine aR (sA rfl rfl (aZ (hK35 _ ?_)))
        refine AW.ret ?_
        exact retf1 (P := prog) (fun (r : Int) => rI (r)) (he1 _ (hx1 _ (Option.some.inj (he2 _ (Option.some.inj h26).symm)).symm)) iL (.t (.d rfl))
       ·have h26 := ite_f hc11 h25
        refine AW.skip ?_
        exact wK16 _ _ ((by exact Weak.cv ⟨jL, jL, jL, jL, jL, trivial⟩ ⟨.inl rfl, trivial⟩ nL)) (J2 _ (vec [((i3 0) + 1)]) (Option.some.inj h26).symm)
 ·have h3 := ite_f hc1 h2
  refine AW.exit ?_
  exact wK2 _ _ ((by exact Weak.cv trivial trivial nL)) (J1 _ (vec [(i3 0)]) (hx1 _ (Option.some.inj h3).symm))
theorem w_ref_NodeError {n1 : GNode} {r : Int} (h : ref_NodeError n1 = some r) : ARO prog 39 [.agg [rI (n1.ID), rI (n1.Kind), qa n1.Attrs, qd n1.Flow, rI (n1.Grid.Rows), rI (n1.Grid.Cols), qc n1.Grid.Cells, qb n1.Grid.Merges, qe n1.Draw]] (rI (r)) := by
 unfold ref_NodeError at h
 refine ARO.mkF func39 rfl rfl ntmps39 rfl (Nat.le_of_ble_eq_true rfl) fun n0 => ?_
 refine aS fun K1 hK1 wK1 => (aR (AOps.step rfl rfl rfl (ms_box (cs := [rI (n1.ID), rI (n1.Kind), qa n1.Attrs, qd n1.Flow, rI (n1.Grid.Rows), rI (n1.Grid.Cols), qc n1.Grid.Cells, qb n1.Grid.Merges, qe n1.Draw]) 1 rfl iL rfl rfl) (sA rfl rfl (aZ (hK1 _ ?_)))))
 refine aS fun K2 hK2 wK2 => (aS fun K3 hK3 wK3 => (aR (sQ rfl (fB rfl tf_34_0 iL fR rfl) (sQ rfl (ms_load_box (a := rI (n1.ID)) rfl ts_3 iL rfl rfl) (ob1k h fun r1 er1 h1 => (AOps.step rfl rfl rfl (sp_call (r := rB (r1)) (caps := []) (bs := [rI (n1.ID), rI (1), rI (1073741824)]) rfl iL rfl ⟨⟨_, iL, .d rfl⟩, ⟨_, iL, .d rfl⟩, ⟨_, iL, .d rfl⟩, trivial⟩ (fun _ => w_ref_In (er1)) rfl) (sQ rfl (sp_not rfl iL) (aZ (hK3 _ ?_)))))))))
 refine aC rfl (fun hc1 => ?_) (fun hc1 => ?_)
 ·have h2 := ite_t hc1 h1
  refine aS fun K4 hK4 wK4 => (aR (sA rfl rfl (aZ (hK4 _ ?_))))
  refine AW.ret ?_
  exact retf1 (P := prog) (fun (r : Int) => rI (r)) h2 iL (.t (.d rfl))
 ·have h2 := ite_f hc1 h1
  refine AW.skip ?_
  refine hK2 _ ?_
  refine aS fun K5 hK5 wK5 => (aS fun K6 hK6 wK6 => (aR (sQ rfl (fB rfl tf_34_1 iL fR rfl) (sQ rfl (ms_load_box (a := rI (n1.Kind)) rfl ts_3 iL rfl rfl) (ob1k h2 fun r2 er2 h3 => (AOps.step rfl rfl rfl (sp_call (r := rB (r2)) (caps := []) (bs := [rI (n1.Kind), rI (0), rI (12)]) rfl iL rfl ⟨⟨_, iL, .d rfl⟩, ⟨_, iL, .d rfl⟩, ⟨_, iL, .d rfl⟩, trivial⟩ (fun _ => w_ref_In (er2)) rfl) (sQ rfl (sp_not rfl iL) (sM rfl rfl (sV rfl rfl rfl (fB rfl tf_34_0 iL fR rfl) (sV rfl rfl rfl (ms_load_box (a := rI (n1.ID)) rfl ts_3 (iR rfl) rfl rfl) (sV rfl rfl rfl (sp_eql rfl (iR rfl) iL) (sV rfl rfl rfl (sp_move rfl (iR rfl)) ?_))))))))))))
  refine sW (.two rfl rfl rfl) rfl (fB rfl tf_34_1 iL fR rfl) ?_
  refine sW (.two rfl rfl rfl) rfl (ms_load_box (a := rI (n1.Kind)) rfl ts_3 (iR rfl) rfl rfl) ?_
  refine sW (.two rfl rfl rfl) rfl (sp_neq rfl (iR rfl) iL) ?_
  refine sV rfl rfl rfl (sp_and rfl (iR rfl) (iR rfl)) (sQ rfl (sp_or rfl iL (iR rfl)) (sM rfl rfl (sV rfl rfl rfl (fB rfl tf_34_0 iL fR rfl) (sV rfl rfl rfl (ms_load_box (a := rI (n1.ID)) rfl ts_3 (iR rfl) rfl rfl) (sV rfl rfl rfl (sp_neq rfl (iR rfl) iL) (sV rfl rfl rfl (sp_move rfl (iR rfl)) ?_))))))
  refine sW (.two rfl rfl rfl) rfl (fB rfl tf_34_1 iL fR rfl) ?_
  refine sW (.two rfl rfl rfl) rfl (ms_load_box (a := rI (n1.Kind)) rfl ts_3 (iR rfl) rfl rfl) ?_
  refine sW (.two rfl rfl rfl) rfl (sp_eql rfl (iR rfl) iL) ?_
  refine sV rfl rfl rfl (sp_and rfl (iR rfl) (iR rfl)) (sQ rfl (sp_or rfl iL (iR rfl)) (aZ (hK6 _ ?_)))
  refine aC rfl (fun hc2 => ?_) (fun hc2 => ?_)
  ·have h4 := ite_t hc2 h3
   refine aS fun K7 hK7 wK7 => ?_
   refine AW.weak (s' := ⟨[], [], (n0 + 1), 105⟩) (by exact Weak.cv trivial trivial nL) ?_
   refine aR (sA rfl rfl (aZ (hK7 _ ?_)))
   refine AW.ret ?_
   exact retf1 (P := prog) (fun (r : Int) => rI (r)) h4 iL (.t (.d rfl))
  ·have h4 := ite_f hc2 h3
   refine AW.skip ?_
   refine hK5 _ ?_
   refine aS fun K8 hK8 wK8 => (aS fun K9 hK9 wK9 => ?_)
   refine AW.weak (s' := ⟨[(1, .ptr 1 n0 0 0)], [(1, some (.box n0 34 [rI (n1.ID), rI (n1.Kind), qa n1.Attrs, qd n1.Flow, rI (n1.Grid.Rows), rI (n1.Grid.Cols), qc n1.Grid.Cells, qb n1.Grid.Merges, qe n1.Draw]))], (n0 + 1), 105⟩) (by exact Weak.cv ⟨jL, trivial⟩ ⟨.inl rfl, trivial⟩ nL) ?_
   refine aR (sQ rfl (fB rfl tf_34_2 iL fR rfl) (sQ rfl (ms_load_box (a := qa n1.Attrs) rfl ts_26 iL rfl rfl) (ob1k h4 fun e1 ee1 h5 => (AOps.step rfl rfl rfl (sp_call (r := rI (e1)) (caps := []) (bs := [qa n1.Attrs, rB (false)]) rfl iL rfl ⟨⟨_, iL, .d rfl⟩, ⟨_, iL, .d rfl⟩, trivial⟩ (fun _ => w_ref_AttrsError (ee1)) rfl) (sA rfl rfl (aZ (hK9 _ ?_)))))))
   refine aS fun K10 hK10 wK10 => (aR (sM rfl rfl (sQ rfl (sp_neq rfl iL iL) (aZ (hK10 _ ?_)))))
   refine aC rfl (fun hc3 => ?_) (fun hc3 => ?_)
   ·have h6 := ite_t hc3 h5
    refine aS fun K11 hK11 wK11 => (aR (sM rfl rfl (sA rfl rfl (aZ (hK11 _ ?_)))))
    refine AW.ret ?_
    exact retf1 (P := prog) (fun (r : Int) => rI (r)) h6 iL (.t (.d rfl))
   ·have h6 := ite_f hc3 h5
    refine AW.skip ?_
    refine hK8 _ ?_
    refine aS fun K12 hK12 wK12 => (aR (sQ rfl (fB rfl tf_34_1 iL fR rfl) (sQ rfl (ms_load_box (a := rI (n1.Kind)) rfl ts_3 iL rfl rfl) (ob1k h6 fun r3 er3 h7 => (AOps.step rfl rfl rfl (sp_call (r := rB (r3)) (caps := []) (bs := [rI (n1.Kind)]) rfl iL rfl ⟨⟨_, iL, .d rfl⟩, trivial⟩ (fun _ => w_ref_HasText (er3)) rfl) (sM rfl rfl (sV rfl rfl rfl (fB rfl tf_34_1 iL fR rfl) (sV rfl rfl rfl (ms_load_box (a := rI (n1.Kind)) rfl ts_3 (iR rfl) rfl rfl) (ob1k h7 fun r4 er4 h8 => ?_)))))))))
    refine AOps.stepW (.one rfl rfl rfl) rfl rfl (sp_call (r := rB (r4)) (caps := []) (bs := [rI (n1.Kind)]) rfl iL rfl ⟨⟨_, (iR rfl), .d rfl⟩, trivial⟩ (fun hg => w_ref_HasList (gdt er4 hg)) rfl) ?_
    refine sQ rfl (sp_or rfl iL (iR rfl)) (sA rfl rfl (aZ (hK12 _ ?_)))
    refine aS fun K13 hK13 wK13 => (aS fun K14 hK14 wK14 => ?_)
    refine AW.weak (s' := ⟨[(1, .ptr 1 n0 0 0), (4, rB ((r3 || r4)))], [(1, some (.box n0 34 [rI (n1.ID), rI (n1.Kind), qa n1.Attrs, qd n1.Flow, rI (n1.Grid.Rows), rI (n1.Grid.Cols), qc n1.Grid.Cells, qb n1.Grid.Merges, qe n1.Draw]))], (n0 + 1), 105⟩) (by exact Weak.cv ⟨jL, jL, trivial⟩ ⟨.inl rfl, trivial⟩ nL) ?_
    refine aR (sQ rfl (fB rfl tf_34_3 iL fR rfl) (sQ rfl (ms_load_box (a := qd n1.Flow) rfl ts_27 iL rfl rfl) (sQ rfl (ms_len rfl tg_27.slice iL) (sQ rfl (sp_gtr rfl iL iL) (sM rfl rfl (sV rfl rfl rfl (sp_move rfl iL) (sV rfl rfl rfl (sp_not rfl (iR rfl)) (sQ rfl (sp_and rfl iL (iR rfl)) (sM rfl rfl (sV rfl rfl rfl (fB rfl tf_34_4 iL fR rfl) (sV rfl rfl rfl (ms_loadA_box_at (ds := [rI (n1.Grid.Rows), rI (n1.Grid.Cols), qc n1.Grid.Cells, qb n1.Grid.Merges]) rfl ta_31 (iR rfl) rfl rfl rfl) (ob1k h8 fun r5 er5 h9 => ?_))))))))))))
    refine AOps.stepW (.one rfl rfl rfl) rfl rfl (sp_call (r := rB (r5)) (caps := []) (bs := [.agg [rI (n1.Grid.Rows), rI (n1.Grid.Cols), qc n1.Grid.Cells, qb n1.Grid.Merges]]) rfl iL rfl ⟨⟨_, (iR rfl), .g (cs := [.int .i64 n1.Grid.Rows, .int .i64 n1.Grid.Cols, .sl (n1.Grid.Cells.map GCell.row), .sl (n1.Grid.Merges.map GRect.row)]) rfl rfl⟩, trivial⟩ (fun hg => w_ref_zeroGrid (gdt er5 hg)) rfl) ?_
    refine sV rfl rfl rfl (sp_not rfl (iR rfl)) (sV rfl rfl rfl (sp_move rfl (iR rfl)) ?_)
    refine sW (.two rfl rfl rfl) rfl (fB rfl tf_34_1 iL fR rfl) ?_
    refine sW (.two rfl rfl rfl) rfl (ms_load_box (a := rI (n1.Kind)) rfl ts_3 (iR rfl) rfl rfl) ?_
    refine ob1k h9 fun r6 er6 h10 => ?_
    refine AOps.stepW (.two rfl rfl rfl) rfl rfl (sp_call (r := rB (r6)) (caps := []) (bs := [rI (n1.Kind)]) rfl iL rfl ⟨⟨_, (iR rfl), .d rfl⟩, trivial⟩ (fun hg => w_ref_HasGrid (gdt er6 hg)) rfl) ?_
    refine sW (.two rfl rfl rfl) rfl (sp_not rfl (iR rfl)) ?_
    refine sV rfl rfl rfl (sp_and rfl (iR rfl) (iR rfl)) (sQ rfl (sp_or rfl iL (iR rfl)) (sM rfl rfl (sV rfl rfl rfl (fB rfl tf_34_5 iL fR rfl) (sV rfl rfl rfl (ms_load_box (a := qe n1.Draw) rfl ts_32 (iR rfl) rfl rfl) (sV rfl rfl rfl (ms_len rfl tg_32.slice (iR rfl)) (sV rfl rfl rfl (sp_gtr rfl (iR rfl) iL) (sV rfl rfl rfl (sp_move rfl (iR rfl)) ?_)))))))
    refine sW (.two rfl rfl rfl) rfl (fB rfl tf_34_1 iL fR rfl) ?_
    refine sW (.two rfl rfl rfl) rfl (ms_load_box (a := rI (n1.Kind)) rfl ts_3 (iR rfl) rfl rfl) ?_
    refine ob1k h10 fun r7 er7 h11 => ?_
    refine AOps.stepW (.two rfl rfl rfl) rfl rfl (sp_call (r := rB (r7)) (caps := []) (bs := [rI (n1.Kind)]) rfl iL rfl ⟨⟨_, (iR rfl), .d rfl⟩, trivial⟩ (fun hg => w_ref_HasDraw (gdt er7 hg)) rfl) ?_
    refine sW (.two rfl rfl rfl) rfl (sp_not rfl (iR rfl)) ?_
    refine sV rfl rfl rfl (sp_and rfl (iR rfl) (iR rfl)) (sQ rfl (sp_or rfl iL (iR rfl)) (aZ (hK14 _ ?_)))
    refine aC rfl (fun hc4 => ?_) (fun hc4 => ?_)
    ·have h12 := ite_t hc4 h11
     refine aS fun K15 hK15 wK15 => ?_
     refine AW.weak (s' := ⟨[], [], (n0 + 1), 105⟩) (by exact Weak.cv trivial trivial nL) ?_
     refine aR (sA rfl rfl (aZ (hK15 _ ?_)))
     refine AW.ret ?_
     exact retf1 (P := prog) (fun (r : Int) => rI (r)) h12 iL (.t (.d rfl))
    ·have h12 := ite_f hc4 h11
     refine AW.skip ?_
     refine hK13 _ ?_
     refine aS fun K16 hK16 wK16 => (aS fun K17 hK17 wK17 => ?_)
     refine AW.weak (s' := ⟨[(1, .ptr 1 n0 0 0), (4, rB ((r3 || r4)))], [(1, some (.box n0 34 [rI (n1.ID), rI (n1.Kind), qa n1.Attrs, qd n1.Flow, rI (n1.Grid.Rows), rI (n1.Grid.Cols), qc n1.Grid.Cells, qb n1.Grid.Merges, qe n1.Draw]))], (n0 + 1), 105⟩) (by exact Weak.cv ⟨jL, jL, trivial⟩ ⟨.inl rfl, trivial⟩ nL) ?_
     refine aR (sM rfl rfl (aZ (hK17 _ ?_)))
     refine aC rfl (fun hc5 => ?_) (fun hc5 => ?_)
     ·have h13 := ite_t hc5 h12
      refine aS fun K18 hK18 wK18 => ?_
      refine AW.regionQ hmix (by kernel_rfl) ?_
      refine AQ.step rfl rfl rfl (fB rfl tf_34_3 iL fR rfl) (AQ.step rfl rfl rfl (ms_load_box (a := qd n1.Flow) rfl ts_27 iL rfl rfl) (AQ.step rfl rfl rfl (fB rfl tf_34_1 iL fR rfl) (AQ.step rfl rfl rfl (ms_load_box (a := rI (n1.Kind)) rfl ts_3 iL rfl rfl) ?_)))
      refine AQ.stepC rfl rfl rfl (r := rB (r3)) (caps := []) (bs := [rI (n1.Kind)]) rfl iL rfl ⟨⟨_, iL, .d rfl⟩, trivial⟩ (fun _ => w_ref_HasText (er3)) rfl ?_
      refine ob1k h13 fun r9 er9 h14 => ?_
      refine AQ.stepC rfl rfl rfl (r := rI (r9)) (caps := []) (bs := [qd n1.Flow, rB (r3)]) rfl iL rfl ⟨⟨_, iL, .d rfl⟩, ⟨_, iL, .d rfl⟩, trivial⟩ (fun _ => w_ref_FlowError (er9)) rfl ?_
      refine AQ.step rfl rfl rfl (sp_assign rfl iL) ?_
      refine AQ.nil ?_
      refine hK18 _ ?_
      refine AW.ret ?_
      exact retf1 (P := prog) (fun (r : Int) => rI (r)) h14 iL (.t (.d rfl))
     ·have h13 := ite_f hc5 h12
      refine AW.skip ?_
      refine hK16 _ ?_
      refine aS fun K19 hK19 wK19 => (aS fun K20 hK20 wK20 => (aR (sQ rfl (fB rfl tf_34_1 iL fR rfl) (sQ rfl (ms_load_box (a := rI (n1.Kind)) rfl ts_3 iL rfl rfl) (ob1k h13 fun r10 er10 h15 => (AOps.step rfl rfl rfl (sp_call (r := rB (r10)) (caps := []) (bs := [rI (n1.Kind)]) rfl iL rfl ⟨⟨_, iL, .d rfl⟩, trivial⟩ (fun _ => w_ref_HasGrid (er10)) rfl) (aZ (hK20 _ ?_))))))))
      refine aC rfl (fun hc6 => ?_) (fun hc6 => ?_)
      ·have h16 := ite_t hc6 h15
       refine aS fun K21 hK21 wK21 => (aS fun K22 hK22 wK22 => (aR (sQ rfl (fB rfl tf_34_4 iL fR rfl) (sQ rfl (ms_loadA_box_at (ds := [rI (n1.Grid.Rows), rI (n1.Grid.Cols), qc n1.Grid.Cells, qb n1.Grid.Merges]) rfl ta_31 iL rfl rfl rfl) (ob1k h16 fun e2 ee2 h17 => (AOps.step rfl rfl rfl (sp_call (r := rI (e2)) (caps := []) (bs := [.agg [rI (n1.Grid.Rows), rI (n1.Grid.Cols), qc n1.Grid.Cells, qb n1.Grid.Merges]]) rfl iL rfl ⟨⟨_, iL, .g (cs := [.int .i64 n1.Grid.Rows, .int .i64 n1.Grid.Cols, .sl (n1.Grid.Cells.map GCell.row), .sl (n1.Grid.Merges.map GRect.row)]) rfl rfl⟩, trivial⟩ (fun _ => w_ref_GridError (ee2)) rfl) (sA rfl rfl (aZ (hK22 _ ?_)))))))))
       refine aS fun K23 hK23 wK23 => (aR (sM rfl rfl (sQ rfl (sp_neq rfl iL iL) (aZ (hK23 _ ?_)))))
       refine aC rfl (fun hc7 => ?_) (fun hc7 => ?_)
       ·have h18 := ite_t hc7 h17
        refine aS fun K24 hK24 wK24 => ?_
        refine AW.weak (s' := ⟨[(5, rI (e2))], [], (n0 + 1), 105⟩) (by exact Weak.cv ⟨jL, trivial⟩ trivial nL) ?_
        refine aR (sM rfl rfl (sA rfl rfl (aZ (hK24 _ ?_))))
        refine AW.ret ?_
        exact retf1 (P := prog) (fun (r : Int) => rI (r)) h18 iL (.t (.d rfl))
       ·have h18 := ite_f hc7 h17
        refine AW.skip ?_
        refine hK21 _ ?_
        refine aS fun K25 hK25 wK25 => ?_
        refine AW.weak (s' := ⟨[(1, .ptr 1 n0 0 0)], [(1, some (.box n0 34 [rI (n1.ID), rI (n1.Kind), qa n1.Attrs, qd n1.Flow, rI (n1.Grid.Rows), rI (n1.Grid.Cols), qc n1.Grid.Cells, qb n1.Grid.Merges, qe n1.Draw]))], (n0 + 1), 105⟩) (by exact Weak.cv ⟨jL, trivial⟩ ⟨.inl rfl, trivial⟩ nL) ?_
        refine aR (sQ rfl (fB rfl tf_34_1 iL fR rfl) (sQ rfl (ms_load_box (a := rI (n1.Kind)) rfl ts_3 iL rfl rfl) (sQ rfl (fB rfl tf_34_4 iL fR rfl) (sQ rfl (fB rfl tf_31_2 iL fR rfl) (sQ rfl (ms_load_box (a := qc n1.Grid.Cells) rfl ts_28 iL rfl rfl) (ob1k h18 fun r11 er11 h19 => (AOps.step rfl rfl rfl (sp_call (r := rI (r11)) (caps := []) (bs := [rI (n1.Kind), qc n1.Grid.Cells]) rfl iL rfl ⟨⟨_, iL, .d rfl⟩, ⟨_, iL, .d rfl⟩, trivial⟩ (fun _ => w_ref_CellKinds (er11)) rfl) (sA rfl rfl (aZ (hK25 _ ?_))))))))))
        refine AW.ret ?_
        exact retf1 (P := prog) (fun (r : Int) => rI (r)) h19 iL (.t (.d rfl))
      ·have h16 := ite_f hc6 h15
       refine AW.skip ?_
       refine hK19 _ ?_
       refine aS fun K26 hK26 wK26 => (aR (sQ rfl (fB rfl tf_34_5 iL fR rfl) (sQ rfl (ms_load_box (a := qe n1.Draw) rfl ts_32 iL rfl rfl) (ob1k h16 fun r12 er12 h20 => (AOps.step rfl rfl rfl (sp_call (r := rI (r12)) (caps := []) (bs := [qe n1.Draw]) rfl iL rfl ⟨⟨_, iL, .d rfl⟩, trivial⟩ (fun _ => w_ref_DrawError (er12)) rfl) (sA rfl rfl (aZ (hK26 _ ?_))))))))
       refine AW.ret ?_
       exact retf1 (P := prog) (fun (r : Int) => rI (r)) h20 iL (.t (.d rfl))
theorem w_ref_PartError {f1 : List GElem} {r : Int} (h : ref_PartError f1 = some r) : ARO prog 26 [qd f1] (rI (r)) := by
 unfold ref_PartError at h
 refine ARO.mkF func26 rfl rfl ntmps26 rfl (Nat.le_of_ble_eq_true rfl) fun n0 => ?_
 refine aS fun K1 hK1 wK1 => (aR (sA rfl rfl (aZ (hK1 _ ?_))))
 refine aS fun K2 hK2 wK2 => (aS fun K3 hK3 wK3 => (aR (sM rfl rfl (sQ rfl (ms_len rfl tg_27.slice iL) (sM rfl rfl (aZ (hK3 _ ?_)))))))
 refine AW.block ?_
 refine jc1k h fun o1 hit1 hk1 he1 => ?_
 have J1 : ∀ (u2 : Unit) (i5 : Nat → Nat), o1 = .nrm u2 → K2 ⟨[], [], (i5 0), 19⟩ := by
  intro u2 i5 e
  have h1 := hk1 _ e
  refine hK2 _ ?_
  refine aS fun K4 hK4 wK4 => (aR (sA rfl rfl (aZ (hK4 _ ?_))))
  refine AW.ret ?_
  exact retf1 (P := prog) (fun (r : Int) => rI (r)) h1 iL (.t (.d rfl))
 refine AW.iter1 (fun (x2 : Int) i3 => ⟨[(0, qd f1), (6, rI ((f1.length : Int))), (7, rI (x2))], [], (i3 0), 19⟩) (vec [n0]) hit1 ((by exact Weak.cv ⟨jL, jL, jL, trivial⟩ trivial nL)) ?_
 intro x2 i3 v1 hv1 hx1
 have h2 : ref_PartError_L1 f1 x2 = some v1 := hv1; unfold ref_PartError_L1 at h2
 refine aS fun K5 hK5 wK5 => (aR (sQ rfl (sp_lss rfl iL iL) (aZ (hK5 _ ?_))))
 refine aS fun K6 hK6 wK6 => ?_
 refine aC rfl (fun hc1 => ?_) (fun hc1 => ?_)
 ·have h3 := ite_t hc1 h2
  refine AW.skip ?_
  refine hK6 _ ?_
  refine aS fun K7 hK7 wK7 => (AW.block (aS fun K8 hK8 wK8 => (aR (sM rfl rfl (sA rfl rfl (aZ (hK8 _ ?_)))))))
  refine aS fun K9 hK9 wK9 => (aR (sM rfl rfl (sM rfl rfl (ob1k h3 fun x4 ex4 h4 => (sQ rfl (ms_idx rfl tg_27.slice iL iL (fun _ => rfl) (fun _ => ex4)) (sQ rfl (ms_loadA (cs := [rI (x4.Char), rI (x4.Ref), qa x4.Attrs]) rfl ta_60 iL rfl rfl) (ob1k h4 fun e1 ee1 h5 => (AOps.step rfl rfl rfl (sp_call (r := rI (e1)) (caps := []) (bs := [.agg [rI (x4.Char), rI (x4.Ref), qa x4.Attrs]]) rfl iL rfl ⟨⟨_, iL, .g (cs := [.int .i64 x4.Char, .int .i64 x4.Ref, .sl (x4.Attrs.map GAttr.row)]) rfl rfl⟩, trivial⟩ (fun _ => w_ref_ElemError (ee1)) rfl) (sA rfl rfl (aZ (hK9 _ ?_)))))))))))
  refine aS fun K10 hK10 wK10 => (aR (sM rfl rfl (sQ rfl (sp_neq rfl iL iL) (aZ (hK10 _ ?_)))))
  refine aC rfl (fun hc2 => ?_) (fun hc2 => ?_)
  ·have h6 := ite_t hc2 h5
   refine aS fun K11 hK11 wK11 => ?_
   refine AW.weak (s' := ⟨[(4, rI (e1))], [], (i3 0), 19⟩) (by exact Weak.cv ⟨jL, trivial⟩ trivial nL) ?_
   refine aR (sM rfl rfl (sA rfl rfl (aZ (hK11 _ ?_))))
   refine AW.ret ?_
   exact retf1 (P := prog) (fun (r : Int) => rI (r)) (he1 _ (hx1 _ (Option.some.inj h6).symm)) iL (.t (.d rfl))
  ·have h6 := ite_f hc2 h5
   refine AW.skip ?_
   refine hK7 _ ?_
   refine AW.weak (s' := ⟨[(0, qd f1), (6, rI ((f1.length : Int))), (7, rI (x2))], [], (i3 0), 19⟩) (by exact Weak.cv ⟨jL, jL, jL, trivial⟩ trivial nL) ?_
   refine aR (ob1k h6 fun x5 ex5 h7 => (sQ rfl (ms_add rfl iL iL (fun _ => ex5)) (sM rfl rfl ?_)))
   refine AOps.nil ?_
   exact NextQ1.mk h7 (vec [(i3 0)]) ((by exact Weak.cv ⟨jL, jL, jL, trivial⟩ trivial nL))
 ·have h3 := ite_f hc1 h2
  refine AW.exit ?_
  exact wK2 _ _ ((by exact Weak.cv trivial trivial nL)) (J1 _ (vec [(i3 0)]) (hx1 _ (Option.some.inj h3).symm))
theorem w_ref_StepError {s1 : GStep} {r : Int} (h : ref_StepError s1 = some r) : ARO prog 95 [.agg [rI (s1.Kind), rI (s1.N), qa s1.Attrs, qd s1.Elems]] (rI (r)) := by
 unfold ref_StepError at h
 refine ARO.mkF func95 rfl rfl ntmps95 rfl (Nat.le_of_ble_eq_true rfl) fun n0 => ?_
 refine aS fun K1 hK1 wK1 => (aR (AOps.step rfl rfl rfl (ms_box (cs := [rI (s1.Kind), rI (s1.N), qa s1.Attrs, qd s1.Elems]) 1 rfl iL rfl rfl) (sA rfl rfl (aZ (hK1 _ ?_)))))
 refine aS fun K2 hK2 wK2 => (aS fun K3 hK3 wK3 => (aR (sQ rfl (fB rfl tf_98_0 iL fR rfl) (sQ rfl (ms_load_box (a := rI (s1.Kind)) rfl ts_3 iL rfl rfl) (ob1k h fun r1 er1 h1 => (AOps.step rfl rfl rfl (sp_call (r := rB (r1)) (caps := []) (bs := [rI (s1.Kind), rI (0), rI (2)]) rfl iL rfl ⟨⟨_, iL, .d rfl⟩, ⟨_, iL, .d rfl⟩, ⟨_, iL, .d rfl⟩, trivial⟩ (fun _ => w_ref_In (er1)) rfl) (sQ rfl (sp_not rfl iL) (aZ (hK3 _ ?_)))))))))
 refine aC rfl (fun hc1 => ?_) (fun hc1 => ?_)
 ·have h2 := ite_t hc1 h1
  refine aS fun K4 hK4 wK4 => (aR (sA rfl rfl (aZ (hK4 _ ?_))))
  refine AW.ret ?_
  exact retf1 (P := prog) (fun (r : Int) => rI (r)) h2 iL (.t (.d rfl))
 ·have h2 := ite_f hc1 h1
  refine AW.skip ?_
  refine hK2 _ ?_
  refine aS fun K5 hK5 wK5 => (aS fun K6 hK6 wK6 => (aR (sQ rfl (fB rfl tf_98_0 iL fR rfl) (sQ rfl (ms_load_box (a := rI (s1.Kind)) rfl ts_3 iL rfl rfl) (sQ rfl (sp_eql rfl iL iL) (aZ (hK6 _ ?_)))))))
  refine aC rfl (fun hc2 => ?_) (fun hc2 => ?_)
  ·have h3 := ite_t hc2 h2
   refine aS fun K7 hK7 wK7 => (aS fun K8 hK8 wK8 => ?_)
   refine AW.weak (s' := ⟨[(1, .ptr 1 n0 0 0)], [(1, some (.box n0 98 [rI (s1.Kind), rI (s1.N), qa s1.Attrs, qd s1.Elems]))], (n0 + 1), 48⟩) (by exact Weak.cv ⟨jL, trivial⟩ ⟨.inl rfl, trivial⟩ nL) ?_
   refine aR (sQ rfl (fB rfl tf_98_1 iL fR rfl) (sQ rfl (ms_load_box (a := rI (s1.N)) rfl ts_3 iL rfl rfl) (sQ rfl (sp_neq rfl iL iL) (sM rfl rfl (sV rfl rfl rfl (fB rfl tf_98_2 iL fR rfl) (sV rfl rfl rfl (ms_load_box (a := qa s1.Attrs) rfl ts_26 (iR rfl) rfl rfl) (sV rfl rfl rfl (ms_len rfl tg_26.slice (iR rfl)) (sV rfl rfl rfl (sp_gtr rfl (iR rfl) iL) (sQ rfl (sp_or rfl iL (iR rfl)) (aZ (hK8 _ ?_)))))))))))
   refine aC rfl (fun hc3 => ?_) (fun hc3 => ?_)
   ·have h4 := ite_t hc3 h3
    refine aS fun K9 hK9 wK9 => ?_
    refine AW.weak (s' := ⟨[], [], (n0 + 1), 48⟩) (by exact Weak.cv trivial trivial nL) ?_
    refine aR (sA rfl rfl (aZ (hK9 _ ?_)))
    refine AW.ret ?_
    exact retf1 (P := prog) (fun (r : Int) => rI (r)) h4 iL (.t (.d rfl))
   ·have h4 := ite_f hc3 h3
    refine AW.skip ?_
    refine hK7 _ ?_
    refine aS fun K10 hK10 wK10 => (aS fun K11 hK11 wK11 => ?_)
    refine AW.weak (s' := ⟨[(1, .ptr 1 n0 0 0)], [(1, some (.box n0 98 [rI (s1.Kind), rI (s1.N), qa s1.Attrs, qd s1.Elems]))], (n0 + 1), 48⟩) (by exact Weak.cv ⟨jL, trivial⟩ ⟨.inl rfl, trivial⟩ nL) ?_
    refine aR (sQ rfl (fB rfl tf_98_3 iL fR rfl) (sQ rfl (ms_load_box (a := qd s1.Elems) rfl ts_27 iL rfl rfl) (sQ rfl (ms_len rfl tg_27.slice iL) (sQ rfl (sp_eql rfl iL iL) (aZ (hK11 _ ?_))))))
    refine aC rfl (fun hc4 => ?_) (fun hc4 => ?_)
    ·have h5 := ite_t hc4 h4
     refine aS fun K12 hK12 wK12 => (aR (sA rfl rfl (aZ (hK12 _ ?_))))
     refine AW.ret ?_
     exact retf1 (P := prog) (fun (r : Int) => rI (r)) h5 iL (.t (.d rfl))
    ·have h5 := ite_f hc4 h4
     refine AW.skip ?_
     refine hK10 _ ?_
     refine aS fun K13 hK13 wK13 => (aR (sQ rfl (fB rfl tf_98_3 iL fR rfl) (sQ rfl (ms_load_box (a := qd s1.Elems) rfl ts_27 iL rfl rfl) (ob1k h5 fun r2 er2 h6 => (AOps.step rfl rfl rfl (sp_call (r := rI (r2)) (caps := []) (bs := [qd s1.Elems]) rfl iL rfl ⟨⟨_, iL, .d rfl⟩, trivial⟩ (fun _ => w_ref_PartError (er2)) rfl) (sA rfl rfl (aZ (hK13 _ ?_))))))))
     refine AW.ret ?_
     exact retf1 (P := prog) (fun (r : Int) => rI (r)) h6 iL (.t (.d rfl))
  ·have h3 := ite_f hc2 h2
   refine AW.skip ?_
   refine hK5 _ ?_
   refine aS fun K14 hK14 wK14 => (aS fun K15 hK15 wK15 => ?_)
   refine AW.weak (s' := ⟨[(1, .ptr 1 n0 0 0)], [(1, some (.box n0 98 [rI (s1.Kind), rI (s1.N), qa s1.Attrs, qd s1.Elems]))], (n0 + 1), 48⟩) (by exact Weak.cv ⟨jL, trivial⟩ ⟨.inl rfl, trivial⟩ nL) ?_
   refine aR (sQ rfl (fB rfl tf_98_3 iL fR rfl) (sQ rfl (ms_load_box (a := qd s1.Elems) rfl ts_27 iL rfl rfl) (sQ rfl (ms_len rfl tg_27.slice iL) (sQ rfl (sp_gtr rfl iL iL) (sM rfl rfl (sV rfl rfl rfl (fB rfl tf_98_0 iL fR rfl) (sV rfl rfl rfl (ms_load_box (a := rI (s1.Kind)) rfl ts_3 (iR rfl) rfl rfl) (sV rfl rfl rfl (sp_eql rfl (iR rfl) iL) (sV rfl rfl rfl (sp_move rfl (iR rfl)) ?_)))))))))
   refine sW (.two rfl rfl rfl) rfl (fB rfl tf_98_2 iL fR rfl) ?_
   refine sW (.two rfl rfl rfl) rfl (ms_load_box (a := qa s1.Attrs) rfl ts_26 (iR rfl) rfl rfl) ?_
   refine sW (.two rfl rfl rfl) rfl (ms_len rfl tg_26.slice (iR rfl)) ?_
   refine sW (.two rfl rfl rfl) rfl (sp_gtr rfl (iR rfl) iL) ?_
   refine sV rfl rfl rfl (sp_and rfl (iR rfl) (iR rfl)) (sQ rfl (sp_or rfl iL (iR rfl)) (aZ (hK15 _ ?_)))
   refine aC rfl (fun hc5 => ?_) (fun hc5 => ?_)
   ·have h7 := ite_t hc5 h3
    refine aS fun K16 hK16 wK16 => ?_
    refine AW.weak (s' := ⟨[], [], (n0 + 1), 48⟩) (by exact Weak.cv trivial trivial nL) ?_
    refine aR (sA rfl rfl (aZ (hK16 _ ?_)))
    refine AW.ret ?_
    exact retf1 (P := prog) (fun (r : Int) => rI (r)) h7 iL (.t (.d rfl))
   ·have h7 := ite_f hc5 h3
    refine AW.skip ?_
    refine hK14 _ ?_
    refine aS fun K17 hK17 wK17 => (aS fun K18 hK18 wK18 => ?_)
    refine AW.weak (s' := ⟨[(1, .ptr 1 n0 0 0)], [(1, some (.box n0 98 [rI (s1.Kind), rI (s1.N), qa s1.Attrs, qd s1.Elems]))], (n0 + 1), 48⟩) (by exact Weak.cv ⟨jL, trivial⟩ ⟨.inl rfl, trivial⟩ nL) ?_
    refine aR (sQ rfl (fB rfl tf_98_1 iL fR rfl) (sQ rfl (ms_load_box (a := rI (s1.N)) rfl ts_3 iL rfl rfl) (ob1k h7 fun r3 er3 h8 => (AOps.step rfl rfl rfl (sp_call (r := rB (r3)) (caps := []) (bs := [rI (s1.N), rI (1), rI (2147483647)]) rfl iL rfl ⟨⟨_, iL, .d rfl⟩, ⟨_, iL, .d rfl⟩, ⟨_, iL, .d rfl⟩, trivial⟩ (fun _ => w_ref_In (er3)) rfl) (sQ rfl (sp_not rfl iL) (aZ (hK18 _ ?_)))))))
    refine aC rfl (fun hc6 => ?_) (fun hc6 => ?_)
    ·have h9 := ite_t hc6 h8
     refine aS fun K19 hK19 wK19 => (aR (sA rfl rfl (aZ (hK19 _ ?_))))
     refine AW.ret ?_
     exact retf1 (P := prog) (fun (r : Int) => rI (r)) h9 iL (.t (.d rfl))
    ·have h9 := ite_f hc6 h8
     refine AW.skip ?_
     refine hK17 _ ?_
     refine aS fun K20 hK20 wK20 => (aR (sQ rfl (fB rfl tf_98_2 iL fR rfl) (sQ rfl (ms_load_box (a := qa s1.Attrs) rfl ts_26 iL rfl rfl) (ob1k h9 fun r4 er4 h10 => (AOps.step rfl rfl rfl (sp_call (r := rI (r4)) (caps := []) (bs := [qa s1.Attrs, rB (true)]) rfl iL rfl ⟨⟨_, iL, .d rfl⟩, ⟨_, iL, .d rfl⟩, trivial⟩ (fun _ => w_ref_AttrsError (er4)) rfl) (sA rfl rfl (aZ (hK20 _ ?_))))))))
     refine AW.ret ?_
     exact retf1 (P := prog) (fun (r : Int) => rI (r)) h10 iL (.t (.d rfl))
theorem w_ref_DeltaError {d1 : List GStep} {r : Int} (h : ref_DeltaError d1 = some r) : ARO prog 40 [qh d1] (rI (r)) := by
 unfold ref_DeltaError at h
 refine ARO.mkF func40 rfl rfl ntmps40 rfl (Nat.le_of_ble_eq_true rfl) fun n0 => ?_
 refine aS fun K1 hK1 wK1 => (aR (sA rfl rfl (aZ (hK1 _ ?_))))
 refine aS fun K2 hK2 wK2 => (aR (sA rfl rfl (sA rfl rfl (aZ (hK2 _ ?_)))))
 refine aS fun K3 hK3 wK3 => (aS fun K4 hK4 wK4 => (aR (sM rfl rfl (sQ rfl (ms_len rfl tg_35.slice iL) (sM rfl rfl (aZ (hK4 _ ?_)))))))
 refine AW.block ?_
 refine jc2k h fun o1 hit1 hk1 he1 => ?_
 have J1 : ∀ (old4 : Int) (now4 : Int) (i5 : Nat → Nat), o1 = .nrm (old4, now4) → K3 ⟨[(3, rI (old4)), (4, rI (now4))], [], (i5 0), 85⟩ := by
  intro old4 now4 i5 e
  have h1 := hk1 _ _ e
  refine hK3 _ ?_
  refine aS fun K5 hK5 wK5 => (aS fun K6 hK6 wK6 => (aR (sM rfl rfl (sQ rfl (sp_gtr rfl iL iL) (sM rfl rfl (sV rfl rfl rfl (sp_move rfl iL) (sV rfl rfl rfl (sp_gtr rfl (iR rfl) iL) (sQ rfl (sp_or rfl iL (iR rfl)) (aZ (hK6 _ ?_))))))))))
  refine aC rfl (fun hc1 => ?_) (fun hc1 => ?_)
  ·have h2 := ite_t hc1 h1
   refine aS fun K7 hK7 wK7 => (aR (sA rfl rfl (aZ (hK7 _ ?_))))
   refine AW.ret ?_
   exact retf1 (P := prog) (fun (r : Int) => rI (r)) h2 iL (.t (.d rfl))
  ·have h2 := ite_f hc1 h1
   refine AW.skip ?_
   refine hK5 _ ?_
   refine aS fun K8 hK8 wK8 => (aR (sA rfl rfl (aZ (hK8 _ ?_))))
   refine AW.ret ?_
   exact retf1 (P := prog) (fun (r : Int) => rI (r)) h2 iL (.t (.d rfl))
 refine AW.iter3 (fun (old2 : Int) (now2 : Int) (x2 : Int) i3 => ⟨[(0, qh d1), (3, rI (old2)), (4, rI (now2)), (10, rI ((d1.length : Int))), (11, rI (x2))], [], (i3 0), 85⟩) (vec [n0]) hit1 ((by exact Weak.cv ⟨jL, jL, jL, jL, jL, trivial⟩ trivial nL)) ?_
 intro old2 now2 x2 i3 v1 hv1 hx1
 have h3 : ref_DeltaError_L1 d1 old2 now2 x2 = some v1 := hv1; unfold ref_DeltaError_L1 at h3
 refine aS fun K9 hK9 wK9 => (aR (sQ rfl (sp_lss rfl iL iL) (aZ (hK9 _ ?_))))
 refine aS fun K10 hK10 wK10 => ?_
 refine aC rfl (fun hc2 => ?_) (fun hc2 => ?_)
 ·have h4 := ite_t hc2 h3
  refine AW.skip ?_
  refine hK10 _ ?_
  refine aS fun K11 hK11 wK11 => (AW.block ?_)
  refine jc2k h4 fun p1 hp1 hk2 he2 => ?_
  have J2 : ∀ (old5 : Int) (now5 : Int) (i6 : Nat → Nat), p1 = .nrm (old5, now5) → K11 ⟨[(0, qh d1), (3, rI (old5)), (4, rI (now5)), (10, rI ((d1.length : Int))), (11, rI (x2))], [], (i6 0), 85⟩ := by
   intro old5 now5 i6 e
   have h5 := hk2 _ _ e
   refine hK11 _ ?_
   refine aR (ob1k h5 fun x4 ex4 h6 => (sQ rfl (ms_add rfl iL iL (fun _ => ex4)) (sM rfl rfl ?_)))
   refine AOps.nil ?_
   exact NextQ3.mk h6 (vec [(i6 0)]) ((by exact Weak.cv ⟨jL, jL, jL, jL, jL, trivial⟩ trivial nL))
  refine aS fun K12 hK12 wK12 => (aR (sM rfl rfl (sA rfl rfl (aZ (hK12 _ ?_)))))
  refine aS fun K13 hK13 wK13 => (aR (sM rfl rfl (sM rfl rfl (ob1k hp1 fun x5 ex5 h7 => (sQ rfl (ms_idx rfl tg_35.slice iL iL (fun _ => rfl) (fun _ => ex5)) (sQ rfl (ms_loadA (cs := [rI (x5.Kind), rI (x5.N), qa x5.Attrs, qd x5.Elems]) rfl ta_98 iL rfl rfl) (AOps.step rfl rfl rfl (ms_alloc (cs := [rI (0), rI (0), .cst (.slice none 0 0), .cst (.slice none 0 0)]) 6 rfl t0_98 rfl rfl) (AOps.step0 rfl rfl (ms_store_box (ds := [rI (x5.Kind), rI (x5.N), qa x5.Attrs, qd x5.Elems]) rfl tz_98 iL rfl iL rfl rfl rfl rfl) (aZ (hK13 _ ?_))))))))))
  refine aS fun K14 hK14 wK14 => (aS fun K15 hK15 wK15 => (aR (sQ rfl (ms_loadA_box rfl ta_98 iL rfl rfl) (ob1k h7 fun e1 ee1 h8 => (AOps.step rfl rfl rfl (sp_call (r := rI (e1)) (caps := []) (bs := [.agg [rI (x5.Kind), rI (x5.N), qa x5.Attrs, qd x5.Elems]]) rfl iL rfl ⟨⟨_, iL, .g (cs := [.int .i64 x5.Kind, .int .i64 x5.N, .sl (x5.Attrs.map GAttr.row), .sl (x5.Elems.map GElem.row)]) rfl rfl⟩, trivial⟩ (fun _ => w_ref_StepError (ee1)) rfl) (sA rfl rfl (aZ (hK15 _ ?_))))))))
  refine aS fun K16 hK16 wK16 => (aR (sM rfl rfl (sQ rfl (sp_neq rfl iL iL) (aZ (hK16 _ ?_)))))
  refine aC rfl (fun hc3 => ?_) (fun hc3 => ?_)
  ·have h9 := ite_t hc3 h8
   refine aS fun K17 hK17 wK17 => ?_
   refine AW.weak (s' := ⟨[(7, rI (e1))], [], ((i3 0) + 1), 85⟩) (by exact Weak.cv ⟨jL, trivial⟩ trivial nL) ?_
   refine aR (sM rfl rfl (sA rfl rfl (aZ (hK17 _ ?_))))
   refine AW.ret ?_
   exact retf1 (P := prog) (fun (r : Int) => rI (r)) (he1 _ (hx1 _ (Option.some.inj (he2 _ (Option.some.inj h9).symm)).symm)) iL (.t (.d rfl))
  ·have h9 := ite_f hc3 h8
   refine AW.skip ?_
   refine hK14 _ ?_
   refine aS fun K18 hK18 wK18 => (aS fun K19 hK19 wK19 => ?_)
   refine AW.weak (s' := ⟨[(0, qh d1), (3, rI (old2)), (4, rI (now2)), (5, rI (x2)), (6, .ptr 6 (i3 0) 0 0), (10, rI ((d1.length : Int))), (11, rI (x2))], [(6, some (.box (i3 0) 98 [rI (x5.Kind), rI (x5.N), qa x5.Attrs, qd x5.Elems]))], ((i3 0) + 1), 85⟩) (by exact Weak.cv ⟨jL, jL, jL, jL, jL, jL, jL, trivial⟩ ⟨.inl rfl, trivial⟩ nL) ?_
   refine aR (sM rfl rfl (sQ rfl (sp_gtr rfl iL iL) (aZ (hK19 _ ?_))))
   refine jc1k h9 fun p2 hp2 hk3 he3 => ?_
   have J3 : ∀ (u2 : Unit) (i7 : Nat → Nat), p2 = .nrm u2 → K18 ⟨[(0, qh d1), (3, rI (old2)), (4, rI (now2)), (6, .ptr 6 (i3 0) 0 0), (10, rI ((d1.length : Int))), (11, rI (x2))], [(6, some (.box (i3 0) 98 [rI (x5.Kind), rI (x5.N), qa x5.Attrs, qd x5.Elems]))], (i7 0), 85⟩ := by
    intro u2 i7 e
    have h10 := hk3 _ e
    refine hK18 _ ?_
    refine aS fun K20 hK20 wK20 => (aS fun K21 hK21 wK21 => (aR (sQ rfl (fB rfl tf_98_0 iL fR rfl) (sQ rfl (ms_load_box (a := rI (x5.Kind)) rfl ts_3 iL rfl rfl) (sQ rfl (sp_neq rfl iL iL) (sM rfl rfl (sV rfl rfl rfl (sp_move rfl iL) (sV rfl rfl rfl (sp_lss rfl (iR rfl) iL) (sQ rfl (sp_and rfl iL (iR rfl)) (aZ (hK21 _ ?_)))))))))))
    refine jb1k h10 fun p3 hp3 hk4 => ?_
    have J4 : ∀ (old6 : Int) (i8 : Nat → Nat), p3 = old6 → K20 ⟨[(0, qh d1), (3, rI (old6)), (4, rI (now2)), (6, .ptr 6 (i3 0) 0 0), (10, rI ((d1.length : Int))), (11, rI (x2))], [(6, some (.box (i3 0) 98 [rI (x5.Kind), rI (x5.N), qa x5.Attrs, qd x5.Elems]))], (i8 0), 85⟩ := by
     intro old6 i8 e
     have h11 := hk4 _ e
     refine hK20 _ ?_
     refine aS fun K22 hK22 wK22 => (aR (sQ rfl (fB rfl tf_98_0 iL fR rfl) (sQ rfl (ms_load_box (a := rI (x5.Kind)) rfl ts_3 iL rfl rfl) (sQ rfl (sp_neq rfl iL iL) (sM rfl rfl (sV rfl rfl rfl (sp_move rfl iL) (sV rfl rfl rfl (sp_lss rfl (iR rfl) iL) (sQ rfl (sp_and rfl iL (iR rfl)) (aZ (hK22 _ ?_))))))))))
     refine aC rfl (fun hc4 => ?_) (fun hc4 => ?_)
     ·have h12 := ite_t hc4 h11
      refine aR (sM rfl rfl (sQ rfl (fB rfl tf_98_1 iL fR rfl) (sQ rfl (ms_load_box (a := rI (x5.N)) rfl ts_3 iL rfl rfl) (sQ rfl (fB rfl tf_98_3 iL fR rfl) (sQ rfl (ms_load_box (a := qd x5.Elems) rfl ts_27 iL rfl rfl) (sQ rfl (ms_len rfl tg_27.slice iL) (ob1k h12 fun x6 ex6 h13 => (sQ rfl (ms_add rfl iL iL (fun _ => ex6)) (ob1k h13 fun now6 enow6 h14 => (sQ rfl (ms_add rfl iL iL (fun _ => enow6)) (sA rfl rfl ?_)))))))))))
      refine AOps.nil ?_
      exact wK11 _ _ ((by exact Weak.cv ⟨jL, jL, jL, jL, jL, trivial⟩ trivial nL)) (J2 _ _ (vec [(i8 0)]) (Option.some.inj h14).symm)
     ·have h12 := ite_f hc4 h11
      refine AW.skip ?_
      exact wK11 _ _ ((by exact Weak.cv ⟨jL, jL, jL, jL, jL, trivial⟩ trivial nL)) (J2 _ _ (vec [(i8 0)]) (Option.some.inj h12).symm)
    refine aC rfl (fun hc5 => ?_) (fun hc5 => ?_)
    ·have h15 := ite_t hc5 hp3
     refine aR (sM rfl rfl (sQ rfl (fB rfl tf_98_1 iL fR rfl) (sQ rfl (ms_load_box (a := rI (x5.N)) rfl ts_3 iL rfl rfl) (ob1k h15 fun old7 eold7 h16 => (sQ rfl (ms_add rfl iL iL (fun _ => eold7)) (sA rfl rfl ?_))))))
     refine AOps.nil ?_
     exact wK20 _ _ ((by exact Weak.cv ⟨jL, jL, jL, jL, jL, jL, trivial⟩ ⟨.inl rfl, trivial⟩ nL)) (J4 _ (vec [(i7 0)]) (Option.some.inj h16).symm)
    ·have h15 := ite_f hc5 hp3
     refine AW.skip ?_
     exact wK20 _ _ ((by exact Weak.cv ⟨jL, jL, jL, jL, jL, jL, trivial⟩ ⟨.inl rfl, trivial⟩ nL)) (J4 _ (vec [(i7 0)]) (Option.some.inj h15).symm)
   refine aC rfl (fun hc6 => ?_) (fun hc6 => ?_)
   ·have h17 := ite_t hc6 hp2
    refine aS fun K23 hK23 wK23 => (aR (sM rfl rfl (sM rfl rfl (ob1k h17 fun x7 ex7 h18 => (sQ rfl (ms_sub rfl iL iL (fun _ => ex7)) (ob1k h18 fun x8 ex8 h19 => (sQ rfl (ms_idx rfl tg_35.slice iL iL (fun _ => rfl) (fun _ => ex8)) (sQ rfl (ms_loadA (cs := [rI (x8.Kind), rI (x8.N), qa x8.Attrs, qd x8.Elems]) rfl ta_98 iL rfl rfl) (AOps.step rfl rfl rfl (ms_alloc (cs := [rI (0), rI (0), .cst (.slice none 0 0), .cst (.slice none 0 0)]) 8 rfl t0_98 rfl rfl) (AOps.step0 rfl rfl (ms_store_box (ds := [rI (x8.Kind), rI (x8.N), qa x8.Attrs, qd x8.Elems]) rfl tz_98 iL rfl iL rfl rfl rfl rfl) (aZ (hK23 _ ?_))))))))))))
    refine aS fun K24 hK24 wK24 => (aR (sQ rfl (fB rfl tf_98_0 iL fR rfl) (sQ rfl (ms_load_box (a := rI (x5.Kind)) rfl ts_3 iL rfl rfl) (aZ (hK24 _ ?_)))))
    refine AW.block (aS fun K25 hK25 wK25 => ?_)
    refine AW.weak (s' := ⟨[(0, qh d1), (3, rI (old2)), (4, rI (now2)), (6, .ptr 6 (i3 0) 0 0), (8, .ptr 8 ((i3 0) + 1) 0 0), (10, rI ((d1.length : Int))), (11, rI (x2)), (31, rI (x5.Kind))], [(6, some (.box (i3 0) 98 [rI (x5.Kind), rI (x5.N), qa x5.Attrs, qd x5.Elems])), (8, some (.box ((i3 0) + 1) 98 [rI (x8.Kind), rI (x8.N), qa x8.Attrs, qd x8.Elems]))], ((i3 0) + 2), 85⟩) (by exact Weak.cv ⟨jL, jL, jL, jL, jL, jL, jL, jL, trivial⟩ ⟨.inl rfl, .inl rfl, trivial⟩ nL) ?_
    refine aR (sQ rfl (sp_eql rfl iL iL) (sA rfl rfl (aZ (hK25 _ ?_))))
    refine aC rfl (fun hc7 => ?_) (fun hc7 => ?_)
    ·have h20 := ite_t hc7 h19
     refine aS fun K26 hK26 wK26 => (aR (sQ rfl (fB rfl tf_98_0 iL fR rfl) (sQ rfl (ms_load_box (a := rI (x8.Kind)) rfl ts_3 iL rfl rfl) (sQ rfl (sp_neq rfl iL iL) (aZ (hK26 _ ?_))))))
     refine aC rfl (fun hc8 => ?_) (fun hc8 => ?_)
     ·have h21 := ite_t hc8 h20
      refine aS fun K27 hK27 wK27 => ?_
      refine AW.weak (s' := ⟨[], [], ((i3 0) + 2), 85⟩) (by exact Weak.cv trivial trivial nL) ?_
      refine aR (sA rfl rfl (aZ (hK27 _ ?_)))
      refine AW.ret ?_
      exact retf1 (P := prog) (fun (r : Int) => rI (r)) (he1 _ (hx1 _ (Option.some.inj (he2 _ (Option.some.inj (he3 _ (Option.some.inj h21).symm)).symm)).symm)) iL (.t (.d rfl))
     ·have h21 := ite_f hc8 h20
      refine AW.skip ?_
      exact wK18 _ _ ((by exact Weak.cv ⟨jL, jL, jL, jL, jL, jL, trivial⟩ ⟨.inl rfl, trivial⟩ nL)) (J3 _ (vec [((i3 0) + 2)]) (Option.some.inj h21).symm)
    ·have h20 := ite_f hc7 h19
     refine aS fun K28 hK28 wK28 => (aR (sQ rfl (sp_eql rfl iL iL) (sA rfl rfl (aZ (hK28 _ ?_)))))
     refine aC rfl (fun hc9 => ?_) (fun hc9 => ?_)
     ·have h22 := ite_t hc9 h20
      refine aS fun K29 hK29 wK29 => (aR (sQ rfl (fB rfl tf_98_0 iL fR rfl) (sQ rfl (ms_load_box (a := rI (x8.Kind)) rfl ts_3 iL rfl rfl) (sQ rfl (sp_eql rfl iL iL) (aZ (hK29 _ ?_))))))
      refine aC rfl (fun hc10 => ?_) (fun hc10 => ?_)
      ·have h23 := ite_t hc10 h22
       refine aS fun K30 hK30 wK30 => ?_
       refine AW.weak (s' := ⟨[], [], ((i3 0) + 2), 85⟩) (by exact Weak.cv trivial trivial nL) ?_
       refine aR (sA rfl rfl (aZ (hK30 _ ?_)))
       refine AW.ret ?_
       exact retf1 (P := prog) (fun (r : Int) => rI (r)) (he1 _ (hx1 _ (Option.some.inj (he2 _ (Option.some.inj (he3 _ (Option.some.inj h23).symm)).symm)).symm)) iL (.t (.d rfl))
      ·have h23 := ite_f hc10 h22
       refine AW.skip ?_
       exact wK18 _ _ ((by exact Weak.cv ⟨jL, jL, jL, jL, jL, jL, trivial⟩ ⟨.inl rfl, trivial⟩ nL)) (J3 _ (vec [((i3 0) + 2)]) (Option.some.inj h23).symm)
     ·have h22 := ite_f hc9 h20
      refine aS fun K31 hK31 wK31 => (aR (sQ rfl (fB rfl tf_98_0 iL fR rfl) (sQ rfl (ms_load_box (a := rI (x8.Kind)) rfl ts_3 iL rfl rfl) (sQ rfl (sp_eql rfl iL iL) (sM rfl rfl (sV rfl rfl rfl (fB rfl tf_98_2 iL fR rfl) (sV rfl rfl rfl (ms_load_box (a := qa x8.Attrs) rfl ts_26 (iR rfl) rfl rfl) (sV rfl rfl rfl (fB rfl tf_98_2 iL fR rfl) (sV rfl rfl rfl (ms_load_box (a := qa x5.Attrs) rfl ts_26 (iR rfl) rfl rfl) (ob1k h22 fun r1 er1 h24 => ?_))))))))))
      refine AOps.stepW (.one rfl rfl rfl) rfl rfl (sp_call (r := rB (r1)) (caps := []) (bs := [qa x8.Attrs, qa x5.Attrs]) rfl iL rfl ⟨⟨_, (iR rfl), .d rfl⟩, ⟨_, (iR rfl), .d rfl⟩, trivial⟩ (fun hg => w_ref_SameAttrs (gdt er1 hg)) rfl) ?_
      refine sQ rfl (sp_and rfl iL (iR rfl)) (aZ (hK31 _ ?_))
      refine aC rfl (fun hc11 => ?_) (fun hc11 => ?_)
      ·have h25 := ite_t hc11 h24
       refine aS fun K32 hK32 wK32 => ?_
       refine AW.weak (s' := ⟨[], [], ((i3 0) + 2), 85⟩) (by exact Weak.cv trivial trivial nL) ?_
       refine aR (sA rfl rfl (aZ (hK32 _ ?_)))
       refine AW.ret ?_
       exact retf1 (P := prog) (fun (r : Int) => rI (r)) (he1 _ (hx1 _ (Option.some.inj (he2 _ (Option.some.inj (he3 _ (Option.some.inj h25).symm)).symm)).symm)) iL (.t (.d rfl))
      ·have h25 := ite_f hc11 h24
       refine AW.skip ?_
       exact wK18 _ _ ((by exact Weak.cv ⟨jL, jL, jL, jL, jL, jL, trivial⟩ ⟨.inl rfl, trivial⟩ nL)) (J3 _ (vec [((i3 0) + 2)]) (Option.some.inj h25).symm)
   ·have h17 := ite_f hc6 hp2
    refine AW.skip ?_
    exact wK18 _ _ ((by exact Weak.cv ⟨jL, jL, jL, jL, jL, jL, trivial⟩ ⟨.inl rfl, trivial⟩ nL)) (J3 _ (vec [((i3 0) + 1)]) (Option.some.inj h17).symm)
 ·have h4 := ite_f hc2 h3
  refine AW.exit ?_
  exact wK3 _ _ ((by exact Weak.cv ⟨jL, jL, trivial⟩ trivial nL)) (J1 _ _ (vec [(i3 0)]) (hx1 _ (Option.some.inj h4).symm))
theorem w_ref_AxisError {a1 : List GAxisStep} {r : Int} (h : ref_AxisError a1 = some r) : ARO prog 96 [qf a1] (rI (r)) := by
 unfold ref_AxisError at h
 refine ARO.mkF func96 rfl rfl ntmps96 rfl (Nat.le_of_ble_eq_true rfl) fun n0 => ?_
 refine aS fun K1 hK1 wK1 => (aR (sA rfl rfl (aZ (hK1 _ ?_))))
 refine aS fun K2 hK2 wK2 => (aR (sA rfl rfl (sA rfl rfl (aZ (hK2 _ ?_)))))
 refine aS fun K3 hK3 wK3 => (aS fun K4 hK4 wK4 => (aR (sM rfl rfl (sQ rfl (ms_len rfl tg_36.slice iL) (sM rfl rfl (aZ (hK4 _ ?_)))))))
 refine AW.block ?_
 refine jc2k h fun o1 hit1 hk1 he1 => ?_
 have J1 : ∀ (old4 : Int) (now4 : Int) (i5 : Nat → Nat), o1 = .nrm (old4, now4) → K3 ⟨[(3, rI (old4)), (4, rI (now4))], [], (i5 0), 99⟩ := by
  intro old4 now4 i5 e
  have h1 := hk1 _ _ e
  refine hK3 _ ?_
  refine aS fun K5 hK5 wK5 => (aS fun K6 hK6 wK6 => (aR (sM rfl rfl (sQ rfl (sp_gtr rfl iL iL) (sM rfl rfl (sV rfl rfl rfl (sp_move rfl iL) (sV rfl rfl rfl (sp_gtr rfl (iR rfl) iL) (sQ rfl (sp_or rfl iL (iR rfl)) (aZ (hK6 _ ?_))))))))))
  refine aC rfl (fun hc1 => ?_) (fun hc1 => ?_)
  ·have h2 := ite_t hc1 h1
   refine aS fun K7 hK7 wK7 => (aR (sA rfl rfl (aZ (hK7 _ ?_))))
   refine AW.ret ?_
   exact retf1 (P := prog) (fun (r : Int) => rI (r)) h2 iL (.t (.d rfl))
  ·have h2 := ite_f hc1 h1
   refine AW.skip ?_
   refine hK5 _ ?_
   refine aS fun K8 hK8 wK8 => (aR (sA rfl rfl (aZ (hK8 _ ?_))))
   refine AW.ret ?_
   exact retf1 (P := prog) (fun (r : Int) => rI (r)) h2 iL (.t (.d rfl))
 refine AW.iter3 (fun (old2 : Int) (now2 : Int) (x2 : Int) i3 => ⟨[(0, qf a1), (3, rI (old2)), (4, rI (now2)), (7, rI ((a1.length : Int))), (8, rI (x2))], [], (i3 0), 99⟩) (vec [n0]) hit1 ((by exact Weak.cv ⟨jL, jL, jL, jL, jL, trivial⟩ trivial nL)) ?_
 intro old2 now2 x2 i3 v1 hv1 hx1
 have h3 : ref_AxisError_L1 a1 old2 now2 x2 = some v1 := hv1; unfold ref_AxisError_L1 at h3
 refine aS fun K9 hK9 wK9 => (aR (sQ rfl (sp_lss rfl iL iL) (aZ (hK9 _ ?_))))
 refine aS fun K10 hK10 wK10 => ?_
 refine aC rfl (fun hc2 => ?_) (fun hc2 => ?_)
 ·have h4 := ite_t hc2 h3
  refine AW.skip ?_
  refine hK10 _ ?_
  refine aS fun K11 hK11 wK11 => (AW.block ?_)
  refine jc2k h4 fun p1 hp1 hk2 he2 => ?_
  have J2 : ∀ (old5 : Int) (now5 : Int) (i6 : Nat → Nat), p1 = .nrm (old5, now5) → K11 ⟨[(0, qf a1), (3, rI (old5)), (4, rI (now5)), (7, rI ((a1.length : Int))), (8, rI (x2))], [], (i6 0), 99⟩ := by
   intro old5 now5 i6 e
   have h5 := hk2 _ _ e
   refine hK11 _ ?_
   refine aR (ob1k h5 fun x4 ex4 h6 => (sQ rfl (ms_add rfl iL iL (fun _ => ex4)) (sM rfl rfl ?_)))
   refine AOps.nil ?_
   exact NextQ3.mk h6 (vec [(i6 0)]) ((by exact Weak.cv ⟨jL, jL, jL, jL, jL, trivial⟩ trivial nL))
  refine aS fun K12 hK12 wK12 => (aR (sM rfl rfl (sA rfl rfl (aZ (hK12 _ ?_)))))
  refine aS fun K13 hK13 wK13 => (aS fun K14 hK14 wK14 => (aR (sM rfl rfl (sM rfl rfl (ob1k hp1 fun x5 ex5 h7 => (sQ rfl (ms_idx rfl tg_36.slice iL iL (fun _ => rfl) (fun _ => ex5)) (sQ rfl (sp_fieldAddr_ro rfl tf_180_0 iL) (sQ rfl (ms_load (d := .int .i64 x5.Kind) rfl ts_3 iL rfl) (ob1k h7 fun r1 er1 h8 => (AOps.step rfl rfl rfl (sp_call (r := rB (r1)) (caps := []) (bs := [rI (x5.Kind), rI (0), rI (2)]) rfl iL rfl ⟨⟨_, iL, .d rfl⟩, ⟨_, iL, .d rfl⟩, ⟨_, iL, .d rfl⟩, trivial⟩ (fun _ => w_ref_In (er1)) rfl) (sQ rfl (sp_not rfl iL) (aZ (hK14 _ ?_)))))))))))))
  refine aC rfl (fun hc3 => ?_) (fun hc3 => ?_)
  ·have h9 := ite_t hc3 h8
   refine aS fun K15 hK15 wK15 => ?_
   refine AW.weak (s' := ⟨[], [], (i3 0), 99⟩) (by exact Weak.cv trivial trivial nL) ?_
   refine aR (sA rfl rfl (aZ (hK15 _ ?_)))
   refine AW.ret ?_
   exact retf1 (P := prog) (fun (r : Int) => rI (r)) (he1 _ (hx1 _ (Option.some.inj (he2 _ (Option.some.inj h9).symm)).symm)) iL (.t (.d rfl))
  ·have h9 := ite_f hc3 h8
   refine AW.skip ?_
   refine hK13 _ ?_
   refine aS fun K16 hK16 wK16 => (aS fun K17 hK17 wK17 => ?_)
   refine AW.weak (s' := ⟨[(0, qf a1), (3, rI (old2)), (4, rI (now2)), (5, rI (x2)), (7, rI ((a1.length : Int))), (8, rI (x2))], [], (i3 0), 99⟩) (by exact Weak.cv ⟨jL, jL, jL, jL, jL, jL, trivial⟩ trivial nL) ?_
   refine aR (sM rfl rfl (sM rfl rfl (sQ rfl (ms_idx rfl tg_36.slice iL iL (fun _ => rfl) (fun _ => ex5)) (sQ rfl (sp_fieldAddr_ro rfl tf_180_1 iL) (sQ rfl (ms_load (d := .int .i64 x5.N) rfl ts_3 iL rfl) (ob1k h9 fun r2 er2 h10 => (AOps.step rfl rfl rfl (sp_call (r := rB (r2)) (caps := []) (bs := [rI (x5.N), rI (1), rI (2147483647)]) rfl iL rfl ⟨⟨_, iL, .d rfl⟩, ⟨_, iL, .d rfl⟩, ⟨_, iL, .d rfl⟩, trivial⟩ (fun _ => w_ref_In (er2)) rfl) (sQ rfl (sp_not rfl iL) (aZ (hK17 _ ?_))))))))))
   refine aC rfl (fun hc4 => ?_) (fun hc4 => ?_)
   ·have h11 := ite_t hc4 h10
    refine aS fun K18 hK18 wK18 => ?_
    refine AW.weak (s' := ⟨[], [], (i3 0), 99⟩) (by exact Weak.cv trivial trivial nL) ?_
    refine aR (sA rfl rfl (aZ (hK18 _ ?_)))
    refine AW.ret ?_
    exact retf1 (P := prog) (fun (r : Int) => rI (r)) (he1 _ (hx1 _ (Option.some.inj (he2 _ (Option.some.inj h11).symm)).symm)) iL (.t (.d rfl))
   ·have h11 := ite_f hc4 h10
    refine AW.skip ?_
    refine hK16 _ ?_
    refine aS fun K19 hK19 wK19 => (aS fun K20 hK20 wK20 => ?_)
    refine AW.regionQ hmix (by kernel_rfl) ?_
    refine AQ.step rfl rfl rfl (sp_move rfl iL) (AQ.step rfl rfl rfl (sp_gtr rfl iL iL) (AQ.step rfl rfl rfl (sp_move rfl iL) ?_))
    refine AQ.stepW (.one rfl rfl rfl) rfl rfl (sp_move rfl iL) ?_
    refine AQ.stepW (.one rfl rfl rfl) rfl rfl (sp_move rfl iL) ?_
    refine AQ.stepW (.one rfl rfl rfl) rfl rfl (ms_idx rfl tg_36.slice (iR rfl) (iR rfl) (fun _ => rfl) (fun _ => ex5)) ?_
    refine AQ.stepW (.one rfl rfl rfl) rfl rfl (sp_fieldAddr_ro rfl tf_180_0 (iR rfl)) ?_
    refine AQ.stepW (.one rfl rfl rfl) rfl rfl (ms_load (d := .int .i64 x5.Kind) rfl ts_3 (iR rfl) rfl) ?_
    refine AQ.stepW (.one rfl rfl rfl) rfl rfl (sp_move rfl iL) ?_
    refine AQ.stepW (.one rfl rfl rfl) rfl rfl (sp_move rfl iL) ?_
    refine ob1k h11 fun x6 ex6 h12 => ?_
    refine AQ.stepW (.one rfl rfl rfl) rfl rfl (ms_sub rfl (iR rfl) iL (gdt ex6)) ?_
    refine ob1k h12 fun x7 ex7 h13 => ?_
    refine AQ.stepW (.one rfl rfl rfl) rfl rfl (ms_idx rfl tg_36.slice (iR rfl) (iR rfl) (fun _ => rfl) (gdt ex7)) ?_
    refine AQ.stepW (.one rfl rfl rfl) rfl rfl (sp_fieldAddr_ro rfl tf_180_0 (iR rfl)) ?_
    refine AQ.stepW (.one rfl rfl rfl) rfl rfl (ms_load (d := .int .i64 x7.Kind) rfl ts_3 (iR rfl) rfl) ?_
    refine AQ.stepW (.one rfl rfl rfl) rfl rfl (sp_eql rfl (iR rfl) (iR rfl)) ?_
    refine AQ.stepW (.one rfl rfl rfl) rfl rfl (sp_move rfl (iR rfl)) ?_
    refine AQ.stepW (.two rfl rfl rfl) rfl rfl (sp_move rfl iL) ?_
    refine AQ.stepW (.two rfl rfl rfl) rfl rfl (sp_move rfl iL) ?_
    refine AQ.stepW (.two rfl rfl rfl) rfl rfl (ms_idx rfl tg_36.slice (iR rfl) (iR rfl) (fun _ => rfl) (fun _ => ex5)) ?_
    refine AQ.stepW (.two rfl rfl rfl) rfl rfl (sp_fieldAddr_ro rfl tf_180_0 (iR rfl)) ?_
    refine AQ.stepW (.two rfl rfl rfl) rfl rfl (ms_load (d := .int .i64 x5.Kind) rfl ts_3 (iR rfl) rfl) ?_
    refine AQ.stepW (.two rfl rfl rfl) rfl rfl (sp_eql rfl (iR rfl) iL) ?_
    refine AQ.stepW (.two rfl rfl rfl) rfl rfl (sp_move rfl (iR rfl)) ?_
    refine AQ.stepW (.two rfl rfl rfl) rfl rfl (sp_move rfl iL) ?_
    refine AQ.stepW (.two rfl rfl rfl) rfl rfl (sp_move rfl iL) ?_
    refine ob1k h13 fun x8 ex8 h14 => ?_
    refine AQ.stepW (.two rfl rfl rfl) rfl rfl (ms_sub rfl (iR rfl) iL (gdt ex8)) ?_
    refine ob1k h14 fun x9 ex9 h15 => ?_
    refine AQ.stepW (.two rfl rfl rfl) rfl rfl (ms_idx rfl tg_36.slice (iR rfl) (iR rfl) (fun _ => rfl) (gdt ex9)) ?_
    refine AQ.stepW (.two rfl rfl rfl) rfl rfl (sp_fieldAddr_ro rfl tf_180_0 (iR rfl)) ?_
    refine AQ.stepW (.two rfl rfl rfl) rfl rfl (ms_load (d := .int .i64 x9.Kind) rfl ts_3 (iR rfl) rfl) ?_
    refine AQ.stepW (.two rfl rfl rfl) rfl rfl (sp_eql rfl (iR rfl) iL) ?_
    refine AQ.stepW (.two rfl rfl rfl) rfl rfl (sp_and rfl (iR rfl) (iR rfl)) ?_
    refine AQ.stepW (.one rfl rfl rfl) rfl rfl (sp_or rfl (iR rfl) (iR rfl)) ?_
    refine AQ.step rfl rfl rfl (sp_and rfl iL (iR rfl)) ?_
    refine AQ.nil ?_
    refine hK20 _ ?_
    refine aC rfl (fun hc5 => ?_) (fun hc5 => ?_)
    ·have h16 := ite_t hc5 h15
     refine aS fun K21 hK21 wK21 => ?_
     refine AW.weak (s' := ⟨[], [], (i3 0), 99⟩) (by exact Weak.cv trivial trivial nL) ?_
     refine aR (sA rfl rfl (aZ (hK21 _ ?_)))
     refine AW.ret ?_
     exact retf1 (P := prog) (fun (r : Int) => rI (r)) (he1 _ (hx1 _ (Option.some.inj (he2 _ (Option.some.inj h16).symm)).symm)) iL (.t (.d rfl))
    ·have h16 := ite_f hc5 h15
     refine AW.skip ?_
     refine hK19 _ ?_
     refine aS fun K22 hK22 wK22 => (aS fun K23 hK23 wK23 => ?_)
     refine AW.weak (s' := ⟨[(0, qf a1), (3, rI (old2)), (4, rI (now2)), (5, rI (x2)), (7, rI ((a1.length : Int))), (8, rI (x2))], [], (i3 0), 99⟩) (by exact Weak.cv ⟨jL, jL, jL, jL, jL, jL, trivial⟩ trivial nL) ?_
     refine aR (sM rfl rfl (sM rfl rfl (sQ rfl (ms_idx rfl tg_36.slice iL iL (fun _ => rfl) (fun _ => ex5)) (sQ rfl (sp_fieldAddr_ro rfl tf_180_0 iL) (sQ rfl (ms_load (d := .int .i64 x5.Kind) rfl ts_3 iL rfl) (sQ rfl (sp_neq rfl iL iL) (sM rfl rfl (sV rfl rfl rfl (sp_move rfl iL) (sV rfl rfl rfl (sp_lss rfl (iR rfl) iL) (sQ rfl (sp_and rfl iL (iR rfl)) (aZ (hK23 _ ?_))))))))))))
     refine jb1k h16 fun p2 hp2 hk3 => ?_
     have J3 : ∀ (old6 : Int) (i7 : Nat → Nat), p2 = old6 → K22 ⟨[(0, qf a1), (3, rI (old6)), (4, rI (now2)), (5, rI (x2)), (7, rI ((a1.length : Int))), (8, rI (x2))], [], (i7 0), 99⟩ := by
      intro old6 i7 e
      have h17 := hk3 _ e
      refine hK22 _ ?_
      refine aS fun K24 hK24 wK24 => (aR (sM rfl rfl (sM rfl rfl (sQ rfl (ms_idx rfl tg_36.slice iL iL (fun _ => rfl) (fun _ => ex5)) (sQ rfl (sp_fieldAddr_ro rfl tf_180_0 iL) (sQ rfl (ms_load (d := .int .i64 x5.Kind) rfl ts_3 iL rfl) (sQ rfl (sp_neq rfl iL iL) (sM rfl rfl (sV rfl rfl rfl (sp_move rfl iL) (sV rfl rfl rfl (sp_lss rfl (iR rfl) iL) (sQ rfl (sp_and rfl iL (iR rfl)) (aZ (hK24 _ ?_)))))))))))))
      refine aC rfl (fun hc6 => ?_) (fun hc6 => ?_)
      ·have h18 := ite_t hc6 h17
       refine aR (sM rfl rfl (sM rfl rfl (sM rfl rfl (sQ rfl (ms_idx rfl tg_36.slice iL iL (fun _ => rfl) (fun _ => ex5)) (sQ rfl (sp_fieldAddr_ro rfl tf_180_1 iL) (sQ rfl (ms_load (d := .int .i64 x5.N) rfl ts_3 iL rfl) (ob1k h18 fun now6 enow6 h19 => (sQ rfl (ms_add rfl iL iL (fun _ => enow6)) (sA rfl rfl ?_)))))))))
       refine AOps.nil ?_
       exact wK11 _ _ ((by exact Weak.cv ⟨jL, jL, jL, jL, jL, trivial⟩ trivial nL)) (J2 _ _ (vec [(i7 0)]) (Option.some.inj h19).symm)
      ·have h18 := ite_f hc6 h17
       refine AW.skip ?_
       exact wK11 _ _ ((by exact Weak.cv ⟨jL, jL, jL, jL, jL, trivial⟩ trivial nL)) (J2 _ _ (vec [(i7 0)]) (Option.some.inj h18).symm)
     refine aC rfl (fun hc7 => ?_) (fun hc7 => ?_)
     ·have h20 := ite_t hc7 hp2
      refine aR (sM rfl rfl (sM rfl rfl (sM rfl rfl (sQ rfl (ms_idx rfl tg_36.slice iL iL (fun _ => rfl) (fun _ => ex5)) (sQ rfl (sp_fieldAddr_ro rfl tf_180_1 iL) (sQ rfl (ms_load (d := .int .i64 x5.N) rfl ts_3 iL rfl) (ob1k h20 fun old7 eold7 h21 => (sQ rfl (ms_add rfl iL iL (fun _ => eold7)) (sA rfl rfl ?_)))))))))
      refine AOps.nil ?_
      exact wK22 _ _ ((by exact Weak.cv ⟨jL, jL, jL, jL, jL, jL, trivial⟩ trivial nL)) (J3 _ (vec [(i3 0)]) (Option.some.inj h21).symm)
     ·have h20 := ite_f hc7 hp2
      refine AW.skip ?_
      exact wK22 _ _ ((by exact Weak.cv ⟨jL, jL, jL, jL, jL, jL, trivial⟩ trivial nL)) (J3 _ (vec [(i3 0)]) (Option.some.inj h20).symm)
 ·have h4 := ite_f hc2 h3
  refine AW.exit ?_
  exact wK3 _ _ ((by exact Weak.cv ⟨jL, jL, trivial⟩ trivial nL)) (J1 _ _ (vec [(i3 0)]) (hx1 _ (Option.some.inj h4).symm))
theorem w_ref_EditError {e1 : GGridEdit} {r : Int} (h : ref_EditError e1 = some r) : ARO prog 41 [.agg [qf e1.Rows, qf e1.Cols, qc e1.Cells, qb e1.Split, qb e1.Merge]] (rI (r)) := by
 unfold ref_EditError at h
 refine ARO.mkF func41 rfl rfl ntmps41 rfl (Nat.le_of_ble_eq_true rfl) fun n0 => ?_
 refine aS fun K1 hK1 wK1 => (aR (AOps.step rfl rfl rfl (ms_box (cs := [qf e1.Rows, qf e1.Cols, qc e1.Cells, qb e1.Split, qb e1.Merge]) 1 rfl iL rfl rfl) (sA rfl rfl (aZ (hK1 _ ?_)))))
 refine aS fun K2 hK2 wK2 => (aS fun K3 hK3 wK3 => (aR (sQ rfl (fB rfl tf_38_0 iL fR rfl) (sQ rfl (ms_load_box (a := qf e1.Rows) rfl ts_36 iL rfl rfl) (ob1k h fun f1 ef1 h1 => (AOps.step rfl rfl rfl (sp_call (r := rI (f1)) (caps := []) (bs := [qf e1.Rows]) rfl iL rfl ⟨⟨_, iL, .d rfl⟩, trivial⟩ (fun _ => w_ref_AxisError (ef1)) rfl) (sA rfl rfl (aZ (hK3 _ ?_)))))))))
 refine aS fun K4 hK4 wK4 => (aR (sM rfl rfl (sQ rfl (sp_neq rfl iL iL) (aZ (hK4 _ ?_)))))
 refine aC rfl (fun hc1 => ?_) (fun hc1 => ?_)
 ·have h2 := ite_t hc1 h1
  refine aS fun K5 hK5 wK5 => (aR (sM rfl rfl (sA rfl rfl (aZ (hK5 _ ?_)))))
  refine AW.ret ?_
  exact retf1 (P := prog) (fun (r : Int) => rI (r)) h2 iL (.t (.d rfl))
 ·have h2 := ite_f hc1 h1
  refine AW.skip ?_
  refine hK2 _ ?_
  refine aS fun K6 hK6 wK6 => (aS fun K7 hK7 wK7 => (aR (sQ rfl (fB rfl tf_38_1 iL fR rfl) (sQ rfl (ms_load_box (a := qf e1.Cols) rfl ts_36 iL rfl rfl) (ob1k h2 fun f2 ef2 h3 => (AOps.step rfl rfl rfl (sp_call (r := rI (f2)) (caps := []) (bs := [qf e1.Cols]) rfl iL rfl ⟨⟨_, iL, .d rfl⟩, trivial⟩ (fun _ => w_ref_AxisError (ef2)) rfl) (sA rfl rfl (aZ (hK7 _ ?_)))))))))
  refine aS fun K8 hK8 wK8 => ?_
  refine AW.weak (s' := ⟨[(1, .ptr 1 n0 0 0), (4, rI (f2))], [(1, some (.box n0 38 [qf e1.Rows, qf e1.Cols, qc e1.Cells, qb e1.Split, qb e1.Merge]))], (n0 + 1), 70⟩) (by exact Weak.cv ⟨jL, jL, trivial⟩ ⟨.inl rfl, trivial⟩ nL) ?_
  refine aR (sM rfl rfl (sQ rfl (sp_neq rfl iL iL) (aZ (hK8 _ ?_))))
  refine aC rfl (fun hc2 => ?_) (fun hc2 => ?_)
  ·have h4 := ite_t hc2 h3
   refine aS fun K9 hK9 wK9 => (aR (sM rfl rfl (sA rfl rfl (aZ (hK9 _ ?_)))))
   refine AW.ret ?_
   exact retf1 (P := prog) (fun (r : Int) => rI (r)) h4 iL (.t (.d rfl))
  ·have h4 := ite_f hc2 h3
   refine AW.skip ?_
   refine hK6 _ ?_
   refine aS fun K10 hK10 wK10 => (aS fun K11 hK11 wK11 => (aR (sQ rfl (fB rfl tf_38_2 iL fR rfl) (sQ rfl (ms_load_box (a := qc e1.Cells) rfl ts_28 iL rfl rfl) (ob1k h4 fun f3 ef3 h5 => (AOps.step rfl rfl rfl (sp_call (r := rI (f3)) (caps := []) (bs := [qc e1.Cells, rI (2147483647), rI (2147483647), rB (true)]) rfl iL rfl ⟨⟨_, iL, .d rfl⟩, ⟨_, iL, .d rfl⟩, ⟨_, iL, .d rfl⟩, ⟨_, iL, .d rfl⟩, trivial⟩ (fun _ => w_ref_CellsError (ef3)) rfl) (sA rfl rfl (aZ (hK11 _ ?_)))))))))
   refine aS fun K12 hK12 wK12 => (aR (sM rfl rfl (sQ rfl (sp_neq rfl iL iL) (aZ (hK12 _ ?_)))))
   refine aC rfl (fun hc3 => ?_) (fun hc3 => ?_)
   ·have h6 := ite_t hc3 h5
    refine aS fun K13 hK13 wK13 => ?_
    refine AW.weak (s' := ⟨[(5, rI (f3))], [], (n0 + 1), 70⟩) (by exact Weak.cv ⟨jL, trivial⟩ trivial nL) ?_
    refine aR (sM rfl rfl (sA rfl rfl (aZ (hK13 _ ?_))))
    refine AW.ret ?_
    exact retf1 (P := prog) (fun (r : Int) => rI (r)) h6 iL (.t (.d rfl))
   ·have h6 := ite_f hc3 h5
    refine AW.skip ?_
    refine hK10 _ ?_
    refine aS fun K14 hK14 wK14 => (aS fun K15 hK15 wK15 => ?_)
    refine AW.weak (s' := ⟨[(1, .ptr 1 n0 0 0)], [(1, some (.box n0 38 [qf e1.Rows, qf e1.Cols, qc e1.Cells, qb e1.Split, qb e1.Merge]))], (n0 + 1), 70⟩) (by exact Weak.cv ⟨jL, trivial⟩ ⟨.inl rfl, trivial⟩ nL) ?_
    refine aR (sQ rfl (fB rfl tf_38_3 iL fR rfl) (sQ rfl (ms_load_box (a := qb e1.Split) rfl ts_29 iL rfl rfl) (sQ rfl (ms_len rfl tg_29.slice iL) (sM rfl rfl (aZ (hK15 _ ?_))))))
    refine AW.block ?_
    refine jc1k h6 fun o1 hit1 hk1 he1 => ?_
    have J1 : ∀ (u2 : Unit) (i5 : Nat → Nat), o1 = .nrm u2 → K14 ⟨[(1, .ptr 1 n0 0 0)], [(1, some (.box n0 38 [qf e1.Rows, qf e1.Cols, qc e1.Cells, qb e1.Split, qb e1.Merge]))], (i5 0), 70⟩ := by
     intro u2 i5 e
     have h7 := hk1 _ e
     refine hK14 _ ?_
     refine aS fun K16 hK16 wK16 => (aS fun K17 hK17 wK17 => (aR (sQ rfl (fB rfl tf_38_4 iL fR rfl) (sQ rfl (ms_load_box (a := qb e1.Merge) rfl ts_29 iL rfl rfl) (sQ rfl (ms_len rfl tg_29.slice iL) (sM rfl rfl (aZ (hK17 _ ?_))))))))
     refine AW.block ?_
     refine jc1k h7 fun o2 hit2 hk2 he2 => ?_
     have J2 : ∀ (u4 : Unit) (i10 : Nat → Nat), o2 = .nrm u4 → K16 ⟨[], [], (i10 0), 70⟩ := by
      intro u4 i10 e
      have h8 := hk2 _ e
      refine hK16 _ ?_
      refine aS fun K18 hK18 wK18 => (aR (sA rfl rfl (aZ (hK18 _ ?_))))
      refine AW.ret ?_
      exact retf1 (P := prog) (fun (r : Int) => rI (r)) h8 iL (.t (.d rfl))
     refine AW.iter1 (fun (x5 : Int) i8 => ⟨[(1, .ptr 1 n0 0 0), (42, rI ((e1.Merge.length : Int))), (43, rI (x5))], [(1, some (.box n0 38 [qf e1.Rows, qf e1.Cols, qc e1.Cells, qb e1.Split, qb e1.Merge]))], (i8 0), 70⟩) (vec [(i5 0)]) hit2 ((by exact Weak.cv ⟨jL, jL, jL, trivial⟩ ⟨.inl rfl, trivial⟩ nL)) ?_
     intro x5 i8 v1 hv1 hx2
     have h9 : ref_EditError_L2 e1 x5 = some v1 := hv1; unfold ref_EditError_L2 at h9
     refine aS fun K19 hK19 wK19 => (aR (sQ rfl (sp_lss rfl iL iL) (aZ (hK19 _ ?_))))
     refine aS fun K20 hK20 wK20 => ?_
     refine aC rfl (fun hc4 => ?_) (fun hc4 => ?_)
     ·have h10 := ite_t hc4 h9
      refine AW.skip ?_
      refine hK20 _ ?_
      refine aS fun K21 hK21 wK21 => (AW.block (aS fun K22 hK22 wK22 => (aR (sM rfl rfl (sA rfl rfl (aZ (hK22 _ ?_)))))))
      refine aS fun K23 hK23 wK23 => (aS fun K24 hK24 wK24 => (aR (sQ rfl (fB rfl tf_38_4 iL fR rfl) (sQ rfl (ms_load_box (a := qb e1.Merge) rfl ts_29 iL rfl rfl) (sM rfl rfl (ob1k h10 fun x7 ex7 h11 => (sQ rfl (ms_idx rfl tg_29.slice iL iL (fun _ => rfl) (fun _ => ex7)) (sQ rfl (ms_loadA (cs := [rI (x7.Row), rI (x7.Col), rI (x7.H), rI (x7.W)]) rfl ta_138 iL rfl rfl) (ob1k h11 fun r1 er1 h12 => (AOps.step rfl rfl rfl (sp_call (r := rB (r1)) (caps := []) (bs := [.agg [rI (x7.Row), rI (x7.Col), rI (x7.H), rI (x7.W)], rI (2147483647), rI (2147483647)]) rfl iL rfl ⟨⟨_, iL, .g (cs := [.int .i64 x7.Row, .int .i64 x7.Col, .int .i64 x7.H, .int .i64 x7.W]) rfl rfl⟩, ⟨_, iL, .d rfl⟩, ⟨_, iL, .d rfl⟩, trivial⟩ (fun _ => w_ref_Lies (er1)) rfl) (sQ rfl (sp_not rfl iL) (aZ (hK24 _ ?_)))))))))))))
      refine aC rfl (fun hc5 => ?_) (fun hc5 => ?_)
      ·have h13 := ite_t hc5 h12
       refine aS fun K25 hK25 wK25 => ?_
       refine AW.weak (s' := ⟨[], [], (i8 0), 70⟩) (by exact Weak.cv trivial trivial nL) ?_
       refine aR (sA rfl rfl (aZ (hK25 _ ?_)))
       refine AW.ret ?_
       exact retf1 (P := prog) (fun (r : Int) => rI (r)) (he2 _ (hx2 _ (Option.some.inj h13).symm)) iL (.t (.d rfl))
      ·have h13 := ite_f hc5 h12
       refine AW.skip ?_
       refine hK23 _ ?_
       refine aS fun K26 hK26 wK26 => ?_
       refine AW.weak (s' := ⟨[(1, .ptr 1 n0 0 0), (7, rI (x5)), (42, rI ((e1.Merge.length : Int))), (43, rI (x5))], [(1, some (.box n0 38 [qf e1.Rows, qf e1.Cols, qc e1.Cells, qb e1.Split, qb e1.Merge]))], (i8 0), 70⟩) (by exact Weak.cv ⟨jL, jL, jL, jL, trivial⟩ ⟨.inl rfl, trivial⟩ nL) ?_
       refine aR (sQ rfl (fB rfl tf_38_4 iL fR rfl) (sQ rfl (ms_load_box (a := qb e1.Merge) rfl ts_29 iL rfl rfl) (sM rfl rfl (sQ rfl (ms_idx rfl tg_29.slice iL iL (fun _ => rfl) (fun _ => ex7)) (sQ rfl (sp_fieldAddr_ro rfl tf_138_2 iL) (sQ rfl (ms_load (d := .int .i64 x7.H) rfl ts_3 iL rfl) (sQ rfl (sp_eql rfl iL iL) (sM rfl rfl (sV rfl rfl rfl (fB rfl tf_38_4 iL fR rfl) (sV rfl rfl rfl (ms_load_box (a := qb e1.Merge) rfl ts_29 (iR rfl) rfl rfl) (sV rfl rfl rfl (sp_move rfl iL) (sV rfl rfl rfl (ms_idx rfl tg_29.slice (iR rfl) (iR rfl) (fun _ => rfl) (fun _ => ex7)) (sV rfl rfl rfl (sp_fieldAddr_ro rfl tf_138_3 (iR rfl)) (sV rfl rfl rfl (ms_load (d := .int .i64 x7.W) rfl ts_3 (iR rfl) rfl) (sV rfl rfl rfl (sp_eql rfl (iR rfl) iL) (sQ rfl (sp_and rfl iL (iR rfl)) (aZ (hK26 _ ?_))))))))))))))))))
       refine aC rfl (fun hc6 => ?_) (fun hc6 => ?_)
       ·have h14 := ite_t hc6 h13
        refine aS fun K27 hK27 wK27 => ?_
        refine AW.weak (s' := ⟨[], [], (i8 0), 70⟩) (by exact Weak.cv trivial trivial nL) ?_
        refine aR (sA rfl rfl (aZ (hK27 _ ?_)))
        refine AW.ret ?_
        exact retf1 (P := prog) (fun (r : Int) => rI (r)) (he2 _ (hx2 _ (Option.some.inj h14).symm)) iL (.t (.d rfl))
       ·have h14 := ite_f hc6 h13
        refine AW.skip ?_
        refine hK21 _ ?_
        refine AW.weak (s' := ⟨[(1, .ptr 1 n0 0 0), (42, rI ((e1.Merge.length : Int))), (43, rI (x5))], [(1, some (.box n0 38 [qf e1.Rows, qf e1.Cols, qc e1.Cells, qb e1.Split, qb e1.Merge]))], (i8 0), 70⟩) (by exact Weak.cv ⟨jL, jL, jL, trivial⟩ ⟨.inl rfl, trivial⟩ nL) ?_
        refine aR (ob1k h14 fun x8 ex8 h15 => (sQ rfl (ms_add rfl iL iL (fun _ => ex8)) (sM rfl rfl ?_)))
        refine AOps.nil ?_
        exact NextQ1.mk h15 (vec [(i8 0)]) ((by exact Weak.cv ⟨jL, jL, jL, trivial⟩ ⟨.inl rfl, trivial⟩ nL))
     ·have h10 := ite_f hc4 h9
      refine AW.exit ?_
      exact wK16 _ _ ((by exact Weak.cv trivial trivial nL)) (J2 _ (vec [(i8 0)]) (hx2 _ (Option.some.inj h10).symm))
    refine AW.iter1 (fun (x2 : Int) i3 => ⟨[(1, .ptr 1 n0 0 0), (28, rI ((e1.Split.length : Int))), (29, rI (x2))], [(1, some (.box n0 38 [qf e1.Rows, qf e1.Cols, qc e1.Cells, qb e1.Split, qb e1.Merge]))], (i3 0), 70⟩) (vec [(n0 + 1)]) hit1 ((by exact Weak.cv ⟨jL, jL, jL, trivial⟩ ⟨.inl rfl, trivial⟩ nL)) ?_
    intro x2 i3 v2 hv2 hx1
    have h16 : ref_EditError_L1 e1 x2 = some v2 := hv2; unfold ref_EditError_L1 at h16
    refine aS fun K28 hK28 wK28 => (aR (sQ rfl (sp_lss rfl iL iL) (aZ (hK28 _ ?_))))
    refine aS fun K29 hK29 wK29 => ?_
    refine aC rfl (fun hc7 => ?_) (fun hc7 => ?_)
    ·have h17 := ite_t hc7 h16
     refine AW.skip ?_
     refine hK29 _ ?_
     refine aS fun K30 hK30 wK30 => (AW.block (aS fun K31 hK31 wK31 => (aR (sM rfl rfl (sA rfl rfl (aZ (hK31 _ ?_)))))))
     refine aS fun K32 hK32 wK32 => (aR (sQ rfl (fB rfl tf_38_3 iL fR rfl) (sQ rfl (ms_load_box (a := qb e1.Split) rfl ts_29 iL rfl rfl) (sM rfl rfl (ob1k h17 fun x9 ex9 h18 => (sQ rfl (ms_idx rfl tg_29.slice iL iL (fun _ => rfl) (fun _ => ex9)) (sQ rfl (ms_loadA (cs := [rI (x9.Row), rI (x9.Col), rI (x9.H), rI (x9.W)]) rfl ta_138 iL rfl rfl) (ob1k h18 fun r2 er2 h19 => (AOps.step rfl rfl rfl (sp_call (r := rB (r2)) (caps := []) (bs := [.agg [rI (x9.Row), rI (x9.Col), rI (x9.H), rI (x9.W)], rI (2147483647), rI (2147483647)]) rfl iL rfl ⟨⟨_, iL, .g (cs := [.int .i64 x9.Row, .int .i64 x9.Col, .int .i64 x9.H, .int .i64 x9.W]) rfl rfl⟩, ⟨_, iL, .d rfl⟩, ⟨_, iL, .d rfl⟩, trivial⟩ (fun _ => w_ref_Lies (er2)) rfl) (sQ rfl (sp_not rfl iL) (aZ (hK32 _ ?_))))))))))))
     refine aC rfl (fun hc8 => ?_) (fun hc8 => ?_)
     ·have h20 := ite_t hc8 h19
      refine aS fun K33 hK33 wK33 => ?_
      refine AW.weak (s' := ⟨[], [], (i3 0), 70⟩) (by exact Weak.cv trivial trivial nL) ?_
      refine aR (sA rfl rfl (aZ (hK33 _ ?_)))
      refine AW.ret ?_
      exact retf1 (P := prog) (fun (r : Int) => rI (r)) (he1 _ (hx1 _ (Option.some.inj h20).symm)) iL (.t (.d rfl))
     ·have h20 := ite_f hc8 h19
      refine AW.skip ?_
      refine hK30 _ ?_
      refine AW.weak (s' := ⟨[(1, .ptr 1 n0 0 0), (28, rI ((e1.Split.length : Int))), (29, rI (x2))], [(1, some (.box n0 38 [qf e1.Rows, qf e1.Cols, qc e1.Cells, qb e1.Split, qb e1.Merge]))], (i3 0), 70⟩) (by exact Weak.cv ⟨jL, jL, jL, trivial⟩ ⟨.inl rfl, trivial⟩ nL) ?_
      refine aR (ob1k h20 fun x10 ex10 h21 => (sQ rfl (ms_add rfl iL iL (fun _ => ex10)) (sM rfl rfl ?_)))
      refine AOps.nil ?_
      exact NextQ1.mk h21 (vec [(i3 0)]) ((by exact Weak.cv ⟨jL, jL, jL, trivial⟩ ⟨.inl rfl, trivial⟩ nL))
    ·have h17 := ite_f hc7 h16
     refine AW.exit ?_
     exact wK14 _ _ ((by exact Weak.cv ⟨jL, trivial⟩ ⟨.inl rfl, trivial⟩ nL)) (J1 _ (vec [(i3 0)]) (hx1 _ (Option.some.inj h17).symm))
theorem w_ref_OpError {o1 : GOp} {r : Int} (h : ref_OpError o1 = some r) : ARO prog 8 [.agg [rI (o1.Kind), rI (o1.Node), rI (o1.New.ID), rI (o1.New.Kind), qa o1.New.Attrs, qd o1.New.Flow, rI (o1.New.Grid.Rows), rI (o1.New.Grid.Cols), qc o1.New.Grid.Cells, qb o1.New.Grid.Merges, qe o1.New.Draw, qa o1.Attrs, qh o1.Steps, qf o1.Grid.Rows, qf o1.Grid.Cols, qc o1.Grid.Cells, qb o1.Grid.Split, qb o1.Grid.Merge, qe o1.Draw]] (rI (r)) := by
 unfold ref_OpError at h
 refine ARO.mkF func8 rfl rfl ntmps8 rfl (Nat.le_of_ble_eq_true rfl) fun n0 => ?_
 refine aS fun K1 hK1 wK1 => (aR (AOps.step rfl rfl rfl (ms_box (cs := [rI (o1.Kind), rI (o1.Node), rI (o1.New.ID), rI (o1.New.Kind), qa o1.New.Attrs, qd o1.New.Flow, rI (o1.New.Grid.Rows), rI (o1.New.Grid.Cols), qc o1.New.Grid.Cells, qb o1.New.Grid.Merges, qe o1.New.Draw, qa o1.Attrs, qh o1.Steps, qf o1.Grid.Rows, qf o1.Grid.Cols, qc o1.Grid.Cells, qb o1.Grid.Split, qb o1.Grid.Merge, qe o1.Draw]) 1 rfl iL rfl rfl) (sA rfl rfl (aZ (hK1 _ ?_)))))
 refine aS fun K2 hK2 wK2 => (aS fun K3 hK3 wK3 => (aR (sQ rfl (fB rfl tf_40_0 iL fR rfl) (sQ rfl (ms_load_box (a := rI (o1.Kind)) rfl ts_3 iL rfl rfl) (ob1k h fun r1 er1 h1 => (AOps.step rfl rfl rfl (sp_call (r := rB (r1)) (caps := []) (bs := [rI (o1.Kind), rI (0), rI (4)]) rfl iL rfl ⟨⟨_, iL, .d rfl⟩, ⟨_, iL, .d rfl⟩, ⟨_, iL, .d rfl⟩, trivial⟩ (fun _ => w_ref_In (er1)) rfl) (sQ rfl (sp_not rfl iL) (aZ (hK3 _ ?_)))))))))
 refine aC rfl (fun hc1 => ?_) (fun hc1 => ?_)
 ·have h2 := ite_t hc1 h1
  refine aS fun K4 hK4 wK4 => (aR (sA rfl rfl (aZ (hK4 _ ?_))))
  refine AW.ret ?_
  exact retf1 (P := prog) (fun (r : Int) => rI (r)) h2 iL (.t (.d rfl))
 ·have h2 := ite_f hc1 h1
  refine AW.skip ?_
  refine hK2 _ ?_
  refine aS fun K5 hK5 wK5 => (aR (sQ rfl (fB rfl tf_40_5 iL fR rfl) (sQ rfl (ms_loadA_box_at (ds := [qf o1.Grid.Rows, qf o1.Grid.Cols, qc o1.Grid.Cells, qb o1.Grid.Split, qb o1.Grid.Merge]) rfl ta_38 iL rfl rfl rfl) (AOps.step rfl rfl rfl (ms_alloc (cs := [.cst (.slice none 0 0), .cst (.slice none 0 0), .cst (.slice none 0 0), .cst (.slice none 0 0), .cst (.slice none 0 0)]) 3 rfl t0_38 rfl rfl) (AOps.step0 rfl rfl (ms_store_box (ds := [qf o1.Grid.Rows, qf o1.Grid.Cols, qc o1.Grid.Cells, qb o1.Grid.Split, qb o1.Grid.Merge]) rfl tz_38 iL rfl iL rfl rfl rfl rfl) (aZ (hK5 _ ?_)))))))
  refine aS fun K6 hK6 wK6 => (ob1k h2 fun r2 er2 h3 => (ob1k h3 fun x1 ex1 h4 => (ob1k h4 fun x2 ex2 h5 => (ob1k h5 fun x3 ex3 h6 => (ob1k h6 fun x4 ex4 h7 => ?_)))))
  refine AW.regionP 39 [⟨some 12, (fun _ => .ptr 1 n0 0 2), none, []⟩, ⟨some 13, (fun _ => .agg [rI (o1.New.ID), rI (o1.New.Kind), qa o1.New.Attrs, qd o1.New.Flow, rI (o1.New.Grid.Rows), rI (o1.New.Grid.Cols), qc o1.New.Grid.Cells, qb o1.New.Grid.Merges, qe o1.New.Draw]), none, []⟩, ⟨some 14, (fun _ => .agg [rI (0), rI (0), .cst (.slice none 0 0), .cst (.slice none 0 0), rI (0), rI (0), .cst (.slice none 0 0), .cst (.slice none 0 0), .cst (.slice none 0 0)]), none, []⟩, ⟨some 15, (fun _ => rB (r2)), none, []⟩, ⟨some 16, (fun _ => rB ((!r2))), none, []⟩, ⟨some 17, (fun _ => .ptr 1 n0 0 11), none, []⟩, ⟨some 18, (fun _ => qa o1.Attrs), none, []⟩, ⟨some 19, (fun _ => rI ((o1.Attrs.length : Int))), none, []⟩, ⟨some 20, (fun _ => rB ((decide (0 < (o1.Attrs.length : Int))))), none, []⟩, ⟨some 21, (fun _ => .ptr 1 n0 0 12), none, []⟩, ⟨some 22, (fun _ => qh o1.Steps), none, []⟩, ⟨some 23, (fun _ => rI ((o1.Steps.length : Int))), none, []⟩, ⟨some 24, (fun _ => rB ((decide (0 < (o1.Steps.length : Int))))), none, []⟩, ⟨some 25, (fun _ => .ptr 3 (n0 + 1) 0 0), none, []⟩, ⟨some 26, (fun _ => qf o1.Grid.Rows), none, []⟩, ⟨some 27, (fun _ => rI ((o1.Grid.Rows.length : Int))), none, []⟩, ⟨some 28, (fun _ => .ptr 3 (n0 + 1) 0 1), none, []⟩, ⟨some 29, (fun _ => qf o1.Grid.Cols), none, []⟩, ⟨some 30, (fun _ => rI ((o1.Grid.Cols.length : Int))), none, []⟩, ⟨some 31, (fun _ => rI (x1)), none, []⟩, ⟨some 32, (fun _ => .ptr 3 (n0 + 1) 0 2), none, []⟩, ⟨some 33, (fun _ => qc o1.Grid.Cells), none, []⟩, ⟨some 34, (fun _ => rI ((o1.Grid.Cells.length : Int))), none, []⟩, ⟨some 35, (fun _ => rI (x2)), none, []⟩, ⟨some 36, (fun _ => .ptr 3 (n0 + 1) 0 3), none, []⟩, ⟨some 37, (fun _ => qb o1.Grid.Split), none, []⟩, ⟨some 38, (fun _ => rI ((o1.Grid.Split.length : Int))), none, []⟩, ⟨some 39, (fun _ => rI (x3)), none, []⟩, ⟨some 40, (fun _ => .ptr 3 (n0 + 1) 0 4), none, []⟩, ⟨some 41, (fun _ => qb o1.Grid.Merge), none, []⟩, ⟨some 42, (fun _ => rI ((o1.Grid.Merge.length : Int))), none, []⟩, ⟨some 43, (fun _ => rI (x4)), none, []⟩, ⟨some 44, (fun _ => rB ((decide (0 < x4)))), none, []⟩, ⟨some 45, (fun _ => .ptr 1 n0 0 18), none, []⟩, ⟨some 46, (fun _ => qe o1.Draw), none, []⟩, ⟨some 47, (fun _ => rI ((o1.Draw.length : Int))), none, []⟩, ⟨some 48, (fun _ => rB ((decide (0 < (o1.Draw.length : Int))))), none, []⟩, ⟨some 49, (fun _ => .agg [rB ((!r2)), rB ((decide (0 < (o1.Attrs.length : Int)))), rB ((decide (0 < (o1.Steps.length : Int)))), rB ((decide (0 < x4))), rB ((decide (0 < (o1.Draw.length : Int))))]), none, []⟩, ⟨some 4, (fun G1 => .ptr 4 (G1 38) 0 0), some (4, (fun G1 => some (.box (G1 38) 88 [rB (false), rB (false), rB (false), rB (false), rB (false)]))), [38]⟩] hmix (by kernel_rfl) (by exact ⟨fun _ _ h => ⟨rfl, fun _ _ e => by cases e⟩, fun _ _ h => ⟨rfl, fun _ _ e => by cases e⟩, fun _ _ h => ⟨rfl, fun _ _ e => by cases e⟩, fun _ _ h => ⟨rfl, fun _ _ e => by cases e⟩, fun _ _ h => ⟨rfl, fun _ _ e => by cases e⟩, fun _ _ h => ⟨rfl, fun _ _ e => by cases e⟩, fun _ _ h => ⟨rfl, fun _ _ e => by cases e⟩, fun _ _ h => ⟨rfl, fun _ _ e => by cases e⟩, fun _ _ h => ⟨rfl, fun _ _ e => by cases e⟩, fun _ _ h => ⟨rfl, fun _ _ e => by cases e⟩, fun _ _ h => ⟨rfl, fun _ _ e => by cases e⟩, fun _ _ h => ⟨rfl, fun _ _ e => by cases e⟩, fun _ _ h => ⟨rfl, fun _ _ e => by cases e⟩, fun _ _ h => ⟨rfl, fun _ _ e => by cases e⟩, fun _ _ h => ⟨rfl, fun _ _ e => by cases e⟩, fun _ _ h => ⟨rfl, fun _ _ e => by cases e⟩, fun _ _ h => ⟨rfl, fun _ _ e => by cases e⟩, fun _ _ h => ⟨rfl, fun _ _ e => by cases e⟩, fun _ _ h => ⟨rfl, fun _ _ e => by cases e⟩, fun _ _ h => ⟨rfl, fun _ _ e => by cases e⟩, fun _ _ h => ⟨rfl, fun _ _ e => by cases e⟩, fun _ _ h => ⟨rfl, fun _ _ e => by cases e⟩, fun _ _ h => ⟨rfl, fun _ _ e => by cases e⟩, fun _ _ h => ⟨rfl, fun _ _ e => by cases e⟩, fun _ _ h => ⟨rfl, fun _ _ e => by cases e⟩, fun _ _ h => ⟨rfl, fun _ _ e => by cases e⟩, fun _ _ h => ⟨rfl, fun _ _ e => by cases e⟩, fun _ _ h => ⟨rfl, fun _ _ e => by cases e⟩, fun _ _ h => ⟨rfl, fun _ _ e => by cases e⟩, fun _ _ h => ⟨rfl, fun _ _ e => by cases e⟩, fun _ _ h => ⟨rfl, fun _ _ e => by cases e⟩, fun _ _ h => ⟨rfl, fun _ _ e => by cases e⟩, fun _ _ h => ⟨rfl, fun _ _ e => by cases e⟩, fun _ _ h => ⟨rfl, fun _ _ e => by cases e⟩, fun _ _ h => ⟨rfl, fun _ _ e => by cases e⟩, fun _ _ h => ⟨rfl, fun _ _ e => by cases e⟩, fun _ _ h => ⟨rfl, fun _ _ e => by cases e⟩, fun _ _ h => ⟨rfl, fun _ _ e => by cases e⟩, fun _ _ h => ⟨by simp only [h 38 rfl], fun _ _ e => by cases e; simp only [h 38 rfl]⟩, trivial⟩) rfl (by exact ⟨Ob.quiet (n1 := fun n => n) rfl rfl (by intro d h; cases h; rfl) rfl (fun _ => [(1, .ptr 1 n0 0 0)]) (fun _ => [(1, some (.box n0 40 [rI (o1.Kind), rI (o1.Node), rI (o1.New.ID), rI (o1.New.Kind), qa o1.New.Attrs, qd o1.New.Flow, rI (o1.New.Grid.Rows), rI (o1.New.Grid.Cols), qc o1.New.Grid.Cells, qb o1.New.Grid.Merges, qe o1.New.Draw, qa o1.Attrs, qh o1.Steps, qf o1.Grid.Rows, qf o1.Grid.Cols, qc o1.Grid.Cells, qb o1.Grid.Split, qb o1.Grid.Merge, qe o1.Draw]))]) (fun D G1 hr => ⟨inE_base rfl rfl, trivial⟩) (fun D G1 hr => ⟨inH_base rfl rfl, trivial⟩) (fun _ _ => rfl) (fun G1 e h' n => OpQ.spec (v := .ptr 1 n0 0 2) (fB rfl tf_40_2 (.inl rfl) (fun _ => rfl) rfl) _),
    Ob.quiet (n1 := fun n => n) rfl rfl (by intro d h; cases h; rfl) rfl (fun _ => [(12, .ptr 1 n0 0 2)]) (fun _ => [(1, some (.box n0 40 [rI (o1.Kind), rI (o1.Node), rI (o1.New.ID), rI (o1.New.Kind), qa o1.New.Attrs, qd o1.New.Flow, rI (o1.New.Grid.Rows), rI (o1.New.Grid.Cols), qc o1.New.Grid.Cells, qb o1.New.Grid.Merges, qe o1.New.Draw, qa o1.Attrs, qh o1.Steps, qf o1.Grid.Rows, qf o1.Grid.Cols, qc o1.Grid.Cells, qb o1.Grid.Split, qb o1.Grid.Merge, qe o1.Draw]))]) (fun D G1 hr => ⟨inE_op hr 0 rfl rfl (by kernel_rfl) rfl rfl, trivial⟩) (fun D G1 hr => ⟨inH_base rfl rfl, trivial⟩) (fun _ _ => rfl) (fun G1 e h' n => OpQ.spec (v := .agg [rI (o1.New.ID), rI (o1.New.Kind), qa o1.New.Attrs, qd o1.New.Flow, rI (o1.New.Grid.Rows), rI (o1.New.Grid.Cols), qc o1.New.Grid.Cells, qb o1.New.Grid.Merges, qe o1.New.Draw]) (ms_loadA_box_at (ds := [rI (o1.New.ID), rI (o1.New.Kind), qa o1.New.Attrs, qd o1.New.Flow, rI (o1.New.Grid.Rows), rI (o1.New.Grid.Cols), qc o1.New.Grid.Cells, qb o1.New.Grid.Merges, qe o1.New.Draw]) rfl ta_34 (.inl rfl) rfl rfl rfl) _),
    Ob.quiet (n1 := fun n => n) rfl rfl (by intro d h; cases h; rfl) rfl (fun _ => []) (fun _ => []) (fun D G1 hr => trivial) (fun D G1 hr => trivial) (fun _ _ => rfl) (fun G1 e h' n => OpQ.spec (v := .agg [rI (0), rI (0), .cst (.slice none 0 0), .cst (.slice none 0 0), rI (0), rI (0), .cst (.slice none 0 0), .cst (.slice none 0 0), .cst (.slice none 0 0)]) (sp_build rfl tb_34 (q := []) (by exact trivial) (cs := [rI (0), rI (0), .cst (.slice none 0 0), .cst (.slice none 0 0), rI (0), rI (0), .cst (.slice none 0 0), .cst (.slice none 0 0), .cst (.slice none 0 0)]) (by rfl)) _),
    Ob.quiet (n1 := fun n => n) rfl rfl (by intro d h; cases h; rfl) rfl (fun _ => [(13, .agg [rI (o1.New.ID), rI (o1.New.Kind), qa o1.New.Attrs, qd o1.New.Flow, rI (o1.New.Grid.Rows), rI (o1.New.Grid.Cols), qc o1.New.Grid.Cells, qb o1.New.Grid.Merges, qe o1.New.Draw]), (14, .agg [rI (0), rI (0), .cst (.slice none 0 0), .cst (.slice none 0 0), rI (0), rI (0), .cst (.slice none 0 0), .cst (.slice none 0 0), .cst (.slice none 0 0)])]) (fun _ => []) (fun D G1 hr => ⟨inE_op hr 1 rfl rfl (by kernel_rfl) rfl rfl, inE_op hr 2 rfl rfl (by kernel_rfl) rfl rfl, trivial⟩) (fun D G1 hr => trivial) (fun _ _ => rfl) (fun G1 e h' n => sp_call (r := rB (r2)) (caps := []) (bs := [.agg [rI (o1.New.ID), rI (o1.New.Kind), qa o1.New.Attrs, qd o1.New.Flow, rI (o1.New.Grid.Rows), rI (o1.New.Grid.Cols), qc o1.New.Grid.Cells, qb o1.New.Grid.Merges, qe o1.New.Draw], .agg [rI (0), rI (0), .r (.sl []), .r (.sl []), rI (0), rI (0), .r (.sl []), .r (.sl []), .r (.sl [])]]) rfl (.inl rfl) rfl ⟨⟨_, (.inl rfl), .g (cs := [.int .i64 o1.New.ID, .int .i64 o1.New.Kind, .sl (o1.New.Attrs.map GAttr.row), .sl (o1.New.Flow.map GElem.row), .int .i64 o1.New.Grid.Rows, .int .i64 o1.New.Grid.Cols, .sl (o1.New.Grid.Cells.map GCell.row), .sl (o1.New.Grid.Merges.map GRect.row), .sl (o1.New.Draw.map GDrawOp.row)]) rfl rfl⟩, ⟨_, (.inl rfl), .agg (by exact ⟨.closed _ rfl, .closed _ rfl, .nil, .nil, .closed _ rfl, .closed _ rfl, .nil, .nil, .nil, trivial⟩)⟩, trivial⟩ (fun _ => w_ref_SameNode (er2)) rfl),
    Ob.quiet (n1 := fun n => n) rfl rfl (by intro d h; cases h; rfl) rfl (fun _ => [(15, rB (r2))]) (fun _ => []) (fun D G1 hr => ⟨inE_op hr 3 rfl rfl (by kernel_rfl) rfl rfl, trivial⟩) (fun D G1 hr => trivial) (fun _ _ => rfl) (fun G1 e h' n => OpQ.spec (v := rB ((!r2))) (sp_not rfl (.inl rfl)) _),
    Ob.quiet (n1 := fun n => n) rfl rfl (by intro d h; cases h; rfl) rfl (fun _ => [(1, .ptr 1 n0 0 0)]) (fun _ => [(1, some (.box n0 40 [rI (o1.Kind), rI (o1.Node), rI (o1.New.ID), rI (o1.New.Kind), qa o1.New.Attrs, qd o1.New.Flow, rI (o1.New.Grid.Rows), rI (o1.New.Grid.Cols), qc o1.New.Grid.Cells, qb o1.New.Grid.Merges, qe o1.New.Draw, qa o1.Attrs, qh o1.Steps, qf o1.Grid.Rows, qf o1.Grid.Cols, qc o1.Grid.Cells, qb o1.Grid.Split, qb o1.Grid.Merge, qe o1.Draw]))]) (fun D G1 hr => ⟨inE_base rfl rfl, trivial⟩) (fun D G1 hr => ⟨inH_base rfl rfl, trivial⟩) (fun _ _ => rfl) (fun G1 e h' n => OpQ.spec (v := .ptr 1 n0 0 11) (fB rfl tf_40_3 (.inl rfl) (fun _ => rfl) rfl) _),
    Ob.quiet (n1 := fun n => n) rfl rfl (by intro d h; cases h; rfl) rfl (fun _ => [(17, .ptr 1 n0 0 11)]) (fun _ => [(1, some (.box n0 40 [rI (o1.Kind), rI (o1.Node), rI (o1.New.ID), rI (o1.New.Kind), qa o1.New.Attrs, qd o1.New.Flow, rI (o1.New.Grid.Rows), rI (o1.New.Grid.Cols), qc o1.New.Grid.Cells, qb o1.New.Grid.Merges, qe o1.New.Draw, qa o1.Attrs, qh o1.Steps, qf o1.Grid.Rows, qf o1.Grid.Cols, qc o1.Grid.Cells, qb o1.Grid.Split, qb o1.Grid.Merge, qe o1.Draw]))]) (fun D G1 hr => ⟨inE_op hr 5 rfl rfl (by kernel_rfl) rfl rfl, trivial⟩) (fun D G1 hr => ⟨inH_base rfl rfl, trivial⟩) (fun _ _ => rfl) (fun G1 e h' n => OpQ.spec (v := qa o1.Attrs) (ms_load_box (a := qa o1.Attrs) rfl ts_26 (.inl rfl) rfl rfl) _),
    Ob.quiet (n1 := fun n => n) rfl rfl (by intro d h; cases h; rfl) rfl (fun _ => [(18, qa o1.Attrs)]) (fun _ => []) (fun D G1 hr => ⟨inE_op hr 6 rfl rfl (by kernel_rfl) rfl rfl, trivial⟩) (fun D G1 hr => trivial) (fun _ _ => rfl) (fun G1 e h' n => OpQ.spec (v := rI ((o1.Attrs.length : Int))) (ms_len rfl tg_26.slice (.inl rfl)) _),
    Ob.quiet (n1 := fun n => n) rfl rfl (by intro d h; cases h; rfl) rfl (fun _ => [(19, rI ((o1.Attrs.length : Int)))]) (fun _ => []) (fun D G1 hr => ⟨inE_op hr 7 rfl rfl (by kernel_rfl) rfl rfl, trivial⟩) (fun D G1 hr => trivial) (fun _ _ => rfl) (fun G1 e h' n => OpQ.spec (v := rB ((decide (0 < (o1.Attrs.length : Int))))) (sp_gtr rfl (.inl rfl) (.inl rfl)) _),
    Ob.quiet (n1 := fun n => n) rfl rfl (by intro d h; cases h; rfl) rfl (fun _ => [(1, .ptr 1 n0 0 0)]) (fun _ => [(1, some (.box n0 40 [rI (o1.Kind), rI (o1.Node), rI (o1.New.ID), rI (o1.New.Kind), qa o1.New.Attrs, qd o1.New.Flow, rI (o1.New.Grid.Rows), rI (o1.New.Grid.Cols), qc o1.New.Grid.Cells, qb o1.New.Grid.Merges, qe o1.New.Draw, qa o1.Attrs, qh o1.Steps, qf o1.Grid.Rows, qf o1.Grid.Cols, qc o1.Grid.Cells, qb o1.Grid.Split, qb o1.Grid.Merge, qe o1.Draw]))]) (fun D G1 hr => ⟨inE_base rfl rfl, trivial⟩) (fun D G1 hr => ⟨inH_base rfl rfl, trivial⟩) (fun _ _ => rfl) (fun G1 e h' n => OpQ.spec (v := .ptr 1 n0 0 12) (fB rfl tf_40_4 (.inl rfl) (fun _ => rfl) rfl) _),
    Ob.quiet (n1 := fun n => n) rfl rfl (by intro d h; cases h; rfl) rfl (fun _ => [(21, .ptr 1 n0 0 12)]) (fun _ => [(1, some (.box n0 40 [rI (o1.Kind), rI (o1.Node), rI (o1.New.ID), rI (o1.New.Kind), qa o1.New.Attrs, qd o1.New.Flow, rI (o1.New.Grid.Rows), rI (o1.New.Grid.Cols), qc o1.New.Grid.Cells, qb o1.New.Grid.Merges, qe o1.New.Draw, qa o1.Attrs, qh o1.Steps, qf o1.Grid.Rows, qf o1.Grid.Cols, qc o1.Grid.Cells, qb o1.Grid.Split, qb o1.Grid.Merge, qe o1.Draw]))]) (fun D G1 hr => ⟨inE_op hr 9 rfl rfl (by kernel_rfl) rfl rfl, trivial⟩) (fun D G1 hr => ⟨inH_base rfl rfl, trivial⟩) (fun _ _ => rfl) (fun G1 e h' n => OpQ.spec (v := qh o1.Steps) (ms_load_box (a := qh o1.Steps) rfl ts_35 (.inl rfl) rfl rfl) _),
    Ob.quiet (n1 := fun n => n) rfl rfl (by intro d h; cases h; rfl) rfl (fun _ => [(22, qh o1.Steps)]) (fun _ => []) (fun D G1 hr => ⟨inE_op hr 10 rfl rfl (by kernel_rfl) rfl rfl, trivial⟩) (fun D G1 hr => trivial) (fun _ _ => rfl) (fun G1 e h' n => OpQ.spec (v := rI ((o1.Steps.length : Int))) (ms_len rfl tg_35.slice (.inl rfl)) _),
    Ob.quiet (n1 := fun n => n) rfl rfl (by intro d h; cases h; rfl) rfl (fun _ => [(23, rI ((o1.Steps.length : Int)))]) (fun _ => []) (fun D G1 hr => ⟨inE_op hr 11 rfl rfl (by kernel_rfl) rfl rfl, trivial⟩) (fun D G1 hr => trivial) (fun _ _ => rfl) (fun G1 e h' n => OpQ.spec (v := rB ((decide (0 < (o1.Steps.length : Int))))) (sp_gtr rfl (.inl rfl) (.inl rfl)) _),
    Ob.quiet (n1 := fun n => n) rfl rfl (by intro d h; cases h; rfl) rfl (fun _ => [(3, .ptr 3 (n0 + 1) 0 0)]) (fun _ => [(3, some (.box (n0 + 1) 38 [qf o1.Grid.Rows, qf o1.Grid.Cols, qc o1.Grid.Cells, qb o1.Grid.Split, qb o1.Grid.Merge]))]) (fun D G1 hr => ⟨inE_base rfl rfl, trivial⟩) (fun D G1 hr => ⟨inH_base rfl rfl, trivial⟩) (fun _ _ => rfl) (fun G1 e h' n => OpQ.spec (v := .ptr 3 (n0 + 1) 0 0) (fB rfl tf_38_0 (.inl rfl) (fun _ => rfl) rfl) _),
    Ob.quiet (n1 := fun n => n) rfl rfl (by intro d h; cases h; rfl) rfl (fun _ => [(25, .ptr 3 (n0 + 1) 0 0)]) (fun _ => [(3, some (.box (n0 + 1) 38 [qf o1.Grid.Rows, qf o1.Grid.Cols, qc o1.Grid.Cells, qb o1.Grid.Split, qb o1.Grid.Merge]))]) (fun D G1 hr => ⟨inE_op hr 13 rfl rfl (by kernel_rfl) rfl rfl, trivial⟩) (fun D G1 hr => ⟨inH_base rfl rfl, trivial⟩) (fun _ _ => rfl) (fun G1 e h' n => OpQ.spec (v := qf o1.Grid.Rows) (ms_load_box (a := qf o1.Grid.Rows) rfl ts_36 (.inl rfl) rfl rfl) _),
    Ob.quiet (n1 := fun n => n) rfl rfl (by intro d h; cases h; rfl) rfl (fun _ => [(26, qf o1.Grid.Rows)]) (fun _ => []) (fun D G1 hr => ⟨inE_op hr 14 rfl rfl (by kernel_rfl) rfl rfl, trivial⟩) (fun D G1 hr => trivial) (fun _ _ => rfl) (fun G1 e h' n => OpQ.spec (v := rI ((o1.Grid.Rows.length : Int))) (ms_len rfl tg_36.slice (.inl rfl)) _),
    Ob.quiet (n1 := fun n => n) rfl rfl (by intro d h; cases h; rfl) rfl (fun _ => [(3, .ptr 3 (n0 + 1) 0 0)]) (fun _ => [(3, some (.box (n0 + 1) 38 [qf o1.Grid.Rows, qf o1.Grid.Cols, qc o1.Grid.Cells, qb o1.Grid.Split, qb o1.Grid.Merge]))]) (fun D G1 hr => ⟨inE_base rfl rfl, trivial⟩) (fun D G1 hr => ⟨inH_base rfl rfl, trivial⟩) (fun _ _ => rfl) (fun G1 e h' n => OpQ.spec (v := .ptr 3 (n0 + 1) 0 1) (fB rfl tf_38_1 (.inl rfl) (fun _ => rfl) rfl) _),
    Ob.quiet (n1 := fun n => n) rfl rfl (by intro d h; cases h; rfl) rfl (fun _ => [(28, .ptr 3 (n0 + 1) 0 1)]) (fun _ => [(3, some (.box (n0 + 1) 38 [qf o1.Grid.Rows, qf o1.Grid.Cols, qc o1.Grid.Cells, qb o1.Grid.Split, qb o1.Grid.Merge]))]) (fun D G1 hr => ⟨inE_op hr 16 rfl rfl (by kernel_rfl) rfl rfl, trivial⟩) (fun D G1 hr => ⟨inH_base rfl rfl, trivial⟩) (fun _ _ => rfl) (fun G1 e h' n => OpQ.spec (v := qf o1.Grid.Cols) (ms_load_box (a := qf o1.Grid.Cols) rfl ts_36 (.inl rfl) rfl rfl) _),
    Ob.quiet (n1 := fun n => n) rfl rfl (by intro d h; cases h; rfl) rfl (fun _ => [(29, qf o1.Grid.Cols)]) (fun _ => []) (fun D G1 hr => ⟨inE_op hr 17 rfl rfl (by kernel_rfl) rfl rfl, trivial⟩) (fun D G1 hr => trivial) (fun _ _ => rfl) (fun G1 e h' n => OpQ.spec (v := rI ((o1.Grid.Cols.length : Int))) (ms_len rfl tg_36.slice (.inl rfl)) _),
    Ob.quiet (n1 := fun n => n) rfl rfl (by intro d h; cases h; rfl) rfl (fun _ => [(27, rI ((o1.Grid.Rows.length : Int))), (30, rI ((o1.Grid.Cols.length : Int)))]) (fun _ => []) (fun D G1 hr => ⟨inE_op hr 15 rfl rfl (by kernel_rfl) rfl rfl, inE_op hr 18 rfl rfl (by kernel_rfl) rfl rfl, trivial⟩) (fun D G1 hr => trivial) (fun _ _ => rfl) (fun G1 e h' n => OpQ.spec (v := rI (x1)) (ms_add rfl (.inl rfl) (.inl rfl) (fun _ => ex1)) _),
    Ob.quiet (n1 := fun n => n) rfl rfl (by intro d h; cases h; rfl) rfl (fun _ => [(3, .ptr 3 (n0 + 1) 0 0)]) (fun _ => [(3, some (.box (n0 + 1) 38 [qf o1.Grid.Rows, qf o1.Grid.Cols, qc o1.Grid.Cells, qb o1.Grid.Split, qb o1.Grid.Merge]))]) (fun D G1 hr => ⟨inE_base rfl rfl, trivial⟩) (fun D G1 hr => ⟨inH_base rfl rfl, trivial⟩) (fun _ _ => rfl) (fun G1 e h' n => OpQ.spec (v := .ptr 3 (n0 + 1) 0 2) (fB rfl tf_38_2 (.inl rfl) (fun _ => rfl) rfl) _),
    Ob.quiet (n1 := fun n => n) rfl rfl (by intro d h; cases h; rfl) rfl (fun _ => [(32, .ptr 3 (n0 + 1) 0 2)]) (fun _ => [(3, some (.box (n0 + 1) 38 [qf o1.Grid.Rows, qf o1.Grid.Cols, qc o1.Grid.Cells, qb o1.Grid.Split, qb o1.Grid.Merge]))]) (fun D G1 hr => ⟨inE_op hr 20 rfl rfl (by kernel_rfl) rfl rfl, trivial⟩) (fun D G1 hr => ⟨inH_base rfl rfl, trivial⟩) (fun _ _ => rfl) (fun G1 e h' n => OpQ.spec (v := qc o1.Grid.Cells) (ms_load_box (a := qc o1.Grid.Cells) rfl ts_28 (.inl rfl) rfl rfl) _),
    Ob.quiet (n1 := fun n => n) rfl rfl (by intro d h; cases h; rfl) rfl (fun _ => [(33, qc o1.Grid.Cells)]) (fun _ => []) (fun D G1 hr => ⟨inE_op hr 21 rfl rfl (by kernel_rfl) rfl rfl, trivial⟩) (fun D G1 hr => trivial) (fun _ _ => rfl) (fun G1 e h' n => OpQ.spec (v := rI ((o1.Grid.Cells.length : Int))) (ms_len rfl tg_28.slice (.inl rfl)) _),
    Ob.quiet (n1 := fun n => n) rfl rfl (by intro d h; cases h; rfl) rfl (fun _ => [(31, rI (x1)), (34, rI ((o1.Grid.Cells.length : Int)))]) (fun _ => []) (fun D G1 hr => ⟨inE_op hr 19 rfl rfl (by kernel_rfl) rfl rfl, inE_op hr 22 rfl rfl (by kernel_rfl) rfl rfl, trivial⟩) (fun D G1 hr => trivial) (fun _ _ => rfl) (fun G1 e h' n => OpQ.spec (v := rI (x2)) (ms_add rfl (.inl rfl) (.inl rfl) (fun _ => ex2)) _),
    Ob.quiet (n1 := fun n => n) rfl rfl (by intro d h; cases h; rfl) rfl (fun _ => [(3, .ptr 3 (n0 + 1) 0 0)]) (fun _ => [(3, some (.box (n0 + 1) 38 [qf o1.Grid.Rows, qf o1.Grid.Cols, qc o1.Grid.Cells, qb o1.Grid.Split, qb o1.Grid.Merge]))]) (fun D G1 hr => ⟨inE_base rfl rfl, trivial⟩) (fun D G1 hr => ⟨inH_base rfl rfl, trivial⟩) (fun _ _ => rfl) (fun G1 e h' n => OpQ.spec (v := .ptr 3 (n0 + 1) 0 3) (fB rfl tf_38_3 (.inl rfl) (fun _ => rfl) rfl) _),
    Ob.quiet (n1 := fun n => n) rfl rfl (by intro d h; cases h; rfl) rfl (fun _ => [(36, .ptr 3 (n0 + 1) 0 3)]) (fun _ => [(3, some (.box (n0 + 1) 38 [qf o1.Grid.Rows, qf o1.Grid.Cols, qc o1.Grid.Cells, qb o1.Grid.Split, qb o1.Grid.Merge]))]) (fun D G1 hr => ⟨inE_op hr 24 rfl rfl (by kernel_rfl) rfl rfl, trivial⟩) (fun D G1 hr => ⟨inH_base rfl rfl, trivial⟩) (fun _ _ => rfl) (fun G1 e h' n => OpQ.spec (v := qb o1.Grid.Split) (ms_load_box (a := qb o1.Grid.Split) rfl ts_29 (.inl rfl) rfl rfl) _),
    Ob.quiet (n1 := fun n => n) rfl rfl (by intro d h; cases h; rfl) rfl (fun _ => [(37, qb o1.Grid.Split)]) (fun _ => []) (fun D G1 hr => ⟨inE_op hr 25 rfl rfl (by kernel_rfl) rfl rfl, trivial⟩) (fun D G1 hr => trivial) (fun _ _ => rfl) (fun G1 e h' n => OpQ.spec (v := rI ((o1.Grid.Split.length : Int))) (ms_len rfl tg_29.slice (.inl rfl)) _),
    Ob.quiet (n1 := fun n => n) rfl rfl (by intro d h; cases h; rfl) rfl (fun _ => [(35, rI (x2)), (38, rI ((o1.Grid.Split.length : Int)))]) (fun _ => []) (fun D G1 hr => ⟨inE_op hr 23 rfl rfl (by kernel_rfl) rfl rfl, inE_op hr 26 rfl rfl (by kernel_rfl) rfl rfl, trivial⟩) (fun D G1 hr => trivial) (fun _ _ => rfl) (fun G1 e h' n => OpQ.spec (v := rI (x3)) (ms_add rfl (.inl rfl) (.inl rfl) (fun _ => ex3)) _),
    Ob.quiet (n1 := fun n => n) rfl rfl (by intro d h; cases h; rfl) rfl (fun _ => [(3, .ptr 3 (n0 + 1) 0 0)]) (fun _ => [(3, some (.box (n0 + 1) 38 [qf o1.Grid.Rows, qf o1.Grid.Cols, qc o1.Grid.Cells, qb o1.Grid.Split, qb o1.Grid.Merge]))]) (fun D G1 hr => ⟨inE_base rfl rfl, trivial⟩) (fun D G1 hr => ⟨inH_base rfl rfl, trivial⟩) (fun _ _ => rfl) (fun G1 e h' n => OpQ.spec (v := .ptr 3 (n0 + 1) 0 4) (fB rfl tf_38_4 (.inl rfl) (fun _ => rfl) rfl) _),
    Ob.quiet (n1 := fun n => n) rfl rfl (by intro d h; cases h; rfl) rfl (fun _ => [(40, .ptr 3 (n0 + 1) 0 4)]) (fun _ => [(3, some (.box (n0 + 1) 38 [qf o1.Grid.Rows, qf o1.Grid.Cols, qc o1.Grid.Cells, qb o1.Grid.Split, qb o1.Grid.Merge]))]) (fun D G1 hr => ⟨inE_op hr 28 rfl rfl (by kernel_rfl) rfl rfl, trivial⟩) (fun D G1 hr => ⟨inH_base rfl rfl, trivial⟩) (fun _ _ => rfl) (fun G1 e h' n => OpQ.spec (v := qb o1.Grid.Merge) (ms_load_box (a := qb o1.Grid.Merge) rfl ts_29 (.inl rfl) rfl rfl) _),
    Ob.quiet (n1 := fun n => n) rfl rfl (by intro d h; cases h; rfl) rfl (fun _ => [(41, qb o1.Grid.Merge)]) (fun _ => []) (fun D G1 hr => ⟨inE_op hr 29 rfl rfl (by kernel_rfl) rfl rfl, trivial⟩) (fun D G1 hr => trivial) (fun _ _ => rfl) (fun G1 e h' n => OpQ.spec (v := rI ((o1.Grid.Merge.length : Int))) (ms_len rfl tg_29.slice (.inl rfl)) _),
    Ob.quiet (n1 := fun n => n) rfl rfl (by intro d h; cases h; rfl) rfl (fun _ => [(39, rI (x3)), (42, rI ((o1.Grid.Merge.length : Int)))]) (fun _ => []) (fun D G1 hr => ⟨inE_op hr 27 rfl rfl (by kernel_rfl) rfl rfl, inE_op hr 30 rfl rfl (by kernel_rfl) rfl rfl, trivial⟩) (fun D G1 hr => trivial) (fun _ _ => rfl) (fun G1 e h' n => OpQ.spec (v := rI (x4)) (ms_add rfl (.inl rfl) (.inl rfl) (fun _ => ex4)) _),
    Ob.quiet (n1 := fun n => n) rfl rfl (by intro d h; cases h; rfl) rfl (fun _ => [(43, rI (x4))]) (fun _ => []) (fun D G1 hr => ⟨inE_op hr 31 rfl rfl (by kernel_rfl) rfl rfl, trivial⟩) (fun D G1 hr => trivial) (fun _ _ => rfl) (fun G1 e h' n => OpQ.spec (v := rB ((decide (0 < x4)))) (sp_gtr rfl (.inl rfl) (.inl rfl)) _),
    Ob.quiet (n1 := fun n => n) rfl rfl (by intro d h; cases h; rfl) rfl (fun _ => [(1, .ptr 1 n0 0 0)]) (fun _ => [(1, some (.box n0 40 [rI (o1.Kind), rI (o1.Node), rI (o1.New.ID), rI (o1.New.Kind), qa o1.New.Attrs, qd o1.New.Flow, rI (o1.New.Grid.Rows), rI (o1.New.Grid.Cols), qc o1.New.Grid.Cells, qb o1.New.Grid.Merges, qe o1.New.Draw, qa o1.Attrs, qh o1.Steps, qf o1.Grid.Rows, qf o1.Grid.Cols, qc o1.Grid.Cells, qb o1.Grid.Split, qb o1.Grid.Merge, qe o1.Draw]))]) (fun D G1 hr => ⟨inE_base rfl rfl, trivial⟩) (fun D G1 hr => ⟨inH_base rfl rfl, trivial⟩) (fun _ _ => rfl) (fun G1 e h' n => OpQ.spec (v := .ptr 1 n0 0 18) (fB rfl tf_40_6 (.inl rfl) (fun _ => rfl) rfl) _),
    Ob.quiet (n1 := fun n => n) rfl rfl (by intro d h; cases h; rfl) rfl (fun _ => [(45, .ptr 1 n0 0 18)]) (fun _ => [(1, some (.box n0 40 [rI (o1.Kind), rI (o1.Node), rI (o1.New.ID), rI (o1.New.Kind), qa o1.New.Attrs, qd o1.New.Flow, rI (o1.New.Grid.Rows), rI (o1.New.Grid.Cols), qc o1.New.Grid.Cells, qb o1.New.Grid.Merges, qe o1.New.Draw, qa o1.Attrs, qh o1.Steps, qf o1.Grid.Rows, qf o1.Grid.Cols, qc o1.Grid.Cells, qb o1.Grid.Split, qb o1.Grid.Merge, qe o1.Draw]))]) (fun D G1 hr => ⟨inE_op hr 33 rfl rfl (by kernel_rfl) rfl rfl, trivial⟩) (fun D G1 hr => ⟨inH_base rfl rfl, trivial⟩) (fun _ _ => rfl) (fun G1 e h' n => OpQ.spec (v := qe o1.Draw) (ms_load_box (a := qe o1.Draw) rfl ts_32 (.inl rfl) rfl rfl) _),
    Ob.quiet (n1 := fun n => n) rfl rfl (by intro d h; cases h; rfl) rfl (fun _ => [(46, qe o1.Draw)]) (fun _ => []) (fun D G1 hr => ⟨inE_op hr 34 rfl rfl (by kernel_rfl) rfl rfl, trivial⟩) (fun D G1 hr => trivial) (fun _ _ => rfl) (fun G1 e h' n => OpQ.spec (v := rI ((o1.Draw.length : Int))) (ms_len rfl tg_32.slice (.inl rfl)) _),
    Ob.quiet (n1 := fun n => n) rfl rfl (by intro d h; cases h; rfl) rfl (fun _ => [(47, rI ((o1.Draw.length : Int)))]) (fun _ => []) (fun D G1 hr => ⟨inE_op hr 35 rfl rfl (by kernel_rfl) rfl rfl, trivial⟩) (fun D G1 hr => trivial) (fun _ _ => rfl) (fun G1 e h' n => OpQ.spec (v := rB ((decide (0 < (o1.Draw.length : Int))))) (sp_gtr rfl (.inl rfl) (.inl rfl)) _),
    Ob.quiet (n1 := fun n => n) rfl rfl (by intro d h; cases h; rfl) rfl (fun _ => [(16, rB ((!r2))), (20, rB ((decide (0 < (o1.Attrs.length : Int))))), (24, rB ((decide (0 < (o1.Steps.length : Int))))), (44, rB ((decide (0 < x4)))), (48, rB ((decide (0 < (o1.Draw.length : Int)))))]) (fun _ => []) (fun D G1 hr => ⟨inE_op hr 4 rfl rfl (by kernel_rfl) rfl rfl, inE_op hr 8 rfl rfl (by kernel_rfl) rfl rfl, inE_op hr 12 rfl rfl (by kernel_rfl) rfl rfl, inE_op hr 32 rfl rfl (by kernel_rfl) rfl rfl, inE_op hr 36 rfl rfl (by kernel_rfl) rfl rfl, trivial⟩) (fun D G1 hr => trivial) (fun _ _ => rfl) (fun G1 e h' n => OpQ.spec (v := .agg [rB ((!r2)), rB ((decide (0 < (o1.Attrs.length : Int)))), rB ((decide (0 < (o1.Steps.length : Int)))), rB ((decide (0 < x4))), rB ((decide (0 < (o1.Draw.length : Int))))]) (sp_buildArr rfl tb_88 (q := [(0, _), (1, _), (2, _), (3, _), (4, _)]) (by exact ⟨rfl, rfl, rfl, (.inl rfl), rfl, rfl, rfl, (.inl rfl), rfl, rfl, rfl, (.inl rfl), rfl, rfl, rfl, (.inl rfl), rfl, rfl, rfl, (.inl rfl), trivial⟩) (cs := [rB ((!r2)), rB ((decide (0 < (o1.Attrs.length : Int)))), rB ((decide (0 < (o1.Steps.length : Int)))), rB ((decide (0 < x4))), rB ((decide (0 < (o1.Draw.length : Int))))]) (by rfl)) _),
    Ob.make (n1 := fun n => n + 1) rfl rfl (by intro d h; cases h; rfl) rfl (fun _ => []) (fun _ => []) (fun D G1 hr => trivial) (fun D G1 hr => trivial) (fun G1 e h' n => ms_alloc (cs := [rB (false), rB (false), rB (false), rB (false), rB (false)]) 4 rfl t0_88 rfl rfl),
    trivial⟩) fun G1 n1 => ?_
  refine AOps.weak (s' := ⟨[(0, .agg [rI (o1.Kind), rI (o1.Node), rI (o1.New.ID), rI (o1.New.Kind), qa o1.New.Attrs, qd o1.New.Flow, rI (o1.New.Grid.Rows), rI (o1.New.Grid.Cols), qc o1.New.Grid.Cells, qb o1.New.Grid.Merges, qe o1.New.Draw, qa o1.Attrs, qh o1.Steps, qf o1.Grid.Rows, qf o1.Grid.Cols, qc o1.Grid.Cells, qb o1.Grid.Split, qb o1.Grid.Merge, qe o1.Draw]), (1, .ptr 1 n0 0 0), (2, rI (0)), (3, .ptr 3 (n0 + 1) 0 0), (4, .ptr 4 (G1 38) 0 0), (6, .ptr 1 n0 0 0), (7, rI (o1.Kind)), (8, rB (r1)), (9, rB ((!r1))), (10, .ptr 1 n0 0 13), (11, .agg [qf o1.Grid.Rows, qf o1.Grid.Cols, qc o1.Grid.Cells, qb o1.Grid.Split, qb o1.Grid.Merge]), (12, .ptr 1 n0 0 2), (13, .agg [rI (o1.New.ID), rI (o1.New.Kind), qa o1.New.Attrs, qd o1.New.Flow, rI (o1.New.Grid.Rows), rI (o1.New.Grid.Cols), qc o1.New.Grid.Cells, qb o1.New.Grid.Merges, qe o1.New.Draw]), (14, .agg [rI (0), rI (0), .cst (.slice none 0 0), .cst (.slice none 0 0), rI (0), rI (0), .cst (.slice none 0 0), .cst (.slice none 0 0), .cst (.slice none 0 0)]), (15, rB (r2)), (16, rB ((!r2))), (17, .ptr 1 n0 0 11), (18, qa o1.Attrs), (19, rI ((o1.Attrs.length : Int))), (20, rB ((decide (0 < (o1.Attrs.length : Int))))), (21, .ptr 1 n0 0 12), (22, qh o1.Steps), (23, rI ((o1.Steps.length : Int))), (24, rB ((decide (0 < (o1.Steps.length : Int))))), (25, .ptr 3 (n0 + 1) 0 0), (26, qf o1.Grid.Rows), (27, rI ((o1.Grid.Rows.length : Int))), (28, .ptr 3 (n0 + 1) 0 1), (29, qf o1.Grid.Cols), (30, rI ((o1.Grid.Cols.length : Int))), (31, rI (x1)), (32, .ptr 3 (n0 + 1) 0 2), (33, qc o1.Grid.Cells), (34, rI ((o1.Grid.Cells.length : Int))), (35, rI (x2)), (36, .ptr 3 (n0 + 1) 0 3), (37, qb o1.Grid.Split), (38, rI ((o1.Grid.Split.length : Int))), (39, rI (x3)), (40, .ptr 3 (n0 + 1) 0 4), (41, qb o1.Grid.Merge), (42, rI ((o1.Grid.Merge.length : Int))), (43, rI (x4)), (44, rB ((decide (0 < x4)))), (45, .ptr 1 n0 0 18), (46, qe o1.Draw), (47, rI ((o1.Draw.length : Int))), (48, rB ((decide (0 < (o1.Draw.length : Int))))), (49, .agg [rB ((!r2)), rB ((decide (0 < (o1.Attrs.length : Int)))), rB ((decide (0 < (o1.Steps.length : Int)))), rB ((decide (0 < x4))), rB ((decide (0 < (o1.Draw.length : Int))))])], [(1, some (.box n0 40 [rI (o1.Kind), rI (o1.Node), rI (o1.New.ID), rI (o1.New.Kind), qa o1.New.Attrs, qd o1.New.Flow, rI (o1.New.Grid.Rows), rI (o1.New.Grid.Cols), qc o1.New.Grid.Cells, qb o1.New.Grid.Merges, qe o1.New.Draw, qa o1.Attrs, qh o1.Steps, qf o1.Grid.Rows, qf o1.Grid.Cols, qc o1.Grid.Cells, qb o1.Grid.Split, qb o1.Grid.Merge, qe o1.Draw])), (3, some (.box (n0 + 1) 38 [qf o1.Grid.Rows, qf o1.Grid.Cols, qc o1.Grid.Cells, qb o1.Grid.Split, qb o1.Grid.Merge])), (4, some (.box (G1 38) 88 [rB (false), rB (false), rB (false), rB (false), rB (false)]))], n1, 96⟩) (by exact Weak.cv ⟨jL, jL, jL, jL, jL, jL, jL, jL, jL, jL, jL, jL, jL, jL, jL, jL, jL, jL, jL, jL, jL, jL, jL, jL, jL, jL, jL, jL, jL, jL, jL, jL, jL, jL, jL, jL, jL, jL, jL, jL, jL, jL, jL, jL, jL, jL, jL, jL, jL, trivial⟩ ⟨.inl rfl, .inl rfl, .inl rfl, trivial⟩ nL) ?_
  refine AOps.step0 rfl rfl (ms_store_box (ds := [rB ((!r2)), rB ((decide (0 < (o1.Attrs.length : Int)))), rB ((decide (0 < (o1.Steps.length : Int)))), rB ((decide (0 < x4))), rB ((decide (0 < (o1.Draw.length : Int))))]) rfl tz_88 iL rfl iL rfl rfl rfl rfl) (aZ (hK6 _ ?_))
  refine aS fun K7 hK7 wK7 => (aS fun K8 hK8 wK8 => ?_)
  refine AW.weak (s' := ⟨[(1, .ptr 1 n0 0 0), (4, .ptr 4 (G1 38) 0 0)], [(1, some (.box n0 40 [rI (o1.Kind), rI (o1.Node), rI (o1.New.ID), rI (o1.New.Kind), qa o1.New.Attrs, qd o1.New.Flow, rI (o1.New.Grid.Rows), rI (o1.New.Grid.Cols), qc o1.New.Grid.Cells, qb o1.New.Grid.Merges, qe o1.New.Draw, qa o1.Attrs, qh o1.Steps, qf o1.Grid.Rows, qf o1.Grid.Cols, qc o1.Grid.Cells, qb o1.Grid.Split, qb o1.Grid.Merge, qe o1.Draw])), (4, some (.box (G1 38) 88 [rB ((!r2)), rB ((decide (0 < (o1.Attrs.length : Int)))), rB ((decide (0 < (o1.Steps.length : Int)))), rB ((decide (0 < x4))), rB ((decide (0 < (o1.Draw.length : Int))))]))], n1, 96⟩) (by exact Weak.cv ⟨jL, jL, trivial⟩ ⟨.inl rfl, .inl rfl, trivial⟩ nL) ?_
  refine aR (sM rfl rfl (aZ (hK8 _ ?_)))
  refine AW.block ?_
  refine jc1k h7 fun o2 hit1 hk1 he1 => ?_
  have J1 : ∀ (u2 : Unit) (i5 : Nat → Nat), o2 = .nrm u2 → K7 ⟨[(1, .ptr 1 n0 0 0)], [(1, some (.box n0 40 [rI (o1.Kind), rI (o1.Node), rI (o1.New.ID), rI (o1.New.Kind), qa o1.New.Attrs, qd o1.New.Flow, rI (o1.New.Grid.Rows), rI (o1.New.Grid.Cols), qc o1.New.Grid.Cells, qb o1.New.Grid.Merges, qe o1.New.Draw, qa o1.Attrs, qh o1.Steps, qf o1.Grid.Rows, qf o1.Grid.Cols, qc o1.Grid.Cells, qb o1.Grid.Split, qb o1.Grid.Merge, qe o1.Draw]))], (i5 0), 96⟩ := by
   intro u2 i5 e
   have h8 := hk1 _ e
   refine hK7 _ ?_
   refine aS fun K9 hK9 wK9 => (aS fun K10 hK10 wK10 => (aR (sQ rfl (fB rfl tf_40_0 iL fR rfl) (sQ rfl (ms_load_box (a := rI (o1.Kind)) rfl ts_3 iL rfl rfl) (sQ rfl (sp_eql rfl iL iL) (aZ (hK10 _ ?_)))))))
   refine aC rfl (fun hc2 => ?_) (fun hc2 => ?_)
   ·have h9 := ite_t hc2 h8
    refine aS fun K11 hK11 wK11 => (aS fun K12 hK12 wK12 => (aR (sQ rfl (fB rfl tf_40_1 iL fR rfl) (sQ rfl (ms_load_box (a := rI (o1.Node)) rfl ts_3 iL rfl rfl) (sQ rfl (sp_neq rfl iL iL) (aZ (hK12 _ ?_)))))))
    refine aC rfl (fun hc3 => ?_) (fun hc3 => ?_)
    ·have h10 := ite_t hc3 h9
     refine aS fun K13 hK13 wK13 => (aR (sA rfl rfl (aZ (hK13 _ ?_))))
     refine AW.ret ?_
     exact retf1 (P := prog) (fun (r : Int) => rI (r)) h10 iL (.t (.d rfl))
    ·have h10 := ite_f hc3 h9
     refine AW.skip ?_
     refine hK11 _ ?_
     refine aS fun K14 hK14 wK14 => (aR (sQ rfl (fB rfl tf_40_2 iL fR rfl) (sQ rfl (ms_loadA_box_at (ds := [rI (o1.New.ID), rI (o1.New.Kind), qa o1.New.Attrs, qd o1.New.Flow, rI (o1.New.Grid.Rows), rI (o1.New.Grid.Cols), qc o1.New.Grid.Cells, qb o1.New.Grid.Merges, qe o1.New.Draw]) rfl ta_34 iL rfl rfl rfl) (ob1k h10 fun r3 er3 h11 => (AOps.step rfl rfl rfl (sp_call (r := rI (r3)) (caps := []) (bs := [.agg [rI (o1.New.ID), rI (o1.New.Kind), qa o1.New.Attrs, qd o1.New.Flow, rI (o1.New.Grid.Rows), rI (o1.New.Grid.Cols), qc o1.New.Grid.Cells, qb o1.New.Grid.Merges, qe o1.New.Draw]]) rfl iL rfl ⟨⟨_, iL, .g (cs := [.int .i64 o1.New.ID, .int .i64 o1.New.Kind, .sl (o1.New.Attrs.map GAttr.row), .sl (o1.New.Flow.map GElem.row), .int .i64 o1.New.Grid.Rows, .int .i64 o1.New.Grid.Cols, .sl (o1.New.Grid.Cells.map GCell.row), .sl (o1.New.Grid.Merges.map GRect.row), .sl (o1.New.Draw.map GDrawOp.row)]) rfl rfl⟩, trivial⟩ (fun _ => w_ref_NodeError (er3)) rfl) (sA rfl rfl (aZ (hK14 _ ?_))))))))
     refine AW.ret ?_
     exact retf1 (P := prog) (fun (r : Int) => rI (r)) h11 iL (.t (.d rfl))
   ·have h9 := ite_f hc2 h8
    refine AW.skip ?_
    refine hK9 _ ?_
    refine aS fun K15 hK15 wK15 => (aS fun K16 hK16 wK16 => (aR (sQ rfl (fB rfl tf_40_1 iL fR rfl) (sQ rfl (ms_load_box (a := rI (o1.Node)) rfl ts_3 iL rfl rfl) (ob1k h9 fun r4 er4 h12 => (AOps.step rfl rfl rfl (sp_call (r := rB (r4)) (caps := []) (bs := [rI (o1.Node), rI (1), rI (1073741824)]) rfl iL rfl ⟨⟨_, iL, .d rfl⟩, ⟨_, iL, .d rfl⟩, ⟨_, iL, .d rfl⟩, trivial⟩ (fun _ => w_ref_In (er4)) rfl) (sQ rfl (sp_not rfl iL) (aZ (hK16 _ ?_)))))))))
    refine aC rfl (fun hc4 => ?_) (fun hc4 => ?_)
    ·have h13 := ite_t hc4 h12
     refine aS fun K17 hK17 wK17 => (aR (sA rfl rfl (aZ (hK17 _ ?_))))
     refine AW.ret ?_
     exact retf1 (P := prog) (fun (r : Int) => rI (r)) h13 iL (.t (.d rfl))
    ·have h13 := ite_f hc4 h12
     refine AW.skip ?_
     refine hK15 _ ?_
     refine aS fun K18 hK18 wK18 => (aS fun K19 hK19 wK19 => (aR (sQ rfl (fB rfl tf_40_0 iL fR rfl) (sQ rfl (ms_load_box (a := rI (o1.Kind)) rfl ts_3 iL rfl rfl) (aZ (hK19 _ ?_))))))
     refine AW.block (aS fun K20 hK20 wK20 => (aR (sQ rfl (sp_eql rfl iL iL) (sA rfl rfl (aZ (hK20 _ ?_))))))
     refine aC rfl (fun hc5 => ?_) (fun hc5 => ?_)
     ·have h14 := ite_t hc5 h13
      refine aS fun K21 hK21 wK21 => ?_
      refine AW.weak (s' := ⟨[(1, .ptr 1 n0 0 0)], [(1, some (.box n0 40 [rI (o1.Kind), rI (o1.Node), rI (o1.New.ID), rI (o1.New.Kind), qa o1.New.Attrs, qd o1.New.Flow, rI (o1.New.Grid.Rows), rI (o1.New.Grid.Cols), qc o1.New.Grid.Cells, qb o1.New.Grid.Merges, qe o1.New.Draw, qa o1.Attrs, qh o1.Steps, qf o1.Grid.Rows, qf o1.Grid.Cols, qc o1.Grid.Cells, qb o1.Grid.Split, qb o1.Grid.Merge, qe o1.Draw]))], (i5 0), 96⟩) (by exact Weak.cv ⟨jL, trivial⟩ ⟨.inl rfl, trivial⟩ nL) ?_
      refine aR (sQ rfl (fB rfl tf_40_3 iL fR rfl) (sQ rfl (ms_load_box (a := qa o1.Attrs) rfl ts_26 iL rfl rfl) (ob1k h14 fun r5 er5 h15 => (AOps.step rfl rfl rfl (sp_call (r := rI (r5)) (caps := []) (bs := [qa o1.Attrs, rB (true)]) rfl iL rfl ⟨⟨_, iL, .d rfl⟩, ⟨_, iL, .d rfl⟩, trivial⟩ (fun _ => w_ref_AttrsError (er5)) rfl) (sA rfl rfl (aZ (hK21 _ ?_)))))))
      refine AW.ret ?_
      exact retf1 (P := prog) (fun (r : Int) => rI (r)) h15 iL (.t (.d rfl))
     ·have h14 := ite_f hc5 h13
      refine aS fun K22 hK22 wK22 => ?_
      refine AW.weak (s' := ⟨[(1, .ptr 1 n0 0 0), (77, rI (o1.Kind))], [(1, some (.box n0 40 [rI (o1.Kind), rI (o1.Node), rI (o1.New.ID), rI (o1.New.Kind), qa o1.New.Attrs, qd o1.New.Flow, rI (o1.New.Grid.Rows), rI (o1.New.Grid.Cols), qc o1.New.Grid.Cells, qb o1.New.Grid.Merges, qe o1.New.Draw, qa o1.Attrs, qh o1.Steps, qf o1.Grid.Rows, qf o1.Grid.Cols, qc o1.Grid.Cells, qb o1.Grid.Split, qb o1.Grid.Merge, qe o1.Draw]))], (i5 0), 96⟩) (by exact Weak.cv ⟨jL, jL, trivial⟩ ⟨.inl rfl, trivial⟩ nL) ?_
      refine aR (sQ rfl (sp_eql rfl iL iL) (sA rfl rfl (aZ (hK22 _ ?_))))
      refine aC rfl (fun hc6 => ?_) (fun hc6 => ?_)
      ·have h16 := ite_t hc6 h14
       refine aS fun K23 hK23 wK23 => (aR (sQ rfl (fB rfl tf_40_4 iL fR rfl) (sQ rfl (ms_load_box (a := qh o1.Steps) rfl ts_35 iL rfl rfl) (ob1k h16 fun r6 er6 h17 => (AOps.step rfl rfl rfl (sp_call (r := rI (r6)) (caps := []) (bs := [qh o1.Steps]) rfl iL rfl ⟨⟨_, iL, .d rfl⟩, trivial⟩ (fun _ => w_ref_DeltaError (er6)) rfl) (sA rfl rfl (aZ (hK23 _ ?_))))))))
       refine AW.ret ?_
       exact retf1 (P := prog) (fun (r : Int) => rI (r)) h17 iL (.t (.d rfl))
      ·have h16 := ite_f hc6 h14
       refine aS fun K24 hK24 wK24 => (aR (sQ rfl (sp_eql rfl iL iL) (sA rfl rfl (aZ (hK24 _ ?_)))))
       refine aC rfl (fun hc7 => ?_) (fun hc7 => ?_)
       ·have h18 := ite_t hc7 h16
        refine aS fun K25 hK25 wK25 => (aR (sQ rfl (fB rfl tf_40_5 iL fR rfl) (sQ rfl (ms_loadA_box_at (ds := [qf o1.Grid.Rows, qf o1.Grid.Cols, qc o1.Grid.Cells, qb o1.Grid.Split, qb o1.Grid.Merge]) rfl ta_38 iL rfl rfl rfl) (ob1k h18 fun r7 er7 h19 => (AOps.step rfl rfl rfl (sp_call (r := rI (r7)) (caps := []) (bs := [.agg [qf o1.Grid.Rows, qf o1.Grid.Cols, qc o1.Grid.Cells, qb o1.Grid.Split, qb o1.Grid.Merge]]) rfl iL rfl ⟨⟨_, iL, .g (cs := [.sl (o1.Grid.Rows.map GAxisStep.row), .sl (o1.Grid.Cols.map GAxisStep.row), .sl (o1.Grid.Cells.map GCell.row), .sl (o1.Grid.Split.map GRect.row), .sl (o1.Grid.Merge.map GRect.row)]) rfl rfl⟩, trivial⟩ (fun _ => w_ref_EditError (er7)) rfl) (sA rfl rfl (aZ (hK25 _ ?_))))))))
        refine AW.ret ?_
        exact retf1 (P := prog) (fun (r : Int) => rI (r)) h19 iL (.t (.d rfl))
       ·have h18 := ite_f hc7 h16
        refine AW.skip ?_
        refine hK18 _ ?_
        refine aS fun K26 hK26 wK26 => (aR (sQ rfl (fB rfl tf_40_6 iL fR rfl) (sQ rfl (ms_load_box (a := qe o1.Draw) rfl ts_32 iL rfl rfl) (ob1k h18 fun r8 er8 h20 => (AOps.step rfl rfl rfl (sp_call (r := rI (r8)) (caps := []) (bs := [qe o1.Draw]) rfl iL rfl ⟨⟨_, iL, .d rfl⟩, trivial⟩ (fun _ => w_ref_DrawError (er8)) rfl) (sA rfl rfl (aZ (hK26 _ ?_))))))))
        refine AW.ret ?_
        exact retf1 (P := prog) (fun (r : Int) => rI (r)) h20 iL (.t (.d rfl))
  refine AW.iter1 (fun (x6 : Int) i3 => ⟨[(1, .ptr 1 n0 0 0), (4, .ptr 4 (G1 38) 0 0), (50, rI (x6))], [(1, some (.box n0 40 [rI (o1.Kind), rI (o1.Node), rI (o1.New.ID), rI (o1.New.Kind), qa o1.New.Attrs, qd o1.New.Flow, rI (o1.New.Grid.Rows), rI (o1.New.Grid.Cols), qc o1.New.Grid.Cells, qb o1.New.Grid.Merges, qe o1.New.Draw, qa o1.Attrs, qh o1.Steps, qf o1.Grid.Rows, qf o1.Grid.Cols, qc o1.Grid.Cells, qb o1.Grid.Split, qb o1.Grid.Merge, qe o1.Draw])), (4, some (.box (G1 38) 88 [rB ((!r2)), rB ((decide (0 < (o1.Attrs.length : Int)))), rB ((decide (0 < (o1.Steps.length : Int)))), rB ((decide (0 < x4))), rB ((decide (0 < (o1.Draw.length : Int))))]))], (i3 0), 96⟩) (vec [n1]) hit1 ((by exact Weak.cv ⟨jL, jL, jL, trivial⟩ ⟨.inl rfl, .inl rfl, trivial⟩ nL)) ?_
  intro x6 i3 v1 hv1 hx1
  have h21 : ref_OpError_L1 o1 r2 x4 x6 = some v1 := hv1; unfold ref_OpError_L1 at h21
  refine aS fun K27 hK27 wK27 => (aR (sQ rfl (sp_lss rfl iL iL) (aZ (hK27 _ ?_))))
  refine aS fun K28 hK28 wK28 => ?_
  refine aC rfl (fun hc8 => ?_) (fun hc8 => ?_)
  ·have h22 := ite_t hc8 h21
   refine AW.skip ?_
   refine hK28 _ ?_
   refine aS fun K29 hK29 wK29 => (AW.block (aS fun K30 hK30 wK30 => (aR (sM rfl rfl (sA rfl rfl (aZ (hK30 _ ?_)))))))
   refine aS fun K31 hK31 wK31 => (aR (sM rfl rfl (ob1k h22 fun x8 ex8 h23 => (sQ rfl (ms_idx_box (l := [(!r2), (decide (0 < (o1.Attrs.length : Int))), (decide (0 < (o1.Steps.length : Int))), (decide (0 < x4)), (decide (0 < (o1.Draw.length : Int)))]) rfl tt_88 iL rfl iL (fun _ => ex8) rfl) (sQ rfl (ms_load_boxk (l := [(!r2), (decide (0 < (o1.Attrs.length : Int))), (decide (0 < (o1.Steps.length : Int))), (decide (0 < x4)), (decide (0 < (o1.Draw.length : Int)))]) rfl ts_4 iL rfl rfl (fun _ => ex8)) (sM rfl rfl (sV rfl rfl rfl (sp_move rfl iL) (sV rfl rfl rfl (fB rfl tf_40_0 iL fR rfl) (sV rfl rfl rfl (ms_load_box (a := rI (o1.Kind)) rfl ts_3 (iR rfl) rfl rfl) (sV rfl rfl rfl (sp_neq rfl (iR rfl) (iR rfl)) (sQ rfl (sp_and rfl iL (iR rfl)) (aZ (hK31 _ ?_)))))))))))))
   refine aC rfl (fun hc9 => ?_) (fun hc9 => ?_)
   ·have h24 := ite_t hc9 h23
    refine aS fun K32 hK32 wK32 => ?_
    refine AW.weak (s' := ⟨[], [], (i3 0), 96⟩) (by exact Weak.cv trivial trivial nL) ?_
    refine aR (sA rfl rfl (aZ (hK32 _ ?_)))
    refine AW.ret ?_
    exact retf1 (P := prog) (fun (r : Int) => rI (r)) (he1 _ (hx1 _ (Option.some.inj h24).symm)) iL (.t (.d rfl))
   ·have h24 := ite_f hc9 h23
    refine AW.skip ?_
    refine hK29 _ ?_
    refine aR (ob1k h24 fun x9 ex9 h25 => (sQ rfl (ms_add rfl iL iL (fun _ => ex9)) (sM rfl rfl ?_)))
    refine AOps.nil ?_
    exact NextQ1.mk h25 (vec [(i3 0)]) ((by exact Weak.cv ⟨jL, jL, jL, trivial⟩ ⟨.inl rfl, .inl rfl, trivial⟩ nL))
  ·have h22 := ite_f hc8 h21
   refine AW.exit ?_
   exact wK7 _ _ ((by exact Weak.cv ⟨jL, trivial⟩ ⟨.inl rfl, trivial⟩ nL)) (J1 _ (vec [(i3 0)]) (hx1 _ (Option.some.inj h22).symm))
theorem w_law_EditCheckSays {c1 : List GOp} {r : Bool} (h : law_EditCheckSays c1 = some r) : ARO prog 3 [qi c1] (rB (r)) := by
 unfold law_EditCheckSays at h
 refine ARO.mkF func3 rfl rfl ntmps3 rfl (Nat.le_of_ble_eq_true rfl) fun n0 => ?_
 refine aS fun K1 hK1 wK1 => (aR (sA rfl rfl (aZ (hK1 _ ?_))))
 refine aS fun K2 hK2 wK2 => (aS fun K3 hK3 wK3 => (aR (ob1k h fun r1 er1 h1 => (AOps.step rfl rfl rfl (sp_call (r := rB (r1)) (caps := []) (bs := []) rfl iL rfl trivial (fun _ => w_law_edits (er1)) rfl) (sQ rfl (sp_not rfl iL) (aZ (hK3 _ ?_)))))))
 refine aC rfl (fun hc1 => ?_) (fun hc1 => ?_)
 ·have h2 := ite_t hc1 h1
  refine aS fun K4 hK4 wK4 => (aR (sA rfl rfl (aZ (hK4 _ ?_))))
  refine AW.ret ?_
  exact retf1 (P := prog) (fun (r : Bool) => rB (r)) h2 iL (.t (.d rfl))
 ·have h2 := ite_f hc1 h1
  refine AW.skip ?_
  refine hK2 _ ?_
  refine aS fun K5 hK5 wK5 => (aR (sA rfl rfl (aZ (hK5 _ ?_))))
  refine aS fun K6 hK6 wK6 => (aS fun K7 hK7 wK7 => (aR (sM rfl rfl (sQ rfl (ms_len rfl tg_22.slice iL) (sM rfl rfl (aZ (hK7 _ ?_)))))))
  refine AW.block ?_
  refine jc1k h2 fun o1 hit1 hk1 he1 => ?_
  have J1 : ∀ (f4 : Int) (i5 : Nat → Nat), o1 = .nrm f4 → K6 ⟨[(0, qi c1), (3, rI (f4))], [], (i5 0), 33⟩ := by
   intro f4 i5 e
   have h3 := hk1 _ e
   refine hK6 _ ?_
   refine aS fun K8 hK8 wK8 => (aR (sM rfl rfl (ob1k h3 fun r2 er2 h4 => (AOps.step rfl rfl rfl (sp_call (r := rI (r2)) (caps := []) (bs := [qi c1]) rfl iL rfl ⟨⟨_, iL, .d rfl⟩, trivial⟩ (fun _ => w_edit_Check (er2)) rfl) (sM rfl rfl (sQ rfl (sp_eql rfl iL iL) (sA rfl rfl (aZ (hK8 _ ?_)))))))))
   refine AW.ret ?_
   exact retf1 (P := prog) (fun (r : Bool) => rB (r)) h4 iL (.t (.d rfl))
  refine AW.iter2 (fun (f2 : Int) (x2 : Int) i3 => ⟨[(0, qi c1), (3, rI (f2)), (9, rI ((c1.length : Int))), (10, rI (x2))], [], (i3 0), 33⟩) (vec [n0]) hit1 ((by exact Weak.cv ⟨jL, jL, jL, jL, trivial⟩ trivial nL)) ?_
  intro f2 x2 i3 v1 hv1 hx1
  have h5 : law_EditCheckSays_L1 c1 f2 x2 = some v1 := hv1; unfold law_EditCheckSays_L1 at h5
  refine aS fun K9 hK9 wK9 => (aR (sQ rfl (sp_lss rfl iL iL) (aZ (hK9 _ ?_))))
  refine aS fun K10 hK10 wK10 => ?_
  refine aC rfl (fun hc2 => ?_) (fun hc2 => ?_)
  ·have h6 := ite_t hc2 h5
   refine AW.skip ?_
   refine hK10 _ ?_
   refine aS fun K11 hK11 wK11 => (AW.block ?_)
   refine jc1k h6 fun p1 hp1 hk2 he2 => ?_
   have J2 : ∀ (f5 : Int) (i6 : Nat → Nat), p1 = .nrm f5 → K11 ⟨[(0, qi c1), (3, rI (f5)), (9, rI ((c1.length : Int))), (10, rI (x2))], [], (i6 0), 33⟩ := by
    intro f5 i6 e
    have h7 := hk2 _ e
    refine hK11 _ ?_
    refine aR (ob1k h7 fun x4 ex4 h8 => (sQ rfl (ms_add rfl iL iL (fun _ => ex4)) (sM rfl rfl ?_)))
    refine AOps.nil ?_
    exact NextQ2.mk h8 (vec [(i6 0)]) ((by exact Weak.cv ⟨jL, jL, jL, jL, trivial⟩ trivial nL))
   refine aS fun K12 hK12 wK12 => (aR (sM rfl rfl (sA rfl rfl (aZ (hK12 _ ?_)))))
   refine aS fun K13 hK13 wK13 => (aR (sM rfl rfl (sM rfl rfl (ob1k hp1 fun x5 ex5 h9 => (sQ rfl (ms_idx rfl tg_22.slice iL iL (fun _ => rfl) (fun _ => ex5)) (sQ rfl (ms_loadA (cs := [rI (x5.Kind), rI (x5.Node), rI (x5.New.ID), rI (x5.New.Kind), qa x5.New.Attrs, qd x5.New.Flow, rI (x5.New.Grid.Rows), rI (x5.New.Grid.Cols), qc x5.New.Grid.Cells, qb x5.New.Grid.Merges, qe x5.New.Draw, qa x5.Attrs, qh x5.Steps, qf x5.Grid.Rows, qf x5.Grid.Cols, qc x5.Grid.Cells, qb x5.Grid.Split, qb x5.Grid.Merge, qe x5.Draw]) rfl ta_40 iL rfl rfl) (ob1k h9 fun e1 ee1 h10 => (AOps.step rfl rfl rfl (sp_call (r := rI (e1)) (caps := []) (bs := [.agg [rI (x5.Kind), rI (x5.Node), rI (x5.New.ID), rI (x5.New.Kind), qa x5.New.Attrs, qd x5.New.Flow, rI (x5.New.Grid.Rows), rI (x5.New.Grid.Cols), qc x5.New.Grid.Cells, qb x5.New.Grid.Merges, qe x5.New.Draw, qa x5.Attrs, qh x5.Steps, qf x5.Grid.Rows, qf x5.Grid.Cols, qc x5.Grid.Cells, qb x5.Grid.Split, qb x5.Grid.Merge, qe x5.Draw]]) rfl iL rfl ⟨⟨_, iL, .g (cs := [.int .i64 x5.Kind, .int .i64 x5.Node, .int .i64 x5.New.ID, .int .i64 x5.New.Kind, .sl (x5.New.Attrs.map GAttr.row), .sl (x5.New.Flow.map GElem.row), .int .i64 x5.New.Grid.Rows, .int .i64 x5.New.Grid.Cols, .sl (x5.New.Grid.Cells.map GCell.row), .sl (x5.New.Grid.Merges.map GRect.row), .sl (x5.New.Draw.map GDrawOp.row), .sl (x5.Attrs.map GAttr.row), .sl (x5.Steps.map GStep.row), .sl (x5.Grid.Rows.map GAxisStep.row), .sl (x5.Grid.Cols.map GAxisStep.row), .sl (x5.Grid.Cells.map GCell.row), .sl (x5.Grid.Split.map GRect.row), .sl (x5.Grid.Merge.map GRect.row), .sl (x5.Draw.map GDrawOp.row)]) rfl rfl⟩, trivial⟩ (fun _ => w_ref_OpError (ee1)) rfl) (sA rfl rfl (aZ (hK13 _ ?_)))))))))))
   refine aS fun K14 hK14 wK14 => (aS fun K15 hK15 wK15 => (aR (sM rfl rfl (sM rfl rfl (sQ rfl (ms_idx rfl tg_22.slice iL iL (fun _ => rfl) (fun _ => ex5)) (sQ rfl (ms_loadA (cs := [rI (x5.Kind), rI (x5.Node), rI (x5.New.ID), rI (x5.New.Kind), qa x5.New.Attrs, qd x5.New.Flow, rI (x5.New.Grid.Rows), rI (x5.New.Grid.Cols), qc x5.New.Grid.Cells, qb x5.New.Grid.Merges, qe x5.New.Draw, qa x5.Attrs, qh x5.Steps, qf x5.Grid.Rows, qf x5.Grid.Cols, qc x5.Grid.Cells, qb x5.Grid.Split, qb x5.Grid.Merge, qe x5.Draw]) rfl ta_40 iL rfl rfl) (ob1k h10 fun r3 er3 h11 => (AOps.step rfl rfl rfl (sp_call (r := rI (r3)) (caps := []) (bs := [.agg [rI (x5.Kind), rI (x5.Node), rI (x5.New.ID), rI (x5.New.Kind), qa x5.New.Attrs, qd x5.New.Flow, rI (x5.New.Grid.Rows), rI (x5.New.Grid.Cols), qc x5.New.Grid.Cells, qb x5.New.Grid.Merges, qe x5.New.Draw, qa x5.Attrs, qh x5.Steps, qf x5.Grid.Rows, qf x5.Grid.Cols, qc x5.Grid.Cells, qb x5.Grid.Split, qb x5.Grid.Merge, qe x5.Draw]]) rfl iL rfl ⟨⟨_, iL, .g (cs := [.int .i64 x5.Kind, .int .i64 x5.Node, .int .i64 x5.New.ID, .int .i64 x5.New.Kind, .sl (x5.New.Attrs.map GAttr.row), .sl (x5.New.Flow.map GElem.row), .int .i64 x5.New.Grid.Rows, .int .i64 x5.New.Grid.Cols, .sl (x5.New.Grid.Cells.map GCell.row), .sl (x5.New.Grid.Merges.map GRect.row), .sl (x5.New.Draw.map GDrawOp.row), .sl (x5.Attrs.map GAttr.row), .sl (x5.Steps.map GStep.row), .sl (x5.Grid.Rows.map GAxisStep.row), .sl (x5.Grid.Cols.map GAxisStep.row), .sl (x5.Grid.Cells.map GCell.row), .sl (x5.Grid.Split.map GRect.row), .sl (x5.Grid.Merge.map GRect.row), .sl (x5.Draw.map GDrawOp.row)]) rfl rfl⟩, trivial⟩ (fun _ => w_edit_CheckOp (er3)) rfl) (sM rfl rfl (sQ rfl (sp_neq rfl iL iL) (aZ (hK15 _ ?_))))))))))))
   refine aC rfl (fun hc3 => ?_) (fun hc3 => ?_)
   ·have h12 := ite_t hc3 h11
    refine aS fun K16 hK16 wK16 => ?_
    refine AW.weak (s' := ⟨[], [], (i3 0), 33⟩) (by exact Weak.cv trivial trivial nL) ?_
    refine aR (sA rfl rfl (aZ (hK16 _ ?_)))
    refine AW.ret ?_
    exact retf1 (P := prog) (fun (r : Bool) => rB (r)) (he1 _ (hx1 _ (Option.some.inj (he2 _ (Option.some.inj h12).symm)).symm)) iL (.t (.d rfl))
   ·have h12 := ite_f hc3 h11
    refine AW.skip ?_
    refine hK14 _ ?_
    refine aS fun K17 hK17 wK17 => ?_
    refine AW.weak (s' := ⟨[(0, qi c1), (3, rI (f2)), (5, rI (e1)), (9, rI ((c1.length : Int))), (10, rI (x2))], [], (i3 0), 33⟩) (by exact Weak.cv ⟨jL, jL, jL, jL, jL, trivial⟩ trivial nL) ?_
    refine aR (sM rfl rfl (sQ rfl (sp_eql rfl iL iL) (aZ (hK17 _ ?_))))
    refine aC rfl (fun hc4 => ?_) (fun hc4 => ?_)
    ·have h13 := ite_t hc4 h12
     refine aR (sM rfl rfl (sA rfl rfl ?_))
     refine AOps.nil ?_
     exact wK11 _ _ ((by exact Weak.cv ⟨jL, jL, jL, jL, trivial⟩ trivial nL)) (J2 _ (vec [(i3 0)]) (Option.some.inj h13).symm)
    ·have h13 := ite_f hc4 h12
     refine AW.skip ?_
     exact wK11 _ _ ((by exact Weak.cv ⟨jL, jL, jL, jL, trivial⟩ trivial nL)) (J2 _ (vec [(i3 0)]) (Option.some.inj h13).symm)
  ·have h6 := ite_f hc2 h5
   refine AW.exit ?_
   exact wK6 _ _ ((by exact Weak.cv ⟨jL, jL, trivial⟩ trivial nL)) (J1 _ (vec [(i3 0)]) (hx1 _ (Option.some.inj h6).symm))
end Go.Proofs.YthoepnnckmfipaaGreatDoor.Al
