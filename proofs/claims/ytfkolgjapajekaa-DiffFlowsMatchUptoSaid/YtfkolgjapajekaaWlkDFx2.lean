/- Walks, as printed. -/
import Derived.Test.YtfkolgjapajekaaWlkDF
import Derived.Test.YtfkolgjapajekaaProg
set_option linter.unusedVariables false
namespace Go.Proofs.Ytfkolgjapajekaa.Al
open Go.Proofs
set_option maxHeartbeats 4000000 in
set_option maxRecDepth 20000 in
theorem w_diff_Flows {a1 : List GElem} {b1 : List GElem} {r : (List GStep) × Int} (h : diff_Flows a1 b1 = some r) : ARO Try.prog 12 [.r (.sl (a1.map GElem.row)), .r (.sl (b1.map GElem.row))] (.tup [.r (.sl (r.1.map GStep.row)), .r (.int .i64 r.2)]) := by
 unfold diff_Flows at h
 refine ARO.mkF Try.func12 rfl rfl Try.ntmps12 rfl (Nat.le_of_ble_eq_true rfl) fun n0 => ?_
 refine AW.seq_w fun K1 hK1 wK1 => ?_
 refine AW.region ?_
 refine sQ rfl (sp_assign rfl iL) ?_
 refine sQ rfl (sp_assign rfl iL) ?_
 refine AOps.nil ?_
 refine hK1 _ ?_
 refine AW.seq_w fun K2 hK2 wK2 => ?_
 refine AW.seq_w fun K3 hK3 wK3 => ?_
 refine AW.region ?_
 refine sQ rfl (sp_move rfl iL) ?_
 refine sQ rfl (sp_move rfl iL) ?_
 refine sQ rfl (sp_buildArr rfl tb_78 (q := [(0, _), (1, _)]) (by exact ⟨rfl, rfl, rfl, iL, rfl, rfl, rfl, iL, trivial⟩) (cs := [.r (.sl (a1.map GElem.row)), .r (.sl (b1.map GElem.row))]) (by rfl)) ?_
 refine sQ rfl (sp_move rfl iL) ?_
 refine AOps.nil ?_
 refine hK3 _ ?_
 refine AW.block ?_
 refine jc1k h fun o1 hit1 hk1 he1 => ?_
 have J1 : ∀ (u2 : Unit) (i5 : Nat → Nat), o1 = .nrm u2 → K2 ⟨[(0, .r (.sl (a1.map GElem.row))), (1, .r (.sl (b1.map GElem.row)))], [], (i5 0), 32⟩ := by
  intro u2 i5 e
  have h1 := hk1 _ e
  refine hK2 _ ?_
  refine AW.seq_w fun K4 hK4 wK4 => ?_
  refine AW.seq_w fun K5 hK5 wK5 => ?_
  refine AW.region ?_
  refine sQ rfl (sp_move rfl iL) ?_
  refine sQ rfl (ms_len rfl tg_22.slice iL) ?_
  refine sQ rfl (sp_gtr rfl iL iL) ?_
  refine sQ rfl (sp_move rfl iL) ?_
  refine sW (.one rfl rfl rfl) rfl (sp_move rfl iL) ?_
  refine sW (.one rfl rfl rfl) rfl (ms_len rfl tg_22.slice (.inr ⟨_, (by exact id), rfl⟩)) ?_
  refine sW (.one rfl rfl rfl) rfl (sp_gtr rfl (.inr ⟨_, (by exact id), rfl⟩) iL) ?_
  refine sQ rfl (sp_or rfl iL (.inr ⟨_, (by exact id), rfl⟩)) ?_
  refine AOps.nil ?_
  refine hK5 _ ?_
  refine AW.cond rfl (fun hc1 => ?_) (fun hc1 => ?_)
  ·have h2 := ite_t hc1 h1
   refine AW.seq_w fun K6 hK6 wK6 => ?_
   refine AW.weak (s' := ⟨[], [], (i5 0), 32⟩) (by exact Weak.cv trivial trivial (Nat.le_refl _)) ?_
   refine AW.region ?_
   refine sQ rfl (sp_assign rfl iL) ?_
   refine sQ rfl (sp_assign rfl iL) ?_
   refine AOps.nil ?_
   refine hK6 _ ?_
   refine AW.ret ?_
   exact retf2 (P := Try.prog) (fun (r : (List GStep) × Int) => .r (.sl (r.1.map GStep.row))) (fun (r : (List GStep) × Int) => .r (.int .i64 r.2)) h2 iL (.t (.one (.nil))) (.t (.d rfl))
  ·have h2 := ite_f hc1 h1
   refine AW.skip ?_
   refine hK4 _ ?_
   refine AW.seq_w fun K7 hK7 wK7 => ?_
   refine AW.region ?_
   refine sQ rfl (sp_move rfl iL) ?_
   refine sQ rfl (sp_move rfl iL) ?_
   refine ob1k h2 fun r1 er1 h3 => ?_
   refine AOps.step rfl rfl rfl (sp_callS (r := .r (.sl (r1.map GStep.row))) (caps := []) (bs := [.r (.sl (a1.map GElem.row)), .r (.sl (b1.map GElem.row))]) rfl iL rfl ⟨.inl ⟨iL, rfl⟩, .inl ⟨iL, rfl⟩, trivial⟩ (fun _ => w_diff_Raw (er1))) ?_
   refine sQ rfl (sp_assign rfl iL) ?_
   refine sQ rfl (sp_assign rfl iL) ?_
   refine AOps.nil ?_
   refine hK7 _ ?_
   refine AW.ret ?_
   exact retf2 (P := Try.prog) (fun (r : (List GStep) × Int) => .r (.sl (r.1.map GStep.row))) (fun (r : (List GStep) × Int) => .r (.int .i64 r.2)) h3 iL (.t (.d rfl)) (.t (.d rfl))
 refine AW.iter1 (fun (x2 : Int) i3 => ⟨[(0, .r (.sl (a1.map GElem.row))), (1, .r (.sl (b1.map GElem.row))), (11, .agg [.r (.sl (a1.map GElem.row)), .r (.sl (b1.map GElem.row))]), (12, .r (.int .i64 x2))], [], (i3 0), 32⟩) (vec [n0]) hit1 ((by exact Weak.cv ⟨.inl iL, .inl iL, .inl iL, .inl iL, trivial⟩ trivial (Nat.le_refl _))) ?_
 intro x2 i3 v1 hv1 hx1
 have h4 : diff_Flows_L1 a1 b1 x2 = some v1 := hv1; unfold diff_Flows_L1 at h4
 refine AW.seq_w fun K8 hK8 wK8 => ?_
 refine AW.region ?_
 refine sQ rfl (sp_lss rfl iL iL) ?_
 refine AOps.nil ?_
 refine hK8 _ ?_
 refine AW.seq_w fun K9 hK9 wK9 => ?_
 refine AW.cond rfl (fun hc2 => ?_) (fun hc2 => ?_)
 ·have h5 := ite_t hc2 h4
  refine AW.skip ?_
  refine hK9 _ ?_
  refine AW.seq_w fun K10 hK10 wK10 => ?_
  refine AW.block ?_
  refine AW.seq_w fun K11 hK11 wK11 => ?_
  refine AW.region ?_
  refine ob1k h5 fun f1 ef1 h6 => ?_
  refine sQ rfl (ms_idx_arr (f := fun a => .r (.sl (a.map GElem.row))) (l := [a1, b1]) rfl tq_78 (.inl rfl) (.inl rfl) rfl (fun _ => ef1)) ?_
  refine sQ rfl (sp_assign rfl iL) ?_
  refine AOps.nil ?_
  refine hK11 _ ?_
  refine AW.seq_w fun K12 hK12 wK12 => ?_
  refine AW.region ?_
  refine sQ rfl (sp_move rfl iL) ?_
  refine ob1k h6 fun e1 ee1 h7 => ?_
  refine AOps.step rfl rfl rfl (sp_call (r := .r (.int .i64 e1)) (caps := []) (bs := [.r (.sl (f1.map GElem.row))]) rfl iL rfl ⟨⟨_, iL, .d rfl⟩, trivial⟩ (fun _ => w_flow_CheckPart (ee1)) rfl) ?_
  refine sQ rfl (sp_assign rfl iL) ?_
  refine AOps.nil ?_
  refine hK12 _ ?_
  refine AW.seq_w fun K13 hK13 wK13 => ?_
  refine AW.region ?_
  refine sQ rfl (sp_move rfl iL) ?_
  refine sQ rfl (sp_neq rfl iL iL) ?_
  refine AOps.nil ?_
  refine hK13 _ ?_
  refine AW.cond rfl (fun hc3 => ?_) (fun hc3 => ?_)
  ·have h8 := ite_t hc3 h7
   refine AW.seq_w fun K14 hK14 wK14 => ?_
   refine AW.weak (s' := ⟨[(8, .r (.int .i64 e1))], [], (i3 0), 32⟩) (by exact Weak.cv ⟨.inl iL, trivial⟩ trivial (Nat.le_refl _)) ?_
   refine AW.region ?_
   refine sQ rfl (sp_move rfl iL) ?_
   refine sQ rfl (sp_assign rfl iL) ?_
   refine sQ rfl (sp_assign rfl iL) ?_
   refine AOps.nil ?_
   refine hK14 _ ?_
   refine AW.ret ?_
   exact retf2 (P := Try.prog) (fun (r : (List GStep) × Int) => .r (.sl (r.1.map GStep.row))) (fun (r : (List GStep) × Int) => .r (.int .i64 r.2)) (he1 _ (hx1 _ (Option.some.inj h8).symm)) iL (.t (.one (.nil))) (.t (.d rfl))
  ·have h8 := ite_f hc3 h7
   refine AW.skip ?_
   refine hK10 _ ?_
   refine AW.region ?_
   refine ob1k h8 fun x4 ex4 h9 => ?_
   refine sQ rfl (ms_add rfl iL iL (fun _ => ex4)) ?_
   refine sQ rfl (sp_move rfl iL) ?_
   refine AOps.nil ?_
   exact NextQ1.mk h9 (vec [(i3 0)]) ((by exact Weak.cv ⟨.inl iL, .inl iL, .inl iL, .inl iL, trivial⟩ trivial (Nat.le_refl _)))
 ·have h5 := ite_f hc2 h4
  refine AW.exit ?_
  exact wK2 _ _ ((by exact Weak.cv ⟨.inl iL, .inl iL, trivial⟩ trivial (Nat.le_refl _))) (J1 _ (vec [(i3 0)]) (hx1 _ (Option.some.inj h5).symm))
set_option maxHeartbeats 4000000 in
set_option maxRecDepth 20000 in
theorem w_law_on {name1 : List UInt8} {r : (List GAttr)} (h : law_on name1 = some r) : ARO Try.prog 68 [.r (.str name1)] (.r (.sl (r.map GAttr.row))) := by
 unfold law_on at h
 refine ARO.mkF Try.func68 rfl rfl Try.ntmps68 rfl (Nat.le_of_ble_eq_true rfl) fun n0 => ?_
 refine AW.seq_w fun K1 hK1 wK1 => ?_
 refine AW.region ?_
 refine sQ rfl (sp_assign rfl iL) ?_
 refine AOps.nil ?_
 refine hK1 _ ?_
 refine AW.seq_w fun K2 hK2 wK2 => ?_
 refine AW.region ?_
 refine sQ rfl (sp_move rfl iL) ?_
 refine sQ rfl (sp_build rfl tb_92 (q := [(0, _), (1, _)]) (by exact ⟨rfl, rfl, rfl, iL, rfl, rfl, rfl, iL, trivial⟩) (cs := [.r (.str name1), .r (.str [111, 110])]) (by rfl)) ?_
 refine AOps.step rfl rfl rfl (ms_lit 5 rfl tg_29 (f := GAttr.row) (l := ([(GAttr.mk name1 [111, 110])] : List GAttr)) ⟨rfl, ⟨_, iL, rfl⟩, trivial⟩ rfl (fun _ => rfl) rfl) ?_
 refine sQ rfl (sp_assign rfl iL) ?_
 refine AOps.nil ?_
 refine hK2 _ ?_
 refine AW.ret ?_
 exact retf1 (P := Try.prog) (fun (r : (List GAttr)) => .r (.sl (r.map GAttr.row))) h iL (.t (.one (.own rfl)))
set_option maxHeartbeats 4000000 in
set_option maxRecDepth 20000 in
theorem w_delta_lengths {d1 : List GStep} {r : Int × Int} (h : delta_lengths d1 = some r) : ARO Try.prog 115 [.r (.sl (d1.map GStep.row))] (.tup [.r (.int .i64 r.1), .r (.int .i64 r.2)]) := by
 unfold delta_lengths at h
 refine ARO.mkF Try.func115 rfl rfl Try.ntmps115 rfl (Nat.le_of_ble_eq_true rfl) fun n0 => ?_
 refine AW.seq_w fun K1 hK1 wK1 => ?_
 refine AW.region ?_
 refine sQ rfl (sp_assign rfl iL) ?_
 refine sQ rfl (sp_assign rfl iL) ?_
 refine AOps.nil ?_
 refine hK1 _ ?_
 refine AW.seq_w fun K2 hK2 wK2 => ?_
 refine AW.region ?_
 refine sQ rfl (sp_assign rfl iL) ?_
 refine sQ rfl (sp_assign rfl iL) ?_
 refine AOps.nil ?_
 refine hK2 _ ?_
 refine AW.seq_w fun K3 hK3 wK3 => ?_
 refine AW.seq_w fun K4 hK4 wK4 => ?_
 refine AW.region ?_
 refine sQ rfl (sp_move rfl iL) ?_
 refine sQ rfl (ms_len rfl tg_23.slice iL) ?_
 refine sQ rfl (sp_move rfl iL) ?_
 refine AOps.nil ?_
 refine hK4 _ ?_
 refine AW.block ?_
 refine jb2k h fun o1 hit1 hk1 => ?_
 have J1 : ∀ (before4 : Int) (after4 : Int) (i5 : Nat → Nat), o1 = (before4, after4) → K3 ⟨[(4, .r (.int .i64 before4)), (5, .r (.int .i64 after4))], [], (i5 0), 31⟩ := by
  intro before4 after4 i5 e
  have h1 := hk1 _ _ e
  refine hK3 _ ?_
  refine AW.seq_w fun K5 hK5 wK5 => ?_
  refine AW.region ?_
  refine sQ rfl (sp_move rfl iL) ?_
  refine sQ rfl (sp_move rfl iL) ?_
  refine sQ rfl (sp_assign rfl iL) ?_
  refine sQ rfl (sp_assign rfl iL) ?_
  refine AOps.nil ?_
  refine hK5 _ ?_
  refine AW.ret ?_
  exact retf2 (P := Try.prog) (fun (r : Int × Int) => .r (.int .i64 r.1)) (fun (r : Int × Int) => .r (.int .i64 r.2)) h1 iL (.t (.d rfl)) (.t (.d rfl))
 refine AW.iter3 (fun (before2 : Int) (after2 : Int) (x2 : Int) i3 => ⟨[(4, .r (.int .i64 before2)), (5, .r (.int .i64 after2)), (8, .r (.sl (d1.map GStep.row))), (9, .r (.int .i64 (d1.length : Int))), (10, .r (.int .i64 x2))], [], (i3 0), 31⟩) (vec [n0]) hit1 ((by exact Weak.cv ⟨.inl iL, .inl iL, .inl iL, .inl iL, .inl iL, trivial⟩ trivial (Nat.le_refl _))) ?_
 intro before2 after2 x2 i3 v1 hv1 hx1
 have h2 : delta_lengths_L1 d1 before2 after2 x2 = some v1 := hv1; unfold delta_lengths_L1 at h2
 refine AW.seq_w fun K6 hK6 wK6 => ?_
 refine AW.region ?_
 refine sQ rfl (sp_lss rfl iL iL) ?_
 refine AOps.nil ?_
 refine hK6 _ ?_
 refine AW.seq_w fun K7 hK7 wK7 => ?_
 refine AW.cond rfl (fun hc1 => ?_) (fun hc1 => ?_)
 ·have h3 := ite_t hc1 h2
  refine AW.skip ?_
  refine hK7 _ ?_
  refine AW.seq_w fun K8 hK8 wK8 => ?_
  refine AW.block ?_
  refine jb2k h3 fun p1 hp1 hk2 => ?_
  have J2 : ∀ (before5 : Int) (after5 : Int) (i6 : Nat → Nat), p1 = (before5, after5) → K8 ⟨[(4, .r (.int .i64 before5)), (5, .r (.int .i64 after5)), (8, .r (.sl (d1.map GStep.row))), (9, .r (.int .i64 (d1.length : Int))), (10, .r (.int .i64 x2))], [], (i6 0), 31⟩ := by
   intro before5 after5 i6 e
   have h4 := hk2 _ _ e
   refine hK8 _ ?_
   refine AW.region ?_
   refine ob1k h4 fun x4 ex4 h5 => ?_
   refine sQ rfl (ms_add rfl iL iL (fun _ => ex4)) ?_
   refine sQ rfl (sp_move rfl iL) ?_
   refine AOps.nil ?_
   exact NextQ3.mk h5 (vec [(i6 0)]) ((by exact Weak.cv ⟨.inl iL, .inl iL, .inl iL, .inl iL, .inl iL, trivial⟩ trivial (Nat.le_refl _)))
  refine AW.seq_w fun K9 hK9 wK9 => ?_
  refine AW.region ?_
  refine ob1k hp1 fun x5 ex5 h6 => ?_
  refine sQ rfl (ms_idx rfl tg_23.slice iL iL (fun _ => rfl) (fun _ => ex5)) ?_
  refine sQ rfl (ms_loadA (cs := [.r (.int .i64 x5.Kind), .r (.int .i64 x5.N), .r (.sl (x5.Attrs.map GAttr.row)), .r (.sl (x5.Elems.map GElem.row))]) rfl ta_31 iL rfl rfl) ?_
  refine AOps.step rfl rfl rfl (ms_alloc (cs := [.r (.int .i64 0), .r (.int .i64 0), .cst (.slice none 0 0), .cst (.slice none 0 0)]) 7 rfl t0_31 rfl rfl) ?_
  refine AOps.step0 rfl rfl (ms_store_box (ds := [.r (.int .i64 x5.Kind), .r (.int .i64 x5.N), .r (.sl (x5.Attrs.map GAttr.row)), .r (.sl (x5.Elems.map GElem.row))]) rfl tz_31 iL rfl iL rfl rfl rfl rfl) ?_
  refine AOps.nil ?_
  refine hK9 _ ?_
  refine AW.seq_w fun K10 hK10 wK10 => ?_
  refine AW.seq_w fun K11 hK11 wK11 => ?_
  refine AW.region ?_
  refine sQ rfl (sp_fieldAddr_own (ob := .box _ _ _) rfl tf_31_0 iL (fun _ => rfl) rfl) ?_
  refine sQ rfl (ms_load_box (a := .r (.int .i64 x5.Kind)) rfl ts_3 iL rfl rfl) ?_
  refine sQ rfl (sp_neq rfl iL iL) ?_
  refine AOps.nil ?_
  refine hK11 _ ?_
  refine jb1k h6 fun p2 hp2 hk3 => ?_
  have J3 : ∀ (before6 : Int) (i7 : Nat → Nat), p2 = before6 → K10 ⟨[(4, .r (.int .i64 before6)), (5, .r (.int .i64 after2)), (7, .ptr 7 (i3 0) 0 0), (8, .r (.sl (d1.map GStep.row))), (9, .r (.int .i64 (d1.length : Int))), (10, .r (.int .i64 x2))], [(7, some (.box (i3 0) 31 [.r (.int .i64 x5.Kind), .r (.int .i64 x5.N), .r (.sl (x5.Attrs.map GAttr.row)), .r (.sl (x5.Elems.map GElem.row))]))], (i7 0), 31⟩ := by
   intro before6 i7 e
   have h7 := hk3 _ e
   refine hK10 _ ?_
   refine AW.seq_w fun K12 hK12 wK12 => ?_
   refine AW.region ?_
   refine sQ rfl (sp_fieldAddr_own (ob := .box _ _ _) rfl tf_31_0 iL (fun _ => rfl) rfl) ?_
   refine sQ rfl (ms_load_box (a := .r (.int .i64 x5.Kind)) rfl ts_3 iL rfl rfl) ?_
   refine sQ rfl (sp_neq rfl iL iL) ?_
   refine AOps.nil ?_
   refine hK12 _ ?_
   refine AW.cond rfl (fun hc2 => ?_) (fun hc2 => ?_)
   ·have h8 := ite_t hc2 h7
    refine AW.region ?_
    refine sQ rfl (sp_move rfl iL) ?_
    refine sQ rfl (ms_loadA_box rfl ta_31 iL rfl rfl) ?_
    refine ob1k h8 fun r1 er1 h9 => ?_
    refine AOps.step rfl rfl rfl (sp_call (r := .r (.int .i64 r1)) (caps := []) (bs := [.agg [.r (.int .i64 x5.Kind), .r (.int .i64 x5.N), .r (.sl (x5.Attrs.map GAttr.row)), .r (.sl (x5.Elems.map GElem.row))]]) rfl iL rfl ⟨⟨_, iL, .g (cs := [.int .i64 x5.Kind, .int .i64 x5.N, .sl (x5.Attrs.map GAttr.row), .sl (x5.Elems.map GElem.row)]) rfl rfl⟩, trivial⟩ (fun _ => w_delta_size (er1)) rfl) ?_
    refine ob1k h9 fun after6 eafter6 h10 => ?_
    refine sQ rfl (ms_add rfl iL iL (fun _ => eafter6)) ?_
    refine sQ rfl (sp_assign rfl iL) ?_
    refine AOps.nil ?_
    exact wK8 _ _ ((by exact Weak.cv ⟨.inl iL, .inl iL, .inl iL, .inl iL, .inl iL, trivial⟩ trivial (Nat.le_refl _))) (J2 _ _ (vec [(i7 0)]) (Option.some.inj h10).symm)
   ·have h8 := ite_f hc2 h7
    refine AW.skip ?_
    exact wK8 _ _ ((by exact Weak.cv ⟨.inl iL, .inl iL, .inl iL, .inl iL, .inl iL, trivial⟩ trivial (Nat.le_refl _))) (J2 _ _ (vec [(i7 0)]) (Option.some.inj h8).symm)
  refine AW.cond rfl (fun hc3 => ?_) (fun hc3 => ?_)
  ·have h11 := ite_t hc3 hp2
   refine AW.region ?_
   refine sQ rfl (sp_move rfl iL) ?_
   refine sQ rfl (sp_fieldAddr_own (ob := .box _ _ _) rfl tf_31_1 iL (fun _ => rfl) rfl) ?_
   refine sQ rfl (ms_load_box (a := .r (.int .i64 x5.N)) rfl ts_3 iL rfl rfl) ?_
   refine ob1k h11 fun before7 ebefore7 h12 => ?_
   refine sQ rfl (ms_add rfl iL iL (fun _ => ebefore7)) ?_
   refine sQ rfl (sp_assign rfl iL) ?_
   refine AOps.nil ?_
   exact wK10 _ _ ((by exact Weak.cv ⟨.inl iL, .inl iL, .inl iL, .inl iL, .inl iL, .inl iL, trivial⟩ ⟨.inl rfl, trivial⟩ (Nat.le_refl _))) (J3 _ (vec [((i3 0) + 1)]) (Option.some.inj h12).symm)
  ·have h11 := ite_f hc3 hp2
   refine AW.skip ?_
   exact wK10 _ _ ((by exact Weak.cv ⟨.inl iL, .inl iL, .inl iL, .inl iL, .inl iL, .inl iL, trivial⟩ ⟨.inl rfl, trivial⟩ (Nat.le_refl _))) (J3 _ (vec [((i3 0) + 1)]) (Option.some.inj h11).symm)
 ·have h3 := ite_f hc1 h2
  refine AW.exit ?_
  exact wK3 _ _ ((by exact Weak.cv ⟨.inl iL, .inl iL, trivial⟩ trivial (Nat.le_refl _))) (J1 _ _ (vec [(i3 0)]) (hx1 _ (Option.some.inj h3).symm))
set_option maxHeartbeats 4000000 in
set_option maxRecDepth 20000 in
theorem w_delta_fits {f1 : List GElem} {d1 : List GStep} {r : Int} (h : delta_fits f1 d1 = some r) : ARO Try.prog 96 [.r (.sl (f1.map GElem.row)), .r (.sl (d1.map GStep.row))] (.r (.int .i64 r)) := by
 unfold delta_fits at h
 refine ARO.mkF Try.func96 rfl rfl Try.ntmps96 rfl (Nat.le_of_ble_eq_true rfl) fun n0 => ?_
 refine AW.seq_w fun K1 hK1 wK1 => ?_
 refine AW.region ?_
 refine sQ rfl (sp_assign rfl iL) ?_
 refine AOps.nil ?_
 refine hK1 _ ?_
 refine AW.seq_w fun K2 hK2 wK2 => ?_
 refine AW.seq_w fun K3 hK3 wK3 => ?_
 refine AW.region ?_
 refine sQ rfl (sp_move rfl iL) ?_
 refine ob1k h fun e1 ee1 h1 => ?_
 refine AOps.step rfl rfl rfl (sp_call (r := .r (.int .i64 e1)) (caps := []) (bs := [.r (.sl (f1.map GElem.row))]) rfl iL rfl ⟨⟨_, iL, .d rfl⟩, trivial⟩ (fun _ => w_flow_CheckPart (ee1)) rfl) ?_
 refine sQ rfl (sp_assign rfl iL) ?_
 refine AOps.nil ?_
 refine hK3 _ ?_
 refine AW.seq_w fun K4 hK4 wK4 => ?_
 refine AW.region ?_
 refine sQ rfl (sp_move rfl iL) ?_
 refine sQ rfl (sp_neq rfl iL iL) ?_
 refine AOps.nil ?_
 refine hK4 _ ?_
 refine AW.cond rfl (fun hc1 => ?_) (fun hc1 => ?_)
 ·have h2 := ite_t hc1 h1
  refine AW.seq_w fun K5 hK5 wK5 => ?_
  refine AW.region ?_
  refine sQ rfl (sp_move rfl iL) ?_
  refine sQ rfl (sp_assign rfl iL) ?_
  refine AOps.nil ?_
  refine hK5 _ ?_
  refine AW.ret ?_
  exact retf1 (P := Try.prog) (fun (r : Int) => .r (.int .i64 r)) h2 iL (.t (.d rfl))
 ·have h2 := ite_f hc1 h1
  refine AW.skip ?_
  refine hK2 _ ?_
  refine AW.seq_w fun K6 hK6 wK6 => ?_
  refine AW.seq_w fun K7 hK7 wK7 => ?_
  refine AW.region ?_
  refine sQ rfl (sp_move rfl iL) ?_
  refine ob1k h2 fun e2 ee2 h3 => ?_
  refine AOps.step rfl rfl rfl (sp_call (r := .r (.int .i64 e2)) (caps := []) (bs := [.r (.sl (d1.map GStep.row))]) rfl iL rfl ⟨⟨_, iL, .d rfl⟩, trivial⟩ (fun _ => w_delta_Check (ee2)) rfl) ?_
  refine sQ rfl (sp_assign rfl iL) ?_
  refine AOps.nil ?_
  refine hK7 _ ?_
  refine AW.seq_w fun K8 hK8 wK8 => ?_
  refine AW.region ?_
  refine sQ rfl (sp_move rfl iL) ?_
  refine sQ rfl (sp_neq rfl iL iL) ?_
  refine AOps.nil ?_
  refine hK8 _ ?_
  refine AW.cond rfl (fun hc2 => ?_) (fun hc2 => ?_)
  ·have h4 := ite_t hc2 h3
   refine AW.seq_w fun K9 hK9 wK9 => ?_
   refine AW.weak (s' := ⟨[(6, .r (.int .i64 e2))], [], n0, 28⟩) (by exact Weak.cv ⟨.inl iL, trivial⟩ trivial (Nat.le_refl _)) ?_
   refine AW.region ?_
   refine sQ rfl (sp_move rfl iL) ?_
   refine sQ rfl (sp_assign rfl iL) ?_
   refine AOps.nil ?_
   refine hK9 _ ?_
   refine AW.ret ?_
   exact retf1 (P := Try.prog) (fun (r : Int) => .r (.int .i64 r)) h4 iL (.t (.d rfl))
  ·have h4 := ite_f hc2 h3
   refine AW.skip ?_
   refine hK6 _ ?_
   refine AW.seq_w fun K10 hK10 wK10 => ?_
   refine AW.seq_w fun K11 hK11 wK11 => ?_
   refine AW.weak (s' := ⟨[(0, .r (.sl (f1.map GElem.row))), (1, .r (.sl (d1.map GStep.row)))], [], n0, 28⟩) (by exact Weak.cv ⟨.inl iL, .inl iL, trivial⟩ trivial (Nat.le_refl _)) ?_
   refine AW.region ?_
   refine sQ rfl (sp_move rfl iL) ?_
   refine ob2k h4 fun r1 r2 er1 h5 => ?_
   refine AOps.step rfl rfl rfl (sp_call (r := .tup [.r (.int .i64 r1), .r (.int .i64 r2)]) (caps := []) (bs := [.r (.sl (d1.map GStep.row))]) rfl iL rfl ⟨⟨_, iL, .d rfl⟩, trivial⟩ (fun _ => w_delta_lengths (er1)) rfl) ?_
   refine sQ rfl (sp_move rfl iL) ?_
   refine sQ rfl (sp_extract (a := .r (.int .i64 r1)) rfl iL rfl) ?_
   refine sQ rfl (sp_extract (a := .r (.int .i64 r2)) rfl iL rfl) ?_
   refine sQ rfl (sp_assign rfl iL) ?_
   refine sQ rfl (sp_assign rfl iL) ?_
   refine AOps.nil ?_
   refine hK11 _ ?_
   refine AW.seq_w fun K12 hK12 wK12 => ?_
   refine AW.region ?_
   refine sQ rfl (sp_move rfl iL) ?_
   refine sQ rfl (sp_move rfl iL) ?_
   refine sQ rfl (ms_len rfl tg_22.slice iL) ?_
   refine sQ rfl (sp_neq rfl iL iL) ?_
   refine AOps.nil ?_
   refine hK12 _ ?_
   refine AW.cond rfl (fun hc3 => ?_) (fun hc3 => ?_)
   ·have h6 := ite_t hc3 h5
    refine AW.seq_w fun K13 hK13 wK13 => ?_
    refine AW.weak (s' := ⟨[], [], n0, 28⟩) (by exact Weak.cv trivial trivial (Nat.le_refl _)) ?_
    refine AW.region ?_
    refine sQ rfl (sp_assign rfl iL) ?_
    refine AOps.nil ?_
    refine hK13 _ ?_
    refine AW.ret ?_
    exact retf1 (P := Try.prog) (fun (r : Int) => .r (.int .i64 r)) h6 iL (.t (.d rfl))
   ·have h6 := ite_f hc3 h5
    refine AW.skip ?_
    refine hK10 _ ?_
    refine AW.seq_w fun K14 hK14 wK14 => ?_
    refine AW.weak (s' := ⟨[], [], n0, 28⟩) (by exact Weak.cv trivial trivial (Nat.le_refl _)) ?_
    refine AW.region ?_
    refine sQ rfl (sp_assign rfl iL) ?_
    refine AOps.nil ?_
    refine hK14 _ ?_
    refine AW.ret ?_
    exact retf1 (P := Try.prog) (fun (r : Int) => .r (.int .i64 r)) h6 iL (.t (.d rfl))
set_option maxHeartbeats 4000000 in
set_option maxRecDepth 20000 in
theorem w_attr_Raw_f1 {c1 : List GAttr} {x1 : GAttr} {y1 : GAttr} {r : (List GAttr)} {gb1000 : Nat} {ga1001 : Nat} (h : attr_Raw_f1 c1 x1 y1 = some r) : AHC Try.prog 119 2 [.agg [.r (.str x1.Name), .r (.str x1.Value)], .agg [.r (.str y1.Name), .r (.str y1.Value)], .ptr 1000 gb1000 0 0] [(1000, some (.box gb1000 29 [.own 1001 ga1001])), (1001, some (.arr ga1001 92 2 (c1.map GAttr.row)))] (fun rr h' => ∃ (i : Nat → Nat), rr = .tup [] ∧ h' = [(1000, some (.box gb1000 29 [.own 1001 (i 0)])), (1001, some (.arr (i 0) 92 2 (r.map GAttr.row)))]) := by
 unfold attr_Raw_f1 at h
 refine AHC.mkw Try.func119 rfl rfl Try.ntmps119 (Nat.le_of_ble_eq_true rfl) fun n0 => ?_
 refine AW.seq_w fun K1 hK1 wK1 => ?_
 refine AW.region ?_
 refine AOps.step rfl rfl rfl (ms_box (cs := [.r (.str x1.Name), .r (.str x1.Value)]) 3 rfl iL rfl rfl) ?_
 refine AOps.step rfl rfl rfl (ms_box (cs := [.r (.str y1.Name), .r (.str y1.Value)]) 4 rfl iL rfl rfl) ?_
 refine AOps.nil ?_
 refine hK1 _ ?_
 refine AW.block ?_
 refine AW.seq_w fun K2 hK2 wK2 => ?_
 refine AW.region ?_
 refine sQ rfl (sp_fieldAddr_own (ob := .box _ _ _) rfl tf_92_0 iL (fun _ => rfl) rfl) ?_
 refine sQ rfl (ms_load_box (a := .r (.str y1.Name)) rfl ts_9 iL rfl rfl) ?_
 refine sQ rfl (sp_seql rfl iL iL) ?_
 refine sQ rfl (sp_assign rfl iL) ?_
 refine AOps.nil ?_
 refine hK2 _ ?_
 refine AW.cond rfl (fun hc1 => ?_) (fun hc1 => ?_)
 ·have h1 := ite_t hc1 h
  refine AW.region ?_
  refine sQ rfl (ms_load_box (a := .own 1001 ga1001) rfl ts_29 iL rfl rfl) ?_
  refine sQ rfl (ms_loadA_box rfl ta_92 iL rfl rfl) ?_
  refine AOps.step rfl rfl rfl (ms_lit 11 rfl tg_29 (f := GAttr.row) (l := ([x1] : List GAttr)) ⟨rfl, ⟨_, iL, rfl⟩, trivial⟩ rfl (fun _ => rfl) rfl) ?_
  refine ob1k h1 fun l1 el1 h2 => ?_
  refine AOps.step rfl rfl rfl (ms_app rfl tg_29 iL rfl (.inr (.inl ⟨_, _, iL, rfl⟩)) el1) ?_
  refine AOps.step0 rfl rfl (ms_store_box (ds := [.own 1001 (n0 + 3)]) rfl tz_29 iL rfl iL rfl rfl rfl rfl) ?_
  refine AOps.nil ?_
  exact RetW.mk (s' := ⟨[], [(1000, some (.box gb1000 29 [.own 1001 (n0 + 3)])), (1001, some (.arr (n0 + 3) 92 2 (l1.map GAttr.row)))], (n0 + 4), 21⟩) ((by exact Weak.cv trivial ⟨.inl rfl, .inl rfl, trivial⟩ (Nat.le_refl _))) (reth_cast (fun (r : (List GAttr)) rr h' => ∃ (i : Nat → Nat), rr = .tup [] ∧ h' = [(1000, some (.box gb1000 29 [.own 1001 (i 0)])), (1001, some (.arr (i 0) 92 2 (r.map GAttr.row)))]) h2 (by exact ⟨.tup [], [(1000, some (.box gb1000 29 [.own 1001 (n0 + 3)])), (1001, some (.arr (n0 + 3) 92 2 (l1.map GAttr.row)))], ⟨_, rfl, trivial⟩, ⟨.inr rfl, .inr rfl, trivial⟩, rfl, rfl, vec [(n0 + 3)], rfl, rfl⟩))
 ·have h1 := ite_f hc1 h
  refine AW.seq_w fun K3 hK3 wK3 => ?_
  refine AW.region ?_
  refine sQ rfl (sp_fieldAddr_own (ob := .box _ _ _) rfl tf_92_1 iL (fun _ => rfl) rfl) ?_
  refine sQ rfl (ms_load_box (a := .r (.str y1.Value)) rfl ts_9 iL rfl rfl) ?_
  refine sQ rfl (sp_sneq rfl iL iL) ?_
  refine sQ rfl (sp_assign rfl iL) ?_
  refine AOps.nil ?_
  refine hK3 _ ?_
  refine AW.cond rfl (fun hc2 => ?_) (fun hc2 => ?_)
  ·have h3 := ite_t hc2 h1
   refine AW.weak (s' := ⟨[(2, .ptr 1000 gb1000 0 0), (4, .ptr 4 (n0 + 1) 0 0)], [(4, some (.box (n0 + 1) 92 [.r (.str y1.Name), .r (.str y1.Value)])), (1000, some (.box gb1000 29 [.own 1001 ga1001])), (1001, some (.arr ga1001 92 2 (c1.map GAttr.row)))], (n0 + 2), 21⟩) (by exact Weak.cv ⟨.inl iL, .inl iL, trivial⟩ ⟨.inl rfl, .inl rfl, .inl rfl, trivial⟩ (Nat.le_refl _)) ?_
   refine AW.region ?_
   refine sQ rfl (ms_load_box (a := .own 1001 ga1001) rfl ts_29 iL rfl rfl) ?_
   refine sQ rfl (ms_loadA_box rfl ta_92 iL rfl rfl) ?_
   refine AOps.step rfl rfl rfl (ms_lit 19 rfl tg_29 (f := GAttr.row) (l := ([y1] : List GAttr)) ⟨rfl, ⟨_, iL, rfl⟩, trivial⟩ rfl (fun _ => rfl) rfl) ?_
   refine ob1k h3 fun l2 el2 h4 => ?_
   refine AOps.step rfl rfl rfl (ms_app rfl tg_29 iL rfl (.inr (.inl ⟨_, _, iL, rfl⟩)) el2) ?_
   refine AOps.step0 rfl rfl (ms_store_box (ds := [.own 1001 (n0 + 3)]) rfl tz_29 iL rfl iL rfl rfl rfl rfl) ?_
   refine AOps.nil ?_
   exact RetW.mk (s' := ⟨[], [(1000, some (.box gb1000 29 [.own 1001 (n0 + 3)])), (1001, some (.arr (n0 + 3) 92 2 (l2.map GAttr.row)))], (n0 + 4), 21⟩) ((by exact Weak.cv trivial ⟨.inl rfl, .inl rfl, trivial⟩ (Nat.le_refl _))) (reth_cast (fun (r : (List GAttr)) rr h' => ∃ (i : Nat → Nat), rr = .tup [] ∧ h' = [(1000, some (.box gb1000 29 [.own 1001 (i 0)])), (1001, some (.arr (i 0) 92 2 (r.map GAttr.row)))]) h4 (by exact ⟨.tup [], [(1000, some (.box gb1000 29 [.own 1001 (n0 + 3)])), (1001, some (.arr (n0 + 3) 92 2 (l2.map GAttr.row)))], ⟨_, rfl, trivial⟩, ⟨.inr rfl, .inr rfl, trivial⟩, rfl, rfl, vec [(n0 + 3)], rfl, rfl⟩))
  ·have h3 := ite_f hc2 h1
   refine AW.skip ?_
   exact RetW.mk (s' := ⟨[], [(1000, some (.box gb1000 29 [.own 1001 ga1001])), (1001, some (.arr ga1001 92 2 (c1.map GAttr.row)))], (n0 + 2), 21⟩) ((by exact Weak.cv trivial ⟨.inl rfl, .inl rfl, trivial⟩ (Nat.le_refl _))) (reth_cast (fun (r : (List GAttr)) rr h' => ∃ (i : Nat → Nat), rr = .tup [] ∧ h' = [(1000, some (.box gb1000 29 [.own 1001 (i 0)])), (1001, some (.arr (i 0) 92 2 (r.map GAttr.row)))]) h3 (by exact ⟨.tup [], [(1000, some (.box gb1000 29 [.own 1001 ga1001])), (1001, some (.arr ga1001 92 2 (c1.map GAttr.row)))], ⟨_, rfl, trivial⟩, ⟨.inr rfl, .inr rfl, trivial⟩, rfl, rfl, vec [ga1001], rfl, rfl⟩))
set_option maxHeartbeats 4000000 in
set_option maxRecDepth 20000 in
theorem w_attr_both__Raw_f1 {c1 : List GAttr} {a1 : List GAttr} {b1 : List GAttr} {r : (List GAttr)} {gb1000 : Nat} {ga1001 : Nat} (h : attr_both__Raw_f1 c1 a1 b1 = some r) : AHC Try.prog 101 2 [.r (.sl (a1.map GAttr.row)), .r (.sl (b1.map GAttr.row)), .fn 119 [.ptr 1000 gb1000 0 0]] [(1000, some (.box gb1000 29 [.own 1001 ga1001])), (1001, some (.arr ga1001 92 2 (c1.map GAttr.row)))] (fun rr h' => ∃ (i : Nat → Nat), rr = .tup [] ∧ h' = [(1000, some (.box gb1000 29 [.own 1001 (i 0)])), (1001, some (.arr (i 0) 92 2 (r.map GAttr.row)))]) := by
 unfold attr_both__Raw_f1 at h
 refine AHC.mkw Try.func101 rfl rfl Try.ntmps101 (Nat.le_of_ble_eq_true rfl) fun n0 => ?_
 refine AW.seq_w fun K1 hK1 wK1 => ?_
 refine AW.region ?_
 refine sQ rfl (sp_assign rfl iL) ?_
 refine sQ rfl (sp_assign rfl iL) ?_
 refine AOps.nil ?_
 refine hK1 _ ?_
 refine AW.block ?_
 refine jc1k h fun o4 hit1 hk1 he1 => ?_
 refine AW.iter3 (fun (i4 : Int) (j2 : Int) (o2 : List GAttr) i5 => ⟨[(0, .r (.sl (a1.map GAttr.row))), (1, .r (.sl (b1.map GAttr.row))), (2, .fn 119 [.ptr 1000 gb1000 0 0]), (6, .r (.int .i64 i4)), (7, .r (.int .i64 j2))], [(1000, some (.box gb1000 29 [.own 1001 (i5 0)])), (1001, some (.arr (i5 0) 92 2 (o2.map GAttr.row)))], (i5 1), 92⟩) (vec [ga1001, n0]) hit1 ((by exact Weak.cv ⟨.inl iL, .inl iL, .inl iL, .inl iL, .inl iL, trivial⟩ ⟨.inl rfl, .inl rfl, trivial⟩ (Nat.le_refl _))) ?_
 intro i4 j2 o2 i5 v1 hv1 hx1
 have h1 : attr_both__Raw_f1_L1 a1 b1 i4 j2 o2 = some v1 := hv1; unfold attr_both__Raw_f1_L1 at h1
 refine AW.seq_w fun K2 hK2 wK2 => ?_
 refine AW.seq_w fun K3 hK3 wK3 => ?_
 refine AW.region ?_
 refine sQ rfl (sp_move rfl iL) ?_
 refine sQ rfl (sp_move rfl iL) ?_
 refine sQ rfl (ms_len rfl tg_29.slice iL) ?_
 refine sQ rfl (sp_lss rfl iL iL) ?_
 refine sQ rfl (sp_move rfl iL) ?_
 refine sW (.one rfl rfl rfl) rfl (sp_move rfl iL) ?_
 refine sW (.one rfl rfl rfl) rfl (sp_move rfl iL) ?_
 refine sW (.one rfl rfl rfl) rfl (ms_len rfl tg_29.slice (.inr ⟨_, (by exact id), rfl⟩)) ?_
 refine sW (.one rfl rfl rfl) rfl (sp_lss rfl (.inr ⟨_, (by exact id), rfl⟩) (.inr ⟨_, (by exact id), rfl⟩)) ?_
 refine sQ rfl (sp_or rfl iL (.inr ⟨_, (by exact id), rfl⟩)) ?_
 refine AOps.nil ?_
 refine hK3 _ ?_
 refine AW.cond rfl (fun hc1 => ?_) (fun hc1 => ?_)
 ·have h2 := ite_t hc1 h1
  refine AW.skip ?_
  refine hK2 _ ?_
  refine AW.block ?_
  refine AW.block ?_
  refine AW.seq_w fun K4 hK4 wK4 => ?_
  refine AW.regionQ hmix (by kernel_rfl) ?_
  refine AQ.step rfl rfl rfl (sp_move rfl iL) ?_
  refine AQ.step rfl rfl rfl (sp_move rfl iL) ?_
  refine AQ.step rfl rfl rfl (ms_len rfl tg_29.slice iL) ?_
  refine AQ.step rfl rfl rfl (sp_eql rfl iL iL) ?_
  refine AQ.step rfl rfl rfl (sp_move rfl iL) ?_
  refine AQ.stepW (.one rfl rfl rfl) rfl rfl (sp_move rfl iL) ?_
  refine AQ.stepW (.one rfl rfl rfl) rfl rfl (sp_move rfl iL) ?_
  refine AQ.stepW (.one rfl rfl rfl) rfl rfl (ms_len rfl tg_29.slice (.inr ⟨_, (by exact id), rfl⟩)) ?_
  refine AQ.stepW (.one rfl rfl rfl) rfl rfl (sp_lss rfl (.inr ⟨_, (by exact id), rfl⟩) (.inr ⟨_, (by exact id), rfl⟩)) ?_
  refine AQ.stepW (.one rfl rfl rfl) rfl rfl (sp_move rfl (.inr ⟨_, (by exact id), rfl⟩)) ?_
  refine AQ.stepW (.two rfl rfl rfl) rfl rfl (sp_move rfl iL) ?_
  refine AQ.stepW (.two rfl rfl rfl) rfl rfl (sp_move rfl iL) ?_
  refine ob1k h2 fun x1 ex1 h3 => ?_
  refine AQ.stepW (.two rfl rfl rfl) rfl rfl (ms_idx rfl tg_29.slice (.inr ⟨_, (by exact id), rfl⟩) (.inr ⟨_, (by exact id), rfl⟩) (fun _ => rfl) (gdt ex1)) ?_
  refine AQ.stepW (.two rfl rfl rfl) rfl rfl (sp_fieldAddr_ro rfl tf_92_0 (.inr ⟨_, (by exact id), rfl⟩)) ?_
  refine AQ.stepW (.two rfl rfl rfl) rfl rfl (ms_load (d := .str x1.Name) rfl ts_9 (.inr ⟨_, (by exact id), rfl⟩) rfl) ?_
  refine AQ.stepW (.two rfl rfl rfl) rfl rfl (sp_move rfl iL) ?_
  refine AQ.stepW (.two rfl rfl rfl) rfl rfl (sp_move rfl iL) ?_
  refine ob1k h3 fun x2 ex2 h4 => ?_
  refine AQ.stepW (.two rfl rfl rfl) rfl rfl (ms_idx rfl tg_29.slice (.inr ⟨_, (by exact id), rfl⟩) (.inr ⟨_, (by exact id), rfl⟩) (fun _ => rfl) (gdt ex2)) ?_
  refine AQ.stepW (.two rfl rfl rfl) rfl rfl (sp_fieldAddr_ro rfl tf_92_0 (.inr ⟨_, (by exact id), rfl⟩)) ?_
  refine AQ.stepW (.two rfl rfl rfl) rfl rfl (ms_load (d := .str x2.Name) rfl ts_9 (.inr ⟨_, (by exact id), rfl⟩) rfl) ?_
  refine AQ.stepW (.two rfl rfl rfl) rfl rfl (sp_slss rfl (.inr ⟨_, (by exact id), rfl⟩) (.inr ⟨_, (by exact id), rfl⟩)) ?_
  refine AQ.stepW (.one rfl rfl rfl) rfl rfl (sp_and rfl (.inr ⟨_, (by exact id), rfl⟩) (.inr ⟨_, (by exact id), rfl⟩)) ?_
  refine AQ.step rfl rfl rfl (sp_or rfl iL (.inr ⟨_, (by exact id), rfl⟩)) ?_
  refine AQ.step rfl rfl rfl (sp_assign rfl iL) ?_
  refine AQ.nil ?_
  refine hK4 _ ?_
  refine AW.cond rfl (fun hc2 => ?_) (fun hc2 => ?_)
  ·have h5 := ite_t hc2 h4
   refine AW.seq_w fun K5 hK5 wK5 => ?_
   refine AW.weak (s' := ⟨[(0, .r (.sl (a1.map GAttr.row))), (1, .r (.sl (b1.map GAttr.row))), (2, .fn 119 [.ptr 1000 gb1000 0 0]), (6, .r (.int .i64 i4)), (7, .r (.int .i64 j2))], [(1000, some (.box gb1000 29 [.own 1001 (i5 0)])), (1001, some (.arr (i5 0) 92 2 (o2.map GAttr.row)))], (i5 1), 92⟩) (by exact Weak.cv ⟨.inl iL, .inl iL, .inl iL, .inl iL, .inl iL, trivial⟩ ⟨.inl rfl, .inl rfl, trivial⟩ (Nat.le_refl _)) ?_
   refine AW.region ?_
   refine sQ rfl (sp_move rfl iL) ?_
   refine sQ rfl (sp_move rfl iL) ?_
   refine sQ rfl (sp_move rfl iL) ?_
   refine ob1k h5 fun x3 ex3 h6 => ?_
   refine sQ rfl (ms_idx rfl tg_29.slice iL iL (fun _ => rfl) (fun _ => ex3)) ?_
   refine sQ rfl (ms_loadA (cs := [.r (.str x3.Name), .r (.str x3.Value)]) rfl ta_92 iL rfl rfl) ?_
   refine sQ rfl (sp_build rfl tb_92 (q := []) (by exact trivial) (cs := [.r (.str []), .r (.str [])]) (by rfl)) ?_
   refine ob1k h6 fun w1 ew1 h7 => ?_
   refine AOps.stepHI [1000, 1001] (hc := [(1000, some (.box gb1000 29 [.own 1001 (i5 0)])), (1001, some (.arr (i5 0) 92 2 (o2.map GAttr.row)))]) (bs := [.agg [.r (.str x3.Name), .r (.str x3.Value)], .agg [.r (.str []), .r (.str [])]]) (caps := [.ptr 1000 gb1000 0 0]) rfl rfl rfl rfl iL rfl ⟨.inl ⟨iL, rfl⟩, .inl ⟨iL, rfl⟩, trivial⟩ ⟨rfl, rfl, rfl, rfl, rfl, rfl, trivial⟩ (by decide) (w_attr_Raw_f1 ew1) ?_
   intro i8 n1
   refine AOps.weak (s' := ⟨[(0, .r (.sl (a1.map GAttr.row))), (1, .r (.sl (b1.map GAttr.row))), (2, .fn 119 [.ptr 1000 gb1000 0 0]), (6, .r (.int .i64 i4)), (7, .r (.int .i64 j2)), (56, .fn 119 [.ptr 1000 gb1000 0 0]), (57, .r (.sl (a1.map GAttr.row))), (58, .r (.int .i64 i4)), (59, .rop (GAttr.row x3) 0), (60, .agg [.r (.str x3.Name), .r (.str x3.Value)]), (61, .agg [.r (.str []), .r (.str [])]), (62, .tup [])], [(1000, some (.box gb1000 29 [.own 1001 (i8 0)])), (1001, some (.arr (i8 0) 92 2 (w1.map GAttr.row)))], n1, 92⟩) (by exact Weak.cv ⟨.inl iL, .inl iL, .inl iL, .inl iL, .inl iL, .inl iL, .inl iL, .inl iL, .inl iL, .inl iL, .inl iL, .inl iL, trivial⟩ ⟨.inl rfl, .inl rfl, trivial⟩ (Nat.le_refl _)) ?_
   refine AOps.nil ?_
   refine hK5 _ ?_
   refine AW.region ?_
   refine sQ rfl (sp_move rfl iL) ?_
   refine ob1k h7 fun i9 ei9 h8 => ?_
   refine sQ rfl (ms_add rfl iL iL (fun _ => ei9)) ?_
   refine sQ rfl (sp_assign rfl iL) ?_
   refine AOps.nil ?_
   exact NextQ3.mk h8 (vec [(i8 0), n1]) ((by exact Weak.cv ⟨.inl iL, .inl iL, .inl iL, .inl iL, .inl iL, trivial⟩ ⟨.inl rfl, .inl rfl, trivial⟩ (Nat.le_refl _)))
  ·have h5 := ite_f hc2 h4
   refine AW.seq_w fun K6 hK6 wK6 => ?_
   refine AW.weak (s' := ⟨[(0, .r (.sl (a1.map GAttr.row))), (1, .r (.sl (b1.map GAttr.row))), (2, .fn 119 [.ptr 1000 gb1000 0 0]), (6, .r (.int .i64 i4)), (7, .r (.int .i64 j2))], [(1000, some (.box gb1000 29 [.own 1001 (i5 0)])), (1001, some (.arr (i5 0) 92 2 (o2.map GAttr.row)))], (i5 1), 92⟩) (by exact Weak.cv ⟨.inl iL, .inl iL, .inl iL, .inl iL, .inl iL, trivial⟩ ⟨.inl rfl, .inl rfl, trivial⟩ (Nat.le_refl _)) ?_
   refine AW.regionQ hmix (by kernel_rfl) ?_
   refine AQ.step rfl rfl rfl (sp_move rfl iL) ?_
   refine AQ.step rfl rfl rfl (sp_move rfl iL) ?_
   refine AQ.step rfl rfl rfl (ms_len rfl tg_29.slice iL) ?_
   refine AQ.step rfl rfl rfl (sp_eql rfl iL iL) ?_
   refine AQ.step rfl rfl rfl (sp_move rfl iL) ?_
   refine AQ.stepW (.one rfl rfl rfl) rfl rfl (sp_move rfl iL) ?_
   refine AQ.stepW (.one rfl rfl rfl) rfl rfl (sp_move rfl iL) ?_
   refine ob1k h5 fun x4 ex4 h9 => ?_
   refine AQ.stepW (.one rfl rfl rfl) rfl rfl (ms_idx rfl tg_29.slice (.inr ⟨_, (by exact id), rfl⟩) (.inr ⟨_, (by exact id), rfl⟩) (fun _ => rfl) (gdt ex4)) ?_
   refine AQ.stepW (.one rfl rfl rfl) rfl rfl (sp_fieldAddr_ro rfl tf_92_0 (.inr ⟨_, (by exact id), rfl⟩)) ?_
   refine AQ.stepW (.one rfl rfl rfl) rfl rfl (ms_load (d := .str x4.Name) rfl ts_9 (.inr ⟨_, (by exact id), rfl⟩) rfl) ?_
   refine AQ.stepW (.one rfl rfl rfl) rfl rfl (sp_move rfl iL) ?_
   refine AQ.stepW (.one rfl rfl rfl) rfl rfl (sp_move rfl iL) ?_
   refine ob1k h9 fun x5 ex5 h10 => ?_
   refine AQ.stepW (.one rfl rfl rfl) rfl rfl (ms_idx rfl tg_29.slice (.inr ⟨_, (by exact id), rfl⟩) (.inr ⟨_, (by exact id), rfl⟩) (fun _ => rfl) (gdt ex5)) ?_
   refine AQ.stepW (.one rfl rfl rfl) rfl rfl (sp_fieldAddr_ro rfl tf_92_0 (.inr ⟨_, (by exact id), rfl⟩)) ?_
   refine AQ.stepW (.one rfl rfl rfl) rfl rfl (ms_load (d := .str x5.Name) rfl ts_9 (.inr ⟨_, (by exact id), rfl⟩) rfl) ?_
   refine AQ.stepW (.one rfl rfl rfl) rfl rfl (sp_slss rfl (.inr ⟨_, (by exact id), rfl⟩) (.inr ⟨_, (by exact id), rfl⟩)) ?_
   refine AQ.step rfl rfl rfl (sp_or rfl iL (.inr ⟨_, (by exact id), rfl⟩)) ?_
   refine AQ.step rfl rfl rfl (sp_assign rfl iL) ?_
   refine AQ.nil ?_
   refine hK6 _ ?_
   refine AW.cond rfl (fun hc3 => ?_) (fun hc3 => ?_)
   ·have h11 := ite_t hc3 h10
    refine AW.seq_w fun K7 hK7 wK7 => ?_
    refine AW.region ?_
    refine sQ rfl (sp_move rfl iL) ?_
    refine sQ rfl (sp_build rfl tb_92 (q := []) (by exact trivial) (cs := [.r (.str []), .r (.str [])]) (by rfl)) ?_
    refine sQ rfl (sp_move rfl iL) ?_
    refine sQ rfl (sp_move rfl iL) ?_
    refine ob1k h11 fun x6 ex6 h12 => ?_
    refine sQ rfl (ms_idx rfl tg_29.slice iL iL (fun _ => rfl) (fun _ => ex6)) ?_
    refine sQ rfl (ms_loadA (cs := [.r (.str x6.Name), .r (.str x6.Value)]) rfl ta_92 iL rfl rfl) ?_
    refine ob1k h12 fun w2 ew2 h13 => ?_
    refine AOps.stepHI [1000, 1001] (hc := [(1000, some (.box gb1000 29 [.own 1001 (i5 0)])), (1001, some (.arr (i5 0) 92 2 (o2.map GAttr.row)))]) (bs := [.agg [.r (.str []), .r (.str [])], .agg [.r (.str x6.Name), .r (.str x6.Value)]]) (caps := [.ptr 1000 gb1000 0 0]) rfl rfl rfl rfl iL rfl ⟨.inl ⟨iL, rfl⟩, .inl ⟨iL, rfl⟩, trivial⟩ ⟨rfl, rfl, rfl, rfl, rfl, rfl, trivial⟩ (by decide) (w_attr_Raw_f1 ew2) ?_
    intro i10 n2
    refine AOps.weak (s' := ⟨[(0, .r (.sl (a1.map GAttr.row))), (1, .r (.sl (b1.map GAttr.row))), (2, .fn 119 [.ptr 1000 gb1000 0 0]), (6, .r (.int .i64 i4)), (7, .r (.int .i64 j2)), (65, .r (.bool ((decide (i4 = (a1.length : Int))) || (sLt x4.Name x5.Name)))), (66, .r (.int .i64 i4)), (67, .r (.sl (a1.map GAttr.row))), (68, .r (.int .i64 (a1.length : Int))), (69, .r (.bool (decide (i4 = (a1.length : Int))))), (70, .r (.bool (decide (i4 = (a1.length : Int))))), (82, .r (.bool ((decide (i4 = (a1.length : Int))) || (sLt x4.Name x5.Name)))), (83, .fn 119 [.ptr 1000 gb1000 0 0]), (84, .agg [.r (.str []), .r (.str [])]), (85, .r (.sl (b1.map GAttr.row))), (86, .r (.int .i64 j2)), (87, .rop (GAttr.row x6) 0), (88, .agg [.r (.str x6.Name), .r (.str x6.Value)]), (89, .tup [])], [(1000, some (.box gb1000 29 [.own 1001 (i10 0)])), (1001, some (.arr (i10 0) 92 2 (w2.map GAttr.row)))], n2, 92⟩) (by exact Weak.cv ⟨.inl iL, .inl iL, .inl iL, .inl iL, .inl iL, .inl iL, .inl iL, .inl iL, .inl iL, .inl iL, .inl iL, .inl iL, .inl iL, .inl iL, .inl iL, .inl iL, .inl iL, .inl iL, .inl iL, trivial⟩ ⟨.inl rfl, .inl rfl, trivial⟩ (Nat.le_refl _)) ?_
    refine AOps.nil ?_
    refine hK7 _ ?_
    refine AW.weak (s' := ⟨[(0, .r (.sl (a1.map GAttr.row))), (1, .r (.sl (b1.map GAttr.row))), (2, .fn 119 [.ptr 1000 gb1000 0 0]), (6, .r (.int .i64 i4)), (7, .r (.int .i64 j2))], [(1000, some (.box gb1000 29 [.own 1001 (i10 0)])), (1001, some (.arr (i10 0) 92 2 (w2.map GAttr.row)))], n2, 92⟩) (by exact Weak.cv ⟨.inl iL, .inl iL, .inl iL, .inl iL, .inl iL, trivial⟩ ⟨.inl rfl, .inl rfl, trivial⟩ (Nat.le_refl _)) ?_
    refine AW.region ?_
    refine sQ rfl (sp_move rfl iL) ?_
    refine ob1k h13 fun j4 ej4 h14 => ?_
    refine sQ rfl (ms_add rfl iL iL (fun _ => ej4)) ?_
    refine sQ rfl (sp_assign rfl iL) ?_
    refine AOps.nil ?_
    exact NextQ3.mk h14 (vec [(i10 0), n2]) ((by exact Weak.cv ⟨.inl iL, .inl iL, .inl iL, .inl iL, .inl iL, trivial⟩ ⟨.inl rfl, .inl rfl, trivial⟩ (Nat.le_refl _)))
   ·have h11 := ite_f hc3 h10
    refine AW.seq_w fun K8 hK8 wK8 => ?_
    refine AW.regionT 9 hmix (by kernel_rfl) rfl rfl ?_
    refine AT.step rfl rfl rfl (sp_move rfl iL) ?_
    refine AT.step rfl rfl rfl (sp_move rfl iL) ?_
    refine AT.step rfl rfl rfl (sp_move rfl iL) ?_
    refine ob1k h11 fun x7 ex7 h15 => ?_
    refine AT.step rfl rfl rfl (ms_idx rfl tg_29.slice iL iL (fun _ => rfl) (fun _ => ex7)) ?_
    refine AT.step rfl rfl rfl (ms_loadA (cs := [.r (.str x7.Name), .r (.str x7.Value)]) rfl ta_92 iL rfl rfl) ?_
    refine AT.step rfl rfl rfl (sp_move rfl iL) ?_
    refine AT.step rfl rfl rfl (sp_move rfl iL) ?_
    refine ob1k h15 fun x8 ex8 h16 => ?_
    refine AT.step rfl rfl rfl (ms_idx rfl tg_29.slice iL iL (fun _ => rfl) (fun _ => ex8)) ?_
    refine AT.step rfl rfl rfl (ms_loadA (cs := [.r (.str x8.Name), .r (.str x8.Value)]) rfl ta_92 iL rfl rfl) ?_
    refine AT.nil ?_
    refine ob1k h16 fun w3 ew3 h17 => ?_
    refine AOps.stepHI [1000, 1001] (hc := [(1000, some (.box gb1000 29 [.own 1001 (i5 0)])), (1001, some (.arr (i5 0) 92 2 (o2.map GAttr.row)))]) (bs := [.agg [.r (.str x7.Name), .r (.str x7.Value)], .agg [.r (.str x8.Name), .r (.str x8.Value)]]) (caps := [.ptr 1000 gb1000 0 0]) rfl rfl rfl rfl iL rfl ⟨.inl ⟨iL, rfl⟩, .inl ⟨iL, rfl⟩, trivial⟩ ⟨rfl, rfl, rfl, rfl, rfl, rfl, trivial⟩ (by decide) (w_attr_Raw_f1 ew3) ?_
    intro i11 n3
    refine AOps.weak (s' := ⟨[(0, .r (.sl (a1.map GAttr.row))), (1, .r (.sl (b1.map GAttr.row))), (2, .fn 119 [.ptr 1000 gb1000 0 0]), (6, .r (.int .i64 i4)), (7, .r (.int .i64 j2)), (18, .fn 119 [.ptr 1000 gb1000 0 0]), (19, .r (.sl (a1.map GAttr.row))), (20, .r (.int .i64 i4)), (21, .rop (GAttr.row x7) 0), (22, .agg [.r (.str x7.Name), .r (.str x7.Value)]), (23, .r (.sl (b1.map GAttr.row))), (24, .r (.int .i64 j2)), (25, .rop (GAttr.row x8) 0), (26, .agg [.r (.str x8.Name), .r (.str x8.Value)]), (27, .tup []), (65, .r (.bool ((decide (i4 = (a1.length : Int))) || (sLt x4.Name x5.Name)))), (66, .r (.int .i64 i4)), (67, .r (.sl (a1.map GAttr.row))), (68, .r (.int .i64 (a1.length : Int))), (69, .r (.bool (decide (i4 = (a1.length : Int))))), (70, .r (.bool (decide (i4 = (a1.length : Int))))), (82, .r (.bool ((decide (i4 = (a1.length : Int))) || (sLt x4.Name x5.Name))))], [(1000, some (.box gb1000 29 [.own 1001 (i11 0)])), (1001, some (.arr (i11 0) 92 2 (w3.map GAttr.row)))], n3, 92⟩) (by exact Weak.cv ⟨.inl iL, .inl iL, .inl iL, .inl iL, .inl iL, .inl iL, .inl iL, .inl iL, .inl iL, .inl iL, .inl iL, .inl iL, .inl iL, .inl iL, .inl iL, .inl iL, .inl iL, .inl iL, .inl iL, .inl iL, .inl iL, .inl iL, trivial⟩ ⟨.inl rfl, .inl rfl, trivial⟩ (Nat.le_refl _)) ?_
    refine AOps.nil ?_
    refine hK8 _ ?_
    refine AW.weak (s' := ⟨[(0, .r (.sl (a1.map GAttr.row))), (1, .r (.sl (b1.map GAttr.row))), (2, .fn 119 [.ptr 1000 gb1000 0 0]), (6, .r (.int .i64 i4)), (7, .r (.int .i64 j2))], [(1000, some (.box gb1000 29 [.own 1001 (i11 0)])), (1001, some (.arr (i11 0) 92 2 (w3.map GAttr.row)))], n3, 92⟩) (by exact Weak.cv ⟨.inl iL, .inl iL, .inl iL, .inl iL, .inl iL, trivial⟩ ⟨.inl rfl, .inl rfl, trivial⟩ (Nat.le_refl _)) ?_
    refine AW.region ?_
    refine sQ rfl (sp_move rfl iL) ?_
    refine ob1k h17 fun i12 ei12 h18 => ?_
    refine sQ rfl (ms_add rfl iL iL (fun _ => ei12)) ?_
    refine sQ rfl (sp_move rfl iL) ?_
    refine ob1k h18 fun j5 ej5 h19 => ?_
    refine sQ rfl (ms_add rfl iL iL (fun _ => ej5)) ?_
    refine sQ rfl (sp_assign rfl iL) ?_
    refine sQ rfl (sp_assign rfl iL) ?_
    refine AOps.nil ?_
    exact NextQ3.mk h19 (vec [(i11 0), n3]) ((by exact Weak.cv ⟨.inl iL, .inl iL, .inl iL, .inl iL, .inl iL, trivial⟩ ⟨.inl rfl, .inl rfl, trivial⟩ (Nat.le_refl _)))
 ·have h2 := ite_f hc1 h1
  refine AW.exit ?_
  exact RetW.mk (s' := ⟨[], [(1000, some (.box gb1000 29 [.own 1001 (i5 0)])), (1001, some (.arr (i5 0) 92 2 (o2.map GAttr.row)))], (i5 1), 92⟩) ((by exact Weak.cv trivial ⟨.inl rfl, .inl rfl, trivial⟩ (Nat.le_refl _))) (reth_cast (fun (r : (List GAttr)) rr h' => ∃ (i : Nat → Nat), rr = .tup [] ∧ h' = [(1000, some (.box gb1000 29 [.own 1001 (i 0)])), (1001, some (.arr (i 0) 92 2 (r.map GAttr.row)))]) (he1 _ (hx1 _ (Option.some.inj h2).symm)) (by exact ⟨.tup [], [(1000, some (.box gb1000 29 [.own 1001 (i5 0)])), (1001, some (.arr (i5 0) 92 2 (o2.map GAttr.row)))], ⟨_, rfl, trivial⟩, ⟨.inr rfl, .inr rfl, trivial⟩, rfl, rfl, vec [(i5 0)], rfl, rfl⟩))
set_option maxHeartbeats 4000000 in
set_option maxRecDepth 20000 in
theorem w_attr_Raw {l1 : List GAttr} {change1 : List GAttr} {r : (List GAttr)} (h : attr_Raw l1 change1 = some r) : ARO Try.prog 109 [.r (.sl (l1.map GAttr.row)), .r (.sl (change1.map GAttr.row))] (.r (.sl (r.map GAttr.row))) := by
 unfold attr_Raw at h
 refine ARO.mkF Try.func109 rfl rfl Try.ntmps109 rfl (Nat.le_of_ble_eq_true rfl) fun n0 => ?_
 refine AW.seq_w fun K1 hK1 wK1 => ?_
 refine AW.region ?_
 refine sQ rfl (sp_assign rfl iL) ?_
 refine AOps.nil ?_
 refine hK1 _ ?_
 refine AW.seq_w fun K2 hK2 wK2 => ?_
 refine AW.region ?_
 refine AOps.step rfl rfl rfl (ms_alloc (cs := [.cst (.slice none 0 0)]) 5 rfl t0_29 rfl rfl) ?_
 refine AOps.nil ?_
 refine hK2 _ ?_
 refine AW.seq_w fun K3 hK3 wK3 => ?_
 refine AW.region ?_
 refine sQ rfl (sp_move rfl iL) ?_
 refine sQ rfl (sp_move rfl iL) ?_
 refine sQ rfl (sp_makeFunc (bs := [.ptr 5 n0 0 0]) rfl (by exact ⟨iL, trivial⟩)) ?_
 refine AOps.weak (Weak.trans (Weak.adoptBox 5 0 3050 92 2 (by decide) rfl rfl (by decide)) (by exact Weak.cv (e' := [(0, .r (.sl (l1.map GAttr.row))), (1, .r (.sl (change1.map GAttr.row))), (4, .cst (.slice none 0 0)), (5, .ptr 5 n0 0 0), (6, .r (.sl (l1.map GAttr.row))), (7, .r (.sl (change1.map GAttr.row))), (8, .fn 119 [.ptr 5 n0 0 0])]) (h' := [(5, some (.box n0 29 [.own 3050 (n0 + 1)])), (3050, some (.arr (n0 + 1) 92 2 (([] : List GAttr).map GAttr.row)))]) ⟨.inl iL, .inl iL, .inl iL, .inl iL, .inl iL, .inl iL, .inl iL, trivial⟩ ⟨.inl rfl, .inl rfl, trivial⟩ (Nat.le_refl _))) ?_
 refine ob1k h fun w1 ew1 h1 => ?_
 refine AOps.stepHI [5, 3050] (hc := [(1000, some (.box n0 29 [.own 1001 (n0 + 1)])), (1001, some (.arr (n0 + 1) 92 2 (([] : List GAttr).map GAttr.row)))]) (bs := [.r (.sl (l1.map GAttr.row)), .r (.sl (change1.map GAttr.row)), .fn 119 [.ptr 1000 n0 0 0]]) (caps := []) rfl rfl rfl rfl iL rfl ⟨.inl ⟨iL, rfl⟩, .inl ⟨iL, rfl⟩, .inl ⟨iL, rfl⟩, trivial⟩ ⟨rfl, rfl, rfl, rfl, rfl, rfl, trivial⟩ (by decide) (w_attr_both__Raw_f1 ew1) ?_
 intro i1 n1
 refine AOps.weak (s' := ⟨[(0, .r (.sl (l1.map GAttr.row))), (1, .r (.sl (change1.map GAttr.row))), (4, .cst (.slice none 0 0)), (5, .ptr 5 n0 0 0), (6, .r (.sl (l1.map GAttr.row))), (7, .r (.sl (change1.map GAttr.row))), (8, .fn 119 [.ptr 5 n0 0 0]), (9, .tup [])], [(5, some (.box n0 29 [.own 3050 (i1 0)])), (3050, some (.arr (i1 0) 92 2 (w1.map GAttr.row)))], n1, 11⟩) (by exact Weak.cv ⟨.inl iL, .inl iL, .inl iL, .inl iL, .inl iL, .inl iL, .inl iL, .inl iL, trivial⟩ ⟨.inl rfl, .inl rfl, trivial⟩ (Nat.le_refl _)) ?_
 refine AOps.nil ?_
 refine hK3 _ ?_
 refine AW.seq_w fun K4 hK4 wK4 => ?_
 refine AW.region ?_
 refine sQ rfl (ms_load_box (a := .own 3050 (i1 0)) rfl ts_29 iL rfl rfl) ?_
 refine sQ rfl (sp_assign rfl iL) ?_
 refine AOps.nil ?_
 refine hK4 _ ?_
 refine AW.ret ?_
 exact retf1 (P := Try.prog) (fun (r : (List GAttr)) => .r (.sl (r.map GAttr.row))) h1 iL (.t (.one (.own rfl)))
set_option maxHeartbeats 4000000 in
set_option maxRecDepth 20000 in
theorem w_delta_changed {l1 : List GElem} {change1 : List GAttr} {r : (List GElem)} (h : delta_changed l1 change1 = some r) : ARO Try.prog 116 [.r (.sl (l1.map GElem.row)), .r (.sl (change1.map GAttr.row))] (.r (.sl (r.map GElem.row))) := by
 unfold delta_changed at h
 refine ARO.mkF Try.func116 rfl rfl Try.ntmps116 rfl (Nat.le_of_ble_eq_true rfl) fun n0 => ?_
 refine AW.seq_w fun K1 hK1 wK1 => ?_
 refine AW.region ?_
 refine sQ rfl (sp_assign rfl iL) ?_
 refine AOps.nil ?_
 refine hK1 _ ?_
 refine AW.seq_w fun K2 hK2 wK2 => ?_
 refine AW.region ?_
 refine sQ rfl (sp_move rfl iL) ?_
 refine sQ rfl (ms_len rfl tg_22.slice iL) ?_
 refine ob1k h fun out1 eout1 h1 => ?_
 refine AOps.step rfl rfl rfl (ms_mk 10 rfl tg_22 (f := GElem.row) (z0 := (GElem.mk 0 0 [])) tr_82 iL iL eout1) ?_
 refine sQ rfl (sp_assign rfl iL) ?_
 refine AOps.nil ?_
 refine hK2 _ ?_
 refine AW.seq_w fun K3 hK3 wK3 => ?_
 refine AW.seq_w fun K4 hK4 wK4 => ?_
 refine AW.region ?_
 refine sQ rfl (sp_move rfl iL) ?_
 refine sQ rfl (ms_len rfl tg_22.slice iL) ?_
 refine sQ rfl (sp_move rfl iL) ?_
 refine AOps.nil ?_
 refine hK4 _ ?_
 refine AW.block ?_
 refine jb1k h1 fun o1 hit1 hk1 => ?_
 have J1 : ∀ (out5 : List GElem) (i5 : Nat → Nat), o1 = out5 → K3 ⟨[(5, .own 10 (i5 0))], [(10, some (.arr (i5 0) 82 3 (out5.map GElem.row)))], (i5 1), 29⟩ := by
  intro out5 i5 e
  have h2 := hk1 _ e
  refine hK3 _ ?_
  refine AW.seq_w fun K5 hK5 wK5 => ?_
  refine AW.region ?_
  refine sQ rfl (sp_move rfl iL) ?_
  refine sQ rfl (sp_assign rfl iL) ?_
  refine AOps.nil ?_
  refine hK5 _ ?_
  refine AW.ret ?_
  exact retf1 (P := Try.prog) (fun (r : (List GElem)) => .r (.sl (r.map GElem.row))) h2 iL (.t (.one (.own rfl)))
 refine AW.iter2 (fun (x2 : Int) (out3 : List GElem) i3 => ⟨[(1, .r (.sl (change1.map GAttr.row))), (5, .own 10 (i3 0)), (11, .r (.sl (l1.map GElem.row))), (12, .r (.int .i64 (l1.length : Int))), (13, .r (.int .i64 x2))], [(10, some (.arr (i3 0) 82 3 (out3.map GElem.row)))], (i3 1), 29⟩) (vec [n0, (n0 + 1)]) hit1 ((by exact Weak.cv ⟨.inl iL, .inl iL, .inl iL, .inl iL, .inl iL, trivial⟩ ⟨.inl rfl, trivial⟩ (Nat.le_refl _))) ?_
 intro x2 out3 i3 v1 hv1 hx1
 have h3 : delta_changed_L1 l1 change1 x2 out3 = some v1 := hv1; unfold delta_changed_L1 at h3
 refine AW.seq_w fun K6 hK6 wK6 => ?_
 refine AW.region ?_
 refine sQ rfl (sp_lss rfl iL iL) ?_
 refine AOps.nil ?_
 refine hK6 _ ?_
 refine AW.seq_w fun K7 hK7 wK7 => ?_
 refine AW.cond rfl (fun hc1 => ?_) (fun hc1 => ?_)
 ·have h4 := ite_t hc1 h3
  refine AW.skip ?_
  refine hK7 _ ?_
  refine AW.seq_w fun K8 hK8 wK8 => ?_
  refine AW.block ?_
  refine AW.seq_w fun K9 hK9 wK9 => ?_
  refine AW.region ?_
  refine sQ rfl (sp_move rfl iL) ?_
  refine ob1k h4 fun x4 ex4 h5 => ?_
  refine sQ rfl (ms_idx rfl tg_22.slice iL iL (fun _ => rfl) (fun _ => ex4)) ?_
  refine sQ rfl (ms_loadA (cs := [.r (.int .i64 x4.Char), .r (.int .i64 x4.Ref), .r (.sl (x4.Attrs.map GAttr.row))]) rfl ta_82 iL rfl rfl) ?_
  refine AOps.step rfl rfl rfl (ms_alloc (cs := [.r (.int .i64 0), .r (.int .i64 0), .cst (.slice none 0 0)]) 7 rfl t0_82 rfl rfl) ?_
  refine sQ rfl (sp_assign rfl iL) ?_
  refine AOps.step0 rfl rfl (ms_store_box (ds := [.r (.int .i64 x4.Char), .r (.int .i64 x4.Ref), .r (.sl (x4.Attrs.map GAttr.row))]) rfl tz_82 iL rfl iL rfl rfl rfl rfl) ?_
  refine AOps.nil ?_
  refine hK9 _ ?_
  refine AW.seq_w fun K10 hK10 wK10 => ?_
  refine AW.region ?_
  refine sQ rfl (sp_fieldAddr_own (ob := .box _ _ _) rfl tf_82_2 iL (fun _ => rfl) rfl) ?_
  refine sQ rfl (ms_load_box (a := .r (.sl (x4.Attrs.map GAttr.row))) rfl ts_29 iL rfl rfl) ?_
  refine sQ rfl (sp_move rfl iL) ?_
  refine ob1k h5 fun r1 er1 h6 => ?_
  refine AOps.step rfl rfl rfl (sp_callS (r := .r (.sl (r1.map GAttr.row))) (caps := []) (bs := [.r (.sl (x4.Attrs.map GAttr.row)), .r (.sl (change1.map GAttr.row))]) rfl iL rfl ⟨.inl ⟨iL, rfl⟩, .inl ⟨iL, rfl⟩, trivial⟩ (fun _ => w_attr_Raw (er1))) ?_
  refine sQ rfl (sp_fieldAddr_own (ob := .box _ _ _) rfl tf_82_2 iL (fun _ => rfl) rfl) ?_
  refine AOps.step0 rfl rfl (ms_store_box (ds := [.r (.int .i64 x4.Char), .r (.int .i64 x4.Ref), .r (.sl (r1.map GAttr.row))]) rfl tz_29 iL rfl iL rfl rfl rfl rfl) ?_
  refine AOps.nil ?_
  refine hK10 _ ?_
  refine AW.weak (s' := ⟨[(1, .r (.sl (change1.map GAttr.row))), (5, .own 10 (i3 0)), (6, .r (.int .i64 x2)), (7, .ptr 7 (i3 1) 0 0), (11, .r (.sl (l1.map GElem.row))), (12, .r (.int .i64 (l1.length : Int))), (13, .r (.int .i64 x2))], [(7, some (.box (i3 1) 82 [.r (.int .i64 x4.Char), .r (.int .i64 x4.Ref), .r (.sl (r1.map GAttr.row))])), (10, some (.arr (i3 0) 82 3 (out3.map GElem.row)))], ((i3 1) + 1), 29⟩) (by exact Weak.cv ⟨.inl iL, .inl iL, .inl iL, .inl iL, .inl iL, .inl iL, .inl iL, trivial⟩ ⟨.inl rfl, .inl rfl, trivial⟩ (Nat.le_refl _)) ?_
  refine AW.region ?_
  refine sQ rfl (sp_move rfl iL) ?_
  refine sQ rfl (sp_move rfl iL) ?_
  refine sQ rfl (ms_loadA_box rfl ta_82 iL rfl rfl) ?_
  refine ob1k h6 fun x5 ex5 h7 => ?_
  refine sQ rfl (ms_idx_own rfl tg_22.slice iL rfl iL (fun _ => ex5)) ?_
  refine AOps.step0 rfl rfl (ms_storeA (v := (GElem.mk x4.Char x4.Ref r1)) rfl tz_82 iL rfl ex5 iL rfl rfl rfl rfl) ?_
  refine AOps.nil ?_
  refine hK8 _ ?_
  refine AW.region ?_
  refine ob1k h7 fun x6 ex6 h8 => ?_
  refine sQ rfl (ms_add rfl iL iL (fun _ => ex6)) ?_
  refine sQ rfl (sp_move rfl iL) ?_
  refine AOps.nil ?_
  exact NextQ2.mk h8 (vec [(i3 0), ((i3 1) + 1)]) ((by exact Weak.cv ⟨.inl iL, .inl iL, .inl iL, .inl iL, .inl iL, trivial⟩ ⟨.inl rfl, trivial⟩ (Nat.le_refl _)))
 ·have h4 := ite_f hc1 h3
  refine AW.exit ?_
  exact wK3 _ _ ((by exact Weak.cv ⟨.inl iL, trivial⟩ ⟨.inl rfl, trivial⟩ (Nat.le_refl _))) (J1 _ (vec [(i3 0), (i3 1)]) (hx1 _ (Option.some.inj h4).symm))
set_option maxHeartbeats 4000000 in
set_option maxRecDepth 20000 in
theorem w_delta_Raw {f1 : List GElem} {d1 : List GStep} {r : (List GElem)} (h : delta_Raw f1 d1 = some r) : ARO Try.prog 97 [.r (.sl (f1.map GElem.row)), .r (.sl (d1.map GStep.row))] (.r (.sl (r.map GElem.row))) := by
 unfold delta_Raw at h
 refine ARO.mkF Try.func97 rfl rfl Try.ntmps97 rfl (Nat.le_of_ble_eq_true rfl) fun n0 => ?_
 refine AW.seq_w fun K1 hK1 wK1 => ?_
 refine AW.region ?_
 refine sQ rfl (sp_assign rfl iL) ?_
 refine AOps.nil ?_
 refine hK1 _ ?_
 refine AW.seq_w fun K2 hK2 wK2 => ?_
 refine AW.region ?_
 refine sQ rfl (sp_assign rfl iL) ?_
 refine AOps.nil ?_
 refine hK2 _ ?_
 refine AW.seq_w fun K3 hK3 wK3 => ?_
 refine AW.seq_w fun K4 hK4 wK4 => ?_
 refine AW.region ?_
 refine sQ rfl (sp_move rfl iL) ?_
 refine sQ rfl (ms_len rfl tg_23.slice iL) ?_
 refine sQ rfl (sp_move rfl iL) ?_
 refine AOps.nil ?_
 refine hK4 _ ?_
 refine AW.block ?_
 refine jb1k h fun o1 hit1 hk1 => ?_
 have J1 : ∀ (out4 : List GElem) (i5 : Nat → Nat), o1 = out4 → K3 ⟨[(5, .own 5005 (i5 0))], [(5005, some (.arr (i5 0) 82 3 (out4.map GElem.row)))], (i5 1), 44⟩ := by
  intro out4 i5 e
  have h1 := hk1 _ e
  refine hK3 _ ?_
  refine AW.seq_w fun K5 hK5 wK5 => ?_
  refine AW.region ?_
  refine sQ rfl (sp_move rfl iL) ?_
  refine sQ rfl (sp_assign rfl iL) ?_
  refine AOps.nil ?_
  refine hK5 _ ?_
  refine AW.ret ?_
  exact retf1 (P := Try.prog) (fun (r : (List GElem)) => .r (.sl (r.map GElem.row))) h1 iL (.t (.one (.own rfl)))
 refine AW.iter3 (fun (f3 : List GElem) (x2 : Int) (out2 : List GElem) i3 => ⟨[(0, .r (.sl (f3.map GElem.row))), (5, .own 5005 (i3 0)), (8, .r (.sl (d1.map GStep.row))), (9, .r (.int .i64 (d1.length : Int))), (10, .r (.int .i64 x2))], [(5005, some (.arr (i3 0) 82 3 (out2.map GElem.row)))], (i3 1), 44⟩) (vec [n0, (n0 + 1)]) hit1 (Weak.trans (Weak.trans (Weak.adopt 5 5005 82 3 (by decide) rfl) (by exact Weak.cv (e' := [(0, .r (.sl (f1.map GElem.row))), (1, .r (.sl (d1.map GStep.row))), (4, .cst (.slice none 0 0)), (5, .own 5005 n0), (8, .r (.sl (d1.map GStep.row))), (9, .r (.int .i64 (d1.length : Int))), (10, .r (.int .i64 0))]) (h' := [(5005, some (.arr n0 82 3 (([] : List GElem).map GElem.row)))]) ⟨.inl iL, .inl iL, .inl iL, .inl iL, .inl iL, .inl iL, .inl iL, trivial⟩ ⟨.inl rfl, trivial⟩ (Nat.le_refl _))) (by exact Weak.cv ⟨.inl iL, .inl iL, .inl iL, .inl iL, .inl iL, trivial⟩ ⟨.inl rfl, trivial⟩ (Nat.le_refl _))) ?_
 intro f3 x2 out2 i3 v1 hv1 hx1
 have h2 : delta_Raw_L1 d1 f3 x2 out2 = some v1 := hv1; unfold delta_Raw_L1 at h2
 refine AW.seq_w fun K6 hK6 wK6 => ?_
 refine AW.region ?_
 refine sQ rfl (sp_lss rfl iL iL) ?_
 refine AOps.nil ?_
 refine hK6 _ ?_
 refine AW.seq_w fun K7 hK7 wK7 => ?_
 refine AW.cond rfl (fun hc1 => ?_) (fun hc1 => ?_)
 ·have h3 := ite_t hc1 h2
  refine AW.skip ?_
  refine hK7 _ ?_
  refine AW.seq_w fun K8 hK8 wK8 => ?_
  refine AW.block ?_
  refine jb2k h3 fun p1 hp1 hk2 => ?_
  have J2 : ∀ (f5 : List GElem) (out5 : List GElem) (i6 : Nat → Nat), p1 = (f5, out5) → K8 ⟨[(0, .r (.sl (f5.map GElem.row))), (5, .own 5005 (i6 0)), (8, .r (.sl (d1.map GStep.row))), (9, .r (.int .i64 (d1.length : Int))), (10, .r (.int .i64 x2))], [(5005, some (.arr (i6 0) 82 3 (out5.map GElem.row)))], (i6 1), 44⟩ := by
   intro f5 out5 i6 e
   have h4 := hk2 _ _ e
   refine hK8 _ ?_
   refine AW.region ?_
   refine ob1k h4 fun x4 ex4 h5 => ?_
   refine sQ rfl (ms_add rfl iL iL (fun _ => ex4)) ?_
   refine sQ rfl (sp_move rfl iL) ?_
   refine AOps.nil ?_
   exact NextQ3.mk h5 (vec [(i6 0), (i6 1)]) ((by exact Weak.cv ⟨.inl iL, .inl iL, .inl iL, .inl iL, .inl iL, trivial⟩ ⟨.inl rfl, trivial⟩ (Nat.le_refl _)))
  refine AW.seq_w fun K9 hK9 wK9 => ?_
  refine AW.region ?_
  refine ob1k hp1 fun x5 ex5 h6 => ?_
  refine sQ rfl (ms_idx rfl tg_23.slice iL iL (fun _ => rfl) (fun _ => ex5)) ?_
  refine sQ rfl (ms_loadA (cs := [.r (.int .i64 x5.Kind), .r (.int .i64 x5.N), .r (.sl (x5.Attrs.map GAttr.row)), .r (.sl (x5.Elems.map GElem.row))]) rfl ta_31 iL rfl rfl) ?_
  refine AOps.step rfl rfl rfl (ms_alloc (cs := [.r (.int .i64 0), .r (.int .i64 0), .cst (.slice none 0 0), .cst (.slice none 0 0)]) 7 rfl t0_31 rfl rfl) ?_
  refine AOps.step0 rfl rfl (ms_store_box (ds := [.r (.int .i64 x5.Kind), .r (.int .i64 x5.N), .r (.sl (x5.Attrs.map GAttr.row)), .r (.sl (x5.Elems.map GElem.row))]) rfl tz_31 iL rfl iL rfl rfl rfl rfl) ?_
  refine AOps.nil ?_
  refine hK9 _ ?_
  refine AW.seq_w fun K10 hK10 wK10 => ?_
  refine AW.region ?_
  refine sQ rfl (sp_fieldAddr_own (ob := .box _ _ _) rfl tf_31_0 iL (fun _ => rfl) rfl) ?_
  refine sQ rfl (ms_load_box (a := .r (.int .i64 x5.Kind)) rfl ts_3 iL rfl rfl) ?_
  refine AOps.nil ?_
  refine hK10 _ ?_
  refine AW.block ?_
  refine AW.seq_w fun K11 hK11 wK11 => ?_
  refine AW.region ?_
  refine sQ rfl (sp_eql rfl iL iL) ?_
  refine sQ rfl (sp_assign rfl iL) ?_
  refine AOps.nil ?_
  refine hK11 _ ?_
  refine AW.cond rfl (fun hc2 => ?_) (fun hc2 => ?_)
  ·have h7 := ite_t hc2 h6
   refine AW.seq_w fun K12 hK12 wK12 => ?_
   refine AW.regionF' [0] [1, 2, 3, 4, 5, 6] [] 7 hmix (by kernel_rfl) rfl rfl rfl rfl rfl ?_
   refine AFl.move rfl rfl rfl rfl ?_
   refine AFl.nil ?_
   refine AF.step rfl rfl rfl (sp_move rfl iL) ?_
   refine AF.step rfl rfl rfl (sp_fieldAddr_own (ob := .box _ _ _) rfl tf_31_1 iL (fun _ => rfl) rfl) ?_
   refine AF.step rfl rfl rfl (ms_load_box (a := .r (.int .i64 x5.N)) rfl ts_3 iL rfl rfl) ?_
   refine ob1k h7 fun l1 el1 h8 => ?_
   refine AF.step rfl rfl rfl (ms_slice rfl tg_22.slice iL (by exact rfl) (by exact ⟨_, iL⟩) (fun _ => rfl) (fun _ => el1)) ?_
   refine AF.step rfl rfl rfl (sp_fieldAddr_own (ob := .box _ _ _) rfl tf_31_2 iL (fun _ => rfl) rfl) ?_
   refine AF.step rfl rfl rfl (ms_load_box (a := .r (.sl (x5.Attrs.map GAttr.row))) rfl ts_29 iL rfl rfl) ?_
   refine AF.nil ?_
   refine AA.nil ?_
   refine ob1k h8 fun r1 er1 h9 => ?_
   refine AOps.step rfl rfl rfl (sp_callS (r := .r (.sl (r1.map GElem.row))) (caps := []) (bs := [.r (.sl (l1.map GElem.row)), .r (.sl (x5.Attrs.map GAttr.row))]) rfl iL rfl ⟨.inl ⟨iL, rfl⟩, .inl ⟨iL, rfl⟩, trivial⟩ (fun _ => w_delta_changed (er1))) ?_
   refine ob1k h9 fun out6 eout6 h10 => ?_
   refine AOps.step rfl rfl rfl (ms_app rfl tg_22 iL rfl (.inl ⟨iL, fun _ => rfl⟩) eout6) ?_
   refine sQ rfl (sp_assign rfl iL) ?_
   refine AOps.nil ?_
   refine hK12 _ ?_
   refine AW.weak (s' := ⟨[(0, .r (.sl (f3.map GElem.row))), (5, .own 5005 ((i3 1) + 1)), (7, .ptr 7 (i3 1) 0 0), (8, .r (.sl (d1.map GStep.row))), (9, .r (.int .i64 (d1.length : Int))), (10, .r (.int .i64 x2))], [(7, some (.box (i3 1) 31 [.r (.int .i64 x5.Kind), .r (.int .i64 x5.N), .r (.sl (x5.Attrs.map GAttr.row)), .r (.sl (x5.Elems.map GElem.row))])), (5005, some (.arr ((i3 1) + 1) 82 3 (out6.map GElem.row)))], ((i3 1) + 2), 44⟩) (by exact Weak.cv ⟨.inl iL, .inl iL, .inl iL, .inl iL, .inl iL, .inl iL, trivial⟩ ⟨.inl rfl, .inl rfl, trivial⟩ (Nat.le_refl _)) ?_
   refine AW.region ?_
   refine sQ rfl (sp_move rfl iL) ?_
   refine sQ rfl (sp_fieldAddr_own (ob := .box _ _ _) rfl tf_31_1 iL (fun _ => rfl) rfl) ?_
   refine sQ rfl (ms_load_box (a := .r (.int .i64 x5.N)) rfl ts_3 iL rfl rfl) ?_
   refine ob1k h10 fun f6 ef6 h11 => ?_
   refine sQ rfl (ms_slice rfl tg_22.slice iL (by exact ⟨_, iL⟩) (by exact rfl) (fun _ => rfl) (fun _ => ef6)) ?_
   refine sQ rfl (sp_assign rfl iL) ?_
   refine AOps.nil ?_
   exact wK8 _ _ ((by exact Weak.cv ⟨.inl iL, .inl iL, .inl iL, .inl iL, .inl iL, trivial⟩ ⟨.inl rfl, trivial⟩ (Nat.le_refl _))) (J2 _ _ (vec [((i3 1) + 1), ((i3 1) + 2)]) (Option.some.inj h11).symm)
  ·have h7 := ite_f hc2 h6
   refine AW.seq_w fun K13 hK13 wK13 => ?_
   refine AW.region ?_
   refine sQ rfl (sp_eql rfl iL iL) ?_
   refine sQ rfl (sp_assign rfl iL) ?_
   refine AOps.nil ?_
   refine hK13 _ ?_
   refine AW.cond rfl (fun hc3 => ?_) (fun hc3 => ?_)
   ·have h12 := ite_t hc3 h7
    refine AW.weak (s' := ⟨[(0, .r (.sl (f3.map GElem.row))), (5, .own 5005 (i3 0)), (7, .ptr 7 (i3 1) 0 0), (8, .r (.sl (d1.map GStep.row))), (9, .r (.int .i64 (d1.length : Int))), (10, .r (.int .i64 x2))], [(7, some (.box (i3 1) 31 [.r (.int .i64 x5.Kind), .r (.int .i64 x5.N), .r (.sl (x5.Attrs.map GAttr.row)), .r (.sl (x5.Elems.map GElem.row))])), (5005, some (.arr (i3 0) 82 3 (out2.map GElem.row)))], ((i3 1) + 1), 44⟩) (by exact Weak.cv ⟨.inl iL, .inl iL, .inl iL, .inl iL, .inl iL, .inl iL, trivial⟩ ⟨.inl rfl, .inl rfl, trivial⟩ (Nat.le_refl _)) ?_
    refine AW.region ?_
    refine sQ rfl (sp_move rfl iL) ?_
    refine sQ rfl (sp_fieldAddr_own (ob := .box _ _ _) rfl tf_31_3 iL (fun _ => rfl) rfl) ?_
    refine sQ rfl (ms_load_box (a := .r (.sl (x5.Elems.map GElem.row))) rfl ts_22 iL rfl rfl) ?_
    refine ob1k h12 fun r2 er2 h13 => ?_
    refine AOps.step rfl rfl rfl (sp_callS (r := .r (.sl (r2.map GElem.row))) (caps := []) (bs := [.r (.sl (x5.Elems.map GElem.row))]) rfl iL rfl ⟨.inl ⟨iL, rfl⟩, trivial⟩ (fun _ => w_flow_Copy (er2))) ?_
    refine ob1k h13 fun out7 eout7 h14 => ?_
    refine AOps.step rfl rfl rfl (ms_app rfl tg_22 iL rfl (.inl ⟨iL, fun _ => rfl⟩) eout7) ?_
    refine sQ rfl (sp_assign rfl iL) ?_
    refine AOps.nil ?_
    exact wK8 _ _ ((by exact Weak.cv ⟨.inl iL, .inl iL, .inl iL, .inl iL, .inl iL, trivial⟩ ⟨.inl rfl, trivial⟩ (Nat.le_refl _))) (J2 _ _ (vec [((i3 1) + 1), ((i3 1) + 2)]) (Option.some.inj h14).symm)
   ·have h12 := ite_f hc3 h7
    refine AW.weak (s' := ⟨[(0, .r (.sl (f3.map GElem.row))), (5, .own 5005 (i3 0)), (7, .ptr 7 (i3 1) 0 0), (8, .r (.sl (d1.map GStep.row))), (9, .r (.int .i64 (d1.length : Int))), (10, .r (.int .i64 x2))], [(7, some (.box (i3 1) 31 [.r (.int .i64 x5.Kind), .r (.int .i64 x5.N), .r (.sl (x5.Attrs.map GAttr.row)), .r (.sl (x5.Elems.map GElem.row))])), (5005, some (.arr (i3 0) 82 3 (out2.map GElem.row)))], ((i3 1) + 1), 44⟩) (by exact Weak.cv ⟨.inl iL, .inl iL, .inl iL, .inl iL, .inl iL, .inl iL, trivial⟩ ⟨.inl rfl, .inl rfl, trivial⟩ (Nat.le_refl _)) ?_
    refine AW.region ?_
    refine sQ rfl (sp_move rfl iL) ?_
    refine sQ rfl (sp_fieldAddr_own (ob := .box _ _ _) rfl tf_31_1 iL (fun _ => rfl) rfl) ?_
    refine sQ rfl (ms_load_box (a := .r (.int .i64 x5.N)) rfl ts_3 iL rfl rfl) ?_
    refine ob1k h12 fun f7 ef7 h15 => ?_
    refine sQ rfl (ms_slice rfl tg_22.slice iL (by exact ⟨_, iL⟩) (by exact rfl) (fun _ => rfl) (fun _ => ef7)) ?_
    refine sQ rfl (sp_assign rfl iL) ?_
    refine AOps.nil ?_
    exact wK8 _ _ ((by exact Weak.cv ⟨.inl iL, .inl iL, .inl iL, .inl iL, .inl iL, trivial⟩ ⟨.inl rfl, trivial⟩ (Nat.le_refl _))) (J2 _ _ (vec [(i3 0), ((i3 1) + 1)]) (Option.some.inj h15).symm)
 ·have h3 := ite_f hc1 h2
  refine AW.exit ?_
  exact wK3 _ _ ((by exact Weak.cv ⟨.inl iL, trivial⟩ ⟨.inl rfl, trivial⟩ (Nat.le_refl _))) (J1 _ (vec [(i3 0), (i3 1)]) (hx1 _ (Option.some.inj h3).symm))
set_option maxHeartbeats 4000000 in
set_option maxRecDepth 20000 in
theorem w_delta_Apply {f1 : List GElem} {d1 : List GStep} {r : (List GElem) × Int} (h : delta_Apply f1 d1 = some r) : ARO Try.prog 67 [.r (.sl (f1.map GElem.row)), .r (.sl (d1.map GStep.row))] (.tup [.r (.sl (r.1.map GElem.row)), .r (.int .i64 r.2)]) := by
 unfold delta_Apply at h
 refine ARO.mkF Try.func67 rfl rfl Try.ntmps67 rfl (Nat.le_of_ble_eq_true rfl) fun n0 => ?_
 refine AW.seq_w fun K1 hK1 wK1 => ?_
 refine AW.region ?_
 refine sQ rfl (sp_assign rfl iL) ?_
 refine sQ rfl (sp_assign rfl iL) ?_
 refine AOps.nil ?_
 refine hK1 _ ?_
 refine AW.seq_w fun K2 hK2 wK2 => ?_
 refine AW.seq_w fun K3 hK3 wK3 => ?_
 refine AW.region ?_
 refine sQ rfl (sp_move rfl iL) ?_
 refine sQ rfl (sp_move rfl iL) ?_
 refine ob1k h fun e1 ee1 h1 => ?_
 refine AOps.step rfl rfl rfl (sp_call (r := .r (.int .i64 e1)) (caps := []) (bs := [.r (.sl (f1.map GElem.row)), .r (.sl (d1.map GStep.row))]) rfl iL rfl ⟨⟨_, iL, .d rfl⟩, ⟨_, iL, .d rfl⟩, trivial⟩ (fun _ => w_delta_fits (ee1)) rfl) ?_
 refine sQ rfl (sp_assign rfl iL) ?_
 refine AOps.nil ?_
 refine hK3 _ ?_
 refine AW.seq_w fun K4 hK4 wK4 => ?_
 refine AW.region ?_
 refine sQ rfl (sp_move rfl iL) ?_
 refine sQ rfl (sp_neq rfl iL iL) ?_
 refine AOps.nil ?_
 refine hK4 _ ?_
 refine AW.cond rfl (fun hc1 => ?_) (fun hc1 => ?_)
 ·have h2 := ite_t hc1 h1
  refine AW.seq_w fun K5 hK5 wK5 => ?_
  refine AW.weak (s' := ⟨[(6, .r (.int .i64 e1))], [], n0, 16⟩) (by exact Weak.cv ⟨.inl iL, trivial⟩ trivial (Nat.le_refl _)) ?_
  refine AW.region ?_
  refine sQ rfl (sp_move rfl iL) ?_
  refine sQ rfl (sp_assign rfl iL) ?_
  refine sQ rfl (sp_assign rfl iL) ?_
  refine AOps.nil ?_
  refine hK5 _ ?_
  refine AW.ret ?_
  exact retf2 (P := Try.prog) (fun (r : (List GElem) × Int) => .r (.sl (r.1.map GElem.row))) (fun (r : (List GElem) × Int) => .r (.int .i64 r.2)) h2 iL (.t (.one (.nil))) (.t (.d rfl))
 ·have h2 := ite_f hc1 h1
  refine AW.skip ?_
  refine hK2 _ ?_
  refine AW.seq_w fun K6 hK6 wK6 => ?_
  refine AW.region ?_
  refine sQ rfl (sp_move rfl iL) ?_
  refine sQ rfl (sp_move rfl iL) ?_
  refine ob1k h2 fun r1 er1 h3 => ?_
  refine AOps.step rfl rfl rfl (sp_callS (r := .r (.sl (r1.map GElem.row))) (caps := []) (bs := [.r (.sl (f1.map GElem.row)), .r (.sl (d1.map GStep.row))]) rfl iL rfl ⟨.inl ⟨iL, rfl⟩, .inl ⟨iL, rfl⟩, trivial⟩ (fun _ => w_delta_Raw (er1))) ?_
  refine sQ rfl (sp_assign rfl iL) ?_
  refine sQ rfl (sp_assign rfl iL) ?_
  refine AOps.nil ?_
  refine hK6 _ ?_
  refine AW.ret ?_
  exact retf2 (P := Try.prog) (fun (r : (List GElem) × Int) => .r (.sl (r.1.map GElem.row))) (fun (r : (List GElem) × Int) => .r (.int .i64 r.2)) h3 iL (.t (.d rfl)) (.t (.d rfl))
set_option maxHeartbeats 4000000 in
set_option maxRecDepth 20000 in
theorem w_ref_SameAttrs {a1 : List GAttr} {b1 : List GAttr} {r : Bool} (h : ref_SameAttrs a1 b1 = some r) : ARO Try.prog 43 [.r (.sl (a1.map GAttr.row)), .r (.sl (b1.map GAttr.row))] (.r (.bool r)) := by
 unfold ref_SameAttrs at h
 refine ARO.mkF Try.func43 rfl rfl Try.ntmps43 rfl (Nat.le_of_ble_eq_true rfl) fun n0 => ?_
 refine AW.seq_w fun K1 hK1 wK1 => ?_
 refine AW.region ?_
 refine sQ rfl (sp_assign rfl iL) ?_
 refine AOps.nil ?_
 refine hK1 _ ?_
 refine AW.seq_w fun K2 hK2 wK2 => ?_
 refine AW.seq_w fun K3 hK3 wK3 => ?_
 refine AW.region ?_
 refine sQ rfl (sp_move rfl iL) ?_
 refine sQ rfl (ms_len rfl tg_29.slice iL) ?_
 refine sQ rfl (sp_move rfl iL) ?_
 refine sQ rfl (ms_len rfl tg_29.slice iL) ?_
 refine sQ rfl (sp_neq rfl iL iL) ?_
 refine AOps.nil ?_
 refine hK3 _ ?_
 refine AW.cond rfl (fun hc1 => ?_) (fun hc1 => ?_)
 ·have h1 := ite_t hc1 h
  refine AW.seq_w fun K4 hK4 wK4 => ?_
  refine AW.region ?_
  refine sQ rfl (sp_assign rfl iL) ?_
  refine AOps.nil ?_
  refine hK4 _ ?_
  refine AW.ret ?_
  exact retf1 (P := Try.prog) (fun (r : Bool) => .r (.bool r)) h1 iL (.t (.d rfl))
 ·have h1 := ite_f hc1 h
  refine AW.skip ?_
  refine hK2 _ ?_
  refine AW.seq_w fun K5 hK5 wK5 => ?_
  refine AW.seq_w fun K6 hK6 wK6 => ?_
  refine AW.region ?_
  refine sQ rfl (sp_move rfl iL) ?_
  refine sQ rfl (ms_len rfl tg_29.slice iL) ?_
  refine sQ rfl (sp_move rfl iL) ?_
  refine AOps.nil ?_
  refine hK6 _ ?_
  refine AW.block ?_
  refine jc1k h1 fun o1 hit1 hk1 he1 => ?_
  have J1 : ∀ (u2 : Unit) (i5 : Nat → Nat), o1 = .nrm u2 → K5 ⟨[], [], (i5 0), 26⟩ := by
   intro u2 i5 e
   have h2 := hk1 _ e
   refine hK5 _ ?_
   refine AW.seq_w fun K7 hK7 wK7 => ?_
   refine AW.region ?_
   refine sQ rfl (sp_assign rfl iL) ?_
   refine AOps.nil ?_
   refine hK7 _ ?_
   refine AW.ret ?_
   exact retf1 (P := Try.prog) (fun (r : Bool) => .r (.bool r)) h2 iL (.t (.d rfl))
  refine AW.iter1 (fun (x2 : Int) i3 => ⟨[(0, .r (.sl (a1.map GAttr.row))), (1, .r (.sl (b1.map GAttr.row))), (12, .r (.int .i64 (a1.length : Int))), (13, .r (.int .i64 x2))], [], (i3 0), 26⟩) (vec [n0]) hit1 ((by exact Weak.cv ⟨.inl iL, .inl iL, .inl iL, .inl iL, trivial⟩ trivial (Nat.le_refl _))) ?_
  intro x2 i3 v1 hv1 hx1
  have h3 : ref_SameAttrs_L1 a1 b1 x2 = some v1 := hv1; unfold ref_SameAttrs_L1 at h3
  refine AW.seq_w fun K8 hK8 wK8 => ?_
  refine AW.region ?_
  refine sQ rfl (sp_lss rfl iL iL) ?_
  refine AOps.nil ?_
  refine hK8 _ ?_
  refine AW.seq_w fun K9 hK9 wK9 => ?_
  refine AW.cond rfl (fun hc2 => ?_) (fun hc2 => ?_)
  ·have h4 := ite_t hc2 h3
   refine AW.skip ?_
   refine hK9 _ ?_
   refine AW.seq_w fun K10 hK10 wK10 => ?_
   refine AW.block ?_
   refine AW.seq_w fun K11 hK11 wK11 => ?_
   refine AW.region ?_
   refine sQ rfl (sp_move rfl iL) ?_
   refine sQ rfl (sp_assign rfl iL) ?_
   refine AOps.nil ?_
   refine hK11 _ ?_
   refine AW.seq_w fun K12 hK12 wK12 => ?_
   refine AW.regionQ hmix (by kernel_rfl) ?_
   refine AQ.step rfl rfl rfl (sp_move rfl iL) ?_
   refine AQ.step rfl rfl rfl (sp_move rfl iL) ?_
   refine ob1k h4 fun x4 ex4 h5 => ?_
   refine AQ.step rfl rfl rfl (ms_idx rfl tg_29.slice iL iL (fun _ => rfl) (fun _ => ex4)) ?_
   refine AQ.step rfl rfl rfl (ms_loadA (cs := [.r (.str x4.Name), .r (.str x4.Value)]) rfl ta_92 iL rfl rfl) ?_
   refine AQ.step rfl rfl rfl (sp_move rfl iL) ?_
   refine AQ.step rfl rfl rfl (sp_move rfl iL) ?_
   refine ob1k h5 fun x5 ex5 h6 => ?_
   refine AQ.step rfl rfl rfl (ms_idx rfl tg_29.slice iL iL (fun _ => rfl) (fun _ => ex5)) ?_
   refine AQ.step rfl rfl rfl (ms_loadA (cs := [.r (.str x5.Name), .r (.str x5.Value)]) rfl ta_92 iL rfl rfl) ?_
   refine AQ.step rfl rfl rfl (sp_aggneq rfl te_92 iL iL rfl) ?_
   refine AQ.nil ?_
   refine hK12 _ ?_
   refine AW.cond rfl (fun hc3 => ?_) (fun hc3 => ?_)
   ·have h7 := ite_t hc3 h6
    refine AW.seq_w fun K13 hK13 wK13 => ?_
    refine AW.weak (s' := ⟨[], [], (i3 0), 26⟩) (by exact Weak.cv trivial trivial (Nat.le_refl _)) ?_
    refine AW.region ?_
    refine sQ rfl (sp_assign rfl iL) ?_
    refine AOps.nil ?_
    refine hK13 _ ?_
    refine AW.ret ?_
    exact retf1 (P := Try.prog) (fun (r : Bool) => .r (.bool r)) (he1 _ (hx1 _ (Option.some.inj h7).symm)) iL (.t (.d rfl))
   ·have h7 := ite_f hc3 h6
    refine AW.skip ?_
    refine hK10 _ ?_
    refine AW.weak (s' := ⟨[(0, .r (.sl (a1.map GAttr.row))), (1, .r (.sl (b1.map GAttr.row))), (12, .r (.int .i64 (a1.length : Int))), (13, .r (.int .i64 x2))], [], (i3 0), 26⟩) (by exact Weak.cv ⟨.inl iL, .inl iL, .inl iL, .inl iL, trivial⟩ trivial (Nat.le_refl _)) ?_
    refine AW.region ?_
    refine ob1k h7 fun x6 ex6 h8 => ?_
    refine sQ rfl (ms_add rfl iL iL (fun _ => ex6)) ?_
    refine sQ rfl (sp_move rfl iL) ?_
    refine AOps.nil ?_
    exact NextQ1.mk h8 (vec [(i3 0)]) ((by exact Weak.cv ⟨.inl iL, .inl iL, .inl iL, .inl iL, trivial⟩ trivial (Nat.le_refl _)))
  ·have h4 := ite_f hc2 h3
   refine AW.exit ?_
   exact wK5 _ _ ((by exact Weak.cv trivial trivial (Nat.le_refl _))) (J1 _ (vec [(i3 0)]) (hx1 _ (Option.some.inj h4).symm))
set_option maxHeartbeats 4000000 in
set_option maxRecDepth 20000 in
theorem w_law_deltas {r : Bool} (h : law_deltas = some r) : ARO Try.prog 40 [] (.r (.bool r)) := by
 unfold law_deltas at h
 refine ARO.mkF Try.func40 rfl rfl Try.ntmps40 rfl (Nat.le_of_ble_eq_true rfl) fun n0 => ?_
 refine AW.seq_w fun K1 hK1 wK1 => ?_
 refine AW.region ?_
 refine sQ rfl (sp_assign rfl iL) ?_
 refine AOps.nil ?_
 refine hK1 _ ?_
 refine AW.seq_w fun K2 hK2 wK2 => ?_
 refine AW.region ?_
 refine ob1k h fun r1 er1 h1 => ?_
 refine AOps.step rfl rfl rfl (sp_callS (r := .r (.sl (r1.map GElem.row))) (caps := []) (bs := [.r (.str [97, 98])]) rfl iL rfl ⟨.inl ⟨iL, rfl⟩, trivial⟩ (fun _ => w_law_letters (er1))) ?_
 refine ob1k h1 fun r2 er2 h2 => ?_
 refine AOps.step rfl rfl rfl (sp_callS (r := .r (.sl (r2.map GElem.row))) (caps := []) (bs := [.r (.str [120])]) rfl iL rfl ⟨.inl ⟨iL, rfl⟩, trivial⟩ (fun _ => w_law_letters (er2))) ?_
 refine sQ rfl (sp_build rfl tb_31 (q := [(0, _), (3, _)]) (by exact ⟨rfl, rfl, rfl, iL, rfl, rfl, rfl, iL, trivial⟩) (cs := [.r (.int .i64 1), .r (.int .i64 0), .cst (.slice none 0 0), .r (.sl (r2.map GElem.row))]) (by rfl)) ?_
 refine sQ rfl (sp_build rfl tb_31 (q := [(0, _), (1, _)]) (by exact ⟨rfl, rfl, rfl, iL, rfl, rfl, rfl, iL, trivial⟩) (cs := [.r (.int .i64 2), .r (.int .i64 1), .cst (.slice none 0 0), .cst (.slice none 0 0)]) (by rfl)) ?_
 refine ob1k h2 fun r3 er3 h3 => ?_
 refine AOps.step rfl rfl rfl (sp_callS (r := .r (.sl (r3.map GAttr.row))) (caps := []) (bs := [.r (.str [98, 111, 108, 100])]) rfl iL rfl ⟨.inl ⟨iL, rfl⟩, trivial⟩ (fun _ => w_law_on (er3))) ?_
 refine sQ rfl (sp_build rfl tb_31 (q := [(0, _), (1, _), (2, _)]) (by exact ⟨rfl, rfl, rfl, iL, rfl, rfl, rfl, iL, rfl, rfl, rfl, iL, trivial⟩) (cs := [.r (.int .i64 0), .r (.int .i64 1), .r (.sl (r3.map GAttr.row)), .cst (.slice none 0 0)]) (by rfl)) ?_
 refine AOps.step rfl rfl rfl (ms_lit 10 rfl tg_23 (f := GStep.row) (l := ([(GStep.mk 1 0 [] r2), (GStep.mk 2 1 [] []), (GStep.mk 0 1 r3 [])] : List GStep)) ⟨rfl, ⟨_, iL, rfl⟩, rfl, ⟨_, iL, rfl⟩, rfl, ⟨_, iL, rfl⟩, trivial⟩ rfl (fun _ => rfl) rfl) ?_
 refine AOps.weak (by exact Weak.frz (e' := [(0, .r (.bool false)), (4, .r (.sl (r1.map GElem.row))), (5, .r (.sl (r2.map GElem.row))), (6, .agg [.r (.int .i64 1), .r (.int .i64 0), .cst (.slice none 0 0), .r (.sl (r2.map GElem.row))]), (7, .agg [.r (.int .i64 2), .r (.int .i64 1), .cst (.slice none 0 0), .cst (.slice none 0 0)]), (8, .r (.sl (r3.map GAttr.row))), (9, .agg [.r (.int .i64 0), .r (.int .i64 1), .r (.sl (r3.map GAttr.row)), .cst (.slice none 0 0)]), (10, .r (.sl ([(GStep.mk 1 0 [] r2), (GStep.mk 2 1 [] []), (GStep.mk 0 1 r3 [])].map GStep.row)))]) (h' := []) 10 rfl ⟨.inl iL, .inl iL, .inl iL, .inl iL, .inl iL, .inl iL, .inl iL, .inl (.inr (.inr ⟨rfl, rfl⟩)), trivial⟩ trivial) ?_
 refine ob2k h3 fun r4 r5 er4 h4 => ?_
 refine AOps.step rfl rfl rfl (sp_callS (r := .tup [.r (.sl (r4.map GElem.row)), .r (.int .i64 r5)]) (caps := []) (bs := [.r (.sl (r1.map GElem.row)), .r (.sl ([(GStep.mk 1 0 [] r2), (GStep.mk 2 1 [] []), (GStep.mk 0 1 r3 [])].map GStep.row))]) rfl iL rfl ⟨.inl ⟨iL, rfl⟩, .inl ⟨iL, rfl⟩, trivial⟩ (fun _ => w_delta_Apply (er4))) ?_
 refine sQ rfl (sp_move rfl iL) ?_
 refine sQ rfl (sp_extract (a := .r (.sl (r4.map GElem.row))) rfl iL rfl) ?_
 refine sQ rfl (sp_extract (a := .r (.int .i64 r5)) rfl iL rfl) ?_
 refine sQ rfl (sp_assign rfl iL) ?_
 refine sQ rfl (sp_assign rfl iL) ?_
 refine AOps.nil ?_
 refine hK2 _ ?_
 refine AW.seq_w fun K3 hK3 wK3 => ?_
 refine AW.weak (s' := ⟨[(1, .r (.sl (r4.map GElem.row))), (2, .r (.int .i64 r5))], [], (n0 + 1), 36⟩) (by exact Weak.cv ⟨.inl iL, .inl iL, trivial⟩ trivial (Nat.le_refl _)) ?_
 refine ob1k h4 fun x1 ex1 h5 => ?_
 refine ob1k h5 fun x2 ex2 h6 => ?_
 refine AW.regionP 20 [⟨some 14, (fun _ => .r (.int .i64 r5)), none, []⟩, ⟨some 15, (fun _ => .r (.bool (decide (r5 = 0)))), none, []⟩, ⟨some 16, (fun _ => .r (.bool (decide (r5 = 0)))), none, []⟩, ⟨some 17, (fun _ => .whn ((decide (r5 = 0)) == true) (.r (.sl (r4.map GElem.row)))), none, []⟩, ⟨some 18, (fun _ => .whn ((decide (r5 = 0)) == true) (.r (.int .i64 (r4.length : Int)))), none, []⟩, ⟨some 19, (fun _ => .whn ((decide (r5 = 0)) == true) (.r (.bool (decide ((r4.length : Int) = 2))))), none, []⟩, ⟨some 20, (fun _ => .r (.bool ((decide (r5 = 0)) && (decide ((r4.length : Int) = 2))))), none, []⟩, ⟨some 21, (fun _ => .r (.bool ((decide (r5 = 0)) && (decide ((r4.length : Int) = 2))))), none, []⟩, ⟨some 22, (fun _ => .whn (((decide (r5 = 0)) && (decide ((r4.length : Int) = 2))) == true) (.r (.sl (r4.map GElem.row)))), none, []⟩, ⟨some 23, (fun _ => .whn (((decide (r5 = 0)) && (decide ((r4.length : Int) = 2))) == true) (.rop (GElem.row x1) 0)), none, []⟩, ⟨some 24, (fun _ => .whn (((decide (r5 = 0)) && (decide ((r4.length : Int) = 2))) == true) (.rop (GElem.row x1) 0)), none, []⟩, ⟨some 25, (fun _ => .whn (((decide (r5 = 0)) && (decide ((r4.length : Int) = 2))) == true) (.r (.int .i64 x1.Char))), none, []⟩, ⟨some 26, (fun _ => .whn (((decide (r5 = 0)) && (decide ((r4.length : Int) = 2))) == true) (.r (.bool (decide (x1.Char = 120))))), none, []⟩, ⟨some 27, (fun _ => .r (.bool (((decide (r5 = 0)) && (decide ((r4.length : Int) = 2))) && (decide (x1.Char = 120))))), none, []⟩, ⟨some 28, (fun _ => .r (.bool (((decide (r5 = 0)) && (decide ((r4.length : Int) = 2))) && (decide (x1.Char = 120))))), none, []⟩, ⟨some 29, (fun _ => .whn ((((decide (r5 = 0)) && (decide ((r4.length : Int) = 2))) && (decide (x1.Char = 120))) == true) (.r (.sl (r4.map GElem.row)))), none, []⟩, ⟨some 30, (fun _ => .whn ((((decide (r5 = 0)) && (decide ((r4.length : Int) = 2))) && (decide (x1.Char = 120))) == true) (.rop (GElem.row x2) 0)), none, []⟩, ⟨some 31, (fun _ => .whn ((((decide (r5 = 0)) && (decide ((r4.length : Int) = 2))) && (decide (x1.Char = 120))) == true) (.rop (GElem.row x2) 2)), none, []⟩, ⟨some 32, (fun _ => .whn ((((decide (r5 = 0)) && (decide ((r4.length : Int) = 2))) && (decide (x1.Char = 120))) == true) (.r (.sl (x2.Attrs.map GAttr.row)))), none, []⟩, ⟨some 33, (fun _ => .whn ((((decide (r5 = 0)) && (decide ((r4.length : Int) = 2))) && (decide (x1.Char = 120))) == true) (.r (.sl (r3.map GAttr.row)))), none, []⟩] hmix (by kernel_rfl) (by exact ⟨fun _ _ h => ⟨rfl, fun _ _ e => by cases e⟩, fun _ _ h => ⟨rfl, fun _ _ e => by cases e⟩, fun _ _ h => ⟨rfl, fun _ _ e => by cases e⟩, fun _ _ h => ⟨rfl, fun _ _ e => by cases e⟩, fun _ _ h => ⟨rfl, fun _ _ e => by cases e⟩, fun _ _ h => ⟨rfl, fun _ _ e => by cases e⟩, fun _ _ h => ⟨rfl, fun _ _ e => by cases e⟩, fun _ _ h => ⟨rfl, fun _ _ e => by cases e⟩, fun _ _ h => ⟨rfl, fun _ _ e => by cases e⟩, fun _ _ h => ⟨rfl, fun _ _ e => by cases e⟩, fun _ _ h => ⟨rfl, fun _ _ e => by cases e⟩, fun _ _ h => ⟨rfl, fun _ _ e => by cases e⟩, fun _ _ h => ⟨rfl, fun _ _ e => by cases e⟩, fun _ _ h => ⟨rfl, fun _ _ e => by cases e⟩, fun _ _ h => ⟨rfl, fun _ _ e => by cases e⟩, fun _ _ h => ⟨rfl, fun _ _ e => by cases e⟩, fun _ _ h => ⟨rfl, fun _ _ e => by cases e⟩, fun _ _ h => ⟨rfl, fun _ _ e => by cases e⟩, fun _ _ h => ⟨rfl, fun _ _ e => by cases e⟩, fun _ _ h => ⟨rfl, fun _ _ e => by cases e⟩, trivial⟩) rfl (by exact ⟨Ob.quiet (n1 := fun n => n) rfl rfl (by intro d h; cases h; rfl) rfl (fun _ => [(2, .r (.int .i64 r5))]) (fun _ => []) (fun D G1 hr => ⟨inE_base rfl rfl, trivial⟩) (fun D G1 hr => trivial) (fun _ _ => rfl) (fun G1 e h' n => OpQ.spec (v := .r (.int .i64 r5)) (sp_move rfl (.inl rfl)) _),
   Ob.quiet (n1 := fun n => n) rfl rfl (by intro d h; cases h; rfl) rfl (fun _ => [(14, .r (.int .i64 r5))]) (fun _ => []) (fun D G1 hr => ⟨inE_op hr 0 rfl rfl (by kernel_rfl) rfl rfl, trivial⟩) (fun D G1 hr => trivial) (fun _ _ => rfl) (fun G1 e h' n => OpQ.spec (v := .r (.bool (decide (r5 = 0)))) (sp_eql rfl (.inl rfl) (.inl rfl)) _),
   Ob.quiet (n1 := fun n => n) rfl rfl (by intro d h; cases h; rfl) rfl (fun _ => [(15, .r (.bool (decide (r5 = 0))))]) (fun _ => []) (fun D G1 hr => ⟨inE_op hr 1 rfl rfl (by kernel_rfl) rfl rfl, trivial⟩) (fun D G1 hr => trivial) (fun _ _ => rfl) (fun G1 e h' n => OpQ.spec (v := .r (.bool (decide (r5 = 0)))) (sp_move rfl (.inl rfl)) _),
   Ob.quietG (n1 := fun n => n) (c := ((decide (r5 = 0)) == true)) (v0 := fun _ => .r (.sl (r4.map GElem.row))) rfl (by intro d h; cases h; rfl) rfl (fun _ => [(1, .r (.sl (r4.map GElem.row))), (16, .r (.bool (decide (r5 = 0))))]) (fun _ => []) (fun D G1 hr => ⟨inE_base rfl rfl, inE_op hr 2 rfl rfl (by kernel_rfl) rfl rfl, trivial⟩) (fun D G1 hr => trivial) (fun _ _ => rfl) (fun _ _ => (.one rfl rfl rfl)) (fun G1 e h' n => OpQ.spec (v := .r (.sl (r4.map GElem.row))) (sp_move rfl (.inl rfl)) _),
   Ob.quietG (n1 := fun n => n) (c := ((decide (r5 = 0)) == true)) (v0 := fun _ => .r (.int .i64 (r4.length : Int))) rfl (by intro d h; cases h; rfl) rfl (fun _ => [(16, .r (.bool (decide (r5 = 0)))), (17, .whn ((decide (r5 = 0)) == true) (.r (.sl (r4.map GElem.row))))]) (fun _ => []) (fun D G1 hr => ⟨inE_op hr 2 rfl rfl (by kernel_rfl) rfl rfl, inE_op hr 3 rfl rfl (by kernel_rfl) rfl rfl, trivial⟩) (fun D G1 hr => trivial) (fun _ _ => rfl) (fun _ _ => (.one rfl rfl rfl)) (fun G1 e h' n => OpQ.spec (v := .r (.int .i64 (r4.length : Int))) (ms_len rfl tg_22.slice (.inr ⟨_, (by exact id), rfl⟩)) _),
   Ob.quietG (n1 := fun n => n) (c := ((decide (r5 = 0)) == true)) (v0 := fun _ => .r (.bool (decide ((r4.length : Int) = 2)))) rfl (by intro d h; cases h; rfl) rfl (fun _ => [(16, .r (.bool (decide (r5 = 0)))), (18, .whn ((decide (r5 = 0)) == true) (.r (.int .i64 (r4.length : Int))))]) (fun _ => []) (fun D G1 hr => ⟨inE_op hr 2 rfl rfl (by kernel_rfl) rfl rfl, inE_op hr 4 rfl rfl (by kernel_rfl) rfl rfl, trivial⟩) (fun D G1 hr => trivial) (fun _ _ => rfl) (fun _ _ => (.one rfl rfl rfl)) (fun G1 e h' n => OpQ.spec (v := .r (.bool (decide ((r4.length : Int) = 2)))) (sp_eql rfl (.inr ⟨_, (by exact id), rfl⟩) (.inl rfl)) _),
   Ob.quiet (n1 := fun n => n) rfl rfl (by intro d h; cases h; rfl) rfl (fun _ => [(16, .r (.bool (decide (r5 = 0)))), (19, .whn ((decide (r5 = 0)) == true) (.r (.bool (decide ((r4.length : Int) = 2)))))]) (fun _ => []) (fun D G1 hr => ⟨inE_op hr 2 rfl rfl (by kernel_rfl) rfl rfl, inE_op hr 5 rfl rfl (by kernel_rfl) rfl rfl, trivial⟩) (fun D G1 hr => trivial) (fun _ _ => rfl) (fun G1 e h' n => OpQ.spec (v := .r (.bool ((decide (r5 = 0)) && (decide ((r4.length : Int) = 2))))) (sp_and rfl (.inl rfl) (.inr ⟨_, (by exact id), rfl⟩)) _),
   Ob.quiet (n1 := fun n => n) rfl rfl (by intro d h; cases h; rfl) rfl (fun _ => [(20, .r (.bool ((decide (r5 = 0)) && (decide ((r4.length : Int) = 2)))))]) (fun _ => []) (fun D G1 hr => ⟨inE_op hr 6 rfl rfl (by kernel_rfl) rfl rfl, trivial⟩) (fun D G1 hr => trivial) (fun _ _ => rfl) (fun G1 e h' n => OpQ.spec (v := .r (.bool ((decide (r5 = 0)) && (decide ((r4.length : Int) = 2))))) (sp_move rfl (.inl rfl)) _),
   Ob.quietG (n1 := fun n => n) (c := (((decide (r5 = 0)) && (decide ((r4.length : Int) = 2))) == true)) (v0 := fun _ => .r (.sl (r4.map GElem.row))) rfl (by intro d h; cases h; rfl) rfl (fun _ => [(1, .r (.sl (r4.map GElem.row))), (21, .r (.bool ((decide (r5 = 0)) && (decide ((r4.length : Int) = 2)))))]) (fun _ => []) (fun D G1 hr => ⟨inE_base rfl rfl, inE_op hr 7 rfl rfl (by kernel_rfl) rfl rfl, trivial⟩) (fun D G1 hr => trivial) (fun _ _ => rfl) (fun _ _ => (.one rfl rfl rfl)) (fun G1 e h' n => OpQ.spec (v := .r (.sl (r4.map GElem.row))) (sp_move rfl (.inl rfl)) _),
   Ob.quietG (n1 := fun n => n) (c := (((decide (r5 = 0)) && (decide ((r4.length : Int) = 2))) == true)) (v0 := fun _ => .rop (GElem.row x1) 0) rfl (by intro d h; cases h; rfl) rfl (fun _ => [(21, .r (.bool ((decide (r5 = 0)) && (decide ((r4.length : Int) = 2))))), (22, .whn (((decide (r5 = 0)) && (decide ((r4.length : Int) = 2))) == true) (.r (.sl (r4.map GElem.row))))]) (fun _ => []) (fun D G1 hr => ⟨inE_op hr 7 rfl rfl (by kernel_rfl) rfl rfl, inE_op hr 8 rfl rfl (by kernel_rfl) rfl rfl, trivial⟩) (fun D G1 hr => trivial) (fun _ _ => rfl) (fun _ _ => (.one rfl rfl rfl)) (fun G1 e h' n => OpQ.spec (v := .rop (GElem.row x1) 0) (ms_idx rfl tg_22.slice (.inr ⟨_, (by exact id), rfl⟩) (.inl rfl) (fun _ => rfl) (gdt ex1)) _),
   Ob.quietG (n1 := fun n => n) (c := (((decide (r5 = 0)) && (decide ((r4.length : Int) = 2))) == true)) (v0 := fun _ => .rop (GElem.row x1) 0) rfl (by intro d h; cases h; rfl) rfl (fun _ => [(21, .r (.bool ((decide (r5 = 0)) && (decide ((r4.length : Int) = 2))))), (23, .whn (((decide (r5 = 0)) && (decide ((r4.length : Int) = 2))) == true) (.rop (GElem.row x1) 0))]) (fun _ => []) (fun D G1 hr => ⟨inE_op hr 7 rfl rfl (by kernel_rfl) rfl rfl, inE_op hr 9 rfl rfl (by kernel_rfl) rfl rfl, trivial⟩) (fun D G1 hr => trivial) (fun _ _ => rfl) (fun _ _ => (.one rfl rfl rfl)) (fun G1 e h' n => OpQ.spec (v := .rop (GElem.row x1) 0) (sp_fieldAddr_ro rfl tf_82_0 (.inr ⟨_, (by exact id), rfl⟩)) _),
   Ob.quietG (n1 := fun n => n) (c := (((decide (r5 = 0)) && (decide ((r4.length : Int) = 2))) == true)) (v0 := fun _ => .r (.int .i64 x1.Char)) rfl (by intro d h; cases h; rfl) rfl (fun _ => [(21, .r (.bool ((decide (r5 = 0)) && (decide ((r4.length : Int) = 2))))), (24, .whn (((decide (r5 = 0)) && (decide ((r4.length : Int) = 2))) == true) (.rop (GElem.row x1) 0))]) (fun _ => []) (fun D G1 hr => ⟨inE_op hr 7 rfl rfl (by kernel_rfl) rfl rfl, inE_op hr 10 rfl rfl (by kernel_rfl) rfl rfl, trivial⟩) (fun D G1 hr => trivial) (fun _ _ => rfl) (fun _ _ => (.one rfl rfl rfl)) (fun G1 e h' n => OpQ.spec (v := .r (.int .i64 x1.Char)) (ms_load (d := .int .i64 x1.Char) rfl ts_3 (.inr ⟨_, (by exact id), rfl⟩) rfl) _),
   Ob.quietG (n1 := fun n => n) (c := (((decide (r5 = 0)) && (decide ((r4.length : Int) = 2))) == true)) (v0 := fun _ => .r (.bool (decide (x1.Char = 120)))) rfl (by intro d h; cases h; rfl) rfl (fun _ => [(21, .r (.bool ((decide (r5 = 0)) && (decide ((r4.length : Int) = 2))))), (25, .whn (((decide (r5 = 0)) && (decide ((r4.length : Int) = 2))) == true) (.r (.int .i64 x1.Char)))]) (fun _ => []) (fun D G1 hr => ⟨inE_op hr 7 rfl rfl (by kernel_rfl) rfl rfl, inE_op hr 11 rfl rfl (by kernel_rfl) rfl rfl, trivial⟩) (fun D G1 hr => trivial) (fun _ _ => rfl) (fun _ _ => (.one rfl rfl rfl)) (fun G1 e h' n => OpQ.spec (v := .r (.bool (decide (x1.Char = 120)))) (sp_eql rfl (.inr ⟨_, (by exact id), rfl⟩) (.inl rfl)) _),
   Ob.quiet (n1 := fun n => n) rfl rfl (by intro d h; cases h; rfl) rfl (fun _ => [(21, .r (.bool ((decide (r5 = 0)) && (decide ((r4.length : Int) = 2))))), (26, .whn (((decide (r5 = 0)) && (decide ((r4.length : Int) = 2))) == true) (.r (.bool (decide (x1.Char = 120)))))]) (fun _ => []) (fun D G1 hr => ⟨inE_op hr 7 rfl rfl (by kernel_rfl) rfl rfl, inE_op hr 12 rfl rfl (by kernel_rfl) rfl rfl, trivial⟩) (fun D G1 hr => trivial) (fun _ _ => rfl) (fun G1 e h' n => OpQ.spec (v := .r (.bool (((decide (r5 = 0)) && (decide ((r4.length : Int) = 2))) && (decide (x1.Char = 120))))) (sp_and rfl (.inl rfl) (.inr ⟨_, (by exact id), rfl⟩)) _),
   Ob.quiet (n1 := fun n => n) rfl rfl (by intro d h; cases h; rfl) rfl (fun _ => [(27, .r (.bool (((decide (r5 = 0)) && (decide ((r4.length : Int) = 2))) && (decide (x1.Char = 120)))))]) (fun _ => []) (fun D G1 hr => ⟨inE_op hr 13 rfl rfl (by kernel_rfl) rfl rfl, trivial⟩) (fun D G1 hr => trivial) (fun _ _ => rfl) (fun G1 e h' n => OpQ.spec (v := .r (.bool (((decide (r5 = 0)) && (decide ((r4.length : Int) = 2))) && (decide (x1.Char = 120))))) (sp_move rfl (.inl rfl)) _),
   Ob.quietG (n1 := fun n => n) (c := ((((decide (r5 = 0)) && (decide ((r4.length : Int) = 2))) && (decide (x1.Char = 120))) == true)) (v0 := fun _ => .r (.sl (r4.map GElem.row))) rfl (by intro d h; cases h; rfl) rfl (fun _ => [(1, .r (.sl (r4.map GElem.row))), (28, .r (.bool (((decide (r5 = 0)) && (decide ((r4.length : Int) = 2))) && (decide (x1.Char = 120)))))]) (fun _ => []) (fun D G1 hr => ⟨inE_base rfl rfl, inE_op hr 14 rfl rfl (by kernel_rfl) rfl rfl, trivial⟩) (fun D G1 hr => trivial) (fun _ _ => rfl) (fun _ _ => (.one rfl rfl rfl)) (fun G1 e h' n => OpQ.spec (v := .r (.sl (r4.map GElem.row))) (sp_move rfl (.inl rfl)) _),
   Ob.quietG (n1 := fun n => n) (c := ((((decide (r5 = 0)) && (decide ((r4.length : Int) = 2))) && (decide (x1.Char = 120))) == true)) (v0 := fun _ => .rop (GElem.row x2) 0) rfl (by intro d h; cases h; rfl) rfl (fun _ => [(28, .r (.bool (((decide (r5 = 0)) && (decide ((r4.length : Int) = 2))) && (decide (x1.Char = 120))))), (29, .whn ((((decide (r5 = 0)) && (decide ((r4.length : Int) = 2))) && (decide (x1.Char = 120))) == true) (.r (.sl (r4.map GElem.row))))]) (fun _ => []) (fun D G1 hr => ⟨inE_op hr 14 rfl rfl (by kernel_rfl) rfl rfl, inE_op hr 15 rfl rfl (by kernel_rfl) rfl rfl, trivial⟩) (fun D G1 hr => trivial) (fun _ _ => rfl) (fun _ _ => (.one rfl rfl rfl)) (fun G1 e h' n => OpQ.spec (v := .rop (GElem.row x2) 0) (ms_idx rfl tg_22.slice (.inr ⟨_, (by exact id), rfl⟩) (.inl rfl) (fun _ => rfl) (gdt ex2)) _),
   Ob.quietG (n1 := fun n => n) (c := ((((decide (r5 = 0)) && (decide ((r4.length : Int) = 2))) && (decide (x1.Char = 120))) == true)) (v0 := fun _ => .rop (GElem.row x2) 2) rfl (by intro d h; cases h; rfl) rfl (fun _ => [(28, .r (.bool (((decide (r5 = 0)) && (decide ((r4.length : Int) = 2))) && (decide (x1.Char = 120))))), (30, .whn ((((decide (r5 = 0)) && (decide ((r4.length : Int) = 2))) && (decide (x1.Char = 120))) == true) (.rop (GElem.row x2) 0))]) (fun _ => []) (fun D G1 hr => ⟨inE_op hr 14 rfl rfl (by kernel_rfl) rfl rfl, inE_op hr 16 rfl rfl (by kernel_rfl) rfl rfl, trivial⟩) (fun D G1 hr => trivial) (fun _ _ => rfl) (fun _ _ => (.one rfl rfl rfl)) (fun G1 e h' n => OpQ.spec (v := .rop (GElem.row x2) 2) (sp_fieldAddr_ro rfl tf_82_2 (.inr ⟨_, (by exact id), rfl⟩)) _),
   Ob.quietG (n1 := fun n => n) (c := ((((decide (r5 = 0)) && (decide ((r4.length : Int) = 2))) && (decide (x1.Char = 120))) == true)) (v0 := fun _ => .r (.sl (x2.Attrs.map GAttr.row))) rfl (by intro d h; cases h; rfl) rfl (fun _ => [(28, .r (.bool (((decide (r5 = 0)) && (decide ((r4.length : Int) = 2))) && (decide (x1.Char = 120))))), (31, .whn ((((decide (r5 = 0)) && (decide ((r4.length : Int) = 2))) && (decide (x1.Char = 120))) == true) (.rop (GElem.row x2) 2))]) (fun _ => []) (fun D G1 hr => ⟨inE_op hr 14 rfl rfl (by kernel_rfl) rfl rfl, inE_op hr 17 rfl rfl (by kernel_rfl) rfl rfl, trivial⟩) (fun D G1 hr => trivial) (fun _ _ => rfl) (fun _ _ => (.one rfl rfl rfl)) (fun G1 e h' n => OpQ.spec (v := .r (.sl (x2.Attrs.map GAttr.row))) (ms_load (d := .sl (x2.Attrs.map GAttr.row)) rfl ts_29 (.inr ⟨_, (by exact id), rfl⟩) rfl) _),
   Ob.quietG (n1 := fun n => n) (c := ((((decide (r5 = 0)) && (decide ((r4.length : Int) = 2))) && (decide (x1.Char = 120))) == true)) (v0 := fun _ => .r (.sl (r3.map GAttr.row))) rfl (by intro d h; cases h; rfl) rfl (fun _ => [(28, .r (.bool (((decide (r5 = 0)) && (decide ((r4.length : Int) = 2))) && (decide (x1.Char = 120)))))]) (fun _ => []) (fun D G1 hr => ⟨inE_op hr 14 rfl rfl (by kernel_rfl) rfl rfl, trivial⟩) (fun D G1 hr => trivial) (fun _ _ => rfl) (fun _ _ => (.one rfl rfl rfl)) (fun G1 e h' n => sp_callS (r := .r (.sl (r3.map GAttr.row))) (caps := []) (bs := [.r (.str [98, 111, 108, 100])]) rfl (.inl rfl) rfl ⟨.inl ⟨(.inl rfl), rfl⟩, trivial⟩ (fun hg => w_law_on (er3))),
   trivial⟩) fun G1 n1 => ?_
 refine AOps.weak (s' := ⟨[(1, .r (.sl (r4.map GElem.row))), (2, .r (.int .i64 r5)), (14, .r (.int .i64 r5)), (15, .r (.bool (decide (r5 = 0)))), (16, .r (.bool (decide (r5 = 0)))), (17, .whn ((decide (r5 = 0)) == true) (.r (.sl (r4.map GElem.row)))), (18, .whn ((decide (r5 = 0)) == true) (.r (.int .i64 (r4.length : Int)))), (19, .whn ((decide (r5 = 0)) == true) (.r (.bool (decide ((r4.length : Int) = 2))))), (20, .r (.bool ((decide (r5 = 0)) && (decide ((r4.length : Int) = 2))))), (21, .r (.bool ((decide (r5 = 0)) && (decide ((r4.length : Int) = 2))))), (22, .whn (((decide (r5 = 0)) && (decide ((r4.length : Int) = 2))) == true) (.r (.sl (r4.map GElem.row)))), (23, .whn (((decide (r5 = 0)) && (decide ((r4.length : Int) = 2))) == true) (.rop (GElem.row x1) 0)), (24, .whn (((decide (r5 = 0)) && (decide ((r4.length : Int) = 2))) == true) (.rop (GElem.row x1) 0)), (25, .whn (((decide (r5 = 0)) && (decide ((r4.length : Int) = 2))) == true) (.r (.int .i64 x1.Char))), (26, .whn (((decide (r5 = 0)) && (decide ((r4.length : Int) = 2))) == true) (.r (.bool (decide (x1.Char = 120))))), (27, .r (.bool (((decide (r5 = 0)) && (decide ((r4.length : Int) = 2))) && (decide (x1.Char = 120))))), (28, .r (.bool (((decide (r5 = 0)) && (decide ((r4.length : Int) = 2))) && (decide (x1.Char = 120))))), (29, .whn ((((decide (r5 = 0)) && (decide ((r4.length : Int) = 2))) && (decide (x1.Char = 120))) == true) (.r (.sl (r4.map GElem.row)))), (30, .whn ((((decide (r5 = 0)) && (decide ((r4.length : Int) = 2))) && (decide (x1.Char = 120))) == true) (.rop (GElem.row x2) 0)), (31, .whn ((((decide (r5 = 0)) && (decide ((r4.length : Int) = 2))) && (decide (x1.Char = 120))) == true) (.rop (GElem.row x2) 2)), (32, .whn ((((decide (r5 = 0)) && (decide ((r4.length : Int) = 2))) && (decide (x1.Char = 120))) == true) (.r (.sl (x2.Attrs.map GAttr.row)))), (33, .whn ((((decide (r5 = 0)) && (decide ((r4.length : Int) = 2))) && (decide (x1.Char = 120))) == true) (.r (.sl (r3.map GAttr.row))))], [], n1, 36⟩) (by exact Weak.cv ⟨.inl iL, .inl iL, .inl iL, .inl iL, .inl iL, .inl iL, .inl iL, .inl iL, .inl iL, .inl iL, .inl iL, .inl iL, .inl iL, .inl iL, .inl iL, .inl iL, .inl iL, .inl iL, .inl iL, .inl iL, .inl iL, .inl iL, trivial⟩ trivial (Nat.le_refl _)) ?_
 refine ob1k h6 fun r7 er7 h7 => ?_
 refine AOps.stepW (.one rfl rfl rfl) rfl rfl (sp_call (r := .r (.bool r7)) (caps := []) (bs := [.r (.sl (x2.Attrs.map GAttr.row)), .r (.sl (r3.map GAttr.row))]) rfl iL rfl ⟨⟨_, (.inr ⟨_, (by exact id), rfl⟩), .d rfl⟩, ⟨_, (.inr ⟨_, (by exact id), rfl⟩), .d rfl⟩, trivial⟩ (fun hg => w_ref_SameAttrs (gdt er7 hg)) rfl) ?_
 refine sQ rfl (sp_and rfl iL (.inr ⟨_, (by exact id), rfl⟩)) ?_
 refine sQ rfl (sp_assign rfl iL) ?_
 refine AOps.nil ?_
 refine hK3 _ ?_
 refine AW.ret ?_
 exact retf1 (P := Try.prog) (fun (r : Bool) => .r (.bool r)) h7 iL (.t (.d rfl))
set_option maxHeartbeats 4000000 in
set_option maxRecDepth 20000 in
theorem w_ref_SameElem {a1 : GElem} {b1 : GElem} {r : Bool} (h : ref_SameElem a1 b1 = some r) : ARO Try.prog 48 [.agg [.r (.int .i64 a1.Char), .r (.int .i64 a1.Ref), .r (.sl (a1.Attrs.map GAttr.row))], .agg [.r (.int .i64 b1.Char), .r (.int .i64 b1.Ref), .r (.sl (b1.Attrs.map GAttr.row))]] (.r (.bool r)) := by
 unfold ref_SameElem at h
 refine ARO.mkF Try.func48 rfl rfl Try.ntmps48 rfl (Nat.le_of_ble_eq_true rfl) fun n0 => ?_
 refine AW.seq_w fun K1 hK1 wK1 => ?_
 refine AW.region ?_
 refine AOps.step rfl rfl rfl (ms_box (cs := [.r (.int .i64 a1.Char), .r (.int .i64 a1.Ref), .r (.sl (a1.Attrs.map GAttr.row))]) 2 rfl iL rfl rfl) ?_
 refine AOps.step rfl rfl rfl (ms_box (cs := [.r (.int .i64 b1.Char), .r (.int .i64 b1.Ref), .r (.sl (b1.Attrs.map GAttr.row))]) 3 rfl iL rfl rfl) ?_
 refine sQ rfl (sp_assign rfl iL) ?_
 refine AOps.nil ?_
 refine hK1 _ ?_
 refine AW.seq_w fun K2 hK2 wK2 => ?_
 refine AW.region ?_
 refine sQ rfl (sp_fieldAddr_own (ob := .box _ _ _) rfl tf_82_0 iL (fun _ => rfl) rfl) ?_
 refine sQ rfl (ms_load_box (a := .r (.int .i64 a1.Char)) rfl ts_3 iL rfl rfl) ?_
 refine sQ rfl (sp_fieldAddr_own (ob := .box _ _ _) rfl tf_82_0 iL (fun _ => rfl) rfl) ?_
 refine sQ rfl (ms_load_box (a := .r (.int .i64 b1.Char)) rfl ts_3 iL rfl rfl) ?_
 refine sQ rfl (sp_eql rfl iL iL) ?_
 refine sQ rfl (sp_move rfl iL) ?_
 refine sW (.one rfl rfl rfl) rfl (sp_fieldAddr_own (ob := .box _ _ _) rfl tf_82_1 iL (fun _ => rfl) rfl) ?_
 refine sW (.one rfl rfl rfl) rfl (ms_load_box (a := .r (.int .i64 a1.Ref)) rfl ts_3 (.inr ⟨_, (by exact id), rfl⟩) rfl rfl) ?_
 refine sW (.one rfl rfl rfl) rfl (sp_fieldAddr_own (ob := .box _ _ _) rfl tf_82_1 iL (fun _ => rfl) rfl) ?_
 refine sW (.one rfl rfl rfl) rfl (ms_load_box (a := .r (.int .i64 b1.Ref)) rfl ts_3 (.inr ⟨_, (by exact id), rfl⟩) rfl rfl) ?_
 refine sW (.one rfl rfl rfl) rfl (sp_eql rfl (.inr ⟨_, (by exact id), rfl⟩) (.inr ⟨_, (by exact id), rfl⟩)) ?_
 refine sQ rfl (sp_and rfl iL (.inr ⟨_, (by exact id), rfl⟩)) ?_
 refine sQ rfl (sp_move rfl iL) ?_
 refine sW (.one rfl rfl rfl) rfl (sp_fieldAddr_own (ob := .box _ _ _) rfl tf_82_2 iL (fun _ => rfl) rfl) ?_
 refine sW (.one rfl rfl rfl) rfl (ms_load_box (a := .r (.sl (a1.Attrs.map GAttr.row))) rfl ts_29 (.inr ⟨_, (by exact id), rfl⟩) rfl rfl) ?_
 refine sW (.one rfl rfl rfl) rfl (sp_fieldAddr_own (ob := .box _ _ _) rfl tf_82_2 iL (fun _ => rfl) rfl) ?_
 refine sW (.one rfl rfl rfl) rfl (ms_load_box (a := .r (.sl (b1.Attrs.map GAttr.row))) rfl ts_29 (.inr ⟨_, (by exact id), rfl⟩) rfl rfl) ?_
 refine ob1k h fun r1 er1 h1 => ?_
 refine AOps.stepW (.one rfl rfl rfl) rfl rfl (sp_call (r := .r (.bool r1)) (caps := []) (bs := [.r (.sl (a1.Attrs.map GAttr.row)), .r (.sl (b1.Attrs.map GAttr.row))]) rfl iL rfl ⟨⟨_, (.inr ⟨_, (by exact id), rfl⟩), .d rfl⟩, ⟨_, (.inr ⟨_, (by exact id), rfl⟩), .d rfl⟩, trivial⟩ (fun hg => w_ref_SameAttrs (gdt er1 hg)) rfl) ?_
 refine sQ rfl (sp_and rfl iL (.inr ⟨_, (by exact id), rfl⟩)) ?_
 refine sQ rfl (sp_assign rfl iL) ?_
 refine AOps.nil ?_
 refine hK2 _ ?_
 refine AW.ret ?_
 exact retf1 (P := Try.prog) (fun (r : Bool) => .r (.bool r)) h1 iL (.t (.d rfl))
set_option maxHeartbeats 4000000 in
set_option maxRecDepth 20000 in
theorem w_ref_SameFlow {a1 : List GElem} {b1 : List GElem} {r : Bool} (h : ref_SameFlow a1 b1 = some r) : ARO Try.prog 18 [.r (.sl (a1.map GElem.row)), .r (.sl (b1.map GElem.row))] (.r (.bool r)) := by
 unfold ref_SameFlow at h
 refine ARO.mkF Try.func18 rfl rfl Try.ntmps18 rfl (Nat.le_of_ble_eq_true rfl) fun n0 => ?_
 refine AW.seq_w fun K1 hK1 wK1 => ?_
 refine AW.region ?_
 refine sQ rfl (sp_assign rfl iL) ?_
 refine AOps.nil ?_
 refine hK1 _ ?_
 refine AW.seq_w fun K2 hK2 wK2 => ?_
 refine AW.seq_w fun K3 hK3 wK3 => ?_
 refine AW.region ?_
 refine sQ rfl (sp_move rfl iL) ?_
 refine sQ rfl (ms_len rfl tg_22.slice iL) ?_
 refine sQ rfl (sp_move rfl iL) ?_
 refine sQ rfl (ms_len rfl tg_22.slice iL) ?_
 refine sQ rfl (sp_neq rfl iL iL) ?_
 refine AOps.nil ?_
 refine hK3 _ ?_
 refine AW.cond rfl (fun hc1 => ?_) (fun hc1 => ?_)
 ·have h1 := ite_t hc1 h
  refine AW.seq_w fun K4 hK4 wK4 => ?_
  refine AW.region ?_
  refine sQ rfl (sp_assign rfl iL) ?_
  refine AOps.nil ?_
  refine hK4 _ ?_
  refine AW.ret ?_
  exact retf1 (P := Try.prog) (fun (r : Bool) => .r (.bool r)) h1 iL (.t (.d rfl))
 ·have h1 := ite_f hc1 h
  refine AW.skip ?_
  refine hK2 _ ?_
  refine AW.seq_w fun K5 hK5 wK5 => ?_
  refine AW.seq_w fun K6 hK6 wK6 => ?_
  refine AW.region ?_
  refine sQ rfl (sp_move rfl iL) ?_
  refine sQ rfl (ms_len rfl tg_22.slice iL) ?_
  refine sQ rfl (sp_move rfl iL) ?_
  refine AOps.nil ?_
  refine hK6 _ ?_
  refine AW.block ?_
  refine jc1k h1 fun o1 hit1 hk1 he1 => ?_
  have J1 : ∀ (u2 : Unit) (i5 : Nat → Nat), o1 = .nrm u2 → K5 ⟨[], [], (i5 0), 27⟩ := by
   intro u2 i5 e
   have h2 := hk1 _ e
   refine hK5 _ ?_
   refine AW.seq_w fun K7 hK7 wK7 => ?_
   refine AW.region ?_
   refine sQ rfl (sp_assign rfl iL) ?_
   refine AOps.nil ?_
   refine hK7 _ ?_
   refine AW.ret ?_
   exact retf1 (P := Try.prog) (fun (r : Bool) => .r (.bool r)) h2 iL (.t (.d rfl))
  refine AW.iter1 (fun (x2 : Int) i3 => ⟨[(0, .r (.sl (a1.map GElem.row))), (1, .r (.sl (b1.map GElem.row))), (12, .r (.int .i64 (a1.length : Int))), (13, .r (.int .i64 x2))], [], (i3 0), 27⟩) (vec [n0]) hit1 ((by exact Weak.cv ⟨.inl iL, .inl iL, .inl iL, .inl iL, trivial⟩ trivial (Nat.le_refl _))) ?_
  intro x2 i3 v1 hv1 hx1
  have h3 : ref_SameFlow_L1 a1 b1 x2 = some v1 := hv1; unfold ref_SameFlow_L1 at h3
  refine AW.seq_w fun K8 hK8 wK8 => ?_
  refine AW.region ?_
  refine sQ rfl (sp_lss rfl iL iL) ?_
  refine AOps.nil ?_
  refine hK8 _ ?_
  refine AW.seq_w fun K9 hK9 wK9 => ?_
  refine AW.cond rfl (fun hc2 => ?_) (fun hc2 => ?_)
  ·have h4 := ite_t hc2 h3
   refine AW.skip ?_
   refine hK9 _ ?_
   refine AW.seq_w fun K10 hK10 wK10 => ?_
   refine AW.block ?_
   refine AW.seq_w fun K11 hK11 wK11 => ?_
   refine AW.region ?_
   refine sQ rfl (sp_move rfl iL) ?_
   refine sQ rfl (sp_assign rfl iL) ?_
   refine AOps.nil ?_
   refine hK11 _ ?_
   refine AW.seq_w fun K12 hK12 wK12 => ?_
   refine AW.regionQ hmix (by kernel_rfl) ?_
   refine AQ.step rfl rfl rfl (sp_move rfl iL) ?_
   refine AQ.step rfl rfl rfl (sp_move rfl iL) ?_
   refine ob1k h4 fun x4 ex4 h5 => ?_
   refine AQ.step rfl rfl rfl (ms_idx rfl tg_22.slice iL iL (fun _ => rfl) (fun _ => ex4)) ?_
   refine AQ.step rfl rfl rfl (ms_loadA (cs := [.r (.int .i64 x4.Char), .r (.int .i64 x4.Ref), .r (.sl (x4.Attrs.map GAttr.row))]) rfl ta_82 iL rfl rfl) ?_
   refine AQ.step rfl rfl rfl (sp_move rfl iL) ?_
   refine AQ.step rfl rfl rfl (sp_move rfl iL) ?_
   refine ob1k h5 fun x5 ex5 h6 => ?_
   refine AQ.step rfl rfl rfl (ms_idx rfl tg_22.slice iL iL (fun _ => rfl) (fun _ => ex5)) ?_
   refine AQ.step rfl rfl rfl (ms_loadA (cs := [.r (.int .i64 x5.Char), .r (.int .i64 x5.Ref), .r (.sl (x5.Attrs.map GAttr.row))]) rfl ta_82 iL rfl rfl) ?_
   refine ob1k h6 fun r1 er1 h7 => ?_
   refine AQ.stepC rfl rfl rfl (r := .r (.bool r1)) (caps := []) (bs := [.agg [.r (.int .i64 x4.Char), .r (.int .i64 x4.Ref), .r (.sl (x4.Attrs.map GAttr.row))], .agg [.r (.int .i64 x5.Char), .r (.int .i64 x5.Ref), .r (.sl (x5.Attrs.map GAttr.row))]]) rfl iL rfl ⟨⟨_, iL, .g (cs := [.int .i64 x4.Char, .int .i64 x4.Ref, .sl (x4.Attrs.map GAttr.row)]) rfl rfl⟩, ⟨_, iL, .g (cs := [.int .i64 x5.Char, .int .i64 x5.Ref, .sl (x5.Attrs.map GAttr.row)]) rfl rfl⟩, trivial⟩ (fun _ => w_ref_SameElem (er1)) rfl ?_
   refine AQ.step rfl rfl rfl (sp_not rfl iL) ?_
   refine AQ.nil ?_
   refine hK12 _ ?_
   refine AW.cond rfl (fun hc3 => ?_) (fun hc3 => ?_)
   ·have h8 := ite_t hc3 h7
    refine AW.seq_w fun K13 hK13 wK13 => ?_
    refine AW.weak (s' := ⟨[], [], (i3 0), 27⟩) (by exact Weak.cv trivial trivial (Nat.le_refl _)) ?_
    refine AW.region ?_
    refine sQ rfl (sp_assign rfl iL) ?_
    refine AOps.nil ?_
    refine hK13 _ ?_
    refine AW.ret ?_
    exact retf1 (P := Try.prog) (fun (r : Bool) => .r (.bool r)) (he1 _ (hx1 _ (Option.some.inj h8).symm)) iL (.t (.d rfl))
   ·have h8 := ite_f hc3 h7
    refine AW.skip ?_
    refine hK10 _ ?_
    refine AW.weak (s' := ⟨[(0, .r (.sl (a1.map GElem.row))), (1, .r (.sl (b1.map GElem.row))), (12, .r (.int .i64 (a1.length : Int))), (13, .r (.int .i64 x2))], [], (i3 0), 27⟩) (by exact Weak.cv ⟨.inl iL, .inl iL, .inl iL, .inl iL, trivial⟩ trivial (Nat.le_refl _)) ?_
    refine AW.region ?_
    refine ob1k h8 fun x6 ex6 h9 => ?_
    refine sQ rfl (ms_add rfl iL iL (fun _ => ex6)) ?_
    refine sQ rfl (sp_move rfl iL) ?_
    refine AOps.nil ?_
    exact NextQ1.mk h9 (vec [(i3 0)]) ((by exact Weak.cv ⟨.inl iL, .inl iL, .inl iL, .inl iL, trivial⟩ trivial (Nat.le_refl _)))
  ·have h4 := ite_f hc2 h3
   refine AW.exit ?_
   exact wK5 _ _ ((by exact Weak.cv trivial trivial (Nat.le_refl _))) (J1 _ (vec [(i3 0)]) (hx1 _ (Option.some.inj h4).symm))
set_option maxHeartbeats 4000000 in
set_option maxRecDepth 20000 in
theorem w_ref_SameDelta {a1 : List GStep} {b1 : List GStep} {r : Bool} (h : ref_SameDelta a1 b1 = some r) : ARO Try.prog 14 [.r (.sl (a1.map GStep.row)), .r (.sl (b1.map GStep.row))] (.r (.bool r)) := by
 unfold ref_SameDelta at h
 refine ARO.mkF Try.func14 rfl rfl Try.ntmps14 rfl (Nat.le_of_ble_eq_true rfl) fun n0 => ?_
 refine AW.seq_w fun K1 hK1 wK1 => ?_
 refine AW.region ?_
 refine sQ rfl (sp_assign rfl iL) ?_
 refine AOps.nil ?_
 refine hK1 _ ?_
 refine AW.seq_w fun K2 hK2 wK2 => ?_
 refine AW.seq_w fun K3 hK3 wK3 => ?_
 refine AW.region ?_
 refine sQ rfl (sp_move rfl iL) ?_
 refine sQ rfl (ms_len rfl tg_23.slice iL) ?_
 refine sQ rfl (sp_move rfl iL) ?_
 refine sQ rfl (ms_len rfl tg_23.slice iL) ?_
 refine sQ rfl (sp_neq rfl iL iL) ?_
 refine AOps.nil ?_
 refine hK3 _ ?_
 refine AW.cond rfl (fun hc1 => ?_) (fun hc1 => ?_)
 ·have h1 := ite_t hc1 h
  refine AW.seq_w fun K4 hK4 wK4 => ?_
  refine AW.region ?_
  refine sQ rfl (sp_assign rfl iL) ?_
  refine AOps.nil ?_
  refine hK4 _ ?_
  refine AW.ret ?_
  exact retf1 (P := Try.prog) (fun (r : Bool) => .r (.bool r)) h1 iL (.t (.d rfl))
 ·have h1 := ite_f hc1 h
  refine AW.skip ?_
  refine hK2 _ ?_
  refine AW.seq_w fun K5 hK5 wK5 => ?_
  refine AW.seq_w fun K6 hK6 wK6 => ?_
  refine AW.region ?_
  refine sQ rfl (sp_move rfl iL) ?_
  refine sQ rfl (ms_len rfl tg_23.slice iL) ?_
  refine sQ rfl (sp_move rfl iL) ?_
  refine AOps.nil ?_
  refine hK6 _ ?_
  refine AW.block ?_
  refine jc1k h1 fun o1 hit1 hk1 he1 => ?_
  have J1 : ∀ (u2 : Unit) (i5 : Nat → Nat), o1 = .nrm u2 → K5 ⟨[], [], (i5 0), 69⟩ := by
   intro u2 i5 e
   have h2 := hk1 _ e
   refine hK5 _ ?_
   refine AW.seq_w fun K7 hK7 wK7 => ?_
   refine AW.region ?_
   refine sQ rfl (sp_assign rfl iL) ?_
   refine AOps.nil ?_
   refine hK7 _ ?_
   refine AW.ret ?_
   exact retf1 (P := Try.prog) (fun (r : Bool) => .r (.bool r)) h2 iL (.t (.d rfl))
  refine AW.iter1 (fun (x2 : Int) i3 => ⟨[(0, .r (.sl (a1.map GStep.row))), (1, .r (.sl (b1.map GStep.row))), (12, .r (.int .i64 (a1.length : Int))), (13, .r (.int .i64 x2))], [], (i3 0), 69⟩) (vec [n0]) hit1 ((by exact Weak.cv ⟨.inl iL, .inl iL, .inl iL, .inl iL, trivial⟩ trivial (Nat.le_refl _))) ?_
  intro x2 i3 v1 hv1 hx1
  have h3 : ref_SameDelta_L1 a1 b1 x2 = some v1 := hv1; unfold ref_SameDelta_L1 at h3
  refine AW.seq_w fun K8 hK8 wK8 => ?_
  refine AW.region ?_
  refine sQ rfl (sp_lss rfl iL iL) ?_
  refine AOps.nil ?_
  refine hK8 _ ?_
  refine AW.seq_w fun K9 hK9 wK9 => ?_
  refine AW.cond rfl (fun hc2 => ?_) (fun hc2 => ?_)
  ·have h4 := ite_t hc2 h3
   refine AW.skip ?_
   refine hK9 _ ?_
   refine AW.seq_w fun K10 hK10 wK10 => ?_
   refine AW.block ?_
   refine AW.seq_w fun K11 hK11 wK11 => ?_
   refine AW.region ?_
   refine sQ rfl (sp_move rfl iL) ?_
   refine sQ rfl (sp_assign rfl iL) ?_
   refine AOps.nil ?_
   refine hK11 _ ?_
   refine AW.seq_w fun K12 hK12 wK12 => ?_
   refine AW.regionQ hmix (by kernel_rfl) ?_
   refine AQ.step rfl rfl rfl (sp_move rfl iL) ?_
   refine AQ.step rfl rfl rfl (sp_move rfl iL) ?_
   refine ob1k h4 fun x4 ex4 h5 => ?_
   refine AQ.step rfl rfl rfl (ms_idx rfl tg_23.slice iL iL (fun _ => rfl) (fun _ => ex4)) ?_
   refine AQ.step rfl rfl rfl (sp_fieldAddr_ro rfl tf_31_0 iL) ?_
   refine AQ.step rfl rfl rfl (ms_load (d := .int .i64 x4.Kind) rfl ts_3 iL rfl) ?_
   refine AQ.step rfl rfl rfl (sp_move rfl iL) ?_
   refine AQ.step rfl rfl rfl (sp_move rfl iL) ?_
   refine ob1k h5 fun x5 ex5 h6 => ?_
   refine AQ.step rfl rfl rfl (ms_idx rfl tg_23.slice iL iL (fun _ => rfl) (fun _ => ex5)) ?_
   refine AQ.step rfl rfl rfl (sp_fieldAddr_ro rfl tf_31_0 iL) ?_
   refine AQ.step rfl rfl rfl (ms_load (d := .int .i64 x5.Kind) rfl ts_3 iL rfl) ?_
   refine AQ.step rfl rfl rfl (sp_neq rfl iL iL) ?_
   refine AQ.step rfl rfl rfl (sp_move rfl iL) ?_
   refine AQ.stepW (.one rfl rfl rfl) rfl rfl (sp_move rfl iL) ?_
   refine AQ.stepW (.one rfl rfl rfl) rfl rfl (sp_move rfl iL) ?_
   refine AQ.stepW (.one rfl rfl rfl) rfl rfl (ms_idx rfl tg_23.slice (.inr ⟨_, (by exact id), rfl⟩) (.inr ⟨_, (by exact id), rfl⟩) (fun _ => rfl) (fun _ => ex4)) ?_
   refine AQ.stepW (.one rfl rfl rfl) rfl rfl (sp_fieldAddr_ro rfl tf_31_1 (.inr ⟨_, (by exact id), rfl⟩)) ?_
   refine AQ.stepW (.one rfl rfl rfl) rfl rfl (ms_load (d := .int .i64 x4.N) rfl ts_3 (.inr ⟨_, (by exact id), rfl⟩) rfl) ?_
   refine AQ.stepW (.one rfl rfl rfl) rfl rfl (sp_move rfl iL) ?_
   refine AQ.stepW (.one rfl rfl rfl) rfl rfl (sp_move rfl iL) ?_
   refine AQ.stepW (.one rfl rfl rfl) rfl rfl (ms_idx rfl tg_23.slice (.inr ⟨_, (by exact id), rfl⟩) (.inr ⟨_, (by exact id), rfl⟩) (fun _ => rfl) (fun _ => ex5)) ?_
   refine AQ.stepW (.one rfl rfl rfl) rfl rfl (sp_fieldAddr_ro rfl tf_31_1 (.inr ⟨_, (by exact id), rfl⟩)) ?_
   refine AQ.stepW (.one rfl rfl rfl) rfl rfl (ms_load (d := .int .i64 x5.N) rfl ts_3 (.inr ⟨_, (by exact id), rfl⟩) rfl) ?_
   refine AQ.stepW (.one rfl rfl rfl) rfl rfl (sp_neq rfl (.inr ⟨_, (by exact id), rfl⟩) (.inr ⟨_, (by exact id), rfl⟩)) ?_
   refine AQ.step rfl rfl rfl (sp_or rfl iL (.inr ⟨_, (by exact id), rfl⟩)) ?_
   refine AQ.step rfl rfl rfl (sp_move rfl iL) ?_
   refine AQ.stepW (.one rfl rfl rfl) rfl rfl (sp_move rfl iL) ?_
   refine AQ.stepW (.one rfl rfl rfl) rfl rfl (sp_move rfl iL) ?_
   refine AQ.stepW (.one rfl rfl rfl) rfl rfl (ms_idx rfl tg_23.slice (.inr ⟨_, (by exact id), rfl⟩) (.inr ⟨_, (by exact id), rfl⟩) (fun _ => rfl) (fun _ => ex4)) ?_
   refine AQ.stepW (.one rfl rfl rfl) rfl rfl (sp_fieldAddr_ro rfl tf_31_2 (.inr ⟨_, (by exact id), rfl⟩)) ?_
   refine AQ.stepW (.one rfl rfl rfl) rfl rfl (ms_load (d := .sl (x4.Attrs.map GAttr.row)) rfl ts_29 (.inr ⟨_, (by exact id), rfl⟩) rfl) ?_
   refine AQ.stepW (.one rfl rfl rfl) rfl rfl (sp_move rfl iL) ?_
   refine AQ.stepW (.one rfl rfl rfl) rfl rfl (sp_move rfl iL) ?_
   refine AQ.stepW (.one rfl rfl rfl) rfl rfl (ms_idx rfl tg_23.slice (.inr ⟨_, (by exact id), rfl⟩) (.inr ⟨_, (by exact id), rfl⟩) (fun _ => rfl) (fun _ => ex5)) ?_
   refine AQ.stepW (.one rfl rfl rfl) rfl rfl (sp_fieldAddr_ro rfl tf_31_2 (.inr ⟨_, (by exact id), rfl⟩)) ?_
   refine AQ.stepW (.one rfl rfl rfl) rfl rfl (ms_load (d := .sl (x5.Attrs.map GAttr.row)) rfl ts_29 (.inr ⟨_, (by exact id), rfl⟩) rfl) ?_
   refine ob1k h6 fun r1 er1 h7 => ?_
   refine AQ.stepWC (.one rfl rfl rfl) rfl rfl (r := .r (.bool r1)) (caps := []) (bs := [.r (.sl (x4.Attrs.map GAttr.row)), .r (.sl (x5.Attrs.map GAttr.row))]) rfl iL rfl ⟨⟨_, (.inr ⟨_, (by exact id), rfl⟩), .d rfl⟩, ⟨_, (.inr ⟨_, (by exact id), rfl⟩), .d rfl⟩, trivial⟩ (fun hg => w_ref_SameAttrs (gdt er1 hg)) rfl ?_
   refine AQ.stepW (.one rfl rfl rfl) rfl rfl (sp_not rfl (.inr ⟨_, (by exact id), rfl⟩)) ?_
   refine AQ.step rfl rfl rfl (sp_or rfl iL (.inr ⟨_, (by exact id), rfl⟩)) ?_
   refine AQ.step rfl rfl rfl (sp_move rfl iL) ?_
   refine AQ.stepW (.one rfl rfl rfl) rfl rfl (sp_move rfl iL) ?_
   refine AQ.stepW (.one rfl rfl rfl) rfl rfl (sp_move rfl iL) ?_
   refine AQ.stepW (.one rfl rfl rfl) rfl rfl (ms_idx rfl tg_23.slice (.inr ⟨_, (by exact id), rfl⟩) (.inr ⟨_, (by exact id), rfl⟩) (fun _ => rfl) (fun _ => ex4)) ?_
   refine AQ.stepW (.one rfl rfl rfl) rfl rfl (sp_fieldAddr_ro rfl tf_31_3 (.inr ⟨_, (by exact id), rfl⟩)) ?_
   refine AQ.stepW (.one rfl rfl rfl) rfl rfl (ms_load (d := .sl (x4.Elems.map GElem.row)) rfl ts_22 (.inr ⟨_, (by exact id), rfl⟩) rfl) ?_
   refine AQ.stepW (.one rfl rfl rfl) rfl rfl (sp_move rfl iL) ?_
   refine AQ.stepW (.one rfl rfl rfl) rfl rfl (sp_move rfl iL) ?_
   refine AQ.stepW (.one rfl rfl rfl) rfl rfl (ms_idx rfl tg_23.slice (.inr ⟨_, (by exact id), rfl⟩) (.inr ⟨_, (by exact id), rfl⟩) (fun _ => rfl) (fun _ => ex5)) ?_
   refine AQ.stepW (.one rfl rfl rfl) rfl rfl (sp_fieldAddr_ro rfl tf_31_3 (.inr ⟨_, (by exact id), rfl⟩)) ?_
   refine AQ.stepW (.one rfl rfl rfl) rfl rfl (ms_load (d := .sl (x5.Elems.map GElem.row)) rfl ts_22 (.inr ⟨_, (by exact id), rfl⟩) rfl) ?_
   refine ob1k h7 fun r2 er2 h8 => ?_
   refine AQ.stepWC (.one rfl rfl rfl) rfl rfl (r := .r (.bool r2)) (caps := []) (bs := [.r (.sl (x4.Elems.map GElem.row)), .r (.sl (x5.Elems.map GElem.row))]) rfl iL rfl ⟨⟨_, (.inr ⟨_, (by exact id), rfl⟩), .d rfl⟩, ⟨_, (.inr ⟨_, (by exact id), rfl⟩), .d rfl⟩, trivial⟩ (fun hg => w_ref_SameFlow (gdt er2 hg)) rfl ?_
   refine AQ.stepW (.one rfl rfl rfl) rfl rfl (sp_not rfl (.inr ⟨_, (by exact id), rfl⟩)) ?_
   refine AQ.step rfl rfl rfl (sp_or rfl iL (.inr ⟨_, (by exact id), rfl⟩)) ?_
   refine AQ.nil ?_
   refine hK12 _ ?_
   refine AW.cond rfl (fun hc3 => ?_) (fun hc3 => ?_)
   ·have h9 := ite_t hc3 h8
    refine AW.seq_w fun K13 hK13 wK13 => ?_
    refine AW.weak (s' := ⟨[], [], (i3 0), 69⟩) (by exact Weak.cv trivial trivial (Nat.le_refl _)) ?_
    refine AW.region ?_
    refine sQ rfl (sp_assign rfl iL) ?_
    refine AOps.nil ?_
    refine hK13 _ ?_
    refine AW.ret ?_
    exact retf1 (P := Try.prog) (fun (r : Bool) => .r (.bool r)) (he1 _ (hx1 _ (Option.some.inj h9).symm)) iL (.t (.d rfl))
   ·have h9 := ite_f hc3 h8
    refine AW.skip ?_
    refine hK10 _ ?_
    refine AW.weak (s' := ⟨[(0, .r (.sl (a1.map GStep.row))), (1, .r (.sl (b1.map GStep.row))), (12, .r (.int .i64 (a1.length : Int))), (13, .r (.int .i64 x2))], [], (i3 0), 69⟩) (by exact Weak.cv ⟨.inl iL, .inl iL, .inl iL, .inl iL, trivial⟩ trivial (Nat.le_refl _)) ?_
    refine AW.region ?_
    refine ob1k h9 fun x6 ex6 h10 => ?_
    refine sQ rfl (ms_add rfl iL iL (fun _ => ex6)) ?_
    refine sQ rfl (sp_move rfl iL) ?_
    refine AOps.nil ?_
    exact NextQ1.mk h10 (vec [(i3 0)]) ((by exact Weak.cv ⟨.inl iL, .inl iL, .inl iL, .inl iL, trivial⟩ trivial (Nat.le_refl _)))
  ·have h4 := ite_f hc2 h3
   refine AW.exit ?_
   exact wK5 _ _ ((by exact Weak.cv trivial trivial (Nat.le_refl _))) (J1 _ (vec [(i3 0)]) (hx1 _ (Option.some.inj h4).symm))
set_option maxHeartbeats 4000000 in
set_option maxRecDepth 20000 in
theorem w_law_diffs {r : Bool} (h : law_diffs = some r) : ARO Try.prog 9 [] (.r (.bool r)) := by
 unfold law_diffs at h
 refine ARO.mkF Try.func9 rfl rfl Try.ntmps9 rfl (Nat.le_of_ble_eq_true rfl) fun n0 => ?_
 refine AW.seq_w fun K1 hK1 wK1 => ?_
 refine AW.region ?_
 refine sQ rfl (sp_assign rfl iL) ?_
 refine AOps.nil ?_
 refine hK1 _ ?_
 refine AW.seq_w fun K2 hK2 wK2 => ?_
 refine AW.region ?_
 refine ob1k h fun r1 er1 h1 => ?_
 refine AOps.step rfl rfl rfl (sp_callS (r := .r (.sl (r1.map GElem.row))) (caps := []) (bs := [.r (.str [97, 98])]) rfl iL rfl ⟨.inl ⟨iL, rfl⟩, trivial⟩ (fun _ => w_law_letters (er1))) ?_
 refine ob1k h1 fun r2 er2 h2 => ?_
 refine AOps.step rfl rfl rfl (sp_callS (r := .r (.sl (r2.map GElem.row))) (caps := []) (bs := [.r (.str [98])]) rfl iL rfl ⟨.inl ⟨iL, rfl⟩, trivial⟩ (fun _ => w_law_letters (er2))) ?_
 refine ob2k h2 fun r3 r4 er3 h3 => ?_
 refine AOps.step rfl rfl rfl (sp_callS (r := .tup [.r (.sl (r3.map GStep.row)), .r (.int .i64 r4)]) (caps := []) (bs := [.r (.sl (r1.map GElem.row)), .r (.sl (r2.map GElem.row))]) rfl iL rfl ⟨.inl ⟨iL, rfl⟩, .inl ⟨iL, rfl⟩, trivial⟩ (fun _ => w_diff_Flows (er3))) ?_
 refine sQ rfl (sp_move rfl iL) ?_
 refine sQ rfl (sp_extract (a := .r (.sl (r3.map GStep.row))) rfl iL rfl) ?_
 refine sQ rfl (sp_extract (a := .r (.int .i64 r4)) rfl iL rfl) ?_
 refine sQ rfl (sp_assign rfl iL) ?_
 refine sQ rfl (sp_assign rfl iL) ?_
 refine AOps.nil ?_
 refine hK2 _ ?_
 refine AW.seq_w fun K3 hK3 wK3 => ?_
 refine AW.region ?_
 refine ob1k h3 fun r5 er5 h4 => ?_
 refine AOps.step rfl rfl rfl (sp_call (r := .r (.bool r5)) (caps := []) (bs := []) rfl iL rfl trivial (fun _ => w_law_deltas (er5)) rfl) ?_
 refine sQ rfl (sp_move rfl iL) ?_
 refine sW (.one rfl rfl rfl) rfl (sp_move rfl iL) ?_
 refine sW (.one rfl rfl rfl) rfl (sp_eql rfl (.inr ⟨_, (by exact id), rfl⟩) iL) ?_
 refine sQ rfl (sp_and rfl iL (.inr ⟨_, (by exact id), rfl⟩)) ?_
 refine sQ rfl (sp_move rfl iL) ?_
 refine sW (.one rfl rfl rfl) rfl (sp_move rfl iL) ?_
 refine sW (.one rfl rfl rfl) rfl (sp_build rfl tb_31 (q := [(0, _), (1, _)]) (by exact ⟨rfl, rfl, rfl, iL, rfl, rfl, rfl, iL, trivial⟩) (cs := [.r (.int .i64 2), .r (.int .i64 1), .cst (.slice none 0 0), .cst (.slice none 0 0)]) (by rfl)) ?_
 refine sW (.one rfl rfl rfl) rfl (sp_build rfl tb_31 (q := [(0, _), (1, _)]) (by exact ⟨rfl, rfl, rfl, iL, rfl, rfl, rfl, iL, trivial⟩) (cs := [.r (.int .i64 0), .r (.int .i64 1), .cst (.slice none 0 0), .cst (.slice none 0 0)]) (by rfl)) ?_
 refine jb1k h4 fun p1 hp1 hk1 => ?_
 have J1 : ∀ (x1 : Bool) (i1 : Nat → Nat), p1 = x1 → K3 ⟨[(0, .r (.bool x1))], [], (i1 0), 21⟩ := by
  intro x1 i1 e
  have h5 := hk1 _ e
  refine hK3 _ ?_
  refine AW.ret ?_
  exact retf1 (P := Try.prog) (fun (r : Bool) => .r (.bool r)) h5 iL (.t (.d rfl))
 refine AOps.split ((r5 && (decide (r4 = 0))) == true) (fun hg1 => ?_) (fun hg1 => ?_)
 ·have h6 := ite_t hg1 hp1
  refine AOps.weak (by exact Weak.unw2 (e' := [(0, .r (.bool false)), (1, .r (.sl (r3.map GStep.row))), (2, .r (.int .i64 r4)), (3, .tup [.r (.sl (r3.map GStep.row)), .r (.int .i64 r4)]), (4, .r (.sl (r1.map GElem.row))), (5, .r (.sl (r2.map GElem.row))), (6, .tup [.r (.sl (r3.map GStep.row)), .r (.int .i64 r4)]), (7, .r (.sl (r3.map GStep.row))), (8, .r (.int .i64 r4)), (9, .r (.bool r5)), (10, .r (.bool r5)), (13, .r (.bool (r5 && (decide (r4 = 0))))), (14, .r (.bool (r5 && (decide (r4 = 0))))), (15, .r (.sl (r3.map GStep.row))), (16, .agg [.r (.int .i64 2), .r (.int .i64 1), .cst (.slice none 0 0), .cst (.slice none 0 0)]), (17, .agg [.r (.int .i64 0), .r (.int .i64 1), .cst (.slice none 0 0), .cst (.slice none 0 0)])]) hg1 ⟨.inl rfl, .inl rfl, .inl rfl, .inl rfl, .inl rfl, .inl rfl, .inl rfl, .inl rfl, .inl rfl, .inl rfl, .inl rfl, .inl rfl, .inl rfl, .inr iL, .inr iL, .inr iL, trivial⟩) ?_
  refine AOps.stepGT (.one rfl rfl rfl) hg1 rfl rfl (ms_lit 18 rfl tg_23 (f := GStep.row) (l := ([(GStep.mk 2 1 [] []), (GStep.mk 0 1 [] [])] : List GStep)) ⟨rfl, ⟨_, iL, rfl⟩, rfl, ⟨_, iL, rfl⟩, trivial⟩ rfl (fun _ => rfl) rfl) ?_
  refine ob1k h6 fun r6 er6 h7 => ?_
  refine AOps.stepGT (.one rfl rfl rfl) hg1 rfl rfl (sp_call (r := .r (.bool r6)) (caps := []) (bs := [.r (.sl (r3.map GStep.row)), .r (.sl ([(GStep.mk 2 1 [] []), (GStep.mk 0 1 [] [])].map GStep.row))]) rfl iL rfl ⟨⟨_, iL, .d rfl⟩, ⟨_, iL, .one (.own rfl)⟩, trivial⟩ (fun _ => w_ref_SameDelta (er6)) rfl) ?_
  refine sQ rfl (sp_and rfl iL iL) ?_
  refine sQ rfl (sp_assign rfl iL) ?_
  refine AOps.nil ?_
  exact wK3 _ _ ((by exact Weak.cv ⟨.inl iL, trivial⟩ trivial (Nat.le_refl _))) (J1 _ (vec [(n0 + 1)]) (Option.some.inj h7).symm)
 ·have h6 := ite_f hg1 hp1
  refine AOps.stepGF2 (.one rfl rfl rfl) hg1 rfl rfl ?_
  refine AOps.stepGF2 (.one rfl rfl rfl) hg1 rfl rfl ?_
  refine sQ rfl (sp_and rfl iL (.inr ⟨_, (by exact id), rfl⟩)) ?_
  refine sQ rfl (sp_assign rfl iL) ?_
  refine AOps.nil ?_
  exact wK3 _ _ ((by exact Weak.cv ⟨.inl iL, trivial⟩ trivial (Nat.le_refl _))) (J1 _ (vec [n0]) (Option.some.inj h6).symm)
set_option maxHeartbeats 4000000 in
set_option maxRecDepth 20000 in
theorem w_diff_Cost {d1 : List GStep} {r : Int × Int} (h : diff_Cost d1 = some r) : ARO Try.prog 10 [.r (.sl (d1.map GStep.row))] (.tup [.r (.int .i64 r.1), .r (.int .i64 r.2)]) := by
 unfold diff_Cost at h
 refine ARO.mkF Try.func10 rfl rfl Try.ntmps10 rfl (Nat.le_of_ble_eq_true rfl) fun n0 => ?_
 refine AW.seq_w fun K1 hK1 wK1 => ?_
 refine AW.region ?_
 refine sQ rfl (sp_assign rfl iL) ?_
 refine sQ rfl (sp_assign rfl iL) ?_
 refine AOps.nil ?_
 refine hK1 _ ?_
 refine AW.seq_w fun K2 hK2 wK2 => ?_
 refine AW.seq_w fun K3 hK3 wK3 => ?_
 refine AW.region ?_
 refine sQ rfl (sp_move rfl iL) ?_
 refine ob1k h fun e1 ee1 h1 => ?_
 refine AOps.step rfl rfl rfl (sp_call (r := .r (.int .i64 e1)) (caps := []) (bs := [.r (.sl (d1.map GStep.row))]) rfl iL rfl ⟨⟨_, iL, .d rfl⟩, trivial⟩ (fun _ => w_delta_Check (ee1)) rfl) ?_
 refine sQ rfl (sp_assign rfl iL) ?_
 refine AOps.nil ?_
 refine hK3 _ ?_
 refine AW.seq_w fun K4 hK4 wK4 => ?_
 refine AW.region ?_
 refine sQ rfl (sp_move rfl iL) ?_
 refine sQ rfl (sp_neq rfl iL iL) ?_
 refine AOps.nil ?_
 refine hK4 _ ?_
 refine AW.cond rfl (fun hc1 => ?_) (fun hc1 => ?_)
 ·have h2 := ite_t hc1 h1
  refine AW.seq_w fun K5 hK5 wK5 => ?_
  refine AW.region ?_
  refine sQ rfl (sp_move rfl iL) ?_
  refine sQ rfl (sp_assign rfl iL) ?_
  refine sQ rfl (sp_assign rfl iL) ?_
  refine AOps.nil ?_
  refine hK5 _ ?_
  refine AW.ret ?_
  exact retf2 (P := Try.prog) (fun (r : Int × Int) => .r (.int .i64 r.1)) (fun (r : Int × Int) => .r (.int .i64 r.2)) h2 iL (.t (.d rfl)) (.t (.d rfl))
 ·have h2 := ite_f hc1 h1
  refine AW.skip ?_
  refine hK2 _ ?_
  refine AW.seq_w fun K6 hK6 wK6 => ?_
  refine AW.region ?_
  refine sQ rfl (sp_assign rfl iL) ?_
  refine AOps.nil ?_
  refine hK6 _ ?_
  refine AW.seq_w fun K7 hK7 wK7 => ?_
  refine AW.seq_w fun K8 hK8 wK8 => ?_
  refine AW.region ?_
  refine sQ rfl (sp_move rfl iL) ?_
  refine sQ rfl (ms_len rfl tg_23.slice iL) ?_
  refine sQ rfl (sp_move rfl iL) ?_
  refine AOps.nil ?_
  refine hK8 _ ?_
  refine AW.block ?_
  refine jb1k h2 fun o1 hit1 hk1 => ?_
  have J1 : ∀ (n4 : Int) (i5 : Nat → Nat), o1 = n4 → K7 ⟨[(5, .r (.int .i64 n4))], [], (i5 0), 44⟩ := by
   intro n4 i5 e
   have h3 := hk1 _ e
   refine hK7 _ ?_
   refine AW.seq_w fun K9 hK9 wK9 => ?_
   refine AW.region ?_
   refine sQ rfl (sp_move rfl iL) ?_
   refine sQ rfl (sp_assign rfl iL) ?_
   refine sQ rfl (sp_assign rfl iL) ?_
   refine AOps.nil ?_
   refine hK9 _ ?_
   refine AW.ret ?_
   exact retf2 (P := Try.prog) (fun (r : Int × Int) => .r (.int .i64 r.1)) (fun (r : Int × Int) => .r (.int .i64 r.2)) h3 iL (.t (.d rfl)) (.t (.d rfl))
  refine AW.iter2 (fun (n2 : Int) (x2 : Int) i3 => ⟨[(5, .r (.int .i64 n2)), (13, .r (.sl (d1.map GStep.row))), (14, .r (.int .i64 (d1.length : Int))), (15, .r (.int .i64 x2))], [], (i3 0), 44⟩) (vec [n0]) hit1 ((by exact Weak.cv ⟨.inl iL, .inl iL, .inl iL, .inl iL, trivial⟩ trivial (Nat.le_refl _))) ?_
  intro n2 x2 i3 v1 hv1 hx1
  have h4 : diff_Cost_L1 d1 n2 x2 = some v1 := hv1; unfold diff_Cost_L1 at h4
  refine AW.seq_w fun K10 hK10 wK10 => ?_
  refine AW.region ?_
  refine sQ rfl (sp_lss rfl iL iL) ?_
  refine AOps.nil ?_
  refine hK10 _ ?_
  refine AW.seq_w fun K11 hK11 wK11 => ?_
  refine AW.cond rfl (fun hc2 => ?_) (fun hc2 => ?_)
  ·have h5 := ite_t hc2 h4
   refine AW.skip ?_
   refine hK11 _ ?_
   refine AW.seq_w fun K12 hK12 wK12 => ?_
   refine AW.block ?_
   refine jb1k h5 fun p1 hp1 hk2 => ?_
   have J2 : ∀ (n5 : Int) (i6 : Nat → Nat), p1 = n5 → K12 ⟨[(5, .r (.int .i64 n5)), (13, .r (.sl (d1.map GStep.row))), (14, .r (.int .i64 (d1.length : Int))), (15, .r (.int .i64 x2))], [], (i6 0), 44⟩ := by
    intro n5 i6 e
    have h6 := hk2 _ e
    refine hK12 _ ?_
    refine AW.region ?_
    refine ob1k h6 fun x4 ex4 h7 => ?_
    refine sQ rfl (ms_add rfl iL iL (fun _ => ex4)) ?_
    refine sQ rfl (sp_move rfl iL) ?_
    refine AOps.nil ?_
    exact NextQ2.mk h7 (vec [(i6 0)]) ((by exact Weak.cv ⟨.inl iL, .inl iL, .inl iL, .inl iL, trivial⟩ trivial (Nat.le_refl _)))
   refine AW.seq_w fun K13 hK13 wK13 => ?_
   refine AW.region ?_
   refine ob1k hp1 fun x5 ex5 h8 => ?_
   refine sQ rfl (ms_idx rfl tg_23.slice iL iL (fun _ => rfl) (fun _ => ex5)) ?_
   refine sQ rfl (ms_loadA (cs := [.r (.int .i64 x5.Kind), .r (.int .i64 x5.N), .r (.sl (x5.Attrs.map GAttr.row)), .r (.sl (x5.Elems.map GElem.row))]) rfl ta_31 iL rfl rfl) ?_
   refine AOps.step rfl rfl rfl (ms_alloc (cs := [.r (.int .i64 0), .r (.int .i64 0), .cst (.slice none 0 0), .cst (.slice none 0 0)]) 7 rfl t0_31 rfl rfl) ?_
   refine AOps.step0 rfl rfl (ms_store_box (ds := [.r (.int .i64 x5.Kind), .r (.int .i64 x5.N), .r (.sl (x5.Attrs.map GAttr.row)), .r (.sl (x5.Elems.map GElem.row))]) rfl tz_31 iL rfl iL rfl rfl rfl rfl) ?_
   refine AOps.nil ?_
   refine hK13 _ ?_
   refine AW.block ?_
   refine AW.seq_w fun K14 hK14 wK14 => ?_
   refine AW.region ?_
   refine sQ rfl (sp_fieldAddr_own (ob := .box _ _ _) rfl tf_31_0 iL (fun _ => rfl) rfl) ?_
   refine sQ rfl (ms_load_box (a := .r (.int .i64 x5.Kind)) rfl ts_3 iL rfl rfl) ?_
   refine sQ rfl (sp_eql rfl iL iL) ?_
   refine sQ rfl (sp_assign rfl iL) ?_
   refine AOps.nil ?_
   refine hK14 _ ?_
   refine AW.cond rfl (fun hc3 => ?_) (fun hc3 => ?_)
   ·have h9 := ite_t hc3 h8
    refine AW.region ?_
    refine sQ rfl (sp_move rfl iL) ?_
    refine sQ rfl (sp_fieldAddr_own (ob := .box _ _ _) rfl tf_31_3 iL (fun _ => rfl) rfl) ?_
    refine sQ rfl (ms_load_box (a := .r (.sl (x5.Elems.map GElem.row))) rfl ts_22 iL rfl rfl) ?_
    refine sQ rfl (ms_len rfl tg_22.slice iL) ?_
    refine ob1k h9 fun n6 en6 h10 => ?_
    refine sQ rfl (ms_add rfl iL iL (fun _ => en6)) ?_
    refine sQ rfl (sp_assign rfl iL) ?_
    refine AOps.nil ?_
    exact wK12 _ _ ((by exact Weak.cv ⟨.inl iL, .inl iL, .inl iL, .inl iL, trivial⟩ trivial (Nat.le_refl _))) (J2 _ (vec [((i3 0) + 1)]) (Option.some.inj h10).symm)
   ·have h9 := ite_f hc3 h8
    refine AW.seq_w fun K15 hK15 wK15 => ?_
    refine AW.region ?_
    refine sQ rfl (sp_fieldAddr_own (ob := .box _ _ _) rfl tf_31_0 iL (fun _ => rfl) rfl) ?_
    refine sQ rfl (ms_load_box (a := .r (.int .i64 x5.Kind)) rfl ts_3 iL rfl rfl) ?_
    refine sQ rfl (sp_eql rfl iL iL) ?_
    refine sQ rfl (sp_move rfl iL) ?_
    refine sW (.one rfl rfl rfl) rfl (sp_fieldAddr_own (ob := .box _ _ _) rfl tf_31_2 iL (fun _ => rfl) rfl) ?_
    refine sW (.one rfl rfl rfl) rfl (ms_load_box (a := .r (.sl (x5.Attrs.map GAttr.row))) rfl ts_29 (.inr ⟨_, (by exact id), rfl⟩) rfl rfl) ?_
    refine sW (.one rfl rfl rfl) rfl (ms_len rfl tg_29.slice (.inr ⟨_, (by exact id), rfl⟩)) ?_
    refine sW (.one rfl rfl rfl) rfl (sp_gtr rfl (.inr ⟨_, (by exact id), rfl⟩) iL) ?_
    refine sQ rfl (sp_or rfl iL (.inr ⟨_, (by exact id), rfl⟩)) ?_
    refine sQ rfl (sp_assign rfl iL) ?_
    refine AOps.nil ?_
    refine hK15 _ ?_
    refine AW.cond rfl (fun hc4 => ?_) (fun hc4 => ?_)
    ·have h11 := ite_t hc4 h9
     refine AW.weak (s' := ⟨[(5, .r (.int .i64 n2)), (7, .ptr 7 (i3 0) 0 0), (13, .r (.sl (d1.map GStep.row))), (14, .r (.int .i64 (d1.length : Int))), (15, .r (.int .i64 x2))], [(7, some (.box (i3 0) 31 [.r (.int .i64 x5.Kind), .r (.int .i64 x5.N), .r (.sl (x5.Attrs.map GAttr.row)), .r (.sl (x5.Elems.map GElem.row))]))], ((i3 0) + 1), 44⟩) (by exact Weak.cv ⟨.inl iL, .inl iL, .inl iL, .inl iL, .inl iL, trivial⟩ ⟨.inl rfl, trivial⟩ (Nat.le_refl _)) ?_
     refine AW.region ?_
     refine sQ rfl (sp_move rfl iL) ?_
     refine sQ rfl (sp_fieldAddr_own (ob := .box _ _ _) rfl tf_31_1 iL (fun _ => rfl) rfl) ?_
     refine sQ rfl (ms_load_box (a := .r (.int .i64 x5.N)) rfl ts_3 iL rfl rfl) ?_
     refine ob1k h11 fun n7 en7 h12 => ?_
     refine sQ rfl (ms_add rfl iL iL (fun _ => en7)) ?_
     refine sQ rfl (sp_assign rfl iL) ?_
     refine AOps.nil ?_
     exact wK12 _ _ ((by exact Weak.cv ⟨.inl iL, .inl iL, .inl iL, .inl iL, trivial⟩ trivial (Nat.le_refl _))) (J2 _ (vec [((i3 0) + 1)]) (Option.some.inj h12).symm)
    ·have h11 := ite_f hc4 h9
     refine AW.skip ?_
     exact wK12 _ _ ((by exact Weak.cv ⟨.inl iL, .inl iL, .inl iL, .inl iL, trivial⟩ trivial (Nat.le_refl _))) (J2 _ (vec [((i3 0) + 1)]) (Option.some.inj h11).symm)
  ·have h5 := ite_f hc2 h4
   refine AW.exit ?_
   exact wK7 _ _ ((by exact Weak.cv ⟨.inl iL, trivial⟩ trivial (Nat.le_refl _))) (J1 _ (vec [(i3 0)]) (hx1 _ (Option.some.inj h5).symm))
set_option maxHeartbeats 4000000 in
set_option maxRecDepth 20000 in
theorem w_ref_In {x1 : Int} {low1 : Int} {high1 : Int} {r : Bool} (h : ref_In x1 low1 high1 = some r) : ARO Try.prog 56 [.r (.int .i64 x1), .r (.int .i64 low1), .r (.int .i64 high1)] (.r (.bool r)) := by
 unfold ref_In at h
 refine ARO.mkF Try.func56 rfl rfl Try.ntmps56 rfl (Nat.le_of_ble_eq_true rfl) fun n0 => ?_
 refine AW.seq_w fun K1 hK1 wK1 => ?_
 refine AW.region ?_
 refine sQ rfl (sp_assign rfl iL) ?_
 refine AOps.nil ?_
 refine hK1 _ ?_
 refine AW.seq_w fun K2 hK2 wK2 => ?_
 refine AW.region ?_
 refine sQ rfl (sp_move rfl iL) ?_
 refine sQ rfl (sp_move rfl iL) ?_
 refine sQ rfl (sp_geq rfl iL iL) ?_
 refine sQ rfl (sp_move rfl iL) ?_
 refine sW (.one rfl rfl rfl) rfl (sp_move rfl iL) ?_
 refine sW (.one rfl rfl rfl) rfl (sp_move rfl iL) ?_
 refine sW (.one rfl rfl rfl) rfl (sp_leq rfl (.inr ⟨_, (by exact id), rfl⟩) (.inr ⟨_, (by exact id), rfl⟩)) ?_
 refine sQ rfl (sp_and rfl iL (.inr ⟨_, (by exact id), rfl⟩)) ?_
 refine sQ rfl (sp_assign rfl iL) ?_
 refine AOps.nil ?_
 refine hK2 _ ?_
 refine AW.ret ?_
 exact retf1 (P := Try.prog) (fun (r : Bool) => .r (.bool r)) h iL (.t (.d rfl))
set_option maxHeartbeats 4000000 in
set_option maxRecDepth 20000 in
theorem w_ref_Char {c1 : Int} {r : Bool} (h : ref_Char c1 = some r) : ARO Try.prog 79 [.r (.int .i64 c1)] (.r (.bool r)) := by
 unfold ref_Char at h
 refine ARO.mkF Try.func79 rfl rfl Try.ntmps79 rfl (Nat.le_of_ble_eq_true rfl) fun n0 => ?_
 refine AW.seq_w fun K1 hK1 wK1 => ?_
 refine AW.region ?_
 refine sQ rfl (sp_assign rfl iL) ?_
 refine AOps.nil ?_
 refine hK1 _ ?_
 refine AW.seq_w fun K2 hK2 wK2 => ?_
 refine AW.region ?_
 refine sQ rfl (sp_move rfl iL) ?_
 refine sQ rfl (sp_eql rfl iL iL) ?_
 refine sQ rfl (sp_move rfl iL) ?_
 refine sW (.one rfl rfl rfl) rfl (sp_move rfl iL) ?_
 refine sW (.one rfl rfl rfl) rfl (sp_eql rfl (.inr ⟨_, (by exact id), rfl⟩) iL) ?_
 refine sQ rfl (sp_or rfl iL (.inr ⟨_, (by exact id), rfl⟩)) ?_
 refine sQ rfl (sp_move rfl iL) ?_
 refine sW (.one rfl rfl rfl) rfl (sp_move rfl iL) ?_
 refine ob1k h fun r1 er1 h1 => ?_
 refine AOps.stepW (.one rfl rfl rfl) rfl rfl (sp_call (r := .r (.bool r1)) (caps := []) (bs := [.r (.int .i64 c1), .r (.int .i64 32), .r (.int .i64 126)]) rfl iL rfl ⟨⟨_, (.inr ⟨_, (by exact id), rfl⟩), .d rfl⟩, ⟨_, iL, .d rfl⟩, ⟨_, iL, .d rfl⟩, trivial⟩ (fun hg => w_ref_In (gdt er1 hg)) rfl) ?_
 refine sQ rfl (sp_or rfl iL (.inr ⟨_, (by exact id), rfl⟩)) ?_
 refine sQ rfl (sp_move rfl iL) ?_
 refine sW (.one rfl rfl rfl) rfl (sp_move rfl iL) ?_
 refine ob1k h1 fun r2 er2 h2 => ?_
 refine AOps.stepW (.one rfl rfl rfl) rfl rfl (sp_call (r := .r (.bool r2)) (caps := []) (bs := [.r (.int .i64 c1), .r (.int .i64 160), .r (.int .i64 55295)]) rfl iL rfl ⟨⟨_, (.inr ⟨_, (by exact id), rfl⟩), .d rfl⟩, ⟨_, iL, .d rfl⟩, ⟨_, iL, .d rfl⟩, trivial⟩ (fun hg => w_ref_In (gdt er2 hg)) rfl) ?_
 refine sQ rfl (sp_or rfl iL (.inr ⟨_, (by exact id), rfl⟩)) ?_
 refine sQ rfl (sp_move rfl iL) ?_
 refine sW (.one rfl rfl rfl) rfl (sp_move rfl iL) ?_
 refine ob1k h2 fun r3 er3 h3 => ?_
 refine AOps.stepW (.one rfl rfl rfl) rfl rfl (sp_call (r := .r (.bool r3)) (caps := []) (bs := [.r (.int .i64 c1), .r (.int .i64 57344), .r (.int .i64 1114111)]) rfl iL rfl ⟨⟨_, (.inr ⟨_, (by exact id), rfl⟩), .d rfl⟩, ⟨_, iL, .d rfl⟩, ⟨_, iL, .d rfl⟩, trivial⟩ (fun hg => w_ref_In (gdt er3 hg)) rfl) ?_
 refine sQ rfl (sp_or rfl iL (.inr ⟨_, (by exact id), rfl⟩)) ?_
 refine sQ rfl (sp_assign rfl iL) ?_
 refine AOps.nil ?_
 refine hK2 _ ?_
 refine AW.ret ?_
 exact retf1 (P := Try.prog) (fun (r : Bool) => .r (.bool r)) h3 iL (.t (.d rfl))
set_option maxHeartbeats 4000000 in
set_option maxRecDepth 20000 in
theorem w_ref_Name {s1 : List UInt8} {r : Bool} (h : ref_Name s1 = some r) : ARO Try.prog 57 [.r (.str s1)] (.r (.bool r)) := by
 unfold ref_Name at h
 refine ARO.mkF Try.func57 rfl rfl Try.ntmps57 rfl (Nat.le_of_ble_eq_true rfl) fun n0 => ?_
 refine AW.seq_w fun K1 hK1 wK1 => ?_
 refine AW.region ?_
 refine sQ rfl (sp_assign rfl iL) ?_
 refine AOps.nil ?_
 refine hK1 _ ?_
 refine AW.seq_w fun K2 hK2 wK2 => ?_
 refine AW.seq_w fun K3 hK3 wK3 => ?_
 refine AW.region ?_
 refine sQ rfl (sp_move rfl iL) ?_
 refine sQ rfl (sp_len_str rfl Try.underlying9 iL) ?_
 refine sQ rfl (sp_move rfl iL) ?_
 refine AOps.nil ?_
 refine hK3 _ ?_
 refine AW.block ?_
 refine jc1k h fun o1 hit1 hk1 he1 => ?_
 have J1 : ∀ (u2 : Unit) (i5 : Nat → Nat), o1 = .nrm u2 → K2 ⟨[(0, .r (.str s1))], [], (i5 0), 59⟩ := by
  intro u2 i5 e
  have h1 := hk1 _ e
  refine hK2 _ ?_
  refine AW.seq_w fun K4 hK4 wK4 => ?_
  refine AW.region ?_
  refine sQ rfl (sp_move rfl iL) ?_
  refine sQ rfl (sp_len_str rfl Try.underlying9 iL) ?_
  refine sQ rfl (sp_geq rfl iL iL) ?_
  refine sQ rfl (sp_move rfl iL) ?_
  refine sW (.one rfl rfl rfl) rfl (sp_move rfl iL) ?_
  refine sW (.one rfl rfl rfl) rfl (sp_len_str rfl Try.underlying9 (.inr ⟨_, (by exact id), rfl⟩)) ?_
  refine sW (.one rfl rfl rfl) rfl (sp_leq rfl (.inr ⟨_, (by exact id), rfl⟩) iL) ?_
  refine sQ rfl (sp_and rfl iL (.inr ⟨_, (by exact id), rfl⟩)) ?_
  refine sQ rfl (sp_assign rfl iL) ?_
  refine AOps.nil ?_
  refine hK4 _ ?_
  refine AW.ret ?_
  exact retf1 (P := Try.prog) (fun (r : Bool) => .r (.bool r)) h1 iL (.t (.d rfl))
 refine AW.iter1 (fun (x2 : Int) i3 => ⟨[(0, .r (.str s1)), (6, .r (.int .i64 (s1.length : Int))), (7, .r (.int .i64 x2))], [], (i3 0), 59⟩) (vec [n0]) hit1 ((by exact Weak.cv ⟨.inl iL, .inl iL, .inl iL, trivial⟩ trivial (Nat.le_refl _))) ?_
 intro x2 i3 v1 hv1 hx1
 have h2 : ref_Name_L1 s1 x2 = some v1 := hv1; unfold ref_Name_L1 at h2
 refine AW.seq_w fun K5 hK5 wK5 => ?_
 refine AW.region ?_
 refine sQ rfl (sp_lss rfl iL iL) ?_
 refine AOps.nil ?_
 refine hK5 _ ?_
 refine AW.seq_w fun K6 hK6 wK6 => ?_
 refine AW.cond rfl (fun hc1 => ?_) (fun hc1 => ?_)
 ·have h3 := ite_t hc1 h2
  refine AW.skip ?_
  refine hK6 _ ?_
  refine AW.seq_w fun K7 hK7 wK7 => ?_
  refine AW.block ?_
  refine AW.seq_w fun K8 hK8 wK8 => ?_
  refine AW.region ?_
  refine sQ rfl (sp_move rfl iL) ?_
  refine sQ rfl (sp_assign rfl iL) ?_
  refine AOps.nil ?_
  refine hK8 _ ?_
  refine AW.seq_w fun K9 hK9 wK9 => ?_
  refine AW.region ?_
  refine sQ rfl (sp_move rfl iL) ?_
  refine sQ rfl (sp_move rfl iL) ?_
  refine ob1k h3 fun ch1 ech1 h4 => ?_
  refine sQ rfl (ms_idx_str rfl Try.underlying9 iL iL (fun _ => ech1)) ?_
  refine sQ rfl (sp_geq rfl iL iL) ?_
  refine sQ rfl (sp_move rfl iL) ?_
  refine sW (.one rfl rfl rfl) rfl (sp_move rfl iL) ?_
  refine sW (.one rfl rfl rfl) rfl (sp_move rfl iL) ?_
  refine sW (.one rfl rfl rfl) rfl (ms_idx_str rfl Try.underlying9 (.inr ⟨_, (by exact id), rfl⟩) (.inr ⟨_, (by exact id), rfl⟩) (fun _ => ech1)) ?_
  refine sW (.one rfl rfl rfl) rfl (sp_leq rfl (.inr ⟨_, (by exact id), rfl⟩) iL) ?_
  refine sQ rfl (sp_and rfl iL (.inr ⟨_, (by exact id), rfl⟩)) ?_
  refine sQ rfl (sp_assign rfl iL) ?_
  refine AOps.nil ?_
  refine hK9 _ ?_
  refine AW.seq_w fun K10 hK10 wK10 => ?_
  refine AW.region ?_
  refine sQ rfl (sp_move rfl iL) ?_
  refine sQ rfl (sp_not rfl iL) ?_
  refine sQ rfl (sp_move rfl iL) ?_
  refine sW (.one rfl rfl rfl) rfl (sp_move rfl iL) ?_
  refine sW (.one rfl rfl rfl) rfl (sp_eql rfl (.inr ⟨_, (by exact id), rfl⟩) iL) ?_
  refine sW (.one rfl rfl rfl) rfl (sp_move rfl (.inr ⟨_, (by exact id), rfl⟩)) ?_
  refine sW (.two rfl rfl rfl) rfl (sp_move rfl iL) ?_
  refine sW (.two rfl rfl rfl) rfl (sp_move rfl iL) ?_
  refine sW (.two rfl rfl rfl) rfl (ms_idx_str rfl Try.underlying9 (.inr ⟨_, (by exact id), rfl⟩) (.inr ⟨_, (by exact id), rfl⟩) (fun _ => ech1)) ?_
  refine sW (.two rfl rfl rfl) rfl (sp_neq rfl (.inr ⟨_, (by exact id), rfl⟩) iL) ?_
  refine sW (.two rfl rfl rfl) rfl (sp_move rfl (.inr ⟨_, (by exact id), rfl⟩)) ?_
  refine sW (.two rfl rfl rfl) rfl (sp_move rfl iL) ?_
  refine sW (.two rfl rfl rfl) rfl (sp_move rfl iL) ?_
  refine sW (.two rfl rfl rfl) rfl (ms_idx_str rfl Try.underlying9 (.inr ⟨_, (by exact id), rfl⟩) (.inr ⟨_, (by exact id), rfl⟩) (fun _ => ech1)) ?_
  refine sW (.two rfl rfl rfl) rfl (sp_neq rfl (.inr ⟨_, (by exact id), rfl⟩) iL) ?_
  refine sW (.two rfl rfl rfl) rfl (sp_and rfl (.inr ⟨_, (by exact id), rfl⟩) (.inr ⟨_, (by exact id), rfl⟩)) ?_
  refine sW (.two rfl rfl rfl) rfl (sp_move rfl (.inr ⟨_, (by exact id), rfl⟩)) ?_
  refine sW (.two rfl rfl rfl) rfl (sp_move rfl iL) ?_
  refine sW (.two rfl rfl rfl) rfl (sp_move rfl iL) ?_
  refine sW (.two rfl rfl rfl) rfl (ms_idx_str rfl Try.underlying9 (.inr ⟨_, (by exact id), rfl⟩) (.inr ⟨_, (by exact id), rfl⟩) (fun _ => ech1)) ?_
  refine sW (.two rfl rfl rfl) rfl (sp_lss rfl (.inr ⟨_, (by exact id), rfl⟩) iL) ?_
  refine sW (.two rfl rfl rfl) rfl (sp_move rfl (.inr ⟨_, (by exact id), rfl⟩)) ?_
  refine sW (.two rfl rfl rfl) rfl (sp_move rfl iL) ?_
  refine sW (.two rfl rfl rfl) rfl (sp_move rfl iL) ?_
  refine sW (.two rfl rfl rfl) rfl (ms_idx_str rfl Try.underlying9 (.inr ⟨_, (by exact id), rfl⟩) (.inr ⟨_, (by exact id), rfl⟩) (fun _ => ech1)) ?_
  refine sW (.two rfl rfl rfl) rfl (sp_gtr rfl (.inr ⟨_, (by exact id), rfl⟩) iL) ?_
  refine sW (.two rfl rfl rfl) rfl (sp_or rfl (.inr ⟨_, (by exact id), rfl⟩) (.inr ⟨_, (by exact id), rfl⟩)) ?_
  refine sW (.two rfl rfl rfl) rfl (sp_and rfl (.inr ⟨_, (by exact id), rfl⟩) (.inr ⟨_, (by exact id), rfl⟩)) ?_
  refine sW (.one rfl rfl rfl) rfl (sp_or rfl (.inr ⟨_, (by exact id), rfl⟩) (.inr ⟨_, (by exact id), rfl⟩)) ?_
  refine sQ rfl (sp_and rfl iL (.inr ⟨_, (by exact id), rfl⟩)) ?_
  refine AOps.nil ?_
  refine hK10 _ ?_
  refine AW.cond rfl (fun hc2 => ?_) (fun hc2 => ?_)
  ·have h5 := ite_t hc2 h4
   refine AW.seq_w fun K11 hK11 wK11 => ?_
   refine AW.weak (s' := ⟨[], [], (i3 0), 59⟩) (by exact Weak.cv trivial trivial (Nat.le_refl _)) ?_
   refine AW.region ?_
   refine sQ rfl (sp_assign rfl iL) ?_
   refine AOps.nil ?_
   refine hK11 _ ?_
   refine AW.ret ?_
   exact retf1 (P := Try.prog) (fun (r : Bool) => .r (.bool r)) (he1 _ (hx1 _ (Option.some.inj h5).symm)) iL (.t (.d rfl))
  ·have h5 := ite_f hc2 h4
   refine AW.skip ?_
   refine hK7 _ ?_
   refine AW.weak (s' := ⟨[(0, .r (.str s1)), (6, .r (.int .i64 (s1.length : Int))), (7, .r (.int .i64 x2))], [], (i3 0), 59⟩) (by exact Weak.cv ⟨.inl iL, .inl iL, .inl iL, trivial⟩ trivial (Nat.le_refl _)) ?_
   refine AW.region ?_
   refine ob1k h5 fun x4 ex4 h6 => ?_
   refine sQ rfl (ms_add rfl iL iL (fun _ => ex4)) ?_
   refine sQ rfl (sp_move rfl iL) ?_
   refine AOps.nil ?_
   exact NextQ1.mk h6 (vec [(i3 0)]) ((by exact Weak.cv ⟨.inl iL, .inl iL, .inl iL, trivial⟩ trivial (Nat.le_refl _)))
 ·have h3 := ite_f hc1 h2
  refine AW.exit ?_
  exact wK2 _ _ ((by exact Weak.cv ⟨.inl iL, trivial⟩ trivial (Nat.le_refl _))) (J1 _ (vec [(i3 0)]) (hx1 _ (Option.some.inj h3).symm))
set_option maxHeartbeats 4000000 in
set_option maxRecDepth 20000 in
theorem w_ref_Value {s1 : List UInt8} {r : Bool} (h : ref_Value s1 = some r) : ARO Try.prog 58 [.r (.str s1)] (.r (.bool r)) := by
 unfold ref_Value at h
 refine ARO.mkF Try.func58 rfl rfl Try.ntmps58 rfl (Nat.le_of_ble_eq_true rfl) fun n0 => ?_
 refine AW.seq_w fun K1 hK1 wK1 => ?_
 refine AW.region ?_
 refine sQ rfl (sp_assign rfl iL) ?_
 refine AOps.nil ?_
 refine hK1 _ ?_
 refine AW.seq_w fun K2 hK2 wK2 => ?_
 refine AW.seq_w fun K3 hK3 wK3 => ?_
 refine AW.region ?_
 refine sQ rfl (sp_move rfl iL) ?_
 refine sQ rfl (sp_len_str rfl Try.underlying9 iL) ?_
 refine sQ rfl (sp_move rfl iL) ?_
 refine AOps.nil ?_
 refine hK3 _ ?_
 refine AW.block ?_
 refine jc1k h fun o1 hit1 hk1 he1 => ?_
 have J1 : ∀ (u2 : Unit) (i5 : Nat → Nat), o1 = .nrm u2 → K2 ⟨[(0, .r (.str s1))], [], (i5 0), 28⟩ := by
  intro u2 i5 e
  have h1 := hk1 _ e
  refine hK2 _ ?_
  refine AW.seq_w fun K4 hK4 wK4 => ?_
  refine AW.region ?_
  refine sQ rfl (sp_move rfl iL) ?_
  refine sQ rfl (sp_len_str rfl Try.underlying9 iL) ?_
  refine sQ rfl (sp_geq rfl iL iL) ?_
  refine sQ rfl (sp_move rfl iL) ?_
  refine sW (.one rfl rfl rfl) rfl (sp_move rfl iL) ?_
  refine sW (.one rfl rfl rfl) rfl (sp_len_str rfl Try.underlying9 (.inr ⟨_, (by exact id), rfl⟩)) ?_
  refine sW (.one rfl rfl rfl) rfl (sp_leq rfl (.inr ⟨_, (by exact id), rfl⟩) iL) ?_
  refine sQ rfl (sp_and rfl iL (.inr ⟨_, (by exact id), rfl⟩)) ?_
  refine sQ rfl (sp_assign rfl iL) ?_
  refine AOps.nil ?_
  refine hK4 _ ?_
  refine AW.ret ?_
  exact retf1 (P := Try.prog) (fun (r : Bool) => .r (.bool r)) h1 iL (.t (.d rfl))
 refine AW.iter1 (fun (x2 : Int) i3 => ⟨[(0, .r (.str s1)), (5, .r (.int .i64 (s1.length : Int))), (6, .r (.int .i64 x2))], [], (i3 0), 28⟩) (vec [n0]) hit1 ((by exact Weak.cv ⟨.inl iL, .inl iL, .inl iL, trivial⟩ trivial (Nat.le_refl _))) ?_
 intro x2 i3 v1 hv1 hx1
 have h2 : ref_Value_L1 s1 x2 = some v1 := hv1; unfold ref_Value_L1 at h2
 refine AW.seq_w fun K5 hK5 wK5 => ?_
 refine AW.region ?_
 refine sQ rfl (sp_lss rfl iL iL) ?_
 refine AOps.nil ?_
 refine hK5 _ ?_
 refine AW.seq_w fun K6 hK6 wK6 => ?_
 refine AW.cond rfl (fun hc1 => ?_) (fun hc1 => ?_)
 ·have h3 := ite_t hc1 h2
  refine AW.skip ?_
  refine hK6 _ ?_
  refine AW.seq_w fun K7 hK7 wK7 => ?_
  refine AW.block ?_
  refine AW.seq_w fun K8 hK8 wK8 => ?_
  refine AW.region ?_
  refine sQ rfl (sp_move rfl iL) ?_
  refine sQ rfl (sp_assign rfl iL) ?_
  refine AOps.nil ?_
  refine hK8 _ ?_
  refine AW.seq_w fun K9 hK9 wK9 => ?_
  refine AW.region ?_
  refine sQ rfl (sp_move rfl iL) ?_
  refine sQ rfl (sp_move rfl iL) ?_
  refine ob1k h3 fun ch1 ech1 h4 => ?_
  refine sQ rfl (ms_idx_str rfl Try.underlying9 iL iL (fun _ => ech1)) ?_
  refine sQ rfl (sp_lss rfl iL iL) ?_
  refine sQ rfl (sp_move rfl iL) ?_
  refine sW (.one rfl rfl rfl) rfl (sp_move rfl iL) ?_
  refine sW (.one rfl rfl rfl) rfl (sp_move rfl iL) ?_
  refine sW (.one rfl rfl rfl) rfl (ms_idx_str rfl Try.underlying9 (.inr ⟨_, (by exact id), rfl⟩) (.inr ⟨_, (by exact id), rfl⟩) (fun _ => ech1)) ?_
  refine sW (.one rfl rfl rfl) rfl (sp_gtr rfl (.inr ⟨_, (by exact id), rfl⟩) iL) ?_
  refine sQ rfl (sp_or rfl iL (.inr ⟨_, (by exact id), rfl⟩)) ?_
  refine AOps.nil ?_
  refine hK9 _ ?_
  refine AW.cond rfl (fun hc2 => ?_) (fun hc2 => ?_)
  ·have h5 := ite_t hc2 h4
   refine AW.seq_w fun K10 hK10 wK10 => ?_
   refine AW.weak (s' := ⟨[], [], (i3 0), 28⟩) (by exact Weak.cv trivial trivial (Nat.le_refl _)) ?_
   refine AW.region ?_
   refine sQ rfl (sp_assign rfl iL) ?_
   refine AOps.nil ?_
   refine hK10 _ ?_
   refine AW.ret ?_
   exact retf1 (P := Try.prog) (fun (r : Bool) => .r (.bool r)) (he1 _ (hx1 _ (Option.some.inj h5).symm)) iL (.t (.d rfl))
  ·have h5 := ite_f hc2 h4
   refine AW.skip ?_
   refine hK7 _ ?_
   refine AW.weak (s' := ⟨[(0, .r (.str s1)), (5, .r (.int .i64 (s1.length : Int))), (6, .r (.int .i64 x2))], [], (i3 0), 28⟩) (by exact Weak.cv ⟨.inl iL, .inl iL, .inl iL, trivial⟩ trivial (Nat.le_refl _)) ?_
   refine AW.region ?_
   refine ob1k h5 fun x4 ex4 h6 => ?_
   refine sQ rfl (ms_add rfl iL iL (fun _ => ex4)) ?_
   refine sQ rfl (sp_move rfl iL) ?_
   refine AOps.nil ?_
   exact NextQ1.mk h6 (vec [(i3 0)]) ((by exact Weak.cv ⟨.inl iL, .inl iL, .inl iL, trivial⟩ trivial (Nat.le_refl _)))
 ·have h3 := ite_f hc1 h2
  refine AW.exit ?_
  exact wK2 _ _ ((by exact Weak.cv ⟨.inl iL, trivial⟩ trivial (Nat.le_refl _))) (J1 _ (vec [(i3 0)]) (hx1 _ (Option.some.inj h3).symm))
set_option maxHeartbeats 4000000 in
set_option maxRecDepth 20000 in
theorem w_ref_AttrsError {l1 : List GAttr} {change1 : Bool} {r : Int} (h : ref_AttrsError l1 change1 = some r) : ARO Try.prog 72 [.r (.sl (l1.map GAttr.row)), .r (.bool change1)] (.r (.int .i64 r)) := by
 unfold ref_AttrsError at h
 refine ARO.mkF Try.func72 rfl rfl Try.ntmps72 rfl (Nat.le_of_ble_eq_true rfl) fun n0 => ?_
 refine AW.seq_w fun K1 hK1 wK1 => ?_
 refine AW.region ?_
 refine sQ rfl (sp_assign rfl iL) ?_
 refine AOps.nil ?_
 refine hK1 _ ?_
 refine AW.seq_w fun K2 hK2 wK2 => ?_
 refine AW.seq_w fun K3 hK3 wK3 => ?_
 refine AW.region ?_
 refine sQ rfl (sp_move rfl iL) ?_
 refine sQ rfl (ms_len rfl tg_29.slice iL) ?_
 refine sQ rfl (sp_move rfl iL) ?_
 refine AOps.nil ?_
 refine hK3 _ ?_
 refine AW.block ?_
 refine jc1k h fun o1 hit1 hk1 he1 => ?_
 have J1 : ∀ (u2 : Unit) (i5 : Nat → Nat), o1 = .nrm u2 → K2 ⟨[], [], (i5 0), 54⟩ := by
  intro u2 i5 e
  have h1 := hk1 _ e
  refine hK2 _ ?_
  refine AW.seq_w fun K4 hK4 wK4 => ?_
  refine AW.region ?_
  refine sQ rfl (sp_assign rfl iL) ?_
  refine AOps.nil ?_
  refine hK4 _ ?_
  refine AW.ret ?_
  exact retf1 (P := Try.prog) (fun (r : Int) => .r (.int .i64 r)) h1 iL (.t (.d rfl))
 refine AW.iter1 (fun (x2 : Int) i3 => ⟨[(0, .r (.sl (l1.map GAttr.row))), (1, .r (.bool change1)), (7, .r (.int .i64 (l1.length : Int))), (8, .r (.int .i64 x2))], [], (i3 0), 54⟩) (vec [n0]) hit1 ((by exact Weak.cv ⟨.inl iL, .inl iL, .inl iL, .inl iL, trivial⟩ trivial (Nat.le_refl _))) ?_
 intro x2 i3 v1 hv1 hx1
 have h2 : ref_AttrsError_L1 l1 change1 x2 = some v1 := hv1; unfold ref_AttrsError_L1 at h2
 refine AW.seq_w fun K5 hK5 wK5 => ?_
 refine AW.region ?_
 refine sQ rfl (sp_lss rfl iL iL) ?_
 refine AOps.nil ?_
 refine hK5 _ ?_
 refine AW.seq_w fun K6 hK6 wK6 => ?_
 refine AW.cond rfl (fun hc1 => ?_) (fun hc1 => ?_)
 ·have h3 := ite_t hc1 h2
  refine AW.skip ?_
  refine hK6 _ ?_
  refine AW.seq_w fun K7 hK7 wK7 => ?_
  refine AW.block ?_
  refine AW.seq_w fun K8 hK8 wK8 => ?_
  refine AW.region ?_
  refine sQ rfl (sp_move rfl iL) ?_
  refine sQ rfl (sp_assign rfl iL) ?_
  refine AOps.nil ?_
  refine hK8 _ ?_
  refine AW.seq_w fun K9 hK9 wK9 => ?_
  refine AW.seq_w fun K10 hK10 wK10 => ?_
  refine AW.region ?_
  refine sQ rfl (sp_move rfl iL) ?_
  refine sQ rfl (sp_move rfl iL) ?_
  refine ob1k h3 fun x4 ex4 h4 => ?_
  refine sQ rfl (ms_idx rfl tg_29.slice iL iL (fun _ => rfl) (fun _ => ex4)) ?_
  refine sQ rfl (sp_fieldAddr_ro rfl tf_92_0 iL) ?_
  refine sQ rfl (ms_load (d := .str x4.Name) rfl ts_9 iL rfl) ?_
  refine ob1k h4 fun r1 er1 h5 => ?_
  refine AOps.step rfl rfl rfl (sp_call (r := .r (.bool r1)) (caps := []) (bs := [.r (.str x4.Name)]) rfl iL rfl ⟨⟨_, iL, .d rfl⟩, trivial⟩ (fun _ => w_ref_Name (er1)) rfl) ?_
  refine sQ rfl (sp_not rfl iL) ?_
  refine AOps.nil ?_
  refine hK10 _ ?_
  refine AW.cond rfl (fun hc2 => ?_) (fun hc2 => ?_)
  ·have h6 := ite_t hc2 h5
   refine AW.seq_w fun K11 hK11 wK11 => ?_
   refine AW.weak (s' := ⟨[], [], (i3 0), 54⟩) (by exact Weak.cv trivial trivial (Nat.le_refl _)) ?_
   refine AW.region ?_
   refine sQ rfl (sp_assign rfl iL) ?_
   refine AOps.nil ?_
   refine hK11 _ ?_
   refine AW.ret ?_
   exact retf1 (P := Try.prog) (fun (r : Int) => .r (.int .i64 r)) (he1 _ (hx1 _ (Option.some.inj h6).symm)) iL (.t (.d rfl))
  ·have h6 := ite_f hc2 h5
   refine AW.skip ?_
   refine hK9 _ ?_
   refine AW.seq_w fun K12 hK12 wK12 => ?_
   refine AW.seq_w fun K13 hK13 wK13 => ?_
   refine AW.weak (s' := ⟨[(0, .r (.sl (l1.map GAttr.row))), (1, .r (.bool change1)), (5, .r (.int .i64 x2)), (7, .r (.int .i64 (l1.length : Int))), (8, .r (.int .i64 x2))], [], (i3 0), 54⟩) (by exact Weak.cv ⟨.inl iL, .inl iL, .inl iL, .inl iL, .inl iL, trivial⟩ trivial (Nat.le_refl _)) ?_
   refine AW.region ?_
   refine sQ rfl (sp_move rfl iL) ?_
   refine sQ rfl (sp_move rfl iL) ?_
   refine sQ rfl (ms_idx rfl tg_29.slice iL iL (fun _ => rfl) (fun _ => ex4)) ?_
   refine sQ rfl (sp_fieldAddr_ro rfl tf_92_1 iL) ?_
   refine sQ rfl (ms_load (d := .str x4.Value) rfl ts_9 iL rfl) ?_
   refine ob1k h6 fun r2 er2 h7 => ?_
   refine AOps.step rfl rfl rfl (sp_call (r := .r (.bool r2)) (caps := []) (bs := [.r (.str x4.Value)]) rfl iL rfl ⟨⟨_, iL, .d rfl⟩, trivial⟩ (fun _ => w_ref_Value (er2)) rfl) ?_
   refine sQ rfl (sp_not rfl iL) ?_
   refine sQ rfl (sp_move rfl iL) ?_
   refine sW (.one rfl rfl rfl) rfl (sp_move rfl iL) ?_
   refine sW (.one rfl rfl rfl) rfl (sp_move rfl iL) ?_
   refine sW (.one rfl rfl rfl) rfl (ms_idx rfl tg_29.slice (.inr ⟨_, (by exact id), rfl⟩) (.inr ⟨_, (by exact id), rfl⟩) (fun _ => rfl) (fun _ => ex4)) ?_
   refine sW (.one rfl rfl rfl) rfl (sp_fieldAddr_ro rfl tf_92_1 (.inr ⟨_, (by exact id), rfl⟩)) ?_
   refine sW (.one rfl rfl rfl) rfl (ms_load (d := .str x4.Value) rfl ts_9 (.inr ⟨_, (by exact id), rfl⟩) rfl) ?_
   refine sW (.one rfl rfl rfl) rfl (sp_sneq rfl (.inr ⟨_, (by exact id), rfl⟩) iL) ?_
   refine sW (.one rfl rfl rfl) rfl (sp_move rfl (.inr ⟨_, (by exact id), rfl⟩)) ?_
   refine sW (.two rfl rfl rfl) rfl (sp_move rfl iL) ?_
   refine sW (.two rfl rfl rfl) rfl (sp_not rfl (.inr ⟨_, (by exact id), rfl⟩)) ?_
   refine sW (.one rfl rfl rfl) rfl (sp_or rfl (.inr ⟨_, (by exact id), rfl⟩) (.inr ⟨_, (by exact id), rfl⟩)) ?_
   refine sQ rfl (sp_and rfl iL (.inr ⟨_, (by exact id), rfl⟩)) ?_
   refine AOps.nil ?_
   refine hK13 _ ?_
   refine AW.cond rfl (fun hc3 => ?_) (fun hc3 => ?_)
   ·have h8 := ite_t hc3 h7
    refine AW.seq_w fun K14 hK14 wK14 => ?_
    refine AW.weak (s' := ⟨[], [], (i3 0), 54⟩) (by exact Weak.cv trivial trivial (Nat.le_refl _)) ?_
    refine AW.region ?_
    refine sQ rfl (sp_assign rfl iL) ?_
    refine AOps.nil ?_
    refine hK14 _ ?_
    refine AW.ret ?_
    exact retf1 (P := Try.prog) (fun (r : Int) => .r (.int .i64 r)) (he1 _ (hx1 _ (Option.some.inj h8).symm)) iL (.t (.d rfl))
   ·have h8 := ite_f hc3 h7
    refine AW.skip ?_
    refine hK12 _ ?_
    refine AW.seq_w fun K15 hK15 wK15 => ?_
    refine AW.weak (s' := ⟨[(0, .r (.sl (l1.map GAttr.row))), (1, .r (.bool change1)), (5, .r (.int .i64 x2)), (7, .r (.int .i64 (l1.length : Int))), (8, .r (.int .i64 x2))], [], (i3 0), 54⟩) (by exact Weak.cv ⟨.inl iL, .inl iL, .inl iL, .inl iL, .inl iL, trivial⟩ trivial (Nat.le_refl _)) ?_
    refine AW.regionQ hmix (by kernel_rfl) ?_
    refine AQ.step rfl rfl rfl (sp_move rfl iL) ?_
    refine AQ.step rfl rfl rfl (sp_gtr rfl iL iL) ?_
    refine AQ.step rfl rfl rfl (sp_move rfl iL) ?_
    refine AQ.stepW (.one rfl rfl rfl) rfl rfl (sp_move rfl iL) ?_
    refine AQ.stepW (.one rfl rfl rfl) rfl rfl (sp_move rfl iL) ?_
    refine ob1k h8 fun x5 ex5 h9 => ?_
    refine AQ.stepW (.one rfl rfl rfl) rfl rfl (ms_sub rfl (.inr ⟨_, (by exact id), rfl⟩) iL (gdt ex5)) ?_
    refine ob1k h9 fun x6 ex6 h10 => ?_
    refine AQ.stepW (.one rfl rfl rfl) rfl rfl (ms_idx rfl tg_29.slice (.inr ⟨_, (by exact id), rfl⟩) (.inr ⟨_, (by exact id), rfl⟩) (fun _ => rfl) (gdt ex6)) ?_
    refine AQ.stepW (.one rfl rfl rfl) rfl rfl (sp_fieldAddr_ro rfl tf_92_0 (.inr ⟨_, (by exact id), rfl⟩)) ?_
    refine AQ.stepW (.one rfl rfl rfl) rfl rfl (ms_load (d := .str x6.Name) rfl ts_9 (.inr ⟨_, (by exact id), rfl⟩) rfl) ?_
    refine AQ.stepW (.one rfl rfl rfl) rfl rfl (sp_move rfl iL) ?_
    refine AQ.stepW (.one rfl rfl rfl) rfl rfl (sp_move rfl iL) ?_
    refine AQ.stepW (.one rfl rfl rfl) rfl rfl (ms_idx rfl tg_29.slice (.inr ⟨_, (by exact id), rfl⟩) (.inr ⟨_, (by exact id), rfl⟩) (fun _ => rfl) (fun _ => ex4)) ?_
    refine AQ.stepW (.one rfl rfl rfl) rfl rfl (sp_fieldAddr_ro rfl tf_92_0 (.inr ⟨_, (by exact id), rfl⟩)) ?_
    refine AQ.stepW (.one rfl rfl rfl) rfl rfl (ms_load (d := .str x4.Name) rfl ts_9 (.inr ⟨_, (by exact id), rfl⟩) rfl) ?_
    refine AQ.stepW (.one rfl rfl rfl) rfl rfl (sp_sgeq rfl (.inr ⟨_, (by exact id), rfl⟩) (.inr ⟨_, (by exact id), rfl⟩)) ?_
    refine AQ.step rfl rfl rfl (sp_and rfl iL (.inr ⟨_, (by exact id), rfl⟩)) ?_
    refine AQ.nil ?_
    refine hK15 _ ?_
    refine AW.cond rfl (fun hc4 => ?_) (fun hc4 => ?_)
    ·have h11 := ite_t hc4 h10
     refine AW.seq_w fun K16 hK16 wK16 => ?_
     refine AW.weak (s' := ⟨[], [], (i3 0), 54⟩) (by exact Weak.cv trivial trivial (Nat.le_refl _)) ?_
     refine AW.region ?_
     refine sQ rfl (sp_assign rfl iL) ?_
     refine AOps.nil ?_
     refine hK16 _ ?_
     refine AW.ret ?_
     exact retf1 (P := Try.prog) (fun (r : Int) => .r (.int .i64 r)) (he1 _ (hx1 _ (Option.some.inj h11).symm)) iL (.t (.d rfl))
    ·have h11 := ite_f hc4 h10
     refine AW.skip ?_
     refine hK7 _ ?_
     refine AW.region ?_
     refine ob1k h11 fun x7 ex7 h12 => ?_
     refine sQ rfl (ms_add rfl iL iL (fun _ => ex7)) ?_
     refine sQ rfl (sp_move rfl iL) ?_
     refine AOps.nil ?_
     exact NextQ1.mk h12 (vec [(i3 0)]) ((by exact Weak.cv ⟨.inl iL, .inl iL, .inl iL, .inl iL, trivial⟩ trivial (Nat.le_refl _)))
 ·have h3 := ite_f hc1 h2
  refine AW.exit ?_
  exact wK2 _ _ ((by exact Weak.cv trivial trivial (Nat.le_refl _))) (J1 _ (vec [(i3 0)]) (hx1 _ (Option.some.inj h3).symm))
set_option maxHeartbeats 4000000 in
set_option maxRecDepth 20000 in
theorem w_ref_ElemError {x1 : GElem} {r : Int} (h : ref_ElemError x1 = some r) : ARO Try.prog 46 [.agg [.r (.int .i64 x1.Char), .r (.int .i64 x1.Ref), .r (.sl (x1.Attrs.map GAttr.row))]] (.r (.int .i64 r)) := by
 unfold ref_ElemError at h
 refine ARO.mkF Try.func46 rfl rfl Try.ntmps46 rfl (Nat.le_of_ble_eq_true rfl) fun n0 => ?_
 refine AW.seq_w fun K1 hK1 wK1 => ?_
 refine AW.region ?_
 refine AOps.step rfl rfl rfl (ms_box (cs := [.r (.int .i64 x1.Char), .r (.int .i64 x1.Ref), .r (.sl (x1.Attrs.map GAttr.row))]) 1 rfl iL rfl rfl) ?_
 refine sQ rfl (sp_assign rfl iL) ?_
 refine AOps.nil ?_
 refine hK1 _ ?_
 refine AW.seq_w fun K2 hK2 wK2 => ?_
 refine AW.seq_w fun K3 hK3 wK3 => ?_
 refine AW.region ?_
 refine sQ rfl (sp_fieldAddr_own (ob := .box _ _ _) rfl tf_82_0 iL (fun _ => rfl) rfl) ?_
 refine sQ rfl (ms_load_box (a := .r (.int .i64 x1.Char)) rfl ts_3 iL rfl rfl) ?_
 refine sQ rfl (sp_eql rfl iL iL) ?_
 refine sQ rfl (sp_move rfl iL) ?_
 refine sW (.one rfl rfl rfl) rfl (sp_fieldAddr_own (ob := .box _ _ _) rfl tf_82_1 iL (fun _ => rfl) rfl) ?_
 refine sW (.one rfl rfl rfl) rfl (ms_load_box (a := .r (.int .i64 x1.Ref)) rfl ts_3 (.inr ⟨_, (by exact id), rfl⟩) rfl rfl) ?_
 refine sW (.one rfl rfl rfl) rfl (sp_eql rfl (.inr ⟨_, (by exact id), rfl⟩) iL) ?_
 refine sQ rfl (sp_and rfl iL (.inr ⟨_, (by exact id), rfl⟩)) ?_
 refine sQ rfl (sp_move rfl iL) ?_
 refine sW (.one rfl rfl rfl) rfl (sp_fieldAddr_own (ob := .box _ _ _) rfl tf_82_0 iL (fun _ => rfl) rfl) ?_
 refine sW (.one rfl rfl rfl) rfl (ms_load_box (a := .r (.int .i64 x1.Char)) rfl ts_3 (.inr ⟨_, (by exact id), rfl⟩) rfl rfl) ?_
 refine sW (.one rfl rfl rfl) rfl (sp_neq rfl (.inr ⟨_, (by exact id), rfl⟩) iL) ?_
 refine sW (.one rfl rfl rfl) rfl (sp_move rfl (.inr ⟨_, (by exact id), rfl⟩)) ?_
 refine sW (.two rfl rfl rfl) rfl (sp_fieldAddr_own (ob := .box _ _ _) rfl tf_82_1 iL (fun _ => rfl) rfl) ?_
 refine sW (.two rfl rfl rfl) rfl (ms_load_box (a := .r (.int .i64 x1.Ref)) rfl ts_3 (.inr ⟨_, (by exact id), rfl⟩) rfl rfl) ?_
 refine sW (.two rfl rfl rfl) rfl (sp_neq rfl (.inr ⟨_, (by exact id), rfl⟩) iL) ?_
 refine sW (.one rfl rfl rfl) rfl (sp_and rfl (.inr ⟨_, (by exact id), rfl⟩) (.inr ⟨_, (by exact id), rfl⟩)) ?_
 refine sQ rfl (sp_or rfl iL (.inr ⟨_, (by exact id), rfl⟩)) ?_
 refine AOps.nil ?_
 refine hK3 _ ?_
 refine AW.cond rfl (fun hc1 => ?_) (fun hc1 => ?_)
 ·have h1 := ite_t hc1 h
  refine AW.seq_w fun K4 hK4 wK4 => ?_
  refine AW.weak (s' := ⟨[], [], (n0 + 1), 44⟩) (by exact Weak.cv trivial trivial (Nat.le_refl _)) ?_
  refine AW.region ?_
  refine sQ rfl (sp_assign rfl iL) ?_
  refine AOps.nil ?_
  refine hK4 _ ?_
  refine AW.ret ?_
  exact retf1 (P := Try.prog) (fun (r : Int) => .r (.int .i64 r)) h1 iL (.t (.d rfl))
 ·have h1 := ite_f hc1 h
  refine AW.skip ?_
  refine hK2 _ ?_
  refine AW.seq_w fun K5 hK5 wK5 => ?_
  refine AW.seq_w fun K6 hK6 wK6 => ?_
  refine AW.weak (s' := ⟨[(1, .ptr 1 n0 0 0)], [(1, some (.box n0 82 [.r (.int .i64 x1.Char), .r (.int .i64 x1.Ref), .r (.sl (x1.Attrs.map GAttr.row))]))], (n0 + 1), 44⟩) (by exact Weak.cv ⟨.inl iL, trivial⟩ ⟨.inl rfl, trivial⟩ (Nat.le_refl _)) ?_
  refine AW.region ?_
  refine sQ rfl (sp_fieldAddr_own (ob := .box _ _ _) rfl tf_82_0 iL (fun _ => rfl) rfl) ?_
  refine sQ rfl (ms_load_box (a := .r (.int .i64 x1.Char)) rfl ts_3 iL rfl rfl) ?_
  refine sQ rfl (sp_neq rfl iL iL) ?_
  refine sQ rfl (sp_move rfl iL) ?_
  refine sW (.one rfl rfl rfl) rfl (sp_fieldAddr_own (ob := .box _ _ _) rfl tf_82_0 iL (fun _ => rfl) rfl) ?_
  refine sW (.one rfl rfl rfl) rfl (ms_load_box (a := .r (.int .i64 x1.Char)) rfl ts_3 (.inr ⟨_, (by exact id), rfl⟩) rfl rfl) ?_
  refine ob1k h1 fun r1 er1 h2 => ?_
  refine AOps.stepW (.one rfl rfl rfl) rfl rfl (sp_call (r := .r (.bool r1)) (caps := []) (bs := [.r (.int .i64 x1.Char)]) rfl iL rfl ⟨⟨_, (.inr ⟨_, (by exact id), rfl⟩), .d rfl⟩, trivial⟩ (fun hg => w_ref_Char (gdt er1 hg)) rfl) ?_
  refine sW (.one rfl rfl rfl) rfl (sp_not rfl (.inr ⟨_, (by exact id), rfl⟩)) ?_
  refine sQ rfl (sp_and rfl iL (.inr ⟨_, (by exact id), rfl⟩)) ?_
  refine sQ rfl (sp_move rfl iL) ?_
  refine sW (.one rfl rfl rfl) rfl (sp_fieldAddr_own (ob := .box _ _ _) rfl tf_82_1 iL (fun _ => rfl) rfl) ?_
  refine sW (.one rfl rfl rfl) rfl (ms_load_box (a := .r (.int .i64 x1.Ref)) rfl ts_3 (.inr ⟨_, (by exact id), rfl⟩) rfl rfl) ?_
  refine sW (.one rfl rfl rfl) rfl (sp_neq rfl (.inr ⟨_, (by exact id), rfl⟩) iL) ?_
  refine sW (.one rfl rfl rfl) rfl (sp_move rfl (.inr ⟨_, (by exact id), rfl⟩)) ?_
  refine sW (.two rfl rfl rfl) rfl (sp_fieldAddr_own (ob := .box _ _ _) rfl tf_82_1 iL (fun _ => rfl) rfl) ?_
  refine sW (.two rfl rfl rfl) rfl (ms_load_box (a := .r (.int .i64 x1.Ref)) rfl ts_3 (.inr ⟨_, (by exact id), rfl⟩) rfl rfl) ?_
  refine ob1k h2 fun r2 er2 h3 => ?_
  refine AOps.stepW (.two rfl rfl rfl) rfl rfl (sp_call (r := .r (.bool r2)) (caps := []) (bs := [.r (.int .i64 x1.Ref), .r (.int .i64 1), .r (.int .i64 1073741824)]) rfl iL rfl ⟨⟨_, (.inr ⟨_, (by exact id), rfl⟩), .d rfl⟩, ⟨_, iL, .d rfl⟩, ⟨_, iL, .d rfl⟩, trivial⟩ (fun hg => w_ref_In (gdt er2 hg)) rfl) ?_
  refine sW (.two rfl rfl rfl) rfl (sp_not rfl (.inr ⟨_, (by exact id), rfl⟩)) ?_
  refine sW (.one rfl rfl rfl) rfl (sp_and rfl (.inr ⟨_, (by exact id), rfl⟩) (.inr ⟨_, (by exact id), rfl⟩)) ?_
  refine sQ rfl (sp_or rfl iL (.inr ⟨_, (by exact id), rfl⟩)) ?_
  refine AOps.nil ?_
  refine hK6 _ ?_
  refine AW.cond rfl (fun hc2 => ?_) (fun hc2 => ?_)
  ·have h4 := ite_t hc2 h3
   refine AW.seq_w fun K7 hK7 wK7 => ?_
   refine AW.weak (s' := ⟨[], [], (n0 + 1), 44⟩) (by exact Weak.cv trivial trivial (Nat.le_refl _)) ?_
   refine AW.region ?_
   refine sQ rfl (sp_assign rfl iL) ?_
   refine AOps.nil ?_
   refine hK7 _ ?_
   refine AW.ret ?_
   exact retf1 (P := Try.prog) (fun (r : Int) => .r (.int .i64 r)) h4 iL (.t (.d rfl))
  ·have h4 := ite_f hc2 h3
   refine AW.skip ?_
   refine hK5 _ ?_
   refine AW.seq_w fun K8 hK8 wK8 => ?_
   refine AW.weak (s' := ⟨[(1, .ptr 1 n0 0 0)], [(1, some (.box n0 82 [.r (.int .i64 x1.Char), .r (.int .i64 x1.Ref), .r (.sl (x1.Attrs.map GAttr.row))]))], (n0 + 1), 44⟩) (by exact Weak.cv ⟨.inl iL, trivial⟩ ⟨.inl rfl, trivial⟩ (Nat.le_refl _)) ?_
   refine AW.region ?_
   refine sQ rfl (sp_fieldAddr_own (ob := .box _ _ _) rfl tf_82_2 iL (fun _ => rfl) rfl) ?_
   refine sQ rfl (ms_load_box (a := .r (.sl (x1.Attrs.map GAttr.row))) rfl ts_29 iL rfl rfl) ?_
   refine ob1k h4 fun r3 er3 h5 => ?_
   refine AOps.step rfl rfl rfl (sp_call (r := .r (.int .i64 r3)) (caps := []) (bs := [.r (.sl (x1.Attrs.map GAttr.row)), .r (.bool false)]) rfl iL rfl ⟨⟨_, iL, .d rfl⟩, ⟨_, iL, .d rfl⟩, trivial⟩ (fun _ => w_ref_AttrsError (er3)) rfl) ?_
   refine sQ rfl (sp_assign rfl iL) ?_
   refine AOps.nil ?_
   refine hK8 _ ?_
   refine AW.ret ?_
   exact retf1 (P := Try.prog) (fun (r : Int) => .r (.int .i64 r)) h5 iL (.t (.d rfl))
set_option maxHeartbeats 4000000 in
set_option maxRecDepth 20000 in
theorem w_ref_PartError {f1 : List GElem} {r : Int} (h : ref_PartError f1 = some r) : ARO Try.prog 13 [.r (.sl (f1.map GElem.row))] (.r (.int .i64 r)) := by
 unfold ref_PartError at h
 refine ARO.mkF Try.func13 rfl rfl Try.ntmps13 rfl (Nat.le_of_ble_eq_true rfl) fun n0 => ?_
 refine AW.seq_w fun K1 hK1 wK1 => ?_
 refine AW.region ?_
 refine sQ rfl (sp_assign rfl iL) ?_
 refine AOps.nil ?_
 refine hK1 _ ?_
 refine AW.seq_w fun K2 hK2 wK2 => ?_
 refine AW.seq_w fun K3 hK3 wK3 => ?_
 refine AW.region ?_
 refine sQ rfl (sp_move rfl iL) ?_
 refine sQ rfl (ms_len rfl tg_22.slice iL) ?_
 refine sQ rfl (sp_move rfl iL) ?_
 refine AOps.nil ?_
 refine hK3 _ ?_
 refine AW.block ?_
 refine jc1k h fun o1 hit1 hk1 he1 => ?_
 have J1 : ∀ (u2 : Unit) (i5 : Nat → Nat), o1 = .nrm u2 → K2 ⟨[], [], (i5 0), 19⟩ := by
  intro u2 i5 e
  have h1 := hk1 _ e
  refine hK2 _ ?_
  refine AW.seq_w fun K4 hK4 wK4 => ?_
  refine AW.region ?_
  refine sQ rfl (sp_assign rfl iL) ?_
  refine AOps.nil ?_
  refine hK4 _ ?_
  refine AW.ret ?_
  exact retf1 (P := Try.prog) (fun (r : Int) => .r (.int .i64 r)) h1 iL (.t (.d rfl))
 refine AW.iter1 (fun (x2 : Int) i3 => ⟨[(0, .r (.sl (f1.map GElem.row))), (6, .r (.int .i64 (f1.length : Int))), (7, .r (.int .i64 x2))], [], (i3 0), 19⟩) (vec [n0]) hit1 ((by exact Weak.cv ⟨.inl iL, .inl iL, .inl iL, trivial⟩ trivial (Nat.le_refl _))) ?_
 intro x2 i3 v1 hv1 hx1
 have h2 : ref_PartError_L1 f1 x2 = some v1 := hv1; unfold ref_PartError_L1 at h2
 refine AW.seq_w fun K5 hK5 wK5 => ?_
 refine AW.region ?_
 refine sQ rfl (sp_lss rfl iL iL) ?_
 refine AOps.nil ?_
 refine hK5 _ ?_
 refine AW.seq_w fun K6 hK6 wK6 => ?_
 refine AW.cond rfl (fun hc1 => ?_) (fun hc1 => ?_)
 ·have h3 := ite_t hc1 h2
  refine AW.skip ?_
  refine hK6 _ ?_
  refine AW.seq_w fun K7 hK7 wK7 => ?_
  refine AW.block ?_
  refine AW.seq_w fun K8 hK8 wK8 => ?_
  refine AW.region ?_
  refine sQ rfl (sp_move rfl iL) ?_
  refine sQ rfl (sp_assign rfl iL) ?_
  refine AOps.nil ?_
  refine hK8 _ ?_
  refine AW.seq_w fun K9 hK9 wK9 => ?_
  refine AW.region ?_
  refine sQ rfl (sp_move rfl iL) ?_
  refine sQ rfl (sp_move rfl iL) ?_
  refine ob1k h3 fun x4 ex4 h4 => ?_
  refine sQ rfl (ms_idx rfl tg_22.slice iL iL (fun _ => rfl) (fun _ => ex4)) ?_
  refine sQ rfl (ms_loadA (cs := [.r (.int .i64 x4.Char), .r (.int .i64 x4.Ref), .r (.sl (x4.Attrs.map GAttr.row))]) rfl ta_82 iL rfl rfl) ?_
  refine ob1k h4 fun e1 ee1 h5 => ?_
  refine AOps.step rfl rfl rfl (sp_call (r := .r (.int .i64 e1)) (caps := []) (bs := [.agg [.r (.int .i64 x4.Char), .r (.int .i64 x4.Ref), .r (.sl (x4.Attrs.map GAttr.row))]]) rfl iL rfl ⟨⟨_, iL, .g (cs := [.int .i64 x4.Char, .int .i64 x4.Ref, .sl (x4.Attrs.map GAttr.row)]) rfl rfl⟩, trivial⟩ (fun _ => w_ref_ElemError (ee1)) rfl) ?_
  refine sQ rfl (sp_assign rfl iL) ?_
  refine AOps.nil ?_
  refine hK9 _ ?_
  refine AW.seq_w fun K10 hK10 wK10 => ?_
  refine AW.region ?_
  refine sQ rfl (sp_move rfl iL) ?_
  refine sQ rfl (sp_neq rfl iL iL) ?_
  refine AOps.nil ?_
  refine hK10 _ ?_
  refine AW.cond rfl (fun hc2 => ?_) (fun hc2 => ?_)
  ·have h6 := ite_t hc2 h5
   refine AW.seq_w fun K11 hK11 wK11 => ?_
   refine AW.weak (s' := ⟨[(4, .r (.int .i64 e1))], [], (i3 0), 19⟩) (by exact Weak.cv ⟨.inl iL, trivial⟩ trivial (Nat.le_refl _)) ?_
   refine AW.region ?_
   refine sQ rfl (sp_move rfl iL) ?_
   refine sQ rfl (sp_assign rfl iL) ?_
   refine AOps.nil ?_
   refine hK11 _ ?_
   refine AW.ret ?_
   exact retf1 (P := Try.prog) (fun (r : Int) => .r (.int .i64 r)) (he1 _ (hx1 _ (Option.some.inj h6).symm)) iL (.t (.d rfl))
  ·have h6 := ite_f hc2 h5
   refine AW.skip ?_
   refine hK7 _ ?_
   refine AW.weak (s' := ⟨[(0, .r (.sl (f1.map GElem.row))), (6, .r (.int .i64 (f1.length : Int))), (7, .r (.int .i64 x2))], [], (i3 0), 19⟩) (by exact Weak.cv ⟨.inl iL, .inl iL, .inl iL, trivial⟩ trivial (Nat.le_refl _)) ?_
   refine AW.region ?_
   refine ob1k h6 fun x5 ex5 h7 => ?_
   refine sQ rfl (ms_add rfl iL iL (fun _ => ex5)) ?_
   refine sQ rfl (sp_move rfl iL) ?_
   refine AOps.nil ?_
   exact NextQ1.mk h7 (vec [(i3 0)]) ((by exact Weak.cv ⟨.inl iL, .inl iL, .inl iL, trivial⟩ trivial (Nat.le_refl _)))
 ·have h3 := ite_f hc1 h2
  refine AW.exit ?_
  exact wK2 _ _ ((by exact Weak.cv trivial trivial (Nat.le_refl _))) (J1 _ (vec [(i3 0)]) (hx1 _ (Option.some.inj h3).symm))
set_option maxHeartbeats 4000000 in
set_option maxRecDepth 20000 in
theorem w_ref_StepError {s1 : GStep} {r : Int} (h : ref_StepError s1 = some r) : ARO Try.prog 42 [.agg [.r (.int .i64 s1.Kind), .r (.int .i64 s1.N), .r (.sl (s1.Attrs.map GAttr.row)), .r (.sl (s1.Elems.map GElem.row))]] (.r (.int .i64 r)) := by
 unfold ref_StepError at h
 refine ARO.mkF Try.func42 rfl rfl Try.ntmps42 rfl (Nat.le_of_ble_eq_true rfl) fun n0 => ?_
 refine AW.seq_w fun K1 hK1 wK1 => ?_
 refine AW.region ?_
 refine AOps.step rfl rfl rfl (ms_box (cs := [.r (.int .i64 s1.Kind), .r (.int .i64 s1.N), .r (.sl (s1.Attrs.map GAttr.row)), .r (.sl (s1.Elems.map GElem.row))]) 1 rfl iL rfl rfl) ?_
 refine sQ rfl (sp_assign rfl iL) ?_
 refine AOps.nil ?_
 refine hK1 _ ?_
 refine AW.seq_w fun K2 hK2 wK2 => ?_
 refine AW.seq_w fun K3 hK3 wK3 => ?_
 refine AW.region ?_
 refine sQ rfl (sp_fieldAddr_own (ob := .box _ _ _) rfl tf_31_0 iL (fun _ => rfl) rfl) ?_
 refine sQ rfl (ms_load_box (a := .r (.int .i64 s1.Kind)) rfl ts_3 iL rfl rfl) ?_
 refine ob1k h fun r1 er1 h1 => ?_
 refine AOps.step rfl rfl rfl (sp_call (r := .r (.bool r1)) (caps := []) (bs := [.r (.int .i64 s1.Kind), .r (.int .i64 0), .r (.int .i64 2)]) rfl iL rfl ⟨⟨_, iL, .d rfl⟩, ⟨_, iL, .d rfl⟩, ⟨_, iL, .d rfl⟩, trivial⟩ (fun _ => w_ref_In (er1)) rfl) ?_
 refine sQ rfl (sp_not rfl iL) ?_
 refine AOps.nil ?_
 refine hK3 _ ?_
 refine AW.cond rfl (fun hc1 => ?_) (fun hc1 => ?_)
 ·have h2 := ite_t hc1 h1
  refine AW.seq_w fun K4 hK4 wK4 => ?_
  refine AW.region ?_
  refine sQ rfl (sp_assign rfl iL) ?_
  refine AOps.nil ?_
  refine hK4 _ ?_
  refine AW.ret ?_
  exact retf1 (P := Try.prog) (fun (r : Int) => .r (.int .i64 r)) h2 iL (.t (.d rfl))
 ·have h2 := ite_f hc1 h1
  refine AW.skip ?_
  refine hK2 _ ?_
  refine AW.seq_w fun K5 hK5 wK5 => ?_
  refine AW.seq_w fun K6 hK6 wK6 => ?_
  refine AW.region ?_
  refine sQ rfl (sp_fieldAddr_own (ob := .box _ _ _) rfl tf_31_0 iL (fun _ => rfl) rfl) ?_
  refine sQ rfl (ms_load_box (a := .r (.int .i64 s1.Kind)) rfl ts_3 iL rfl rfl) ?_
  refine sQ rfl (sp_eql rfl iL iL) ?_
  refine AOps.nil ?_
  refine hK6 _ ?_
  refine AW.cond rfl (fun hc2 => ?_) (fun hc2 => ?_)
  ·have h3 := ite_t hc2 h2
   refine AW.seq_w fun K7 hK7 wK7 => ?_
   refine AW.seq_w fun K8 hK8 wK8 => ?_
   refine AW.weak (s' := ⟨[(1, .ptr 1 n0 0 0)], [(1, some (.box n0 31 [.r (.int .i64 s1.Kind), .r (.int .i64 s1.N), .r (.sl (s1.Attrs.map GAttr.row)), .r (.sl (s1.Elems.map GElem.row))]))], (n0 + 1), 48⟩) (by exact Weak.cv ⟨.inl iL, trivial⟩ ⟨.inl rfl, trivial⟩ (Nat.le_refl _)) ?_
   refine AW.region ?_
   refine sQ rfl (sp_fieldAddr_own (ob := .box _ _ _) rfl tf_31_1 iL (fun _ => rfl) rfl) ?_
   refine sQ rfl (ms_load_box (a := .r (.int .i64 s1.N)) rfl ts_3 iL rfl rfl) ?_
   refine sQ rfl (sp_neq rfl iL iL) ?_
   refine sQ rfl (sp_move rfl iL) ?_
   refine sW (.one rfl rfl rfl) rfl (sp_fieldAddr_own (ob := .box _ _ _) rfl tf_31_2 iL (fun _ => rfl) rfl) ?_
   refine sW (.one rfl rfl rfl) rfl (ms_load_box (a := .r (.sl (s1.Attrs.map GAttr.row))) rfl ts_29 (.inr ⟨_, (by exact id), rfl⟩) rfl rfl) ?_
   refine sW (.one rfl rfl rfl) rfl (ms_len rfl tg_29.slice (.inr ⟨_, (by exact id), rfl⟩)) ?_
   refine sW (.one rfl rfl rfl) rfl (sp_gtr rfl (.inr ⟨_, (by exact id), rfl⟩) iL) ?_
   refine sQ rfl (sp_or rfl iL (.inr ⟨_, (by exact id), rfl⟩)) ?_
   refine AOps.nil ?_
   refine hK8 _ ?_
   refine AW.cond rfl (fun hc3 => ?_) (fun hc3 => ?_)
   ·have h4 := ite_t hc3 h3
    refine AW.seq_w fun K9 hK9 wK9 => ?_
    refine AW.weak (s' := ⟨[], [], (n0 + 1), 48⟩) (by exact Weak.cv trivial trivial (Nat.le_refl _)) ?_
    refine AW.region ?_
    refine sQ rfl (sp_assign rfl iL) ?_
    refine AOps.nil ?_
    refine hK9 _ ?_
    refine AW.ret ?_
    exact retf1 (P := Try.prog) (fun (r : Int) => .r (.int .i64 r)) h4 iL (.t (.d rfl))
   ·have h4 := ite_f hc3 h3
    refine AW.skip ?_
    refine hK7 _ ?_
    refine AW.seq_w fun K10 hK10 wK10 => ?_
    refine AW.seq_w fun K11 hK11 wK11 => ?_
    refine AW.weak (s' := ⟨[(1, .ptr 1 n0 0 0)], [(1, some (.box n0 31 [.r (.int .i64 s1.Kind), .r (.int .i64 s1.N), .r (.sl (s1.Attrs.map GAttr.row)), .r (.sl (s1.Elems.map GElem.row))]))], (n0 + 1), 48⟩) (by exact Weak.cv ⟨.inl iL, trivial⟩ ⟨.inl rfl, trivial⟩ (Nat.le_refl _)) ?_
    refine AW.region ?_
    refine sQ rfl (sp_fieldAddr_own (ob := .box _ _ _) rfl tf_31_3 iL (fun _ => rfl) rfl) ?_
    refine sQ rfl (ms_load_box (a := .r (.sl (s1.Elems.map GElem.row))) rfl ts_22 iL rfl rfl) ?_
    refine sQ rfl (ms_len rfl tg_22.slice iL) ?_
    refine sQ rfl (sp_eql rfl iL iL) ?_
    refine AOps.nil ?_
    refine hK11 _ ?_
    refine AW.cond rfl (fun hc4 => ?_) (fun hc4 => ?_)
    ·have h5 := ite_t hc4 h4
     refine AW.seq_w fun K12 hK12 wK12 => ?_
     refine AW.region ?_
     refine sQ rfl (sp_assign rfl iL) ?_
     refine AOps.nil ?_
     refine hK12 _ ?_
     refine AW.ret ?_
     exact retf1 (P := Try.prog) (fun (r : Int) => .r (.int .i64 r)) h5 iL (.t (.d rfl))
    ·have h5 := ite_f hc4 h4
     refine AW.skip ?_
     refine hK10 _ ?_
     refine AW.seq_w fun K13 hK13 wK13 => ?_
     refine AW.region ?_
     refine sQ rfl (sp_fieldAddr_own (ob := .box _ _ _) rfl tf_31_3 iL (fun _ => rfl) rfl) ?_
     refine sQ rfl (ms_load_box (a := .r (.sl (s1.Elems.map GElem.row))) rfl ts_22 iL rfl rfl) ?_
     refine ob1k h5 fun r2 er2 h6 => ?_
     refine AOps.step rfl rfl rfl (sp_call (r := .r (.int .i64 r2)) (caps := []) (bs := [.r (.sl (s1.Elems.map GElem.row))]) rfl iL rfl ⟨⟨_, iL, .d rfl⟩, trivial⟩ (fun _ => w_ref_PartError (er2)) rfl) ?_
     refine sQ rfl (sp_assign rfl iL) ?_
     refine AOps.nil ?_
     refine hK13 _ ?_
     refine AW.ret ?_
     exact retf1 (P := Try.prog) (fun (r : Int) => .r (.int .i64 r)) h6 iL (.t (.d rfl))
  ·have h3 := ite_f hc2 h2
   refine AW.skip ?_
   refine hK5 _ ?_
   refine AW.seq_w fun K14 hK14 wK14 => ?_
   refine AW.seq_w fun K15 hK15 wK15 => ?_
   refine AW.weak (s' := ⟨[(1, .ptr 1 n0 0 0)], [(1, some (.box n0 31 [.r (.int .i64 s1.Kind), .r (.int .i64 s1.N), .r (.sl (s1.Attrs.map GAttr.row)), .r (.sl (s1.Elems.map GElem.row))]))], (n0 + 1), 48⟩) (by exact Weak.cv ⟨.inl iL, trivial⟩ ⟨.inl rfl, trivial⟩ (Nat.le_refl _)) ?_
   refine AW.region ?_
   refine sQ rfl (sp_fieldAddr_own (ob := .box _ _ _) rfl tf_31_3 iL (fun _ => rfl) rfl) ?_
   refine sQ rfl (ms_load_box (a := .r (.sl (s1.Elems.map GElem.row))) rfl ts_22 iL rfl rfl) ?_
   refine sQ rfl (ms_len rfl tg_22.slice iL) ?_
   refine sQ rfl (sp_gtr rfl iL iL) ?_
   refine sQ rfl (sp_move rfl iL) ?_
   refine sW (.one rfl rfl rfl) rfl (sp_fieldAddr_own (ob := .box _ _ _) rfl tf_31_0 iL (fun _ => rfl) rfl) ?_
   refine sW (.one rfl rfl rfl) rfl (ms_load_box (a := .r (.int .i64 s1.Kind)) rfl ts_3 (.inr ⟨_, (by exact id), rfl⟩) rfl rfl) ?_
   refine sW (.one rfl rfl rfl) rfl (sp_eql rfl (.inr ⟨_, (by exact id), rfl⟩) iL) ?_
   refine sW (.one rfl rfl rfl) rfl (sp_move rfl (.inr ⟨_, (by exact id), rfl⟩)) ?_
   refine sW (.two rfl rfl rfl) rfl (sp_fieldAddr_own (ob := .box _ _ _) rfl tf_31_2 iL (fun _ => rfl) rfl) ?_
   refine sW (.two rfl rfl rfl) rfl (ms_load_box (a := .r (.sl (s1.Attrs.map GAttr.row))) rfl ts_29 (.inr ⟨_, (by exact id), rfl⟩) rfl rfl) ?_
   refine sW (.two rfl rfl rfl) rfl (ms_len rfl tg_29.slice (.inr ⟨_, (by exact id), rfl⟩)) ?_
   refine sW (.two rfl rfl rfl) rfl (sp_gtr rfl (.inr ⟨_, (by exact id), rfl⟩) iL) ?_
   refine sW (.one rfl rfl rfl) rfl (sp_and rfl (.inr ⟨_, (by exact id), rfl⟩) (.inr ⟨_, (by exact id), rfl⟩)) ?_
   refine sQ rfl (sp_or rfl iL (.inr ⟨_, (by exact id), rfl⟩)) ?_
   refine AOps.nil ?_
   refine hK15 _ ?_
   refine AW.cond rfl (fun hc5 => ?_) (fun hc5 => ?_)
   ·have h7 := ite_t hc5 h3
    refine AW.seq_w fun K16 hK16 wK16 => ?_
    refine AW.weak (s' := ⟨[], [], (n0 + 1), 48⟩) (by exact Weak.cv trivial trivial (Nat.le_refl _)) ?_
    refine AW.region ?_
    refine sQ rfl (sp_assign rfl iL) ?_
    refine AOps.nil ?_
    refine hK16 _ ?_
    refine AW.ret ?_
    exact retf1 (P := Try.prog) (fun (r : Int) => .r (.int .i64 r)) h7 iL (.t (.d rfl))
   ·have h7 := ite_f hc5 h3
    refine AW.skip ?_
    refine hK14 _ ?_
    refine AW.seq_w fun K17 hK17 wK17 => ?_
    refine AW.seq_w fun K18 hK18 wK18 => ?_
    refine AW.weak (s' := ⟨[(1, .ptr 1 n0 0 0)], [(1, some (.box n0 31 [.r (.int .i64 s1.Kind), .r (.int .i64 s1.N), .r (.sl (s1.Attrs.map GAttr.row)), .r (.sl (s1.Elems.map GElem.row))]))], (n0 + 1), 48⟩) (by exact Weak.cv ⟨.inl iL, trivial⟩ ⟨.inl rfl, trivial⟩ (Nat.le_refl _)) ?_
    refine AW.region ?_
    refine sQ rfl (sp_fieldAddr_own (ob := .box _ _ _) rfl tf_31_1 iL (fun _ => rfl) rfl) ?_
    refine sQ rfl (ms_load_box (a := .r (.int .i64 s1.N)) rfl ts_3 iL rfl rfl) ?_
    refine ob1k h7 fun r3 er3 h8 => ?_
    refine AOps.step rfl rfl rfl (sp_call (r := .r (.bool r3)) (caps := []) (bs := [.r (.int .i64 s1.N), .r (.int .i64 1), .r (.int .i64 2147483647)]) rfl iL rfl ⟨⟨_, iL, .d rfl⟩, ⟨_, iL, .d rfl⟩, ⟨_, iL, .d rfl⟩, trivial⟩ (fun _ => w_ref_In (er3)) rfl) ?_
    refine sQ rfl (sp_not rfl iL) ?_
    refine AOps.nil ?_
    refine hK18 _ ?_
    refine AW.cond rfl (fun hc6 => ?_) (fun hc6 => ?_)
    ·have h9 := ite_t hc6 h8
     refine AW.seq_w fun K19 hK19 wK19 => ?_
     refine AW.region ?_
     refine sQ rfl (sp_assign rfl iL) ?_
     refine AOps.nil ?_
     refine hK19 _ ?_
     refine AW.ret ?_
     exact retf1 (P := Try.prog) (fun (r : Int) => .r (.int .i64 r)) h9 iL (.t (.d rfl))
    ·have h9 := ite_f hc6 h8
     refine AW.skip ?_
     refine hK17 _ ?_
     refine AW.seq_w fun K20 hK20 wK20 => ?_
     refine AW.region ?_
     refine sQ rfl (sp_fieldAddr_own (ob := .box _ _ _) rfl tf_31_2 iL (fun _ => rfl) rfl) ?_
     refine sQ rfl (ms_load_box (a := .r (.sl (s1.Attrs.map GAttr.row))) rfl ts_29 iL rfl rfl) ?_
     refine ob1k h9 fun r4 er4 h10 => ?_
     refine AOps.step rfl rfl rfl (sp_call (r := .r (.int .i64 r4)) (caps := []) (bs := [.r (.sl (s1.Attrs.map GAttr.row)), .r (.bool true)]) rfl iL rfl ⟨⟨_, iL, .d rfl⟩, ⟨_, iL, .d rfl⟩, trivial⟩ (fun _ => w_ref_AttrsError (er4)) rfl) ?_
     refine sQ rfl (sp_assign rfl iL) ?_
     refine AOps.nil ?_
     refine hK20 _ ?_
     refine AW.ret ?_
     exact retf1 (P := Try.prog) (fun (r : Int) => .r (.int .i64 r)) h10 iL (.t (.d rfl))
set_option maxHeartbeats 4000000 in
set_option maxRecDepth 20000 in
theorem w_ref_DeltaError {d1 : List GStep} {r : Int} (h : ref_DeltaError d1 = some r) : ARO Try.prog 11 [.r (.sl (d1.map GStep.row))] (.r (.int .i64 r)) := by
 unfold ref_DeltaError at h
 refine ARO.mkF Try.func11 rfl rfl Try.ntmps11 rfl (Nat.le_of_ble_eq_true rfl) fun n0 => ?_
 refine AW.seq_w fun K1 hK1 wK1 => ?_
 refine AW.region ?_
 refine sQ rfl (sp_assign rfl iL) ?_
 refine AOps.nil ?_
 refine hK1 _ ?_
 refine AW.seq_w fun K2 hK2 wK2 => ?_
 refine AW.region ?_
 refine sQ rfl (sp_assign rfl iL) ?_
 refine sQ rfl (sp_assign rfl iL) ?_
 refine AOps.nil ?_
 refine hK2 _ ?_
 refine AW.seq_w fun K3 hK3 wK3 => ?_
 refine AW.seq_w fun K4 hK4 wK4 => ?_
 refine AW.region ?_
 refine sQ rfl (sp_move rfl iL) ?_
 refine sQ rfl (ms_len rfl tg_23.slice iL) ?_
 refine sQ rfl (sp_move rfl iL) ?_
 refine AOps.nil ?_
 refine hK4 _ ?_
 refine AW.block ?_
 refine jc2k h fun o1 hit1 hk1 he1 => ?_
 have J1 : ∀ (old4 : Int) (now4 : Int) (i5 : Nat → Nat), o1 = .nrm (old4, now4) → K3 ⟨[(3, .r (.int .i64 old4)), (4, .r (.int .i64 now4))], [], (i5 0), 85⟩ := by
  intro old4 now4 i5 e
  have h1 := hk1 _ _ e
  refine hK3 _ ?_
  refine AW.seq_w fun K5 hK5 wK5 => ?_
  refine AW.seq_w fun K6 hK6 wK6 => ?_
  refine AW.region ?_
  refine sQ rfl (sp_move rfl iL) ?_
  refine sQ rfl (sp_gtr rfl iL iL) ?_
  refine sQ rfl (sp_move rfl iL) ?_
  refine sW (.one rfl rfl rfl) rfl (sp_move rfl iL) ?_
  refine sW (.one rfl rfl rfl) rfl (sp_gtr rfl (.inr ⟨_, (by exact id), rfl⟩) iL) ?_
  refine sQ rfl (sp_or rfl iL (.inr ⟨_, (by exact id), rfl⟩)) ?_
  refine AOps.nil ?_
  refine hK6 _ ?_
  refine AW.cond rfl (fun hc1 => ?_) (fun hc1 => ?_)
  ·have h2 := ite_t hc1 h1
   refine AW.seq_w fun K7 hK7 wK7 => ?_
   refine AW.region ?_
   refine sQ rfl (sp_assign rfl iL) ?_
   refine AOps.nil ?_
   refine hK7 _ ?_
   refine AW.ret ?_
   exact retf1 (P := Try.prog) (fun (r : Int) => .r (.int .i64 r)) h2 iL (.t (.d rfl))
  ·have h2 := ite_f hc1 h1
   refine AW.skip ?_
   refine hK5 _ ?_
   refine AW.seq_w fun K8 hK8 wK8 => ?_
   refine AW.region ?_
   refine sQ rfl (sp_assign rfl iL) ?_
   refine AOps.nil ?_
   refine hK8 _ ?_
   refine AW.ret ?_
   exact retf1 (P := Try.prog) (fun (r : Int) => .r (.int .i64 r)) h2 iL (.t (.d rfl))
 refine AW.iter3 (fun (old2 : Int) (now2 : Int) (x2 : Int) i3 => ⟨[(0, .r (.sl (d1.map GStep.row))), (3, .r (.int .i64 old2)), (4, .r (.int .i64 now2)), (10, .r (.int .i64 (d1.length : Int))), (11, .r (.int .i64 x2))], [], (i3 0), 85⟩) (vec [n0]) hit1 ((by exact Weak.cv ⟨.inl iL, .inl iL, .inl iL, .inl iL, .inl iL, trivial⟩ trivial (Nat.le_refl _))) ?_
 intro old2 now2 x2 i3 v1 hv1 hx1
 have h3 : ref_DeltaError_L1 d1 old2 now2 x2 = some v1 := hv1; unfold ref_DeltaError_L1 at h3
 refine AW.seq_w fun K9 hK9 wK9 => ?_
 refine AW.region ?_
 refine sQ rfl (sp_lss rfl iL iL) ?_
 refine AOps.nil ?_
 refine hK9 _ ?_
 refine AW.seq_w fun K10 hK10 wK10 => ?_
 refine AW.cond rfl (fun hc2 => ?_) (fun hc2 => ?_)
 ·have h4 := ite_t hc2 h3
  refine AW.skip ?_
  refine hK10 _ ?_
  refine AW.seq_w fun K11 hK11 wK11 => ?_
  refine AW.block ?_
  refine jc2k h4 fun p1 hp1 hk2 he2 => ?_
  have J2 : ∀ (old5 : Int) (now5 : Int) (i6 : Nat → Nat), p1 = .nrm (old5, now5) → K11 ⟨[(0, .r (.sl (d1.map GStep.row))), (3, .r (.int .i64 old5)), (4, .r (.int .i64 now5)), (10, .r (.int .i64 (d1.length : Int))), (11, .r (.int .i64 x2))], [], (i6 0), 85⟩ := by
   intro old5 now5 i6 e
   have h5 := hk2 _ _ e
   refine hK11 _ ?_
   refine AW.region ?_
   refine ob1k h5 fun x4 ex4 h6 => ?_
   refine sQ rfl (ms_add rfl iL iL (fun _ => ex4)) ?_
   refine sQ rfl (sp_move rfl iL) ?_
   refine AOps.nil ?_
   exact NextQ3.mk h6 (vec [(i6 0)]) ((by exact Weak.cv ⟨.inl iL, .inl iL, .inl iL, .inl iL, .inl iL, trivial⟩ trivial (Nat.le_refl _)))
  refine AW.seq_w fun K12 hK12 wK12 => ?_
  refine AW.region ?_
  refine sQ rfl (sp_move rfl iL) ?_
  refine sQ rfl (sp_assign rfl iL) ?_
  refine AOps.nil ?_
  refine hK12 _ ?_
  refine AW.seq_w fun K13 hK13 wK13 => ?_
  refine AW.region ?_
  refine sQ rfl (sp_move rfl iL) ?_
  refine sQ rfl (sp_move rfl iL) ?_
  refine ob1k hp1 fun x5 ex5 h7 => ?_
  refine sQ rfl (ms_idx rfl tg_23.slice iL iL (fun _ => rfl) (fun _ => ex5)) ?_
  refine sQ rfl (ms_loadA (cs := [.r (.int .i64 x5.Kind), .r (.int .i64 x5.N), .r (.sl (x5.Attrs.map GAttr.row)), .r (.sl (x5.Elems.map GElem.row))]) rfl ta_31 iL rfl rfl) ?_
  refine AOps.step rfl rfl rfl (ms_alloc (cs := [.r (.int .i64 0), .r (.int .i64 0), .cst (.slice none 0 0), .cst (.slice none 0 0)]) 6 rfl t0_31 rfl rfl) ?_
  refine AOps.step0 rfl rfl (ms_store_box (ds := [.r (.int .i64 x5.Kind), .r (.int .i64 x5.N), .r (.sl (x5.Attrs.map GAttr.row)), .r (.sl (x5.Elems.map GElem.row))]) rfl tz_31 iL rfl iL rfl rfl rfl rfl) ?_
  refine AOps.nil ?_
  refine hK13 _ ?_
  refine AW.seq_w fun K14 hK14 wK14 => ?_
  refine AW.seq_w fun K15 hK15 wK15 => ?_
  refine AW.region ?_
  refine sQ rfl (ms_loadA_box rfl ta_31 iL rfl rfl) ?_
  refine ob1k h7 fun e1 ee1 h8 => ?_
  refine AOps.step rfl rfl rfl (sp_call (r := .r (.int .i64 e1)) (caps := []) (bs := [.agg [.r (.int .i64 x5.Kind), .r (.int .i64 x5.N), .r (.sl (x5.Attrs.map GAttr.row)), .r (.sl (x5.Elems.map GElem.row))]]) rfl iL rfl ⟨⟨_, iL, .g (cs := [.int .i64 x5.Kind, .int .i64 x5.N, .sl (x5.Attrs.map GAttr.row), .sl (x5.Elems.map GElem.row)]) rfl rfl⟩, trivial⟩ (fun _ => w_ref_StepError (ee1)) rfl) ?_
  refine sQ rfl (sp_assign rfl iL) ?_
  refine AOps.nil ?_
  refine hK15 _ ?_
  refine AW.seq_w fun K16 hK16 wK16 => ?_
  refine AW.region ?_
  refine sQ rfl (sp_move rfl iL) ?_
  refine sQ rfl (sp_neq rfl iL iL) ?_
  refine AOps.nil ?_
  refine hK16 _ ?_
  refine AW.cond rfl (fun hc3 => ?_) (fun hc3 => ?_)
  ·have h9 := ite_t hc3 h8
   refine AW.seq_w fun K17 hK17 wK17 => ?_
   refine AW.weak (s' := ⟨[(7, .r (.int .i64 e1))], [], ((i3 0) + 1), 85⟩) (by exact Weak.cv ⟨.inl iL, trivial⟩ trivial (Nat.le_refl _)) ?_
   refine AW.region ?_
   refine sQ rfl (sp_move rfl iL) ?_
   refine sQ rfl (sp_assign rfl iL) ?_
   refine AOps.nil ?_
   refine hK17 _ ?_
   refine AW.ret ?_
   exact retf1 (P := Try.prog) (fun (r : Int) => .r (.int .i64 r)) (he1 _ (hx1 _ (Option.some.inj (he2 _ (Option.some.inj h9).symm)).symm)) iL (.t (.d rfl))
  ·have h9 := ite_f hc3 h8
   refine AW.skip ?_
   refine hK14 _ ?_
   refine AW.seq_w fun K18 hK18 wK18 => ?_
   refine AW.seq_w fun K19 hK19 wK19 => ?_
   refine AW.weak (s' := ⟨[(0, .r (.sl (d1.map GStep.row))), (3, .r (.int .i64 old2)), (4, .r (.int .i64 now2)), (5, .r (.int .i64 x2)), (6, .ptr 6 (i3 0) 0 0), (10, .r (.int .i64 (d1.length : Int))), (11, .r (.int .i64 x2))], [(6, some (.box (i3 0) 31 [.r (.int .i64 x5.Kind), .r (.int .i64 x5.N), .r (.sl (x5.Attrs.map GAttr.row)), .r (.sl (x5.Elems.map GElem.row))]))], ((i3 0) + 1), 85⟩) (by exact Weak.cv ⟨.inl iL, .inl iL, .inl iL, .inl iL, .inl iL, .inl iL, .inl iL, trivial⟩ ⟨.inl rfl, trivial⟩ (Nat.le_refl _)) ?_
   refine AW.region ?_
   refine sQ rfl (sp_move rfl iL) ?_
   refine sQ rfl (sp_gtr rfl iL iL) ?_
   refine AOps.nil ?_
   refine hK19 _ ?_
   refine jc1k h9 fun p2 hp2 hk3 he3 => ?_
   have J3 : ∀ (u2 : Unit) (i7 : Nat → Nat), p2 = .nrm u2 → K18 ⟨[(0, .r (.sl (d1.map GStep.row))), (3, .r (.int .i64 old2)), (4, .r (.int .i64 now2)), (6, .ptr 6 (i3 0) 0 0), (10, .r (.int .i64 (d1.length : Int))), (11, .r (.int .i64 x2))], [(6, some (.box (i3 0) 31 [.r (.int .i64 x5.Kind), .r (.int .i64 x5.N), .r (.sl (x5.Attrs.map GAttr.row)), .r (.sl (x5.Elems.map GElem.row))]))], (i7 0), 85⟩ := by
    intro u2 i7 e
    have h10 := hk3 _ e
    refine hK18 _ ?_
    refine AW.seq_w fun K20 hK20 wK20 => ?_
    refine AW.seq_w fun K21 hK21 wK21 => ?_
    refine AW.region ?_
    refine sQ rfl (sp_fieldAddr_own (ob := .box _ _ _) rfl tf_31_0 iL (fun _ => rfl) rfl) ?_
    refine sQ rfl (ms_load_box (a := .r (.int .i64 x5.Kind)) rfl ts_3 iL rfl rfl) ?_
    refine sQ rfl (sp_neq rfl iL iL) ?_
    refine sQ rfl (sp_move rfl iL) ?_
    refine sW (.one rfl rfl rfl) rfl (sp_move rfl iL) ?_
    refine sW (.one rfl rfl rfl) rfl (sp_lss rfl (.inr ⟨_, (by exact id), rfl⟩) iL) ?_
    refine sQ rfl (sp_and rfl iL (.inr ⟨_, (by exact id), rfl⟩)) ?_
    refine AOps.nil ?_
    refine hK21 _ ?_
    refine jb1k h10 fun p3 hp3 hk4 => ?_
    have J4 : ∀ (old6 : Int) (i8 : Nat → Nat), p3 = old6 → K20 ⟨[(0, .r (.sl (d1.map GStep.row))), (3, .r (.int .i64 old6)), (4, .r (.int .i64 now2)), (6, .ptr 6 (i3 0) 0 0), (10, .r (.int .i64 (d1.length : Int))), (11, .r (.int .i64 x2))], [(6, some (.box (i3 0) 31 [.r (.int .i64 x5.Kind), .r (.int .i64 x5.N), .r (.sl (x5.Attrs.map GAttr.row)), .r (.sl (x5.Elems.map GElem.row))]))], (i8 0), 85⟩ := by
     intro old6 i8 e
     have h11 := hk4 _ e
     refine hK20 _ ?_
     refine AW.seq_w fun K22 hK22 wK22 => ?_
     refine AW.region ?_
     refine sQ rfl (sp_fieldAddr_own (ob := .box _ _ _) rfl tf_31_0 iL (fun _ => rfl) rfl) ?_
     refine sQ rfl (ms_load_box (a := .r (.int .i64 x5.Kind)) rfl ts_3 iL rfl rfl) ?_
     refine sQ rfl (sp_neq rfl iL iL) ?_
     refine sQ rfl (sp_move rfl iL) ?_
     refine sW (.one rfl rfl rfl) rfl (sp_move rfl iL) ?_
     refine sW (.one rfl rfl rfl) rfl (sp_lss rfl (.inr ⟨_, (by exact id), rfl⟩) iL) ?_
     refine sQ rfl (sp_and rfl iL (.inr ⟨_, (by exact id), rfl⟩)) ?_
     refine AOps.nil ?_
     refine hK22 _ ?_
     refine AW.cond rfl (fun hc4 => ?_) (fun hc4 => ?_)
     ·have h12 := ite_t hc4 h11
      refine AW.region ?_
      refine sQ rfl (sp_move rfl iL) ?_
      refine sQ rfl (sp_fieldAddr_own (ob := .box _ _ _) rfl tf_31_1 iL (fun _ => rfl) rfl) ?_
      refine sQ rfl (ms_load_box (a := .r (.int .i64 x5.N)) rfl ts_3 iL rfl rfl) ?_
      refine sQ rfl (sp_fieldAddr_own (ob := .box _ _ _) rfl tf_31_3 iL (fun _ => rfl) rfl) ?_
      refine sQ rfl (ms_load_box (a := .r (.sl (x5.Elems.map GElem.row))) rfl ts_22 iL rfl rfl) ?_
      refine sQ rfl (ms_len rfl tg_22.slice iL) ?_
      refine ob1k h12 fun x6 ex6 h13 => ?_
      refine sQ rfl (ms_add rfl iL iL (fun _ => ex6)) ?_
      refine ob1k h13 fun now6 enow6 h14 => ?_
      refine sQ rfl (ms_add rfl iL iL (fun _ => enow6)) ?_
      refine sQ rfl (sp_assign rfl iL) ?_
      refine AOps.nil ?_
      exact wK11 _ _ ((by exact Weak.cv ⟨.inl iL, .inl iL, .inl iL, .inl iL, .inl iL, trivial⟩ trivial (Nat.le_refl _))) (J2 _ _ (vec [(i8 0)]) (Option.some.inj h14).symm)
     ·have h12 := ite_f hc4 h11
      refine AW.skip ?_
      exact wK11 _ _ ((by exact Weak.cv ⟨.inl iL, .inl iL, .inl iL, .inl iL, .inl iL, trivial⟩ trivial (Nat.le_refl _))) (J2 _ _ (vec [(i8 0)]) (Option.some.inj h12).symm)
    refine AW.cond rfl (fun hc5 => ?_) (fun hc5 => ?_)
    ·have h15 := ite_t hc5 hp3
     refine AW.region ?_
     refine sQ rfl (sp_move rfl iL) ?_
     refine sQ rfl (sp_fieldAddr_own (ob := .box _ _ _) rfl tf_31_1 iL (fun _ => rfl) rfl) ?_
     refine sQ rfl (ms_load_box (a := .r (.int .i64 x5.N)) rfl ts_3 iL rfl rfl) ?_
     refine ob1k h15 fun old7 eold7 h16 => ?_
     refine sQ rfl (ms_add rfl iL iL (fun _ => eold7)) ?_
     refine sQ rfl (sp_assign rfl iL) ?_
     refine AOps.nil ?_
     exact wK20 _ _ ((by exact Weak.cv ⟨.inl iL, .inl iL, .inl iL, .inl iL, .inl iL, .inl iL, trivial⟩ ⟨.inl rfl, trivial⟩ (Nat.le_refl _))) (J4 _ (vec [(i7 0)]) (Option.some.inj h16).symm)
    ·have h15 := ite_f hc5 hp3
     refine AW.skip ?_
     exact wK20 _ _ ((by exact Weak.cv ⟨.inl iL, .inl iL, .inl iL, .inl iL, .inl iL, .inl iL, trivial⟩ ⟨.inl rfl, trivial⟩ (Nat.le_refl _))) (J4 _ (vec [(i7 0)]) (Option.some.inj h15).symm)
   refine AW.cond rfl (fun hc6 => ?_) (fun hc6 => ?_)
   ·have h17 := ite_t hc6 hp2
    refine AW.seq_w fun K23 hK23 wK23 => ?_
    refine AW.region ?_
    refine sQ rfl (sp_move rfl iL) ?_
    refine sQ rfl (sp_move rfl iL) ?_
    refine ob1k h17 fun x7 ex7 h18 => ?_
    refine sQ rfl (ms_sub rfl iL iL (fun _ => ex7)) ?_
    refine ob1k h18 fun x8 ex8 h19 => ?_
    refine sQ rfl (ms_idx rfl tg_23.slice iL iL (fun _ => rfl) (fun _ => ex8)) ?_
    refine sQ rfl (ms_loadA (cs := [.r (.int .i64 x8.Kind), .r (.int .i64 x8.N), .r (.sl (x8.Attrs.map GAttr.row)), .r (.sl (x8.Elems.map GElem.row))]) rfl ta_31 iL rfl rfl) ?_
    refine AOps.step rfl rfl rfl (ms_alloc (cs := [.r (.int .i64 0), .r (.int .i64 0), .cst (.slice none 0 0), .cst (.slice none 0 0)]) 8 rfl t0_31 rfl rfl) ?_
    refine AOps.step0 rfl rfl (ms_store_box (ds := [.r (.int .i64 x8.Kind), .r (.int .i64 x8.N), .r (.sl (x8.Attrs.map GAttr.row)), .r (.sl (x8.Elems.map GElem.row))]) rfl tz_31 iL rfl iL rfl rfl rfl rfl) ?_
    refine AOps.nil ?_
    refine hK23 _ ?_
    refine AW.seq_w fun K24 hK24 wK24 => ?_
    refine AW.region ?_
    refine sQ rfl (sp_fieldAddr_own (ob := .box _ _ _) rfl tf_31_0 iL (fun _ => rfl) rfl) ?_
    refine sQ rfl (ms_load_box (a := .r (.int .i64 x5.Kind)) rfl ts_3 iL rfl rfl) ?_
    refine AOps.nil ?_
    refine hK24 _ ?_
    refine AW.block ?_
    refine AW.seq_w fun K25 hK25 wK25 => ?_
    refine AW.weak (s' := ⟨[(0, .r (.sl (d1.map GStep.row))), (3, .r (.int .i64 old2)), (4, .r (.int .i64 now2)), (6, .ptr 6 (i3 0) 0 0), (8, .ptr 8 ((i3 0) + 1) 0 0), (10, .r (.int .i64 (d1.length : Int))), (11, .r (.int .i64 x2)), (31, .r (.int .i64 x5.Kind))], [(6, some (.box (i3 0) 31 [.r (.int .i64 x5.Kind), .r (.int .i64 x5.N), .r (.sl (x5.Attrs.map GAttr.row)), .r (.sl (x5.Elems.map GElem.row))])), (8, some (.box ((i3 0) + 1) 31 [.r (.int .i64 x8.Kind), .r (.int .i64 x8.N), .r (.sl (x8.Attrs.map GAttr.row)), .r (.sl (x8.Elems.map GElem.row))]))], ((i3 0) + 2), 85⟩) (by exact Weak.cv ⟨.inl iL, .inl iL, .inl iL, .inl iL, .inl iL, .inl iL, .inl iL, .inl iL, trivial⟩ ⟨.inl rfl, .inl rfl, trivial⟩ (Nat.le_refl _)) ?_
    refine AW.region ?_
    refine sQ rfl (sp_eql rfl iL iL) ?_
    refine sQ rfl (sp_assign rfl iL) ?_
    refine AOps.nil ?_
    refine hK25 _ ?_
    refine AW.cond rfl (fun hc7 => ?_) (fun hc7 => ?_)
    ·have h20 := ite_t hc7 h19
     refine AW.seq_w fun K26 hK26 wK26 => ?_
     refine AW.region ?_
     refine sQ rfl (sp_fieldAddr_own (ob := .box _ _ _) rfl tf_31_0 iL (fun _ => rfl) rfl) ?_
     refine sQ rfl (ms_load_box (a := .r (.int .i64 x8.Kind)) rfl ts_3 iL rfl rfl) ?_
     refine sQ rfl (sp_neq rfl iL iL) ?_
     refine AOps.nil ?_
     refine hK26 _ ?_
     refine AW.cond rfl (fun hc8 => ?_) (fun hc8 => ?_)
     ·have h21 := ite_t hc8 h20
      refine AW.seq_w fun K27 hK27 wK27 => ?_
      refine AW.weak (s' := ⟨[], [], ((i3 0) + 2), 85⟩) (by exact Weak.cv trivial trivial (Nat.le_refl _)) ?_
      refine AW.region ?_
      refine sQ rfl (sp_assign rfl iL) ?_
      refine AOps.nil ?_
      refine hK27 _ ?_
      refine AW.ret ?_
      exact retf1 (P := Try.prog) (fun (r : Int) => .r (.int .i64 r)) (he1 _ (hx1 _ (Option.some.inj (he2 _ (Option.some.inj (he3 _ (Option.some.inj h21).symm)).symm)).symm)) iL (.t (.d rfl))
     ·have h21 := ite_f hc8 h20
      refine AW.skip ?_
      exact wK18 _ _ ((by exact Weak.cv ⟨.inl iL, .inl iL, .inl iL, .inl iL, .inl iL, .inl iL, trivial⟩ ⟨.inl rfl, trivial⟩ (Nat.le_refl _))) (J3 _ (vec [((i3 0) + 2)]) (Option.some.inj h21).symm)
    ·have h20 := ite_f hc7 h19
     refine AW.seq_w fun K28 hK28 wK28 => ?_
     refine AW.region ?_
     refine sQ rfl (sp_eql rfl iL iL) ?_
     refine sQ rfl (sp_assign rfl iL) ?_
     refine AOps.nil ?_
     refine hK28 _ ?_
     refine AW.cond rfl (fun hc9 => ?_) (fun hc9 => ?_)
     ·have h22 := ite_t hc9 h20
      refine AW.seq_w fun K29 hK29 wK29 => ?_
      refine AW.region ?_
      refine sQ rfl (sp_fieldAddr_own (ob := .box _ _ _) rfl tf_31_0 iL (fun _ => rfl) rfl) ?_
      refine sQ rfl (ms_load_box (a := .r (.int .i64 x8.Kind)) rfl ts_3 iL rfl rfl) ?_
      refine sQ rfl (sp_eql rfl iL iL) ?_
      refine AOps.nil ?_
      refine hK29 _ ?_
      refine AW.cond rfl (fun hc10 => ?_) (fun hc10 => ?_)
      ·have h23 := ite_t hc10 h22
       refine AW.seq_w fun K30 hK30 wK30 => ?_
       refine AW.weak (s' := ⟨[], [], ((i3 0) + 2), 85⟩) (by exact Weak.cv trivial trivial (Nat.le_refl _)) ?_
       refine AW.region ?_
       refine sQ rfl (sp_assign rfl iL) ?_
       refine AOps.nil ?_
       refine hK30 _ ?_
       refine AW.ret ?_
       exact retf1 (P := Try.prog) (fun (r : Int) => .r (.int .i64 r)) (he1 _ (hx1 _ (Option.some.inj (he2 _ (Option.some.inj (he3 _ (Option.some.inj h23).symm)).symm)).symm)) iL (.t (.d rfl))
      ·have h23 := ite_f hc10 h22
       refine AW.skip ?_
       exact wK18 _ _ ((by exact Weak.cv ⟨.inl iL, .inl iL, .inl iL, .inl iL, .inl iL, .inl iL, trivial⟩ ⟨.inl rfl, trivial⟩ (Nat.le_refl _))) (J3 _ (vec [((i3 0) + 2)]) (Option.some.inj h23).symm)
     ·have h22 := ite_f hc9 h20
      refine AW.seq_w fun K31 hK31 wK31 => ?_
      refine AW.region ?_
      refine sQ rfl (sp_fieldAddr_own (ob := .box _ _ _) rfl tf_31_0 iL (fun _ => rfl) rfl) ?_
      refine sQ rfl (ms_load_box (a := .r (.int .i64 x8.Kind)) rfl ts_3 iL rfl rfl) ?_
      refine sQ rfl (sp_eql rfl iL iL) ?_
      refine sQ rfl (sp_move rfl iL) ?_
      refine sW (.one rfl rfl rfl) rfl (sp_fieldAddr_own (ob := .box _ _ _) rfl tf_31_2 iL (fun _ => rfl) rfl) ?_
      refine sW (.one rfl rfl rfl) rfl (ms_load_box (a := .r (.sl (x8.Attrs.map GAttr.row))) rfl ts_29 (.inr ⟨_, (by exact id), rfl⟩) rfl rfl) ?_
      refine sW (.one rfl rfl rfl) rfl (sp_fieldAddr_own (ob := .box _ _ _) rfl tf_31_2 iL (fun _ => rfl) rfl) ?_
      refine sW (.one rfl rfl rfl) rfl (ms_load_box (a := .r (.sl (x5.Attrs.map GAttr.row))) rfl ts_29 (.inr ⟨_, (by exact id), rfl⟩) rfl rfl) ?_
      refine ob1k h22 fun r1 er1 h24 => ?_
      refine AOps.stepW (.one rfl rfl rfl) rfl rfl (sp_call (r := .r (.bool r1)) (caps := []) (bs := [.r (.sl (x8.Attrs.map GAttr.row)), .r (.sl (x5.Attrs.map GAttr.row))]) rfl iL rfl ⟨⟨_, (.inr ⟨_, (by exact id), rfl⟩), .d rfl⟩, ⟨_, (.inr ⟨_, (by exact id), rfl⟩), .d rfl⟩, trivial⟩ (fun hg => w_ref_SameAttrs (gdt er1 hg)) rfl) ?_
      refine sQ rfl (sp_and rfl iL (.inr ⟨_, (by exact id), rfl⟩)) ?_
      refine AOps.nil ?_
      refine hK31 _ ?_
      refine AW.cond rfl (fun hc11 => ?_) (fun hc11 => ?_)
      ·have h25 := ite_t hc11 h24
       refine AW.seq_w fun K32 hK32 wK32 => ?_
       refine AW.weak (s' := ⟨[], [], ((i3 0) + 2), 85⟩) (by exact Weak.cv trivial trivial (Nat.le_refl _)) ?_
       refine AW.region ?_
       refine sQ rfl (sp_assign rfl iL) ?_
       refine AOps.nil ?_
       refine hK32 _ ?_
       refine AW.ret ?_
       exact retf1 (P := Try.prog) (fun (r : Int) => .r (.int .i64 r)) (he1 _ (hx1 _ (Option.some.inj (he2 _ (Option.some.inj (he3 _ (Option.some.inj h25).symm)).symm)).symm)) iL (.t (.d rfl))
      ·have h25 := ite_f hc11 h24
       refine AW.skip ?_
       exact wK18 _ _ ((by exact Weak.cv ⟨.inl iL, .inl iL, .inl iL, .inl iL, .inl iL, .inl iL, trivial⟩ ⟨.inl rfl, trivial⟩ (Nat.le_refl _))) (J3 _ (vec [((i3 0) + 2)]) (Option.some.inj h25).symm)
   ·have h17 := ite_f hc6 hp2
    refine AW.skip ?_
    exact wK18 _ _ ((by exact Weak.cv ⟨.inl iL, .inl iL, .inl iL, .inl iL, .inl iL, .inl iL, trivial⟩ ⟨.inl rfl, trivial⟩ (Nat.le_refl _))) (J3 _ (vec [((i3 0) + 1)]) (Option.some.inj h17).symm)
 ·have h4 := ite_f hc2 h3
  refine AW.exit ?_
  exact wK3 _ _ ((by exact Weak.cv ⟨.inl iL, .inl iL, trivial⟩ trivial (Nat.le_refl _))) (J1 _ _ (vec [(i3 0)]) (hx1 _ (Option.some.inj h4).symm))
set_option maxHeartbeats 4000000 in
set_option maxRecDepth 20000 in
theorem w_ref_Tied {a1 : List GElem} {b1 : List GElem} {r : Bool} (h : ref_Tied a1 b1 = some r) : ARO Try.prog 21 [.r (.sl (a1.map GElem.row)), .r (.sl (b1.map GElem.row))] (.r (.bool r)) := by
 unfold ref_Tied at h
 refine ARO.mkF Try.func21 rfl rfl Try.ntmps21 rfl (Nat.le_of_ble_eq_true rfl) fun n0 => ?_
 refine AW.seq_w fun K1 hK1 wK1 => ?_
 refine AW.region ?_
 refine sQ rfl (sp_assign rfl iL) ?_
 refine AOps.nil ?_
 refine hK1 _ ?_
 refine AW.seq_w fun K2 hK2 wK2 => ?_
 refine AW.region ?_
 refine sQ rfl (sp_move rfl iL) ?_
 refine sQ rfl (ms_len rfl tg_22.slice iL) ?_
 refine sQ rfl (sp_gtr rfl iL iL) ?_
 refine sQ rfl (sp_move rfl iL) ?_
 refine sW (.one rfl rfl rfl) rfl (sp_move rfl iL) ?_
 refine sW (.one rfl rfl rfl) rfl (ms_len rfl tg_22.slice (.inr ⟨_, (by exact id), rfl⟩)) ?_
 refine sW (.one rfl rfl rfl) rfl (sp_gtr rfl (.inr ⟨_, (by exact id), rfl⟩) iL) ?_
 refine sQ rfl (sp_and rfl iL (.inr ⟨_, (by exact id), rfl⟩)) ?_
 refine sQ rfl (sp_move rfl iL) ?_
 refine sW (.one rfl rfl rfl) rfl (sp_move rfl iL) ?_
 refine sW (.one rfl rfl rfl) rfl (sp_move rfl iL) ?_
 refine sW (.one rfl rfl rfl) rfl (ms_len rfl tg_22.slice (.inr ⟨_, (by exact id), rfl⟩)) ?_
 refine ob1k h fun x1 ex1 h1 => ?_
 refine sW (.one rfl rfl rfl) rfl (ms_sub rfl (.inr ⟨_, (by exact id), rfl⟩) iL (gdt ex1)) ?_
 refine ob1k h1 fun x2 ex2 h2 => ?_
 refine sW (.one rfl rfl rfl) rfl (ms_idx rfl tg_22.slice (.inr ⟨_, (by exact id), rfl⟩) (.inr ⟨_, (by exact id), rfl⟩) (fun _ => rfl) (gdt ex2)) ?_
 refine sW (.one rfl rfl rfl) rfl (sp_fieldAddr_ro rfl tf_82_0 (.inr ⟨_, (by exact id), rfl⟩)) ?_
 refine sW (.one rfl rfl rfl) rfl (ms_load (d := .int .i64 x2.Char) rfl ts_3 (.inr ⟨_, (by exact id), rfl⟩) rfl) ?_
 refine sW (.one rfl rfl rfl) rfl (sp_eql rfl (.inr ⟨_, (by exact id), rfl⟩) iL) ?_
 refine sQ rfl (sp_and rfl iL (.inr ⟨_, (by exact id), rfl⟩)) ?_
 refine sQ rfl (sp_move rfl iL) ?_
 refine sW (.one rfl rfl rfl) rfl (sp_move rfl iL) ?_
 refine sW (.one rfl rfl rfl) rfl (sp_move rfl iL) ?_
 refine sW (.one rfl rfl rfl) rfl (ms_len rfl tg_22.slice (.inr ⟨_, (by exact id), rfl⟩)) ?_
 refine ob1k h2 fun x3 ex3 h3 => ?_
 refine sW (.one rfl rfl rfl) rfl (ms_sub rfl (.inr ⟨_, (by exact id), rfl⟩) iL (gdt ex3)) ?_
 refine ob1k h3 fun x4 ex4 h4 => ?_
 refine sW (.one rfl rfl rfl) rfl (ms_idx rfl tg_22.slice (.inr ⟨_, (by exact id), rfl⟩) (.inr ⟨_, (by exact id), rfl⟩) (fun _ => rfl) (gdt ex4)) ?_
 refine sW (.one rfl rfl rfl) rfl (sp_fieldAddr_ro rfl tf_82_0 (.inr ⟨_, (by exact id), rfl⟩)) ?_
 refine sW (.one rfl rfl rfl) rfl (ms_load (d := .int .i64 x4.Char) rfl ts_3 (.inr ⟨_, (by exact id), rfl⟩) rfl) ?_
 refine sW (.one rfl rfl rfl) rfl (sp_eql rfl (.inr ⟨_, (by exact id), rfl⟩) iL) ?_
 refine sQ rfl (sp_and rfl iL (.inr ⟨_, (by exact id), rfl⟩)) ?_
 refine sQ rfl (sp_assign rfl iL) ?_
 refine AOps.nil ?_
 refine hK2 _ ?_
 refine AW.ret ?_
 exact retf1 (P := Try.prog) (fun (r : Bool) => .r (.bool r)) h4 iL (.t (.d rfl))
set_option maxHeartbeats 4000000 in
set_option maxRecDepth 20000 in
theorem w_ref_DiffCost_B {self : (List GElem) → (List GElem) → Bool → Option Int} (hself : ∀ {a1 : List GElem} {b1 : List GElem} {tied1 : Bool} {r : Int}, self a1 b1 tied1 = some r → ARO Try.prog 20 [.r (.sl (a1.map GElem.row)), .r (.sl (b1.map GElem.row)), .r (.bool tied1)] (.r (.int .i64 r))) {a1 : List GElem} {b1 : List GElem} {tied1 : Bool} {r : Int} (h : ref_DiffCost_B self a1 b1 tied1 = some r) : ARO Try.prog 20 [.r (.sl (a1.map GElem.row)), .r (.sl (b1.map GElem.row)), .r (.bool tied1)] (.r (.int .i64 r)) := by
 unfold ref_DiffCost_B at h
 refine ARO.mkF Try.func20 rfl rfl Try.ntmps20 rfl (Nat.le_of_ble_eq_true rfl) fun n0 => ?_
 refine AW.seq_w fun K1 hK1 wK1 => ?_
 refine AW.region ?_
 refine sQ rfl (sp_assign rfl iL) ?_
 refine AOps.nil ?_
 refine hK1 _ ?_
 refine AW.seq_w fun K2 hK2 wK2 => ?_
 refine AW.seq_w fun K3 hK3 wK3 => ?_
 refine AW.region ?_
 refine sQ rfl (sp_move rfl iL) ?_
 refine AOps.nil ?_
 refine hK3 _ ?_
 refine AW.cond rfl (fun hc1 => ?_) (fun hc1 => ?_)
 ·have h1 := ite_t hc1 h
  refine AW.seq_w fun K4 hK4 wK4 => ?_
  refine AW.region ?_
  refine sQ rfl (sp_assign rfl iL) ?_
  refine AOps.nil ?_
  refine hK4 _ ?_
  refine AW.seq_w fun K5 hK5 wK5 => ?_
  refine AW.seq_w fun K6 hK6 wK6 => ?_
  refine AW.regionQ hmix (by kernel_rfl) ?_
  refine AQ.step rfl rfl rfl (sp_move rfl iL) ?_
  refine AQ.step rfl rfl rfl (sp_move rfl iL) ?_
  refine AQ.step rfl rfl rfl (ms_len rfl tg_22.slice iL) ?_
  refine ob1k h1 fun x1 ex1 h2 => ?_
  refine AQ.step rfl rfl rfl (ms_sub rfl iL iL (fun _ => ex1)) ?_
  refine ob1k h2 fun x2 ex2 h3 => ?_
  refine AQ.step rfl rfl rfl (ms_idx rfl tg_22.slice iL iL (fun _ => rfl) (fun _ => ex2)) ?_
  refine AQ.step rfl rfl rfl (sp_fieldAddr_ro rfl tf_82_2 iL) ?_
  refine AQ.step rfl rfl rfl (ms_load (d := .sl (x2.Attrs.map GAttr.row)) rfl ts_29 iL rfl) ?_
  refine AQ.step rfl rfl rfl (sp_move rfl iL) ?_
  refine AQ.step rfl rfl rfl (sp_move rfl iL) ?_
  refine AQ.step rfl rfl rfl (ms_len rfl tg_22.slice iL) ?_
  refine ob1k h3 fun x3 ex3 h4 => ?_
  refine AQ.step rfl rfl rfl (ms_sub rfl iL iL (fun _ => ex3)) ?_
  refine ob1k h4 fun x4 ex4 h5 => ?_
  refine AQ.step rfl rfl rfl (ms_idx rfl tg_22.slice iL iL (fun _ => rfl) (fun _ => ex4)) ?_
  refine AQ.step rfl rfl rfl (sp_fieldAddr_ro rfl tf_82_2 iL) ?_
  refine AQ.step rfl rfl rfl (ms_load (d := .sl (x4.Attrs.map GAttr.row)) rfl ts_29 iL rfl) ?_
  refine ob1k h5 fun r1 er1 h6 => ?_
  refine AQ.stepC rfl rfl rfl (r := .r (.bool r1)) (caps := []) (bs := [.r (.sl (x2.Attrs.map GAttr.row)), .r (.sl (x4.Attrs.map GAttr.row))]) rfl iL rfl ⟨⟨_, iL, .d rfl⟩, ⟨_, iL, .d rfl⟩, trivial⟩ (fun _ => w_ref_SameAttrs (er1)) rfl ?_
  refine AQ.step rfl rfl rfl (sp_not rfl iL) ?_
  refine AQ.nil ?_
  refine hK6 _ ?_
  refine jb1k h6 fun p1 hp1 hk1 => ?_
  have J1 : ∀ (n1 : Int) (i1 : Nat → Nat), p1 = n1 → K5 ⟨[(0, .r (.sl (a1.map GElem.row))), (1, .r (.sl (b1.map GElem.row))), (7, .r (.int .i64 n1))], [], (i1 0), 140⟩ := by
   intro n1 i1 e
   have h7 := hk1 _ e
   refine hK5 _ ?_
   refine AW.seq_w fun K7 hK7 wK7 => ?_
   refine AW.regionQ hmix (by kernel_rfl) ?_
   refine AQ.step rfl rfl rfl (sp_move rfl iL) ?_
   refine AQ.step rfl rfl rfl (sp_move rfl iL) ?_
   refine AQ.step rfl rfl rfl (sp_move rfl iL) ?_
   refine AQ.step rfl rfl rfl (ms_len rfl tg_22.slice iL) ?_
   refine AQ.step rfl rfl rfl (ms_sub rfl iL iL (fun _ => ex1)) ?_
   refine ob1k h7 fun l1 el1 h8 => ?_
   refine AQ.step rfl rfl rfl (ms_slice rfl tg_22.slice iL (by exact rfl) (by exact ⟨_, iL⟩) (fun _ => rfl) (fun _ => el1)) ?_
   refine AQ.step rfl rfl rfl (sp_move rfl iL) ?_
   refine AQ.step rfl rfl rfl (sp_move rfl iL) ?_
   refine AQ.step rfl rfl rfl (ms_len rfl tg_22.slice iL) ?_
   refine AQ.step rfl rfl rfl (ms_sub rfl iL iL (fun _ => ex3)) ?_
   refine ob1k h8 fun l2 el2 h9 => ?_
   refine AQ.step rfl rfl rfl (ms_slice rfl tg_22.slice iL (by exact rfl) (by exact ⟨_, iL⟩) (fun _ => rfl) (fun _ => el2)) ?_
   refine ob1k h9 fun r2 er2 h10 => ?_
   refine AQ.stepC rfl rfl rfl (r := .r (.int .i64 r2)) (caps := []) (bs := [.r (.sl (l1.map GElem.row)), .r (.sl (l2.map GElem.row)), .r (.bool false)]) rfl iL rfl ⟨⟨_, iL, .d rfl⟩, ⟨_, iL, .d rfl⟩, ⟨_, iL, .d rfl⟩, trivial⟩ (fun _ => hself (er2)) rfl ?_
   refine ob1k h10 fun x5 ex5 h11 => ?_
   refine AQ.step rfl rfl rfl (ms_add rfl iL iL (fun _ => ex5)) ?_
   refine AQ.step rfl rfl rfl (sp_assign rfl iL) ?_
   refine AQ.nil ?_
   refine hK7 _ ?_
   refine AW.ret ?_
   exact retf1 (P := Try.prog) (fun (r : Int) => .r (.int .i64 r)) h11 iL (.t (.d rfl))
  refine AW.cond rfl (fun hc2 => ?_) (fun hc2 => ?_)
  ·have h12 := ite_t hc2 hp1
   refine AW.weak (s' := ⟨[(0, .r (.sl (a1.map GElem.row))), (1, .r (.sl (b1.map GElem.row)))], [], n0, 140⟩) (by exact Weak.cv ⟨.inl iL, .inl iL, trivial⟩ trivial (Nat.le_refl _)) ?_
   refine AW.region ?_
   refine sQ rfl (sp_assign rfl iL) ?_
   refine AOps.nil ?_
   exact wK5 _ _ ((by exact Weak.cv ⟨.inl iL, .inl iL, .inl iL, trivial⟩ trivial (Nat.le_refl _))) (J1 _ (vec [n0]) (Option.some.inj h12).symm)
  ·have h12 := ite_f hc2 hp1
   refine AW.skip ?_
   exact wK5 _ _ ((by exact Weak.cv ⟨.inl iL, .inl iL, .inl iL, trivial⟩ trivial (Nat.le_refl _))) (J1 _ (vec [n0]) (Option.some.inj h12).symm)
 ·have h1 := ite_f hc1 h
  refine AW.skip ?_
  refine hK2 _ ?_
  refine AW.seq_w fun K8 hK8 wK8 => ?_
  refine AW.region ?_
  refine sQ rfl (sp_move rfl iL) ?_
  refine sQ rfl (ms_len rfl tg_22.slice iL) ?_
  refine ob1k h1 fun x6 ex6 h13 => ?_
  refine sQ rfl (ms_add rfl iL iL (fun _ => ex6)) ?_
  refine ob1k h13 fun line1 eline1 h14 => ?_
  refine AOps.step rfl rfl rfl (ms_mk 48 rfl tg_87 (f := (rInt .i64)) (z0 := 0) tr_3 iL iL eline1) ?_
  refine sQ rfl (sp_assign rfl iL) ?_
  refine AOps.nil ?_
  refine hK8 _ ?_
  refine AW.seq_w fun K9 hK9 wK9 => ?_
  refine AW.seq_w fun K10 hK10 wK10 => ?_
  refine AW.region ?_
  refine sQ rfl (sp_move rfl iL) ?_
  refine sQ rfl (ms_len_own rfl tg_87.slice iL rfl) ?_
  refine sQ rfl (sp_move rfl iL) ?_
  refine AOps.nil ?_
  refine hK10 _ ?_
  refine AW.block ?_
  refine jb1k h14 fun o1 hit1 hk2 => ?_
  have J2 : ∀ (line5 : List Int) (i6 : Nat → Nat), o1 = line5 → K9 ⟨[(0, .r (.sl (a1.map GElem.row))), (1, .r (.sl (b1.map GElem.row))), (8, .own 48 (i6 0))], [(48, some (.arr (i6 0) 3 1 (line5.map (rInt .i64))))], (i6 1), 140⟩ := by
   intro line5 i6 e
   have h15 := hk2 _ e
   refine hK9 _ ?_
   refine AW.seq_w fun K11 hK11 wK11 => ?_
   refine AW.seq_w fun K12 hK12 wK12 => ?_
   refine AW.region ?_
   refine sQ rfl (sp_move rfl iL) ?_
   refine sQ rfl (ms_len rfl tg_22.slice iL) ?_
   refine sQ rfl (sp_move rfl iL) ?_
   refine AOps.nil ?_
   refine hK12 _ ?_
   refine AW.block ?_
   refine jb1k h15 fun o2 hit2 hk3 => ?_
   have J3 : ∀ (line9 : List Int) (i11 : Nat → Nat), o2 = line9 → K11 ⟨[(1, .r (.sl (b1.map GElem.row))), (8, .r (.sl (line9.map (rInt .i64))))], [], (i11 0), 140⟩ := by
    intro line9 i11 e
    have h16 := hk3 _ e
    refine hK11 _ ?_
    refine AW.seq_w fun K13 hK13 wK13 => ?_
    refine AW.region ?_
    refine sQ rfl (sp_move rfl iL) ?_
    refine sQ rfl (sp_move rfl iL) ?_
    refine sQ rfl (ms_len rfl tg_22.slice iL) ?_
    refine ob1k h16 fun x13 ex13 h17 => ?_
    refine sQ rfl (ms_idx rfl tg_87.slice iL iL (fun _ => rfl) (fun _ => ex13)) ?_
    refine sQ rfl (ms_load (d := .int .i64 x13) rfl ts_3 iL rfl) ?_
    refine sQ rfl (sp_assign rfl iL) ?_
    refine AOps.nil ?_
    refine hK13 _ ?_
    refine AW.ret ?_
    exact retf1 (P := Try.prog) (fun (r : Int) => .r (.int .i64 r)) h17 iL (.t (.d rfl))
   refine AW.iter2 (fun (line7 : List Int) (x11 : Int) i9 => ⟨[(0, .r (.sl (a1.map GElem.row))), (1, .r (.sl (b1.map GElem.row))), (8, .r (.sl (line7.map (rInt .i64)))), (60, .r (.int .i64 (a1.length : Int))), (61, .r (.int .i64 x11))], [], (i9 0), 140⟩) (vec [(i6 1)]) hit2 (Weak.trans (by exact Weak.frz (e' := [(0, .r (.sl (a1.map GElem.row))), (1, .r (.sl (b1.map GElem.row))), (8, .r (.sl (line5.map (rInt .i64)))), (59, .r (.sl (a1.map GElem.row))), (60, .r (.int .i64 (a1.length : Int))), (61, .r (.int .i64 0))]) (h' := []) 48 rfl ⟨.inl iL, .inl iL, .inl (.inr (.inr ⟨rfl, rfl⟩)), .inl iL, .inl iL, .inl iL, trivial⟩ trivial) (by exact Weak.cv ⟨.inl iL, .inl iL, .inl iL, .inl iL, .inl iL, trivial⟩ trivial (Nat.le_refl _))) ?_
   intro line7 x11 i9 v1 hv1 hx2
   have h18 : ref_DiffCost_L2 a1 b1 line7 x11 = some v1 := hv1; unfold ref_DiffCost_L2 at h18
   refine AW.seq_w fun K14 hK14 wK14 => ?_
   refine AW.region ?_
   refine sQ rfl (sp_lss rfl iL iL) ?_
   refine AOps.nil ?_
   refine hK14 _ ?_
   refine AW.seq_w fun K15 hK15 wK15 => ?_
   refine AW.cond rfl (fun hc3 => ?_) (fun hc3 => ?_)
   ·have h19 := ite_t hc3 h18
    refine AW.skip ?_
    refine hK15 _ ?_
    refine AW.seq_w fun K16 hK16 wK16 => ?_
    refine AW.block ?_
    refine AW.seq_w fun K17 hK17 wK17 => ?_
    refine AW.region ?_
    refine sQ rfl (sp_move rfl iL) ?_
    refine sQ rfl (sp_assign rfl iL) ?_
    refine AOps.nil ?_
    refine hK17 _ ?_
    refine AW.seq_w fun K18 hK18 wK18 => ?_
    refine AW.region ?_
    refine sQ rfl (sp_move rfl iL) ?_
    refine ob1k h19 fun x14 ex14 h20 => ?_
    refine sQ rfl (ms_add rfl iL iL (fun _ => ex14)) ?_
    refine AOps.step rfl rfl rfl (ms_lit 66 rfl tg_87 (f := (rInt .i64)) (l := ([x14] : List Int)) ⟨rfl, ⟨_, iL, rfl⟩, trivial⟩ rfl (fun _ => rfl) rfl) ?_
    refine sQ rfl (sp_assign rfl iL) ?_
    refine AOps.nil ?_
    refine hK18 _ ?_
    refine AW.seq_w fun K19 hK19 wK19 => ?_
    refine AW.seq_w fun K20 hK20 wK20 => ?_
    refine AW.region ?_
    refine sQ rfl (sp_move rfl iL) ?_
    refine sQ rfl (ms_len rfl tg_22.slice iL) ?_
    refine sQ rfl (sp_move rfl iL) ?_
    refine AOps.nil ?_
    refine hK20 _ ?_
    refine AW.block ?_
    refine jb1k h20 fun o3 hit3 hk4 => ?_
    have J4 : ∀ (next4 : List Int) (i16 : Nat → Nat), o3 = next4 → K19 ⟨[(0, .r (.sl (a1.map GElem.row))), (1, .r (.sl (b1.map GElem.row))), (11, .own 66 (i16 0)), (60, .r (.int .i64 (a1.length : Int))), (61, .r (.int .i64 x11))], [(66, some (.arr (i16 0) 3 1 (next4.map (rInt .i64))))], (i16 1), 140⟩ := by
     intro next4 i16 e
     have h21 := hk4 _ e
     refine hK19 _ ?_
     refine AW.region ?_
     refine sQ rfl (sp_move rfl iL) ?_
     refine sQ rfl (sp_assign rfl iL) ?_
     refine AOps.nil ?_
     refine hK16 _ ?_
     refine AW.region ?_
     refine sQ rfl (ms_add rfl iL iL (fun _ => ex14)) ?_
     refine sQ rfl (sp_move rfl iL) ?_
     refine AOps.nil ?_
     exact NextQ2.mk h21 (vec [(i16 1)]) (Weak.trans (by exact Weak.frz (e' := [(0, .r (.sl (a1.map GElem.row))), (1, .r (.sl (b1.map GElem.row))), (8, .r (.sl (next4.map (rInt .i64)))), (11, .r (.sl (next4.map (rInt .i64)))), (60, .r (.int .i64 (a1.length : Int))), (61, .r (.int .i64 x14)), (133, .r (.sl (next4.map (rInt .i64)))), (134, .r (.int .i64 x14))]) (h' := []) 66 rfl ⟨.inl iL, .inl iL, .inl (.inr (.inr ⟨rfl, rfl⟩)), .inl (.inr (.inr ⟨rfl, rfl⟩)), .inl iL, .inl iL, .inl (.inr (.inr ⟨rfl, rfl⟩)), .inl iL, trivial⟩ trivial) (by exact Weak.cv ⟨.inl iL, .inl iL, .inl iL, .inl iL, .inl iL, trivial⟩ trivial (Nat.le_refl _)))
    refine AW.iter2 (fun (x16 : Int) (next2 : List Int) i14 => ⟨[(0, .r (.sl (a1.map GElem.row))), (1, .r (.sl (b1.map GElem.row))), (8, .r (.sl (line7.map (rInt .i64)))), (10, .r (.int .i64 x11)), (11, .own 66 (i14 0)), (60, .r (.int .i64 (a1.length : Int))), (61, .r (.int .i64 x11)), (68, .r (.int .i64 (b1.length : Int))), (69, .r (.int .i64 x16))], [(66, some (.arr (i14 0) 3 1 (next2.map (rInt .i64))))], (i14 1), 140⟩) (vec [(i9 0), ((i9 0) + 1)]) hit3 ((by exact Weak.cv ⟨.inl iL, .inl iL, .inl iL, .inl iL, .inl iL, .inl iL, .inl iL, .inl iL, .inl iL, trivial⟩ ⟨.inl rfl, trivial⟩ (Nat.le_refl _))) ?_
    intro x16 next2 i14 v2 hv2 hx3
    have h22 : ref_DiffCost_L3 a1 b1 line7 x11 x16 next2 = some v2 := hv2; unfold ref_DiffCost_L3 at h22
    refine AW.seq_w fun K21 hK21 wK21 => ?_
    refine AW.region ?_
    refine sQ rfl (sp_lss rfl iL iL) ?_
    refine AOps.nil ?_
    refine hK21 _ ?_
    refine AW.seq_w fun K22 hK22 wK22 => ?_
    refine AW.cond rfl (fun hc4 => ?_) (fun hc4 => ?_)
    ·have h23 := ite_t hc4 h22
     refine AW.skip ?_
     refine hK22 _ ?_
     refine AW.seq_w fun K23 hK23 wK23 => ?_
     refine AW.block ?_
     refine AW.seq_w fun K24 hK24 wK24 => ?_
     refine AW.region ?_
     refine sQ rfl (sp_move rfl iL) ?_
     refine sQ rfl (sp_assign rfl iL) ?_
     refine AOps.nil ?_
     refine hK24 _ ?_
     refine AW.seq_w fun K25 hK25 wK25 => ?_
     refine AW.regionQ hmix (by kernel_rfl) ?_
     refine AQ.step rfl rfl rfl (sp_move rfl iL) ?_
     refine AQ.step rfl rfl rfl (sp_move rfl iL) ?_
     refine ob1k h23 fun x18 ex18 h24 => ?_
     refine AQ.step rfl rfl rfl (ms_add rfl iL iL (fun _ => ex18)) ?_
     refine ob1k h24 fun x19 ex19 h25 => ?_
     refine AQ.step rfl rfl rfl (ms_idx rfl tg_87.slice iL iL (fun _ => rfl) (fun _ => ex19)) ?_
     refine AQ.step rfl rfl rfl (ms_load (d := .int .i64 x19) rfl ts_3 iL rfl) ?_
     refine AQ.step rfl rfl rfl (sp_move rfl iL) ?_
     refine AQ.step rfl rfl rfl (sp_move rfl iL) ?_
     refine ob1k h25 fun x20 ex20 h26 => ?_
     refine AQ.step rfl rfl rfl (ms_idx_own rfl tg_87.slice iL rfl iL (fun _ => ex20)) ?_
     refine AQ.step rfl rfl rfl (ms_load_own (d := .int .i64 x20) rfl ts_3 iL (fun _ => rfl) (fun _ => ex20) rfl) ?_
     refine AQ.step rfl rfl rfl (sp_min rfl iL iL) ?_
     refine ob1k h26 fun n2 en2 h27 => ?_
     refine AQ.step rfl rfl rfl (ms_add rfl iL iL (fun _ => en2)) ?_
     refine AQ.step rfl rfl rfl (sp_assign rfl iL) ?_
     refine AQ.nil ?_
     refine hK25 _ ?_
     refine AW.seq_w fun K26 hK26 wK26 => ?_
     refine AW.seq_w fun K27 hK27 wK27 => ?_
     refine AW.weak (s' := ⟨[(0, .r (.sl (a1.map GElem.row))), (1, .r (.sl (b1.map GElem.row))), (8, .r (.sl (line7.map (rInt .i64)))), (10, .r (.int .i64 x11)), (11, .own 66 (i14 0)), (12, .r (.int .i64 x16)), (13, .r (.int .i64 n2)), (60, .r (.int .i64 (a1.length : Int))), (61, .r (.int .i64 x11)), (68, .r (.int .i64 (b1.length : Int))), (69, .r (.int .i64 x16))], [(66, some (.arr (i14 0) 3 1 (next2.map (rInt .i64))))], (i14 1), 140⟩) (by exact Weak.cv ⟨.inl iL, .inl iL, .inl iL, .inl iL, .inl iL, .inl iL, .inl iL, .inl iL, .inl iL, .inl iL, .inl iL, trivial⟩ ⟨.inl rfl, trivial⟩ (Nat.le_refl _)) ?_
     refine AW.regionQ hmix (by kernel_rfl) ?_
     refine AQ.step rfl rfl rfl (sp_move rfl iL) ?_
     refine AQ.step rfl rfl rfl (sp_move rfl iL) ?_
     refine ob1k h27 fun x21 ex21 h28 => ?_
     refine AQ.step rfl rfl rfl (ms_idx rfl tg_22.slice iL iL (fun _ => rfl) (fun _ => ex21)) ?_
     refine AQ.step rfl rfl rfl (sp_fieldAddr_ro rfl tf_82_0 iL) ?_
     refine AQ.step rfl rfl rfl (ms_load (d := .int .i64 x21.Char) rfl ts_3 iL rfl) ?_
     refine AQ.step rfl rfl rfl (sp_move rfl iL) ?_
     refine AQ.step rfl rfl rfl (sp_move rfl iL) ?_
     refine ob1k h28 fun x22 ex22 h29 => ?_
     refine AQ.step rfl rfl rfl (ms_idx rfl tg_22.slice iL iL (fun _ => rfl) (fun _ => ex22)) ?_
     refine AQ.step rfl rfl rfl (sp_fieldAddr_ro rfl tf_82_0 iL) ?_
     refine AQ.step rfl rfl rfl (ms_load (d := .int .i64 x22.Char) rfl ts_3 iL rfl) ?_
     refine AQ.step rfl rfl rfl (sp_eql rfl iL iL) ?_
     refine AQ.step rfl rfl rfl (sp_move rfl iL) ?_
     refine AQ.stepW (.one rfl rfl rfl) rfl rfl (sp_move rfl iL) ?_
     refine AQ.stepW (.one rfl rfl rfl) rfl rfl (sp_move rfl iL) ?_
     refine AQ.stepW (.one rfl rfl rfl) rfl rfl (ms_idx rfl tg_22.slice (.inr ⟨_, (by exact id), rfl⟩) (.inr ⟨_, (by exact id), rfl⟩) (fun _ => rfl) (fun _ => ex21)) ?_
     refine AQ.stepW (.one rfl rfl rfl) rfl rfl (sp_fieldAddr_ro rfl tf_82_1 (.inr ⟨_, (by exact id), rfl⟩)) ?_
     refine AQ.stepW (.one rfl rfl rfl) rfl rfl (ms_load (d := .int .i64 x21.Ref) rfl ts_3 (.inr ⟨_, (by exact id), rfl⟩) rfl) ?_
     refine AQ.stepW (.one rfl rfl rfl) rfl rfl (sp_move rfl iL) ?_
     refine AQ.stepW (.one rfl rfl rfl) rfl rfl (sp_move rfl iL) ?_
     refine AQ.stepW (.one rfl rfl rfl) rfl rfl (ms_idx rfl tg_22.slice (.inr ⟨_, (by exact id), rfl⟩) (.inr ⟨_, (by exact id), rfl⟩) (fun _ => rfl) (fun _ => ex22)) ?_
     refine AQ.stepW (.one rfl rfl rfl) rfl rfl (sp_fieldAddr_ro rfl tf_82_1 (.inr ⟨_, (by exact id), rfl⟩)) ?_
     refine AQ.stepW (.one rfl rfl rfl) rfl rfl (ms_load (d := .int .i64 x22.Ref) rfl ts_3 (.inr ⟨_, (by exact id), rfl⟩) rfl) ?_
     refine AQ.stepW (.one rfl rfl rfl) rfl rfl (sp_eql rfl (.inr ⟨_, (by exact id), rfl⟩) (.inr ⟨_, (by exact id), rfl⟩)) ?_
     refine AQ.step rfl rfl rfl (sp_and rfl iL (.inr ⟨_, (by exact id), rfl⟩)) ?_
     refine AQ.nil ?_
     refine hK27 _ ?_
     refine jb1k h29 fun p2 hp2 hk5 => ?_
     have J5 : ∀ (n3 : Int) (i17 : Nat → Nat), p2 = n3 → K26 ⟨[(0, .r (.sl (a1.map GElem.row))), (1, .r (.sl (b1.map GElem.row))), (8, .r (.sl (line7.map (rInt .i64)))), (10, .r (.int .i64 x11)), (11, .own 66 (i14 0)), (13, .r (.int .i64 n3)), (60, .r (.int .i64 (a1.length : Int))), (61, .r (.int .i64 x11)), (68, .r (.int .i64 (b1.length : Int))), (69, .r (.int .i64 x16))], [(66, some (.arr (i14 0) 3 1 (next2.map (rInt .i64))))], (i17 0), 140⟩ := by
      intro n3 i17 e
      have h30 := hk5 _ e
      refine hK26 _ ?_
      refine AW.region ?_
      refine sQ rfl (sp_move rfl iL) ?_
      refine sQ rfl (sp_move rfl iL) ?_
      refine AOps.step rfl rfl rfl (ms_lit 130 rfl tg_87 (f := (rInt .i64)) (l := ([n3] : List Int)) ⟨rfl, ⟨_, iL, rfl⟩, trivial⟩ rfl (fun _ => rfl) rfl) ?_
      refine ob1k h30 fun next5 enext5 h31 => ?_
      refine AOps.step rfl rfl rfl (ms_app rfl tg_87 iL rfl (.inr (.inl ⟨_, _, iL, rfl⟩)) enext5) ?_
      refine sQ rfl (sp_assign rfl iL) ?_
      refine AOps.nil ?_
      refine hK23 _ ?_
      refine AW.region ?_
      refine sQ rfl (ms_add rfl iL iL (fun _ => ex18)) ?_
      refine sQ rfl (sp_move rfl iL) ?_
      refine AOps.nil ?_
      exact NextQ2.mk h31 (vec [((i17 0) + 1), ((i17 0) + 2)]) ((by exact Weak.cv ⟨.inl iL, .inl iL, .inl iL, .inl iL, .inl iL, .inl iL, .inl iL, .inl iL, .inl iL, trivial⟩ ⟨.inl rfl, trivial⟩ (Nat.le_refl _)))
     refine AW.cond rfl (fun hc5 => ?_) (fun hc5 => ?_)
     ·have h32 := ite_t hc5 hp2
      refine AW.seq_w fun K28 hK28 wK28 => ?_
      refine AW.weak (s' := ⟨[(0, .r (.sl (a1.map GElem.row))), (1, .r (.sl (b1.map GElem.row))), (8, .r (.sl (line7.map (rInt .i64)))), (10, .r (.int .i64 x11)), (11, .own 66 (i14 0)), (12, .r (.int .i64 x16)), (13, .r (.int .i64 n2)), (60, .r (.int .i64 (a1.length : Int))), (61, .r (.int .i64 x11)), (68, .r (.int .i64 (b1.length : Int))), (69, .r (.int .i64 x16))], [(66, some (.arr (i14 0) 3 1 (next2.map (rInt .i64))))], (i14 1), 140⟩) (by exact Weak.cv ⟨.inl iL, .inl iL, .inl iL, .inl iL, .inl iL, .inl iL, .inl iL, .inl iL, .inl iL, .inl iL, .inl iL, trivial⟩ ⟨.inl rfl, trivial⟩ (Nat.le_refl _)) ?_
      refine AW.region ?_
      refine sQ rfl (sp_move rfl iL) ?_
      refine sQ rfl (sp_move rfl iL) ?_
      refine ob1k h32 fun x23 ex23 h33 => ?_
      refine sQ rfl (ms_idx rfl tg_87.slice iL iL (fun _ => rfl) (fun _ => ex23)) ?_
      refine sQ rfl (ms_load (d := .int .i64 x23) rfl ts_3 iL rfl) ?_
      refine sQ rfl (sp_assign rfl iL) ?_
      refine AOps.nil ?_
      refine hK28 _ ?_
      refine AW.seq_w fun K29 hK29 wK29 => ?_
      refine AW.seq_w fun K30 hK30 wK30 => ?_
      refine AW.regionQ hmix (by kernel_rfl) ?_
      refine AQ.step rfl rfl rfl (sp_move rfl iL) ?_
      refine AQ.step rfl rfl rfl (sp_move rfl iL) ?_
      refine AQ.step rfl rfl rfl (ms_idx rfl tg_22.slice iL iL (fun _ => rfl) (fun _ => ex21)) ?_
      refine AQ.step rfl rfl rfl (sp_fieldAddr_ro rfl tf_82_2 iL) ?_
      refine AQ.step rfl rfl rfl (ms_load (d := .sl (x21.Attrs.map GAttr.row)) rfl ts_29 iL rfl) ?_
      refine AQ.step rfl rfl rfl (sp_move rfl iL) ?_
      refine AQ.step rfl rfl rfl (sp_move rfl iL) ?_
      refine AQ.step rfl rfl rfl (ms_idx rfl tg_22.slice iL iL (fun _ => rfl) (fun _ => ex22)) ?_
      refine AQ.step rfl rfl rfl (sp_fieldAddr_ro rfl tf_82_2 iL) ?_
      refine AQ.step rfl rfl rfl (ms_load (d := .sl (x22.Attrs.map GAttr.row)) rfl ts_29 iL rfl) ?_
      refine ob1k h33 fun r3 er3 h34 => ?_
      refine AQ.stepC rfl rfl rfl (r := .r (.bool r3)) (caps := []) (bs := [.r (.sl (x21.Attrs.map GAttr.row)), .r (.sl (x22.Attrs.map GAttr.row))]) rfl iL rfl ⟨⟨_, iL, .d rfl⟩, ⟨_, iL, .d rfl⟩, trivial⟩ (fun _ => w_ref_SameAttrs (er3)) rfl ?_
      refine AQ.step rfl rfl rfl (sp_not rfl iL) ?_
      refine AQ.nil ?_
      refine hK30 _ ?_
      refine jb1k h34 fun p4 hp3 hk6 => ?_
      have J6 : ∀ (p3 : Int) (i18 : Nat → Nat), p4 = p3 → K29 ⟨[(0, .r (.sl (a1.map GElem.row))), (1, .r (.sl (b1.map GElem.row))), (8, .r (.sl (line7.map (rInt .i64)))), (10, .r (.int .i64 x11)), (11, .own 66 (i14 0)), (13, .r (.int .i64 n2)), (14, .r (.int .i64 p3)), (60, .r (.int .i64 (a1.length : Int))), (61, .r (.int .i64 x11)), (68, .r (.int .i64 (b1.length : Int))), (69, .r (.int .i64 x16))], [(66, some (.arr (i14 0) 3 1 (next2.map (rInt .i64))))], (i18 0), 140⟩ := by
       intro p3 i18 e
       have h35 := hk6 _ e
       refine hK29 _ ?_
       refine AW.region ?_
       refine sQ rfl (sp_move rfl iL) ?_
       refine sQ rfl (sp_move rfl iL) ?_
       refine sQ rfl (sp_min rfl iL iL) ?_
       refine sQ rfl (sp_assign rfl iL) ?_
       refine AOps.nil ?_
       exact wK26 _ _ ((by exact Weak.cv ⟨.inl iL, .inl iL, .inl iL, .inl iL, .inl iL, .inl iL, .inl iL, .inl iL, .inl iL, .inl iL, trivial⟩ ⟨.inl rfl, trivial⟩ (Nat.le_refl _))) (J5 _ (vec [(i18 0)]) (Option.some.inj h35).symm)
      refine AW.cond rfl (fun hc6 => ?_) (fun hc6 => ?_)
      ·have h36 := ite_t hc6 hp3
       refine AW.weak (s' := ⟨[(0, .r (.sl (a1.map GElem.row))), (1, .r (.sl (b1.map GElem.row))), (8, .r (.sl (line7.map (rInt .i64)))), (10, .r (.int .i64 x11)), (11, .own 66 (i14 0)), (13, .r (.int .i64 n2)), (14, .r (.int .i64 x23)), (60, .r (.int .i64 (a1.length : Int))), (61, .r (.int .i64 x11)), (68, .r (.int .i64 (b1.length : Int))), (69, .r (.int .i64 x16))], [(66, some (.arr (i14 0) 3 1 (next2.map (rInt .i64))))], (i14 1), 140⟩) (by exact Weak.cv ⟨.inl iL, .inl iL, .inl iL, .inl iL, .inl iL, .inl iL, .inl iL, .inl iL, .inl iL, .inl iL, .inl iL, trivial⟩ ⟨.inl rfl, trivial⟩ (Nat.le_refl _)) ?_
       refine AW.region ?_
       refine sQ rfl (sp_move rfl iL) ?_
       refine ob1k h36 fun p5 ep5 h37 => ?_
       refine sQ rfl (ms_add rfl iL iL (fun _ => ep5)) ?_
       refine sQ rfl (sp_assign rfl iL) ?_
       refine AOps.nil ?_
       exact wK29 _ _ ((by exact Weak.cv ⟨.inl iL, .inl iL, .inl iL, .inl iL, .inl iL, .inl iL, .inl iL, .inl iL, .inl iL, .inl iL, .inl iL, trivial⟩ ⟨.inl rfl, trivial⟩ (Nat.le_refl _))) (J6 _ (vec [(i14 1)]) (Option.some.inj h37).symm)
      ·have h36 := ite_f hc6 hp3
       refine AW.skip ?_
       exact wK29 _ _ ((by exact Weak.cv ⟨.inl iL, .inl iL, .inl iL, .inl iL, .inl iL, .inl iL, .inl iL, .inl iL, .inl iL, .inl iL, .inl iL, trivial⟩ ⟨.inl rfl, trivial⟩ (Nat.le_refl _))) (J6 _ (vec [(i14 1)]) (Option.some.inj h36).symm)
     ·have h32 := ite_f hc5 hp2
      refine AW.skip ?_
      exact wK26 _ _ ((by exact Weak.cv ⟨.inl iL, .inl iL, .inl iL, .inl iL, .inl iL, .inl iL, .inl iL, .inl iL, .inl iL, .inl iL, trivial⟩ ⟨.inl rfl, trivial⟩ (Nat.le_refl _))) (J5 _ (vec [(i14 1)]) (Option.some.inj h32).symm)
    ·have h23 := ite_f hc4 h22
     refine AW.exit ?_
     exact wK19 _ _ ((by exact Weak.cv ⟨.inl iL, .inl iL, .inl iL, .inl iL, .inl iL, trivial⟩ ⟨.inl rfl, trivial⟩ (Nat.le_refl _))) (J4 _ (vec [(i14 0), (i14 1)]) (hx3 _ (Option.some.inj h23).symm))
   ·have h19 := ite_f hc3 h18
    refine AW.exit ?_
    exact wK11 _ _ ((by exact Weak.cv ⟨.inl iL, .inl iL, trivial⟩ trivial (Nat.le_refl _))) (J3 _ (vec [(i9 0)]) (hx2 _ (Option.some.inj h19).symm))
  refine AW.iter2 (fun (x8 : Int) (line3 : List Int) i4 => ⟨[(0, .r (.sl (a1.map GElem.row))), (1, .r (.sl (b1.map GElem.row))), (8, .own 48 (i4 0)), (50, .r (.int .i64 (line1.length : Int))), (51, .r (.int .i64 x8))], [(48, some (.arr (i4 0) 3 1 (line3.map (rInt .i64))))], (i4 1), 140⟩) (vec [n0, (n0 + 1)]) hit1 ((by exact Weak.cv ⟨.inl iL, .inl iL, .inl iL, .inl iL, .inl iL, trivial⟩ ⟨.inl rfl, trivial⟩ (Nat.le_refl _))) ?_
  intro x8 line3 i4 v3 hv3 hx1
  have h38 : ref_DiffCost_L1 line1 x8 line3 = some v3 := hv3; unfold ref_DiffCost_L1 at h38
  refine AW.seq_w fun K31 hK31 wK31 => ?_
  refine AW.region ?_
  refine sQ rfl (sp_lss rfl iL iL) ?_
  refine AOps.nil ?_
  refine hK31 _ ?_
  refine AW.seq_w fun K32 hK32 wK32 => ?_
  refine AW.cond rfl (fun hc7 => ?_) (fun hc7 => ?_)
  ·have h39 := ite_t hc7 h38
   refine AW.skip ?_
   refine hK32 _ ?_
   refine AW.seq_w fun K33 hK33 wK33 => ?_
   refine AW.block ?_
   refine AW.seq_w fun K34 hK34 wK34 => ?_
   refine AW.region ?_
   refine sQ rfl (sp_move rfl iL) ?_
   refine sQ rfl (sp_assign rfl iL) ?_
   refine AOps.nil ?_
   refine hK34 _ ?_
   refine AW.region ?_
   refine sQ rfl (sp_move rfl iL) ?_
   refine sQ rfl (sp_move rfl iL) ?_
   refine sQ rfl (sp_move rfl iL) ?_
   refine ob1k h39 fun x24 ex24 h40 => ?_
   refine sQ rfl (ms_idx_own rfl tg_87.slice iL rfl iL (fun _ => ex24)) ?_
   refine AOps.step0 rfl rfl (ms_store (v := x8) rfl tz_3 iL rfl ex24 iL rfl rfl rfl rfl) ?_
   refine AOps.nil ?_
   refine hK33 _ ?_
   refine AW.region ?_
   refine ob1k h40 fun x25 ex25 h41 => ?_
   refine sQ rfl (ms_add rfl iL iL (fun _ => ex25)) ?_
   refine sQ rfl (sp_move rfl iL) ?_
   refine AOps.nil ?_
   exact NextQ2.mk h41 (vec [(i4 0), (i4 1)]) ((by exact Weak.cv ⟨.inl iL, .inl iL, .inl iL, .inl iL, .inl iL, trivial⟩ ⟨.inl rfl, trivial⟩ (Nat.le_refl _)))
  ·have h39 := ite_f hc7 h38
   refine AW.exit ?_
   exact wK9 _ _ ((by exact Weak.cv ⟨.inl iL, .inl iL, .inl iL, trivial⟩ ⟨.inl rfl, trivial⟩ (Nat.le_refl _))) (J2 _ (vec [(i4 0), (i4 1)]) (hx1 _ (Option.some.inj h39).symm))
set_option maxHeartbeats 4000000 in
set_option maxRecDepth 20000 in
theorem w_ref_DiffCost_N (n : Nat) : ∀ {a1 : List GElem} {b1 : List GElem} {tied1 : Bool} {r : Int}, ref_DiffCost_N n a1 b1 tied1 = some r → ARO Try.prog 20 [.r (.sl (a1.map GElem.row)), .r (.sl (b1.map GElem.row)), .r (.bool tied1)] (.r (.int .i64 r)) := by
 induction n with
 | zero => intro a1 b1 tied1 r h; exact absurd (show (none : Option (Int)) = some r from h) (by simp)
 | succ n ih => intro a1 b1 tied1 r h; exact w_ref_DiffCost_B (self := fun a1 b1 tied1 => ref_DiffCost_N n a1 b1 tied1) (fun h2 => ih h2) h
set_option maxHeartbeats 4000000 in
set_option maxRecDepth 20000 in
theorem w_ref_DiffCost {a1 : List GElem} {b1 : List GElem} {tied1 : Bool} {r : Int} (h : ref_DiffCost a1 b1 tied1 = some r) : ARO Try.prog 20 [.r (.sl (a1.map GElem.row)), .r (.sl (b1.map GElem.row)), .r (.bool tied1)] (.r (.int .i64 r)) := by
 unfold ref_DiffCost at h
 by_cases hh : ∃ n r, ref_DiffCost_N n a1 b1 tied1 = some r
 ·rw [dif_pos hh] at h; exact w_ref_DiffCost_N _ h
 ·rw [dif_neg hh] at h; cases h
set_option maxHeartbeats 4000000 in
set_option maxRecDepth 20000 in
theorem w_ref_Get {l1 : List GAttr} {name1 : List UInt8} {r : (List UInt8)} (h : ref_Get l1 name1 = some r) : ARO Try.prog 53 [.r (.sl (l1.map GAttr.row)), .r (.str name1)] (.r (.str r)) := by
 unfold ref_Get at h
 refine ARO.mkF Try.func53 rfl rfl Try.ntmps53 rfl (Nat.le_of_ble_eq_true rfl) fun n0 => ?_
 refine AW.seq_w fun K1 hK1 wK1 => ?_
 refine AW.region ?_
 refine sQ rfl (sp_assign rfl iL) ?_
 refine AOps.nil ?_
 refine hK1 _ ?_
 refine AW.seq_w fun K2 hK2 wK2 => ?_
 refine AW.seq_w fun K3 hK3 wK3 => ?_
 refine AW.region ?_
 refine sQ rfl (sp_move rfl iL) ?_
 refine sQ rfl (ms_len rfl tg_29.slice iL) ?_
 refine sQ rfl (sp_move rfl iL) ?_
 refine AOps.nil ?_
 refine hK3 _ ?_
 refine AW.block ?_
 refine jc1k h fun o1 hit1 hk1 he1 => ?_
 have J1 : ∀ (u2 : Unit) (i5 : Nat → Nat), o1 = .nrm u2 → K2 ⟨[], [], (i5 0), 24⟩ := by
  intro u2 i5 e
  have h1 := hk1 _ e
  refine hK2 _ ?_
  refine AW.seq_w fun K4 hK4 wK4 => ?_
  refine AW.region ?_
  refine sQ rfl (sp_assign rfl iL) ?_
  refine AOps.nil ?_
  refine hK4 _ ?_
  refine AW.ret ?_
  exact retf1 (P := Try.prog) (fun (r : (List UInt8)) => .r (.str r)) h1 iL (.t (.d rfl))
 refine AW.iter1 (fun (x2 : Int) i3 => ⟨[(0, .r (.sl (l1.map GAttr.row))), (1, .r (.str name1)), (7, .r (.int .i64 (l1.length : Int))), (8, .r (.int .i64 x2))], [], (i3 0), 24⟩) (vec [n0]) hit1 ((by exact Weak.cv ⟨.inl iL, .inl iL, .inl iL, .inl iL, trivial⟩ trivial (Nat.le_refl _))) ?_
 intro x2 i3 v1 hv1 hx1
 have h2 : ref_Get_L1 l1 name1 x2 = some v1 := hv1; unfold ref_Get_L1 at h2
 refine AW.seq_w fun K5 hK5 wK5 => ?_
 refine AW.region ?_
 refine sQ rfl (sp_lss rfl iL iL) ?_
 refine AOps.nil ?_
 refine hK5 _ ?_
 refine AW.seq_w fun K6 hK6 wK6 => ?_
 refine AW.cond rfl (fun hc1 => ?_) (fun hc1 => ?_)
 ·have h3 := ite_t hc1 h2
  refine AW.skip ?_
  refine hK6 _ ?_
  refine AW.seq_w fun K7 hK7 wK7 => ?_
  refine AW.block ?_
  refine AW.seq_w fun K8 hK8 wK8 => ?_
  refine AW.region ?_
  refine sQ rfl (sp_move rfl iL) ?_
  refine sQ rfl (sp_assign rfl iL) ?_
  refine AOps.nil ?_
  refine hK8 _ ?_
  refine AW.seq_w fun K9 hK9 wK9 => ?_
  refine AW.region ?_
  refine sQ rfl (sp_move rfl iL) ?_
  refine sQ rfl (sp_move rfl iL) ?_
  refine ob1k h3 fun x4 ex4 h4 => ?_
  refine sQ rfl (ms_idx rfl tg_29.slice iL iL (fun _ => rfl) (fun _ => ex4)) ?_
  refine sQ rfl (sp_fieldAddr_ro rfl tf_92_0 iL) ?_
  refine sQ rfl (ms_load (d := .str x4.Name) rfl ts_9 iL rfl) ?_
  refine sQ rfl (sp_move rfl iL) ?_
  refine sQ rfl (sp_seql rfl iL iL) ?_
  refine AOps.nil ?_
  refine hK9 _ ?_
  refine AW.cond rfl (fun hc2 => ?_) (fun hc2 => ?_)
  ·have h5 := ite_t hc2 h4
   refine AW.seq_w fun K10 hK10 wK10 => ?_
   refine AW.weak (s' := ⟨[(0, .r (.sl (l1.map GAttr.row))), (5, .r (.int .i64 x2))], [], (i3 0), 24⟩) (by exact Weak.cv ⟨.inl iL, .inl iL, trivial⟩ trivial (Nat.le_refl _)) ?_
   refine AW.region ?_
   refine sQ rfl (sp_move rfl iL) ?_
   refine sQ rfl (sp_move rfl iL) ?_
   refine sQ rfl (ms_idx rfl tg_29.slice iL iL (fun _ => rfl) (fun _ => ex4)) ?_
   refine sQ rfl (sp_fieldAddr_ro rfl tf_92_1 iL) ?_
   refine sQ rfl (ms_load (d := .str x4.Value) rfl ts_9 iL rfl) ?_
   refine sQ rfl (sp_assign rfl iL) ?_
   refine AOps.nil ?_
   refine hK10 _ ?_
   refine AW.ret ?_
   exact retf1 (P := Try.prog) (fun (r : (List UInt8)) => .r (.str r)) (he1 _ (hx1 _ (Option.some.inj h5).symm)) iL (.t (.d rfl))
  ·have h5 := ite_f hc2 h4
   refine AW.skip ?_
   refine hK7 _ ?_
   refine AW.weak (s' := ⟨[(0, .r (.sl (l1.map GAttr.row))), (1, .r (.str name1)), (7, .r (.int .i64 (l1.length : Int))), (8, .r (.int .i64 x2))], [], (i3 0), 24⟩) (by exact Weak.cv ⟨.inl iL, .inl iL, .inl iL, .inl iL, trivial⟩ trivial (Nat.le_refl _)) ?_
   refine AW.region ?_
   refine ob1k h5 fun x5 ex5 h6 => ?_
   refine sQ rfl (ms_add rfl iL iL (fun _ => ex5)) ?_
   refine sQ rfl (sp_move rfl iL) ?_
   refine AOps.nil ?_
   exact NextQ1.mk h6 (vec [(i3 0)]) ((by exact Weak.cv ⟨.inl iL, .inl iL, .inl iL, .inl iL, trivial⟩ trivial (Nat.le_refl _)))
 ·have h3 := ite_f hc1 h2
  refine AW.exit ?_
  exact wK2 _ _ ((by exact Weak.cv trivial trivial (Nat.le_refl _))) (J1 _ (vec [(i3 0)]) (hx1 _ (Option.some.inj h3).symm))
set_option maxHeartbeats 4000000 in
set_option maxRecDepth 20000 in
theorem w_ref_put {l1 : List GAttr} {a1 : GAttr} {r : (List GAttr)} (h : ref_put l1 a1 = some r) : ARO Try.prog 80 [.r (.sl (l1.map GAttr.row)), .agg [.r (.str a1.Name), .r (.str a1.Value)]] (.r (.sl (r.map GAttr.row))) := by
 unfold ref_put at h
 refine ARO.mkF Try.func80 rfl rfl Try.ntmps80 rfl (Nat.le_of_ble_eq_true rfl) fun n0 => ?_
 refine AW.seq_w fun K1 hK1 wK1 => ?_
 refine AW.region ?_
 refine AOps.step rfl rfl rfl (ms_box (cs := [.r (.str a1.Name), .r (.str a1.Value)]) 3 rfl iL rfl rfl) ?_
 refine sQ rfl (sp_assign rfl iL) ?_
 refine AOps.nil ?_
 refine hK1 _ ?_
 refine AW.seq_w fun K2 hK2 wK2 => ?_
 refine AW.region ?_
 refine sQ rfl (sp_assign rfl iL) ?_
 refine AOps.nil ?_
 refine hK2 _ ?_
 refine AW.seq_w fun K3 hK3 wK3 => ?_
 refine AW.region ?_
 refine sQ rfl (sp_assign rfl iL) ?_
 refine AOps.nil ?_
 refine hK3 _ ?_
 refine AW.seq_w fun K4 hK4 wK4 => ?_
 refine AW.seq_w fun K5 hK5 wK5 => ?_
 refine AW.region ?_
 refine sQ rfl (sp_move rfl iL) ?_
 refine sQ rfl (ms_len rfl tg_29.slice iL) ?_
 refine sQ rfl (sp_move rfl iL) ?_
 refine AOps.nil ?_
 refine hK5 _ ?_
 refine AW.block ?_
 refine jb2k h fun o1 hit1 hk1 => ?_
 have J1 : ∀ (done4 : Bool) (out4 : List GAttr) (i5 : Nat → Nat), o1 = (done4, out4) → K4 ⟨[(3, .ptr 3 n0 0 0), (5, .own 5005 (i5 0)), (6, .r (.bool done4))], [(3, some (.box n0 92 [.r (.str a1.Name), .r (.str a1.Value)])), (5005, some (.arr (i5 0) 92 2 (out4.map GAttr.row)))], (i5 1), 52⟩ := by
  intro done4 out4 i5 e
  have h1 := hk1 _ _ e
  refine hK4 _ ?_
  refine AW.seq_w fun K6 hK6 wK6 => ?_
  refine AW.seq_w fun K7 hK7 wK7 => ?_
  refine AW.region ?_
  refine sQ rfl (sp_move rfl iL) ?_
  refine sQ rfl (sp_not rfl iL) ?_
  refine AOps.nil ?_
  refine hK7 _ ?_
  refine jb1k h1 fun p1 hp1 hk2 => ?_
  have J2 : ∀ (out5 : List GAttr) (i6 : Nat → Nat), p1 = out5 → K6 ⟨[(5, .own 5005 (i6 0))], [(5005, some (.arr (i6 0) 92 2 (out5.map GAttr.row)))], (i6 1), 52⟩ := by
   intro out5 i6 e
   have h2 := hk2 _ e
   refine hK6 _ ?_
   refine AW.seq_w fun K8 hK8 wK8 => ?_
   refine AW.region ?_
   refine sQ rfl (sp_move rfl iL) ?_
   refine sQ rfl (sp_assign rfl iL) ?_
   refine AOps.nil ?_
   refine hK8 _ ?_
   refine AW.ret ?_
   exact retf1 (P := Try.prog) (fun (r : (List GAttr)) => .r (.sl (r.map GAttr.row))) h2 iL (.t (.one (.own rfl)))
  refine AW.cond rfl (fun hc1 => ?_) (fun hc1 => ?_)
  ·have h3 := ite_t hc1 hp1
   refine AW.region ?_
   refine sQ rfl (sp_move rfl iL) ?_
   refine sQ rfl (ms_loadA_box rfl ta_92 iL rfl rfl) ?_
   refine AOps.step rfl rfl rfl (ms_lit 49 rfl tg_29 (f := GAttr.row) (l := ([a1] : List GAttr)) ⟨rfl, ⟨_, iL, rfl⟩, trivial⟩ rfl (fun _ => rfl) rfl) ?_
   refine ob1k h3 fun out6 eout6 h4 => ?_
   refine AOps.step rfl rfl rfl (ms_app rfl tg_29 iL rfl (.inr (.inl ⟨_, _, iL, rfl⟩)) eout6) ?_
   refine sQ rfl (sp_assign rfl iL) ?_
   refine AOps.nil ?_
   exact wK6 _ _ ((by exact Weak.cv ⟨.inl iL, trivial⟩ ⟨.inl rfl, trivial⟩ (Nat.le_refl _))) (J2 _ (vec [((i5 1) + 1), ((i5 1) + 2)]) (Option.some.inj h4).symm)
  ·have h3 := ite_f hc1 hp1
   refine AW.skip ?_
   exact wK6 _ _ ((by exact Weak.cv ⟨.inl iL, trivial⟩ ⟨.inl rfl, trivial⟩ (Nat.le_refl _))) (J2 _ (vec [(i5 0), (i5 1)]) (Option.some.inj h3).symm)
 refine AW.iter3 (fun (done2 : Bool) (x2 : Int) (out2 : List GAttr) i3 => ⟨[(0, .r (.sl (l1.map GAttr.row))), (3, .ptr 3 n0 0 0), (5, .own 5005 (i3 0)), (6, .r (.bool done2)), (9, .r (.int .i64 (l1.length : Int))), (10, .r (.int .i64 x2))], [(3, some (.box n0 92 [.r (.str a1.Name), .r (.str a1.Value)])), (5005, some (.arr (i3 0) 92 2 (out2.map GAttr.row)))], (i3 1), 52⟩) (vec [(n0 + 1), (n0 + 2)]) hit1 (Weak.trans (Weak.trans (Weak.adopt 5 5005 92 2 (by decide) rfl) (by exact Weak.cv (e' := [(0, .r (.sl (l1.map GAttr.row))), (1, .agg [.r (.str a1.Name), .r (.str a1.Value)]), (3, .ptr 3 n0 0 0), (4, .cst (.slice none 0 0)), (5, .own 5005 (n0 + 1)), (6, .r (.bool false)), (8, .r (.sl (l1.map GAttr.row))), (9, .r (.int .i64 (l1.length : Int))), (10, .r (.int .i64 0))]) (h' := [(3, some (.box n0 92 [.r (.str a1.Name), .r (.str a1.Value)])), (5005, some (.arr (n0 + 1) 92 2 (([] : List GAttr).map GAttr.row)))]) ⟨.inl iL, .inl iL, .inl iL, .inl iL, .inl iL, .inl iL, .inl iL, .inl iL, .inl iL, trivial⟩ ⟨.inl rfl, .inl rfl, trivial⟩ (Nat.le_refl _))) (by exact Weak.cv ⟨.inl iL, .inl iL, .inl iL, .inl iL, .inl iL, .inl iL, trivial⟩ ⟨.inl rfl, .inl rfl, trivial⟩ (Nat.le_refl _))) ?_
 intro done2 x2 out2 i3 v1 hv1 hx1
 have h5 : ref_put_L1 l1 a1 done2 x2 out2 = some v1 := hv1; unfold ref_put_L1 at h5
 refine AW.seq_w fun K9 hK9 wK9 => ?_
 refine AW.region ?_
 refine sQ rfl (sp_lss rfl iL iL) ?_
 refine AOps.nil ?_
 refine hK9 _ ?_
 refine AW.seq_w fun K10 hK10 wK10 => ?_
 refine AW.cond rfl (fun hc2 => ?_) (fun hc2 => ?_)
 ·have h6 := ite_t hc2 h5
  refine AW.skip ?_
  refine hK10 _ ?_
  refine AW.seq_w fun K11 hK11 wK11 => ?_
  refine AW.block ?_
  refine jb2k h6 fun p2 hp2 hk3 => ?_
  have J3 : ∀ (done5 : Bool) (out7 : List GAttr) (i7 : Nat → Nat), p2 = (done5, out7) → K11 ⟨[(0, .r (.sl (l1.map GAttr.row))), (3, .ptr 3 n0 0 0), (5, .own 5005 (i7 0)), (6, .r (.bool done5)), (9, .r (.int .i64 (l1.length : Int))), (10, .r (.int .i64 x2))], [(3, some (.box n0 92 [.r (.str a1.Name), .r (.str a1.Value)])), (5005, some (.arr (i7 0) 92 2 (out7.map GAttr.row)))], (i7 1), 52⟩ := by
   intro done5 out7 i7 e
   have h7 := hk3 _ _ e
   refine hK11 _ ?_
   refine AW.region ?_
   refine ob1k h7 fun x4 ex4 h8 => ?_
   refine sQ rfl (ms_add rfl iL iL (fun _ => ex4)) ?_
   refine sQ rfl (sp_move rfl iL) ?_
   refine AOps.nil ?_
   exact NextQ3.mk h8 (vec [(i7 0), (i7 1)]) ((by exact Weak.cv ⟨.inl iL, .inl iL, .inl iL, .inl iL, .inl iL, .inl iL, trivial⟩ ⟨.inl rfl, .inl rfl, trivial⟩ (Nat.le_refl _)))
  refine AW.seq_w fun K12 hK12 wK12 => ?_
  refine AW.region ?_
  refine sQ rfl (sp_move rfl iL) ?_
  refine sQ rfl (sp_assign rfl iL) ?_
  refine AOps.nil ?_
  refine hK12 _ ?_
  refine AW.seq_w fun K13 hK13 wK13 => ?_
  refine AW.seq_w fun K14 hK14 wK14 => ?_
  refine AW.regionQ hmix (by kernel_rfl) ?_
  refine AQ.step rfl rfl rfl (sp_move rfl iL) ?_
  refine AQ.step rfl rfl rfl (sp_not rfl iL) ?_
  refine AQ.step rfl rfl rfl (sp_move rfl iL) ?_
  refine AQ.stepW (.one rfl rfl rfl) rfl rfl (sp_move rfl iL) ?_
  refine AQ.stepW (.one rfl rfl rfl) rfl rfl (sp_move rfl iL) ?_
  refine ob1k hp2 fun x5 ex5 h9 => ?_
  refine AQ.stepW (.one rfl rfl rfl) rfl rfl (ms_idx rfl tg_29.slice (.inr ⟨_, (by exact id), rfl⟩) (.inr ⟨_, (by exact id), rfl⟩) (fun _ => rfl) (gdt ex5)) ?_
  refine AQ.stepW (.one rfl rfl rfl) rfl rfl (sp_fieldAddr_ro rfl tf_92_0 (.inr ⟨_, (by exact id), rfl⟩)) ?_
  refine AQ.stepW (.one rfl rfl rfl) rfl rfl (ms_load (d := .str x5.Name) rfl ts_9 (.inr ⟨_, (by exact id), rfl⟩) rfl) ?_
  refine AQ.stepW (.one rfl rfl rfl) rfl rfl (sp_fieldAddr_own (ob := .box _ _ _) rfl tf_92_0 iL (fun _ => rfl) rfl) ?_
  refine AQ.stepW (.one rfl rfl rfl) rfl rfl (ms_load_box (a := .r (.str a1.Name)) rfl ts_9 (.inr ⟨_, (by exact id), rfl⟩) rfl rfl) ?_
  refine AQ.stepW (.one rfl rfl rfl) rfl rfl (sp_sgeq rfl (.inr ⟨_, (by exact id), rfl⟩) (.inr ⟨_, (by exact id), rfl⟩)) ?_
  refine AQ.step rfl rfl rfl (sp_and rfl iL (.inr ⟨_, (by exact id), rfl⟩)) ?_
  refine AQ.nil ?_
  refine hK14 _ ?_
  refine jb2k h9 fun p3 hp3 hk4 => ?_
  have J4 : ∀ (done6 : Bool) (out8 : List GAttr) (i8 : Nat → Nat), p3 = (done6, out8) → K13 ⟨[(0, .r (.sl (l1.map GAttr.row))), (3, .ptr 3 n0 0 0), (5, .own 5005 (i8 0)), (6, .r (.bool done6)), (7, .r (.int .i64 x2)), (9, .r (.int .i64 (l1.length : Int))), (10, .r (.int .i64 x2))], [(3, some (.box n0 92 [.r (.str a1.Name), .r (.str a1.Value)])), (5005, some (.arr (i8 0) 92 2 (out8.map GAttr.row)))], (i8 1), 52⟩ := by
   intro done6 out8 i8 e
   have h10 := hk4 _ _ e
   refine hK13 _ ?_
   refine AW.seq_w fun K15 hK15 wK15 => ?_
   refine AW.regionQ hmix (by kernel_rfl) ?_
   refine AQ.step rfl rfl rfl (sp_move rfl iL) ?_
   refine AQ.step rfl rfl rfl (sp_move rfl iL) ?_
   refine ob1k h10 fun x6 ex6 h11 => ?_
   refine AQ.step rfl rfl rfl (ms_idx rfl tg_29.slice iL iL (fun _ => rfl) (fun _ => ex6)) ?_
   refine AQ.step rfl rfl rfl (sp_fieldAddr_ro rfl tf_92_0 iL) ?_
   refine AQ.step rfl rfl rfl (ms_load (d := .str x6.Name) rfl ts_9 iL rfl) ?_
   refine AQ.step rfl rfl rfl (sp_fieldAddr_own (ob := .box _ _ _) rfl tf_92_0 iL (fun _ => rfl) rfl) ?_
   refine AQ.step rfl rfl rfl (ms_load_box (a := .r (.str a1.Name)) rfl ts_9 iL rfl rfl) ?_
   refine AQ.step rfl rfl rfl (sp_sneq rfl iL iL) ?_
   refine AQ.nil ?_
   refine hK15 _ ?_
   refine AW.cond rfl (fun hc3 => ?_) (fun hc3 => ?_)
   ·have h12 := ite_t hc3 h11
    refine AW.region ?_
    refine sQ rfl (sp_move rfl iL) ?_
    refine sQ rfl (sp_move rfl iL) ?_
    refine sQ rfl (sp_move rfl iL) ?_
    refine sQ rfl (ms_idx rfl tg_29.slice iL iL (fun _ => rfl) (fun _ => ex6)) ?_
    refine sQ rfl (ms_loadA (cs := [.r (.str x6.Name), .r (.str x6.Value)]) rfl ta_92 iL rfl rfl) ?_
    refine AOps.step rfl rfl rfl (ms_lit 42 rfl tg_29 (f := GAttr.row) (l := ([x6] : List GAttr)) ⟨rfl, ⟨_, iL, rfl⟩, trivial⟩ rfl (fun _ => rfl) rfl) ?_
    refine ob1k h12 fun out9 eout9 h13 => ?_
    refine AOps.step rfl rfl rfl (ms_app rfl tg_29 iL rfl (.inr (.inl ⟨_, _, iL, rfl⟩)) eout9) ?_
    refine sQ rfl (sp_assign rfl iL) ?_
    refine AOps.nil ?_
    exact wK11 _ _ ((by exact Weak.cv ⟨.inl iL, .inl iL, .inl iL, .inl iL, .inl iL, .inl iL, trivial⟩ ⟨.inl rfl, .inl rfl, trivial⟩ (Nat.le_refl _))) (J3 _ _ (vec [((i8 1) + 1), ((i8 1) + 2)]) (Option.some.inj h13).symm)
   ·have h12 := ite_f hc3 h11
    refine AW.skip ?_
    exact wK11 _ _ ((by exact Weak.cv ⟨.inl iL, .inl iL, .inl iL, .inl iL, .inl iL, .inl iL, trivial⟩ ⟨.inl rfl, .inl rfl, trivial⟩ (Nat.le_refl _))) (J3 _ _ (vec [(i8 0), (i8 1)]) (Option.some.inj h12).symm)
  refine AW.cond rfl (fun hc4 => ?_) (fun hc4 => ?_)
  ·have h14 := ite_t hc4 hp3
   refine AW.seq_w fun K16 hK16 wK16 => ?_
   refine AW.region ?_
   refine sQ rfl (sp_move rfl iL) ?_
   refine sQ rfl (ms_loadA_box rfl ta_92 iL rfl rfl) ?_
   refine AOps.step rfl rfl rfl (ms_lit 27 rfl tg_29 (f := GAttr.row) (l := ([a1] : List GAttr)) ⟨rfl, ⟨_, iL, rfl⟩, trivial⟩ rfl (fun _ => rfl) rfl) ?_
   refine ob1k h14 fun out10 eout10 h15 => ?_
   refine AOps.step rfl rfl rfl (ms_app rfl tg_29 iL rfl (.inr (.inl ⟨_, _, iL, rfl⟩)) eout10) ?_
   refine sQ rfl (sp_assign rfl iL) ?_
   refine AOps.nil ?_
   refine hK16 _ ?_
   refine AW.weak (s' := ⟨[(0, .r (.sl (l1.map GAttr.row))), (3, .ptr 3 n0 0 0), (5, .own 5005 ((i3 1) + 1)), (7, .r (.int .i64 x2)), (9, .r (.int .i64 (l1.length : Int))), (10, .r (.int .i64 x2))], [(3, some (.box n0 92 [.r (.str a1.Name), .r (.str a1.Value)])), (5005, some (.arr ((i3 1) + 1) 92 2 (out10.map GAttr.row)))], ((i3 1) + 2), 52⟩) (by exact Weak.cv ⟨.inl iL, .inl iL, .inl iL, .inl iL, .inl iL, .inl iL, trivial⟩ ⟨.inl rfl, .inl rfl, trivial⟩ (Nat.le_refl _)) ?_
   refine AW.region ?_
   refine sQ rfl (sp_assign rfl iL) ?_
   refine AOps.nil ?_
   exact wK13 _ _ ((by exact Weak.cv ⟨.inl iL, .inl iL, .inl iL, .inl iL, .inl iL, .inl iL, .inl iL, trivial⟩ ⟨.inl rfl, .inl rfl, trivial⟩ (Nat.le_refl _))) (J4 _ _ (vec [((i3 1) + 1), ((i3 1) + 2)]) (Option.some.inj h15).symm)
  ·have h14 := ite_f hc4 hp3
   refine AW.skip ?_
   exact wK13 _ _ ((by exact Weak.cv ⟨.inl iL, .inl iL, .inl iL, .inl iL, .inl iL, .inl iL, .inl iL, trivial⟩ ⟨.inl rfl, .inl rfl, trivial⟩ (Nat.le_refl _))) (J4 _ _ (vec [(i3 0), (i3 1)]) (Option.some.inj h14).symm)
 ·have h6 := ite_f hc2 h5
  refine AW.exit ?_
  exact wK4 _ _ ((by exact Weak.cv ⟨.inl iL, .inl iL, .inl iL, trivial⟩ ⟨.inl rfl, .inl rfl, trivial⟩ (Nat.le_refl _))) (J1 _ _ (vec [(i3 0), (i3 1)]) (hx1 _ (Option.some.inj h6).symm))
set_option maxHeartbeats 4000000 in
set_option maxRecDepth 20000 in
theorem w_ref_Between {a1 : List GAttr} {b1 : List GAttr} {r : (List GAttr)} (h : ref_Between a1 b1 = some r) : ARO Try.prog 47 [.r (.sl (a1.map GAttr.row)), .r (.sl (b1.map GAttr.row))] (.r (.sl (r.map GAttr.row))) := by
 unfold ref_Between at h
 refine ARO.mkF Try.func47 rfl rfl Try.ntmps47 rfl (Nat.le_of_ble_eq_true rfl) fun n0 => ?_
 refine AW.seq_w fun K1 hK1 wK1 => ?_
 refine AW.region ?_
 refine sQ rfl (sp_assign rfl iL) ?_
 refine AOps.nil ?_
 refine hK1 _ ?_
 refine AW.seq_w fun K2 hK2 wK2 => ?_
 refine AW.region ?_
 refine sQ rfl (sp_assign rfl iL) ?_
 refine AOps.nil ?_
 refine hK2 _ ?_
 refine AW.seq_w fun K3 hK3 wK3 => ?_
 refine AW.seq_w fun K4 hK4 wK4 => ?_
 refine AW.region ?_
 refine sQ rfl (sp_move rfl iL) ?_
 refine sQ rfl (ms_len rfl tg_29.slice iL) ?_
 refine sQ rfl (sp_move rfl iL) ?_
 refine AOps.nil ?_
 refine hK4 _ ?_
 refine AW.block ?_
 refine jb1k h fun o1 hit1 hk1 => ?_
 have J1 : ∀ (out4 : List GAttr) (i5 : Nat → Nat), o1 = out4 → K3 ⟨[(0, .r (.sl (a1.map GAttr.row))), (1, .r (.sl (b1.map GAttr.row))), (5, .r (.sl (out4.map GAttr.row)))], [], (i5 0), 56⟩ := by
  intro out4 i5 e
  have h1 := hk1 _ e
  refine hK3 _ ?_
  refine AW.seq_w fun K5 hK5 wK5 => ?_
  refine AW.seq_w fun K6 hK6 wK6 => ?_
  refine AW.region ?_
  refine sQ rfl (sp_move rfl iL) ?_
  refine sQ rfl (ms_len rfl tg_29.slice iL) ?_
  refine sQ rfl (sp_move rfl iL) ?_
  refine AOps.nil ?_
  refine hK6 _ ?_
  refine AW.block ?_
  refine jb1k h1 fun o2 hit2 hk2 => ?_
  have J2 : ∀ (out8 : List GAttr) (i10 : Nat → Nat), o2 = out8 → K5 ⟨[(5, .r (.sl (out8.map GAttr.row)))], [], (i10 0), 56⟩ := by
   intro out8 i10 e
   have h2 := hk2 _ e
   refine hK5 _ ?_
   refine AW.seq_w fun K7 hK7 wK7 => ?_
   refine AW.region ?_
   refine sQ rfl (sp_move rfl iL) ?_
   refine sQ rfl (sp_assign rfl iL) ?_
   refine AOps.nil ?_
   refine hK7 _ ?_
   refine AW.ret ?_
   exact retf1 (P := Try.prog) (fun (r : (List GAttr)) => .r (.sl (r.map GAttr.row))) h2 iL (.t (.d rfl))
  refine AW.iter2 (fun (out6 : List GAttr) (x5 : Int) i8 => ⟨[(0, .r (.sl (a1.map GAttr.row))), (1, .r (.sl (b1.map GAttr.row))), (5, .r (.sl (out6.map GAttr.row))), (34, .r (.int .i64 (a1.length : Int))), (35, .r (.int .i64 x5))], [], (i8 0), 56⟩) (vec [(i5 0)]) hit2 ((by exact Weak.cv ⟨.inl iL, .inl iL, .inl iL, .inl iL, .inl iL, trivial⟩ trivial (Nat.le_refl _))) ?_
  intro out6 x5 i8 v1 hv1 hx2
  have h3 : ref_Between_L2 a1 b1 out6 x5 = some v1 := hv1; unfold ref_Between_L2 at h3
  refine AW.seq_w fun K8 hK8 wK8 => ?_
  refine AW.region ?_
  refine sQ rfl (sp_lss rfl iL iL) ?_
  refine AOps.nil ?_
  refine hK8 _ ?_
  refine AW.seq_w fun K9 hK9 wK9 => ?_
  refine AW.cond rfl (fun hc1 => ?_) (fun hc1 => ?_)
  ·have h4 := ite_t hc1 h3
   refine AW.skip ?_
   refine hK9 _ ?_
   refine AW.seq_w fun K10 hK10 wK10 => ?_
   refine AW.block ?_
   refine jb1k h4 fun p1 hp1 hk3 => ?_
   have J3 : ∀ (out9 : List GAttr) (i11 : Nat → Nat), p1 = out9 → K10 ⟨[(0, .r (.sl (a1.map GAttr.row))), (1, .r (.sl (b1.map GAttr.row))), (5, .r (.sl (out9.map GAttr.row))), (34, .r (.int .i64 (a1.length : Int))), (35, .r (.int .i64 x5))], [], (i11 0), 56⟩ := by
    intro out9 i11 e
    have h5 := hk3 _ e
    refine hK10 _ ?_
    refine AW.region ?_
    refine ob1k h5 fun x7 ex7 h6 => ?_
    refine sQ rfl (ms_add rfl iL iL (fun _ => ex7)) ?_
    refine sQ rfl (sp_move rfl iL) ?_
    refine AOps.nil ?_
    exact NextQ2.mk h6 (vec [(i11 0)]) ((by exact Weak.cv ⟨.inl iL, .inl iL, .inl iL, .inl iL, .inl iL, trivial⟩ trivial (Nat.le_refl _)))
   refine AW.seq_w fun K11 hK11 wK11 => ?_
   refine AW.region ?_
   refine sQ rfl (sp_move rfl iL) ?_
   refine sQ rfl (sp_assign rfl iL) ?_
   refine AOps.nil ?_
   refine hK11 _ ?_
   refine AW.seq_w fun K12 hK12 wK12 => ?_
   refine AW.region ?_
   refine sQ rfl (sp_move rfl iL) ?_
   refine sQ rfl (sp_move rfl iL) ?_
   refine sQ rfl (sp_move rfl iL) ?_
   refine ob1k hp1 fun x8 ex8 h7 => ?_
   refine sQ rfl (ms_idx rfl tg_29.slice iL iL (fun _ => rfl) (fun _ => ex8)) ?_
   refine sQ rfl (sp_fieldAddr_ro rfl tf_92_0 iL) ?_
   refine sQ rfl (ms_load (d := .str x8.Name) rfl ts_9 iL rfl) ?_
   refine ob1k h7 fun r1 er1 h8 => ?_
   refine AOps.step rfl rfl rfl (sp_call (r := .r (.str r1)) (caps := []) (bs := [.r (.sl (b1.map GAttr.row)), .r (.str x8.Name)]) rfl iL rfl ⟨⟨_, iL, .d rfl⟩, ⟨_, iL, .d rfl⟩, trivial⟩ (fun _ => w_ref_Get (er1)) rfl) ?_
   refine sQ rfl (sp_seql rfl iL iL) ?_
   refine AOps.nil ?_
   refine hK12 _ ?_
   refine AW.cond rfl (fun hc2 => ?_) (fun hc2 => ?_)
   ·have h9 := ite_t hc2 h8
    refine AW.weak (s' := ⟨[(0, .r (.sl (a1.map GAttr.row))), (1, .r (.sl (b1.map GAttr.row))), (5, .r (.sl (out6.map GAttr.row))), (7, .r (.int .i64 x5)), (34, .r (.int .i64 (a1.length : Int))), (35, .r (.int .i64 x5))], [], (i8 0), 56⟩) (by exact Weak.cv ⟨.inl iL, .inl iL, .inl iL, .inl iL, .inl iL, .inl iL, trivial⟩ trivial (Nat.le_refl _)) ?_
    refine AW.region ?_
    refine sQ rfl (sp_move rfl iL) ?_
    refine sQ rfl (sp_move rfl iL) ?_
    refine sQ rfl (sp_move rfl iL) ?_
    refine sQ rfl (ms_idx rfl tg_29.slice iL iL (fun _ => rfl) (fun _ => ex8)) ?_
    refine sQ rfl (sp_fieldAddr_ro rfl tf_92_0 iL) ?_
    refine sQ rfl (ms_load (d := .str x8.Name) rfl ts_9 iL rfl) ?_
    refine sQ rfl (sp_build rfl tb_92 (q := [(0, _)]) (by exact ⟨rfl, rfl, rfl, iL, trivial⟩) (cs := [.r (.str x8.Name), .r (.str [])]) (by rfl)) ?_
    refine ob1k h9 fun out10 eout10 h10 => ?_
    refine AOps.step rfl rfl rfl (sp_callS (r := .r (.sl (out10.map GAttr.row))) (caps := []) (bs := [.r (.sl (out6.map GAttr.row)), .agg [.r (.str x8.Name), .r (.str [])]]) rfl iL rfl ⟨.inl ⟨iL, rfl⟩, .inl ⟨iL, rfl⟩, trivial⟩ (fun _ => w_ref_put (eout10))) ?_
    refine sQ rfl (sp_assign rfl iL) ?_
    refine AOps.nil ?_
    exact wK10 _ _ ((by exact Weak.cv ⟨.inl iL, .inl iL, .inl iL, .inl iL, .inl iL, trivial⟩ trivial (Nat.le_refl _))) (J3 _ (vec [(i8 0)]) (Option.some.inj h10).symm)
   ·have h9 := ite_f hc2 h8
    refine AW.skip ?_
    exact wK10 _ _ ((by exact Weak.cv ⟨.inl iL, .inl iL, .inl iL, .inl iL, .inl iL, trivial⟩ trivial (Nat.le_refl _))) (J3 _ (vec [(i8 0)]) (Option.some.inj h9).symm)
  ·have h4 := ite_f hc1 h3
   refine AW.exit ?_
   exact wK5 _ _ ((by exact Weak.cv ⟨.inl iL, trivial⟩ trivial (Nat.le_refl _))) (J2 _ (vec [(i8 0)]) (hx2 _ (Option.some.inj h4).symm))
 refine AW.iter2 (fun (out2 : List GAttr) (x2 : Int) i3 => ⟨[(0, .r (.sl (a1.map GAttr.row))), (1, .r (.sl (b1.map GAttr.row))), (5, .r (.sl (out2.map GAttr.row))), (9, .r (.int .i64 (b1.length : Int))), (10, .r (.int .i64 x2))], [], (i3 0), 56⟩) (vec [n0]) hit1 ((by exact Weak.cv ⟨.inl iL, .inl iL, .inl (.inr (.inr ⟨rfl, rfl⟩)), .inl iL, .inl iL, trivial⟩ trivial (Nat.le_refl _))) ?_
 intro out2 x2 i3 v2 hv2 hx1
 have h11 : ref_Between_L1 a1 b1 out2 x2 = some v2 := hv2; unfold ref_Between_L1 at h11
 refine AW.seq_w fun K13 hK13 wK13 => ?_
 refine AW.region ?_
 refine sQ rfl (sp_lss rfl iL iL) ?_
 refine AOps.nil ?_
 refine hK13 _ ?_
 refine AW.seq_w fun K14 hK14 wK14 => ?_
 refine AW.cond rfl (fun hc3 => ?_) (fun hc3 => ?_)
 ·have h12 := ite_t hc3 h11
  refine AW.skip ?_
  refine hK14 _ ?_
  refine AW.seq_w fun K15 hK15 wK15 => ?_
  refine AW.block ?_
  refine jb1k h12 fun p2 hp2 hk4 => ?_
  have J4 : ∀ (out11 : List GAttr) (i12 : Nat → Nat), p2 = out11 → K15 ⟨[(0, .r (.sl (a1.map GAttr.row))), (1, .r (.sl (b1.map GAttr.row))), (5, .r (.sl (out11.map GAttr.row))), (9, .r (.int .i64 (b1.length : Int))), (10, .r (.int .i64 x2))], [], (i12 0), 56⟩ := by
   intro out11 i12 e
   have h13 := hk4 _ e
   refine hK15 _ ?_
   refine AW.region ?_
   refine ob1k h13 fun x9 ex9 h14 => ?_
   refine sQ rfl (ms_add rfl iL iL (fun _ => ex9)) ?_
   refine sQ rfl (sp_move rfl iL) ?_
   refine AOps.nil ?_
   exact NextQ2.mk h14 (vec [(i12 0)]) ((by exact Weak.cv ⟨.inl iL, .inl iL, .inl iL, .inl iL, .inl iL, trivial⟩ trivial (Nat.le_refl _)))
  refine AW.seq_w fun K16 hK16 wK16 => ?_
  refine AW.region ?_
  refine sQ rfl (sp_move rfl iL) ?_
  refine sQ rfl (sp_assign rfl iL) ?_
  refine AOps.nil ?_
  refine hK16 _ ?_
  refine AW.seq_w fun K17 hK17 wK17 => ?_
  refine AW.regionQ hmix (by kernel_rfl) ?_
  refine AQ.step rfl rfl rfl (sp_move rfl iL) ?_
  refine AQ.step rfl rfl rfl (sp_move rfl iL) ?_
  refine AQ.step rfl rfl rfl (sp_move rfl iL) ?_
  refine ob1k hp2 fun x10 ex10 h15 => ?_
  refine AQ.step rfl rfl rfl (ms_idx rfl tg_29.slice iL iL (fun _ => rfl) (fun _ => ex10)) ?_
  refine AQ.step rfl rfl rfl (sp_fieldAddr_ro rfl tf_92_0 iL) ?_
  refine AQ.step rfl rfl rfl (ms_load (d := .str x10.Name) rfl ts_9 iL rfl) ?_
  refine ob1k h15 fun r2 er2 h16 => ?_
  refine AQ.stepC rfl rfl rfl (r := .r (.str r2)) (caps := []) (bs := [.r (.sl (a1.map GAttr.row)), .r (.str x10.Name)]) rfl iL rfl ⟨⟨_, iL, .d rfl⟩, ⟨_, iL, .d rfl⟩, trivial⟩ (fun _ => w_ref_Get (er2)) rfl ?_
  refine AQ.step rfl rfl rfl (sp_move rfl iL) ?_
  refine AQ.step rfl rfl rfl (sp_move rfl iL) ?_
  refine AQ.step rfl rfl rfl (ms_idx rfl tg_29.slice iL iL (fun _ => rfl) (fun _ => ex10)) ?_
  refine AQ.step rfl rfl rfl (sp_fieldAddr_ro rfl tf_92_1 iL) ?_
  refine AQ.step rfl rfl rfl (ms_load (d := .str x10.Value) rfl ts_9 iL rfl) ?_
  refine AQ.step rfl rfl rfl (sp_sneq rfl iL iL) ?_
  refine AQ.nil ?_
  refine hK17 _ ?_
  refine AW.cond rfl (fun hc4 => ?_) (fun hc4 => ?_)
  ·have h17 := ite_t hc4 h16
   refine AW.weak (s' := ⟨[(0, .r (.sl (a1.map GAttr.row))), (1, .r (.sl (b1.map GAttr.row))), (5, .r (.sl (out2.map GAttr.row))), (6, .r (.int .i64 x2)), (9, .r (.int .i64 (b1.length : Int))), (10, .r (.int .i64 x2))], [], (i3 0), 56⟩) (by exact Weak.cv ⟨.inl iL, .inl iL, .inl iL, .inl iL, .inl iL, .inl iL, trivial⟩ trivial (Nat.le_refl _)) ?_
   refine AW.region ?_
   refine sQ rfl (sp_move rfl iL) ?_
   refine sQ rfl (sp_move rfl iL) ?_
   refine sQ rfl (sp_move rfl iL) ?_
   refine sQ rfl (ms_idx rfl tg_29.slice iL iL (fun _ => rfl) (fun _ => ex10)) ?_
   refine sQ rfl (ms_loadA (cs := [.r (.str x10.Name), .r (.str x10.Value)]) rfl ta_92 iL rfl rfl) ?_
   refine ob1k h17 fun out12 eout12 h18 => ?_
   refine AOps.step rfl rfl rfl (sp_callS (r := .r (.sl (out12.map GAttr.row))) (caps := []) (bs := [.r (.sl (out2.map GAttr.row)), .agg [.r (.str x10.Name), .r (.str x10.Value)]]) rfl iL rfl ⟨.inl ⟨iL, rfl⟩, .inl ⟨iL, rfl⟩, trivial⟩ (fun _ => w_ref_put (eout12))) ?_
   refine sQ rfl (sp_assign rfl iL) ?_
   refine AOps.nil ?_
   exact wK15 _ _ ((by exact Weak.cv ⟨.inl iL, .inl iL, .inl iL, .inl iL, .inl iL, trivial⟩ trivial (Nat.le_refl _))) (J4 _ (vec [(i3 0)]) (Option.some.inj h18).symm)
  ·have h17 := ite_f hc4 h16
   refine AW.skip ?_
   exact wK15 _ _ ((by exact Weak.cv ⟨.inl iL, .inl iL, .inl iL, .inl iL, .inl iL, trivial⟩ trivial (Nat.le_refl _))) (J4 _ (vec [(i3 0)]) (Option.some.inj h17).symm)
 ·have h12 := ite_f hc3 h11
  refine AW.exit ?_
  exact wK3 _ _ ((by exact Weak.cv ⟨.inl iL, .inl iL, .inl iL, trivial⟩ trivial (Nat.le_refl _))) (J1 _ (vec [(i3 0)]) (hx1 _ (Option.some.inj h12).symm))
end Go.Proofs.Ytfkolgjapajekaa.Al
