/- Walks, as printed. -/
import Derived.Test.YtdeglnbioiicaaaWlk28
import Derived.Test.YtdeglnbioiicaaaProg
set_option linter.unusedVariables false
namespace Go.Proofs.Ytdeglnbioiicaaa.Al
open Go.Proofs
set_option maxHeartbeats 4000000 in
set_option maxRecDepth 20000 in
theorem w_ref_put {l1 : List GAttr} {a1 : GAttr} {r : (List GAttr)} (h : ref_put l1 a1 = some r) : ARO Try.prog 120 [.r (.sl (l1.map GAttr.row)), .agg [.r (.str a1.Name), .r (.str a1.Value)]] (.r (.sl (r.map GAttr.row))) := by
  unfold ref_put at h
  refine ARO.mkF Try.func120 rfl rfl Try.ntmps120 rfl (Nat.le_of_ble_eq_true rfl) fun n0 => ?_
  refine AW.seq_w fun K1 hK1 wK1 => ?_
  refine AW.region ?_
  refine AOps.step rfl rfl rfl (ms_box (cs := [.r (.str a1.Name), .r (.str a1.Value)]) 3 rfl (.inl rfl) rfl rfl) ?_
  refine AOps.step rfl rfl rfl (OpQ.spec (sp_assign rfl (.inl rfl)) _) ?_
  refine AOps.nil ?_
  refine hK1 _ ?_
  refine AW.seq_w fun K2 hK2 wK2 => ?_
  refine AW.region ?_
  refine AOps.step rfl rfl rfl (OpQ.spec (sp_assign rfl (.inl rfl)) _) ?_
  refine AOps.nil ?_
  refine hK2 _ ?_
  refine AW.seq_w fun K3 hK3 wK3 => ?_
  refine AW.region ?_
  refine AOps.step rfl rfl rfl (OpQ.spec (sp_assign rfl (.inl rfl)) _) ?_
  refine AOps.nil ?_
  refine hK3 _ ?_
  refine AW.seq_w fun K4 hK4 wK4 => ?_
  refine AW.seq_w fun K5 hK5 wK5 => ?_
  refine AW.region ?_
  refine AOps.step rfl rfl rfl (OpQ.spec (sp_move rfl (.inl rfl)) _) ?_
  refine AOps.step rfl rfl rfl (OpQ.spec (ms_len rfl tg_47.slice (.inl rfl)) _) ?_
  refine AOps.step rfl rfl rfl (OpQ.spec (sp_move rfl (.inl rfl)) _) ?_
  refine AOps.nil ?_
  refine hK5 _ ?_
  refine AW.block ?_
  refine jb2k h fun o1 hit1 hk1 => ?_
  have J1 : ∀ (done4 : Bool) (out4 : List GAttr) (i5 : Nat → Nat), o1 = (done4, out4) → K4 ⟨[(3, .ptr 3 n0 0 0), (5, .own 5005 (i5 0)), (6, .r (.bool done4))], [(3, some (.box n0 128 [.r (.str a1.Name), .r (.str a1.Value)])), (5005, some (.arr (i5 0) 128 2 (out4.map GAttr.row)))], (i5 1), 52⟩ := by
    intro done4 out4 i5 e
    have h1 := hk1 _ _ e
    refine hK4 _ ?_
    refine AW.seq_w fun K6 hK6 wK6 => ?_
    refine AW.seq_w fun K7 hK7 wK7 => ?_
    refine AW.region ?_
    refine AOps.step rfl rfl rfl (OpQ.spec (sp_move rfl (.inl rfl)) _) ?_
    refine AOps.step rfl rfl rfl (OpQ.spec (sp_not rfl (.inl rfl)) _) ?_
    refine AOps.nil ?_
    refine hK7 _ ?_
    refine jb1k h1 fun p1 hp1 hk2 => ?_
    have J2 : ∀ (out5 : List GAttr) (i6 : Nat → Nat), p1 = out5 → K6 ⟨[(5, .own 5005 (i6 0))], [(5005, some (.arr (i6 0) 128 2 (out5.map GAttr.row)))], (i6 1), 52⟩ := by
      intro out5 i6 e
      have h2 := hk2 _ e
      refine hK6 _ ?_
      refine AW.seq_w fun K8 hK8 wK8 => ?_
      refine AW.region ?_
      refine AOps.step rfl rfl rfl (OpQ.spec (sp_move rfl (.inl rfl)) _) ?_
      refine AOps.step rfl rfl rfl (OpQ.spec (sp_assign rfl (.inl rfl)) _) ?_
      refine AOps.nil ?_
      refine hK8 _ ?_
      refine AW.ret ?_
      exact retf1 (P := Try.prog) (fun (r : (List GAttr)) => .r (.sl (r.map GAttr.row))) h2 (.inl rfl) (.t (.one (.own rfl)))
    refine AW.cond rfl (fun hc1 => ?_) (fun hc1 => ?_)
    · have h3 := ite_t hc1 hp1
      refine AW.region ?_
      refine AOps.step rfl rfl rfl (OpQ.spec (sp_move rfl (.inl rfl)) _) ?_
      refine AOps.step rfl rfl rfl (OpQ.spec (ms_loadA_box rfl ta_128 (.inl rfl) rfl rfl) _) ?_
      refine AOps.step rfl rfl rfl (ms_lit 49 rfl tg_47 (f := GAttr.row) (l := ([a1] : List GAttr)) ⟨rfl, ⟨_, (.inl rfl), rfl⟩, trivial⟩ rfl (fun _ => rfl) rfl) ?_
      refine ob1k h3 fun out6 eout6 h4 => ?_
      refine AOps.step rfl rfl rfl (ms_app rfl tg_47 (.inl rfl) rfl (.inr (.inl ⟨_, _, (.inl rfl), rfl⟩)) eout6) ?_
      refine AOps.step rfl rfl rfl (OpQ.spec (sp_assign rfl (.inl rfl)) _) ?_
      refine AOps.nil ?_
      exact wK6 _ _ ((by exact Weak.cv ⟨.inl (.inl rfl), trivial⟩ ⟨.inl rfl, trivial⟩ (Nat.le_refl _))) (J2 _ (vec [((i5 1) + 1), ((i5 1) + 2)]) (Option.some.inj h4).symm)
    · have h3 := ite_f hc1 hp1
      refine AW.skip ?_
      exact wK6 _ _ ((by exact Weak.cv ⟨.inl (.inl rfl), trivial⟩ ⟨.inl rfl, trivial⟩ (Nat.le_refl _))) (J2 _ (vec [(i5 0), (i5 1)]) (Option.some.inj h3).symm)
  refine AW.iter3 (fun (done2 : Bool) (x2 : Int) (out2 : List GAttr) i3 => ⟨[(0, .r (.sl (l1.map GAttr.row))), (3, .ptr 3 n0 0 0), (5, .own 5005 (i3 0)), (6, .r (.bool done2)), (9, .r (.int .i64 (l1.length : Int))), (10, .r (.int .i64 x2))], [(3, some (.box n0 128 [.r (.str a1.Name), .r (.str a1.Value)])), (5005, some (.arr (i3 0) 128 2 (out2.map GAttr.row)))], (i3 1), 52⟩) (vec [(n0 + 1), (n0 + 2)]) hit1 (Weak.trans (Weak.trans (Weak.adopt 5 5005 128 2 (by decide) rfl) (by exact Weak.cv (e' := [(0, .r (.sl (l1.map GAttr.row))), (1, .agg [.r (.str a1.Name), .r (.str a1.Value)]), (3, .ptr 3 n0 0 0), (4, .cst (.slice none 0 0)), (5, .own 5005 (n0 + 1)), (6, .r (.bool false)), (8, .r (.sl (l1.map GAttr.row))), (9, .r (.int .i64 (l1.length : Int))), (10, .r (.int .i64 0))]) (h' := [(3, some (.box n0 128 [.r (.str a1.Name), .r (.str a1.Value)])), (5005, some (.arr (n0 + 1) 128 2 (([] : List GAttr).map GAttr.row)))]) ⟨.inl (.inl rfl), .inl (.inl rfl), .inl (.inl rfl), .inl (.inl rfl), .inl (.inl rfl), .inl (.inl rfl), .inl (.inl rfl), .inl (.inl rfl), .inl (.inl rfl), trivial⟩ ⟨.inl rfl, .inl rfl, trivial⟩ (Nat.le_refl _))) (by exact Weak.cv ⟨.inl (.inl rfl), .inl (.inl rfl), .inl (.inl rfl), .inl (.inl rfl), .inl (.inl rfl), .inl (.inl rfl), trivial⟩ ⟨.inl rfl, .inl rfl, trivial⟩ (Nat.le_refl _))) ?_
  intro done2 x2 out2 i3 v1 hv1 hx1
  have h5 : ref_put_L1 l1 a1 done2 x2 out2 = some v1 := hv1; unfold ref_put_L1 at h5
  refine AW.seq_w fun K9 hK9 wK9 => ?_
  refine AW.region ?_
  refine AOps.step rfl rfl rfl (OpQ.spec (sp_lss rfl (.inl rfl) (.inl rfl)) _) ?_
  refine AOps.nil ?_
  refine hK9 _ ?_
  refine AW.seq_w fun K10 hK10 wK10 => ?_
  refine AW.cond rfl (fun hc2 => ?_) (fun hc2 => ?_)
  · have h6 := ite_t hc2 h5
    refine AW.skip ?_
    refine hK10 _ ?_
    refine AW.seq_w fun K11 hK11 wK11 => ?_
    refine AW.block ?_
    refine jb2k h6 fun p2 hp2 hk3 => ?_
    have J3 : ∀ (done5 : Bool) (out7 : List GAttr) (i7 : Nat → Nat), p2 = (done5, out7) → K11 ⟨[(0, .r (.sl (l1.map GAttr.row))), (3, .ptr 3 n0 0 0), (5, .own 5005 (i7 0)), (6, .r (.bool done5)), (9, .r (.int .i64 (l1.length : Int))), (10, .r (.int .i64 x2))], [(3, some (.box n0 128 [.r (.str a1.Name), .r (.str a1.Value)])), (5005, some (.arr (i7 0) 128 2 (out7.map GAttr.row)))], (i7 1), 52⟩ := by
      intro done5 out7 i7 e
      have h7 := hk3 _ _ e
      refine hK11 _ ?_
      refine AW.region ?_
      refine ob1k h7 fun x4 ex4 h8 => ?_
      refine AOps.step rfl rfl rfl (OpQ.spec (ms_add rfl (.inl rfl) (.inl rfl) (fun _ => ex4)) _) ?_
      refine AOps.step rfl rfl rfl (OpQ.spec (sp_move rfl (.inl rfl)) _) ?_
      refine AOps.nil ?_
      exact NextQ3.mk h8 (vec [(i7 0), (i7 1)]) ((by exact Weak.cv ⟨.inl (.inl rfl), .inl (.inl rfl), .inl (.inl rfl), .inl (.inl rfl), .inl (.inl rfl), .inl (.inl rfl), trivial⟩ ⟨.inl rfl, .inl rfl, trivial⟩ (Nat.le_refl _)))
    refine AW.seq_w fun K12 hK12 wK12 => ?_
    refine AW.region ?_
    refine AOps.step rfl rfl rfl (OpQ.spec (sp_move rfl (.inl rfl)) _) ?_
    refine AOps.step rfl rfl rfl (OpQ.spec (sp_assign rfl (.inl rfl)) _) ?_
    refine AOps.nil ?_
    refine hK12 _ ?_
    refine AW.seq_w fun K13 hK13 wK13 => ?_
    refine AW.seq_w fun K14 hK14 wK14 => ?_
    refine AW.regionQ hmix (by kernel_rfl) ?_
    refine AQ.step rfl rfl rfl (sp_move rfl (.inl rfl)) ?_
    refine AQ.step rfl rfl rfl (sp_not rfl (.inl rfl)) ?_
    refine AQ.step rfl rfl rfl (sp_move rfl (.inl rfl)) ?_
    refine AQ.stepW (.one rfl rfl rfl) rfl rfl (sp_move rfl (.inl rfl)) ?_
    refine AQ.stepW (.one rfl rfl rfl) rfl rfl (sp_move rfl (.inl rfl)) ?_
    refine ob1k hp2 fun x5 ex5 h9 => ?_
    refine AQ.stepW (.one rfl rfl rfl) rfl rfl (ms_idx rfl tg_47.slice (.inr ⟨_, (by exact id), rfl⟩) (.inr ⟨_, (by exact id), rfl⟩) (fun _ => rfl) (gdt ex5)) ?_
    refine AQ.stepW (.one rfl rfl rfl) rfl rfl (sp_fieldAddr_ro rfl tf_128_0 (.inr ⟨_, (by exact id), rfl⟩)) ?_
    refine AQ.stepW (.one rfl rfl rfl) rfl rfl (ms_load (d := .str x5.Name) rfl ts_9 (.inr ⟨_, (by exact id), rfl⟩) rfl) ?_
    refine AQ.stepW (.one rfl rfl rfl) rfl rfl (sp_fieldAddr_own (ob := .box _ _ _) rfl tf_128_0 (.inl rfl) (fun _ => rfl) rfl) ?_
    refine AQ.stepW (.one rfl rfl rfl) rfl rfl (ms_load_box (a := .r (.str a1.Name)) rfl ts_9 (.inr ⟨_, (by exact id), rfl⟩) rfl rfl) ?_
    refine AQ.stepW (.one rfl rfl rfl) rfl rfl (sp_sgeq rfl (.inr ⟨_, (by exact id), rfl⟩) (.inr ⟨_, (by exact id), rfl⟩)) ?_
    refine AQ.step rfl rfl rfl (sp_and rfl (.inl rfl) (.inr ⟨_, (by exact id), rfl⟩)) ?_
    refine AQ.nil ?_
    refine hK14 _ ?_
    refine jb2k h9 fun p3 hp3 hk4 => ?_
    have J4 : ∀ (done6 : Bool) (out8 : List GAttr) (i8 : Nat → Nat), p3 = (done6, out8) → K13 ⟨[(0, .r (.sl (l1.map GAttr.row))), (3, .ptr 3 n0 0 0), (5, .own 5005 (i8 0)), (6, .r (.bool done6)), (7, .r (.int .i64 x2)), (9, .r (.int .i64 (l1.length : Int))), (10, .r (.int .i64 x2))], [(3, some (.box n0 128 [.r (.str a1.Name), .r (.str a1.Value)])), (5005, some (.arr (i8 0) 128 2 (out8.map GAttr.row)))], (i8 1), 52⟩ := by
      intro done6 out8 i8 e
      have h10 := hk4 _ _ e
      refine hK13 _ ?_
      refine AW.seq_w fun K15 hK15 wK15 => ?_
      refine AW.regionQ hmix (by kernel_rfl) ?_
      refine AQ.step rfl rfl rfl (sp_move rfl (.inl rfl)) ?_
      refine AQ.step rfl rfl rfl (sp_move rfl (.inl rfl)) ?_
      refine ob1k h10 fun x6 ex6 h11 => ?_
      refine AQ.step rfl rfl rfl (ms_idx rfl tg_47.slice (.inl rfl) (.inl rfl) (fun _ => rfl) (fun _ => ex6)) ?_
      refine AQ.step rfl rfl rfl (sp_fieldAddr_ro rfl tf_128_0 (.inl rfl)) ?_
      refine AQ.step rfl rfl rfl (ms_load (d := .str x6.Name) rfl ts_9 (.inl rfl) rfl) ?_
      refine AQ.step rfl rfl rfl (sp_fieldAddr_own (ob := .box _ _ _) rfl tf_128_0 (.inl rfl) (fun _ => rfl) rfl) ?_
      refine AQ.step rfl rfl rfl (ms_load_box (a := .r (.str a1.Name)) rfl ts_9 (.inl rfl) rfl rfl) ?_
      refine AQ.step rfl rfl rfl (sp_sneq rfl (.inl rfl) (.inl rfl)) ?_
      refine AQ.nil ?_
      refine hK15 _ ?_
      refine AW.cond rfl (fun hc3 => ?_) (fun hc3 => ?_)
      · have h12 := ite_t hc3 h11
        refine AW.region ?_
        refine AOps.step rfl rfl rfl (OpQ.spec (sp_move rfl (.inl rfl)) _) ?_
        refine AOps.step rfl rfl rfl (OpQ.spec (sp_move rfl (.inl rfl)) _) ?_
        refine AOps.step rfl rfl rfl (OpQ.spec (sp_move rfl (.inl rfl)) _) ?_
        refine AOps.step rfl rfl rfl (OpQ.spec (ms_idx rfl tg_47.slice (.inl rfl) (.inl rfl) (fun _ => rfl) (fun _ => ex6)) _) ?_
        refine AOps.step rfl rfl rfl (OpQ.spec (ms_loadA (cs := [.r (.str x6.Name), .r (.str x6.Value)]) rfl ta_128 (.inl rfl) rfl rfl) _) ?_
        refine AOps.step rfl rfl rfl (ms_lit 42 rfl tg_47 (f := GAttr.row) (l := ([x6] : List GAttr)) ⟨rfl, ⟨_, (.inl rfl), rfl⟩, trivial⟩ rfl (fun _ => rfl) rfl) ?_
        refine ob1k h12 fun out9 eout9 h13 => ?_
        refine AOps.step rfl rfl rfl (ms_app rfl tg_47 (.inl rfl) rfl (.inr (.inl ⟨_, _, (.inl rfl), rfl⟩)) eout9) ?_
        refine AOps.step rfl rfl rfl (OpQ.spec (sp_assign rfl (.inl rfl)) _) ?_
        refine AOps.nil ?_
        exact wK11 _ _ ((by exact Weak.cv ⟨.inl (.inl rfl), .inl (.inl rfl), .inl (.inl rfl), .inl (.inl rfl), .inl (.inl rfl), .inl (.inl rfl), trivial⟩ ⟨.inl rfl, .inl rfl, trivial⟩ (Nat.le_refl _))) (J3 _ _ (vec [((i8 1) + 1), ((i8 1) + 2)]) (Option.some.inj h13).symm)
      · have h12 := ite_f hc3 h11
        refine AW.skip ?_
        exact wK11 _ _ ((by exact Weak.cv ⟨.inl (.inl rfl), .inl (.inl rfl), .inl (.inl rfl), .inl (.inl rfl), .inl (.inl rfl), .inl (.inl rfl), trivial⟩ ⟨.inl rfl, .inl rfl, trivial⟩ (Nat.le_refl _))) (J3 _ _ (vec [(i8 0), (i8 1)]) (Option.some.inj h12).symm)
    refine AW.cond rfl (fun hc4 => ?_) (fun hc4 => ?_)
    · have h14 := ite_t hc4 hp3
      refine AW.seq_w fun K16 hK16 wK16 => ?_
      refine AW.region ?_
      refine AOps.step rfl rfl rfl (OpQ.spec (sp_move rfl (.inl rfl)) _) ?_
      refine AOps.step rfl rfl rfl (OpQ.spec (ms_loadA_box rfl ta_128 (.inl rfl) rfl rfl) _) ?_
      refine AOps.step rfl rfl rfl (ms_lit 27 rfl tg_47 (f := GAttr.row) (l := ([a1] : List GAttr)) ⟨rfl, ⟨_, (.inl rfl), rfl⟩, trivial⟩ rfl (fun _ => rfl) rfl) ?_
      refine ob1k h14 fun out10 eout10 h15 => ?_
      refine AOps.step rfl rfl rfl (ms_app rfl tg_47 (.inl rfl) rfl (.inr (.inl ⟨_, _, (.inl rfl), rfl⟩)) eout10) ?_
      refine AOps.step rfl rfl rfl (OpQ.spec (sp_assign rfl (.inl rfl)) _) ?_
      refine AOps.nil ?_
      refine hK16 _ ?_
      refine AW.weak (s' := ⟨[(0, .r (.sl (l1.map GAttr.row))), (3, .ptr 3 n0 0 0), (5, .own 5005 ((i3 1) + 1)), (7, .r (.int .i64 x2)), (9, .r (.int .i64 (l1.length : Int))), (10, .r (.int .i64 x2))], [(3, some (.box n0 128 [.r (.str a1.Name), .r (.str a1.Value)])), (5005, some (.arr ((i3 1) + 1) 128 2 (out10.map GAttr.row)))], ((i3 1) + 2), 52⟩) (by exact Weak.cv ⟨.inl (.inl rfl), .inl (.inl rfl), .inl (.inl rfl), .inl (.inl rfl), .inl (.inl rfl), .inl (.inl rfl), trivial⟩ ⟨.inl rfl, .inl rfl, trivial⟩ (Nat.le_refl _)) ?_
      refine AW.region ?_
      refine AOps.step rfl rfl rfl (OpQ.spec (sp_assign rfl (.inl rfl)) _) ?_
      refine AOps.nil ?_
      exact wK13 _ _ ((by exact Weak.cv ⟨.inl (.inl rfl), .inl (.inl rfl), .inl (.inl rfl), .inl (.inl rfl), .inl (.inl rfl), .inl (.inl rfl), .inl (.inl rfl), trivial⟩ ⟨.inl rfl, .inl rfl, trivial⟩ (Nat.le_refl _))) (J4 _ _ (vec [((i3 1) + 1), ((i3 1) + 2)]) (Option.some.inj h15).symm)
    · have h14 := ite_f hc4 hp3
      refine AW.skip ?_
      exact wK13 _ _ ((by exact Weak.cv ⟨.inl (.inl rfl), .inl (.inl rfl), .inl (.inl rfl), .inl (.inl rfl), .inl (.inl rfl), .inl (.inl rfl), .inl (.inl rfl), trivial⟩ ⟨.inl rfl, .inl rfl, trivial⟩ (Nat.le_refl _))) (J4 _ _ (vec [(i3 0), (i3 1)]) (Option.some.inj h14).symm)
  · have h6 := ite_f hc2 h5
    refine AW.exit ?_
    exact wK4 _ _ ((by exact Weak.cv ⟨.inl (.inl rfl), .inl (.inl rfl), .inl (.inl rfl), trivial⟩ ⟨.inl rfl, .inl rfl, trivial⟩ (Nat.le_refl _))) (J1 _ _ (vec [(i3 0), (i3 1)]) (hx1 _ (Option.some.inj h6).symm))
set_option maxHeartbeats 4000000 in
set_option maxRecDepth 20000 in
theorem w_ref_Changed {l1 : List GAttr} {change1 : List GAttr} {r : (List GAttr)} (h : ref_Changed l1 change1 = some r) : ARO Try.prog 74 [.r (.sl (l1.map GAttr.row)), .r (.sl (change1.map GAttr.row))] (.r (.sl (r.map GAttr.row))) := by
  unfold ref_Changed at h
  refine ARO.mkF Try.func74 rfl rfl Try.ntmps74 rfl (Nat.le_of_ble_eq_true rfl) fun n0 => ?_
  refine AW.seq_w fun K1 hK1 wK1 => ?_
  refine AW.region ?_
  refine AOps.step rfl rfl rfl (OpQ.spec (sp_assign rfl (.inl rfl)) _) ?_
  refine AOps.nil ?_
  refine hK1 _ ?_
  refine AW.seq_w fun K2 hK2 wK2 => ?_
  refine AW.region ?_
  refine AOps.step rfl rfl rfl (OpQ.spec (sp_assign rfl (.inl rfl)) _) ?_
  refine AOps.nil ?_
  refine hK2 _ ?_
  refine AW.seq_w fun K3 hK3 wK3 => ?_
  refine AW.seq_w fun K4 hK4 wK4 => ?_
  refine AW.region ?_
  refine AOps.step rfl rfl rfl (OpQ.spec (sp_move rfl (.inl rfl)) _) ?_
  refine AOps.step rfl rfl rfl (OpQ.spec (ms_len rfl tg_47.slice (.inl rfl)) _) ?_
  refine AOps.step rfl rfl rfl (OpQ.spec (sp_move rfl (.inl rfl)) _) ?_
  refine AOps.nil ?_
  refine hK4 _ ?_
  refine AW.block ?_
  refine jb1k h fun o1 hit1 hk1 => ?_
  have J1 : ∀ (out4 : List GAttr) (i5 : Nat → Nat), o1 = out4 → K3 ⟨[(1, .r (.sl (change1.map GAttr.row))), (5, .r (.sl (out4.map GAttr.row)))], [], (i5 0), 54⟩ := by
    intro out4 i5 e
    have h1 := hk1 _ e
    refine hK3 _ ?_
    refine AW.seq_w fun K5 hK5 wK5 => ?_
    refine AW.seq_w fun K6 hK6 wK6 => ?_
    refine AW.region ?_
    refine AOps.step rfl rfl rfl (OpQ.spec (sp_move rfl (.inl rfl)) _) ?_
    refine AOps.step rfl rfl rfl (OpQ.spec (ms_len rfl tg_47.slice (.inl rfl)) _) ?_
    refine AOps.step rfl rfl rfl (OpQ.spec (sp_move rfl (.inl rfl)) _) ?_
    refine AOps.nil ?_
    refine hK6 _ ?_
    refine AW.block ?_
    refine jb1k h1 fun o2 hit2 hk2 => ?_
    have J2 : ∀ (out8 : List GAttr) (i10 : Nat → Nat), o2 = out8 → K5 ⟨[(5, .r (.sl (out8.map GAttr.row)))], [], (i10 0), 54⟩ := by
      intro out8 i10 e
      have h2 := hk2 _ e
      refine hK5 _ ?_
      refine AW.seq_w fun K7 hK7 wK7 => ?_
      refine AW.region ?_
      refine AOps.step rfl rfl rfl (OpQ.spec (sp_assign rfl (.inl rfl)) _) ?_
      refine AOps.nil ?_
      refine hK7 _ ?_
      refine AW.seq_w fun K8 hK8 wK8 => ?_
      refine AW.seq_w fun K9 hK9 wK9 => ?_
      refine AW.region ?_
      refine AOps.step rfl rfl rfl (OpQ.spec (sp_move rfl (.inl rfl)) _) ?_
      refine AOps.step rfl rfl rfl (OpQ.spec (ms_len rfl tg_47.slice (.inl rfl)) _) ?_
      refine AOps.step rfl rfl rfl (OpQ.spec (sp_move rfl (.inl rfl)) _) ?_
      refine AOps.nil ?_
      refine hK9 _ ?_
      refine AW.block ?_
      refine jb1k h2 fun o3 hit3 hk3 => ?_
      have J3 : ∀ (rest4 : List GAttr) (i15 : Nat → Nat), o3 = rest4 → K8 ⟨[(8, .own 5008 (i15 0))], [(5008, some (.arr (i15 0) 128 2 (rest4.map GAttr.row)))], (i15 1), 54⟩ := by
        intro rest4 i15 e
        have h3 := hk3 _ e
        refine hK8 _ ?_
        refine AW.seq_w fun K10 hK10 wK10 => ?_
        refine AW.region ?_
        refine AOps.step rfl rfl rfl (OpQ.spec (sp_move rfl (.inl rfl)) _) ?_
        refine AOps.step rfl rfl rfl (OpQ.spec (sp_assign rfl (.inl rfl)) _) ?_
        refine AOps.nil ?_
        refine hK10 _ ?_
        refine AW.ret ?_
        exact retf1 (P := Try.prog) (fun (r : (List GAttr)) => .r (.sl (r.map GAttr.row))) h3 (.inl rfl) (.t (.one (.own rfl)))
      refine AW.iter2 (fun (x8 : Int) (rest2 : List GAttr) i13 => ⟨[(5, .r (.sl (out8.map GAttr.row))), (8, .own 5008 (i13 0)), (35, .r (.int .i64 (out8.length : Int))), (36, .r (.int .i64 x8))], [(5008, some (.arr (i13 0) 128 2 (rest2.map GAttr.row)))], (i13 1), 54⟩) (vec [(i10 0), ((i10 0) + 1)]) hit3 (Weak.trans (Weak.trans (Weak.adopt 8 5008 128 2 (by decide) rfl) (by exact Weak.cv (e' := [(5, .r (.sl (out8.map GAttr.row))), (8, .own 5008 (i10 0)), (34, .r (.sl (out8.map GAttr.row))), (35, .r (.int .i64 (out8.length : Int))), (36, .r (.int .i64 0))]) (h' := [(5008, some (.arr (i10 0) 128 2 (([] : List GAttr).map GAttr.row)))]) ⟨.inl (.inl rfl), .inl (.inl rfl), .inl (.inl rfl), .inl (.inl rfl), .inl (.inl rfl), trivial⟩ ⟨.inl rfl, trivial⟩ (Nat.le_refl _))) (by exact Weak.cv ⟨.inl (.inl rfl), .inl (.inl rfl), .inl (.inl rfl), .inl (.inl rfl), trivial⟩ ⟨.inl rfl, trivial⟩ (Nat.le_refl _))) ?_
      intro x8 rest2 i13 v1 hv1 hx3
      have h4 : ref_Changed_L3 out8 x8 rest2 = some v1 := hv1; unfold ref_Changed_L3 at h4
      refine AW.seq_w fun K11 hK11 wK11 => ?_
      refine AW.region ?_
      refine AOps.step rfl rfl rfl (OpQ.spec (sp_lss rfl (.inl rfl) (.inl rfl)) _) ?_
      refine AOps.nil ?_
      refine hK11 _ ?_
      refine AW.seq_w fun K12 hK12 wK12 => ?_
      refine AW.cond rfl (fun hc1 => ?_) (fun hc1 => ?_)
      · have h5 := ite_t hc1 h4
        refine AW.skip ?_
        refine hK12 _ ?_
        refine AW.seq_w fun K13 hK13 wK13 => ?_
        refine AW.block ?_
        refine jb1k h5 fun p1 hp1 hk4 => ?_
        have J4 : ∀ (rest5 : List GAttr) (i16 : Nat → Nat), p1 = rest5 → K13 ⟨[(5, .r (.sl (out8.map GAttr.row))), (8, .own 5008 (i16 0)), (35, .r (.int .i64 (out8.length : Int))), (36, .r (.int .i64 x8))], [(5008, some (.arr (i16 0) 128 2 (rest5.map GAttr.row)))], (i16 1), 54⟩ := by
          intro rest5 i16 e
          have h6 := hk4 _ e
          refine hK13 _ ?_
          refine AW.region ?_
          refine ob1k h6 fun x10 ex10 h7 => ?_
          refine AOps.step rfl rfl rfl (OpQ.spec (ms_add rfl (.inl rfl) (.inl rfl) (fun _ => ex10)) _) ?_
          refine AOps.step rfl rfl rfl (OpQ.spec (sp_move rfl (.inl rfl)) _) ?_
          refine AOps.nil ?_
          exact NextQ2.mk h7 (vec [(i16 0), (i16 1)]) ((by exact Weak.cv ⟨.inl (.inl rfl), .inl (.inl rfl), .inl (.inl rfl), .inl (.inl rfl), trivial⟩ ⟨.inl rfl, trivial⟩ (Nat.le_refl _)))
        refine AW.seq_w fun K14 hK14 wK14 => ?_
        refine AW.region ?_
        refine AOps.step rfl rfl rfl (OpQ.spec (sp_move rfl (.inl rfl)) _) ?_
        refine AOps.step rfl rfl rfl (OpQ.spec (sp_assign rfl (.inl rfl)) _) ?_
        refine AOps.nil ?_
        refine hK14 _ ?_
        refine AW.seq_w fun K15 hK15 wK15 => ?_
        refine AW.region ?_
        refine AOps.step rfl rfl rfl (OpQ.spec (sp_move rfl (.inl rfl)) _) ?_
        refine AOps.step rfl rfl rfl (OpQ.spec (sp_move rfl (.inl rfl)) _) ?_
        refine ob1k hp1 fun x11 ex11 h8 => ?_
        refine AOps.step rfl rfl rfl (OpQ.spec (ms_idx rfl tg_47.slice (.inl rfl) (.inl rfl) (fun _ => rfl) (fun _ => ex11)) _) ?_
        refine AOps.step rfl rfl rfl (OpQ.spec (sp_fieldAddr_ro rfl tf_128_1 (.inl rfl)) _) ?_
        refine AOps.step rfl rfl rfl (OpQ.spec (ms_load (d := .str x11.Value) rfl ts_9 (.inl rfl) rfl) _) ?_
        refine AOps.step rfl rfl rfl (OpQ.spec (sp_sneq rfl (.inl rfl) (.inl rfl)) _) ?_
        refine AOps.nil ?_
        refine hK15 _ ?_
        refine AW.cond rfl (fun hc2 => ?_) (fun hc2 => ?_)
        · have h9 := ite_t hc2 h8
          refine AW.region ?_
          refine AOps.step rfl rfl rfl (OpQ.spec (sp_move rfl (.inl rfl)) _) ?_
          refine AOps.step rfl rfl rfl (OpQ.spec (sp_move rfl (.inl rfl)) _) ?_
          refine AOps.step rfl rfl rfl (OpQ.spec (sp_move rfl (.inl rfl)) _) ?_
          refine AOps.step rfl rfl rfl (OpQ.spec (ms_idx rfl tg_47.slice (.inl rfl) (.inl rfl) (fun _ => rfl) (fun _ => ex11)) _) ?_
          refine AOps.step rfl rfl rfl (OpQ.spec (ms_loadA (cs := [.r (.str x11.Name), .r (.str x11.Value)]) rfl ta_128 (.inl rfl) rfl rfl) _) ?_
          refine AOps.step rfl rfl rfl (ms_lit 50 rfl tg_47 (f := GAttr.row) (l := ([x11] : List GAttr)) ⟨rfl, ⟨_, (.inl rfl), rfl⟩, trivial⟩ rfl (fun _ => rfl) rfl) ?_
          refine ob1k h9 fun rest6 erest6 h10 => ?_
          refine AOps.step rfl rfl rfl (ms_app rfl tg_47 (.inl rfl) rfl (.inr (.inl ⟨_, _, (.inl rfl), rfl⟩)) erest6) ?_
          refine AOps.step rfl rfl rfl (OpQ.spec (sp_assign rfl (.inl rfl)) _) ?_
          refine AOps.nil ?_
          exact wK13 _ _ ((by exact Weak.cv ⟨.inl (.inl rfl), .inl (.inl rfl), .inl (.inl rfl), .inl (.inl rfl), trivial⟩ ⟨.inl rfl, trivial⟩ (Nat.le_refl _))) (J4 _ (vec [((i13 1) + 1), ((i13 1) + 2)]) (Option.some.inj h10).symm)
        · have h9 := ite_f hc2 h8
          refine AW.skip ?_
          exact wK13 _ _ ((by exact Weak.cv ⟨.inl (.inl rfl), .inl (.inl rfl), .inl (.inl rfl), .inl (.inl rfl), trivial⟩ ⟨.inl rfl, trivial⟩ (Nat.le_refl _))) (J4 _ (vec [(i13 0), (i13 1)]) (Option.some.inj h9).symm)
      · have h5 := ite_f hc1 h4
        refine AW.exit ?_
        exact wK8 _ _ ((by exact Weak.cv ⟨.inl (.inl rfl), trivial⟩ ⟨.inl rfl, trivial⟩ (Nat.le_refl _))) (J3 _ (vec [(i13 0), (i13 1)]) (hx3 _ (Option.some.inj h5).symm))
    refine AW.iter2 (fun (out6 : List GAttr) (x5 : Int) i8 => ⟨[(1, .r (.sl (change1.map GAttr.row))), (5, .r (.sl (out6.map GAttr.row))), (23, .r (.int .i64 (change1.length : Int))), (24, .r (.int .i64 x5))], [], (i8 0), 54⟩) (vec [(i5 0)]) hit2 ((by exact Weak.cv ⟨.inl (.inl rfl), .inl (.inl rfl), .inl (.inl rfl), .inl (.inl rfl), trivial⟩ trivial (Nat.le_refl _))) ?_
    intro out6 x5 i8 v2 hv2 hx2
    have h11 : ref_Changed_L2 change1 out6 x5 = some v2 := hv2; unfold ref_Changed_L2 at h11
    refine AW.seq_w fun K16 hK16 wK16 => ?_
    refine AW.region ?_
    refine AOps.step rfl rfl rfl (OpQ.spec (sp_lss rfl (.inl rfl) (.inl rfl)) _) ?_
    refine AOps.nil ?_
    refine hK16 _ ?_
    refine AW.seq_w fun K17 hK17 wK17 => ?_
    refine AW.cond rfl (fun hc3 => ?_) (fun hc3 => ?_)
    · have h12 := ite_t hc3 h11
      refine AW.skip ?_
      refine hK17 _ ?_
      refine AW.seq_w fun K18 hK18 wK18 => ?_
      refine AW.block ?_
      refine AW.seq_w fun K19 hK19 wK19 => ?_
      refine AW.region ?_
      refine AOps.step rfl rfl rfl (OpQ.spec (sp_move rfl (.inl rfl)) _) ?_
      refine AOps.step rfl rfl rfl (OpQ.spec (sp_assign rfl (.inl rfl)) _) ?_
      refine AOps.nil ?_
      refine hK19 _ ?_
      refine AW.region ?_
      refine AOps.step rfl rfl rfl (OpQ.spec (sp_move rfl (.inl rfl)) _) ?_
      refine AOps.step rfl rfl rfl (OpQ.spec (sp_move rfl (.inl rfl)) _) ?_
      refine AOps.step rfl rfl rfl (OpQ.spec (sp_move rfl (.inl rfl)) _) ?_
      refine ob1k h12 fun x12 ex12 h13 => ?_
      refine AOps.step rfl rfl rfl (OpQ.spec (ms_idx rfl tg_47.slice (.inl rfl) (.inl rfl) (fun _ => rfl) (fun _ => ex12)) _) ?_
      refine AOps.step rfl rfl rfl (OpQ.spec (ms_loadA (cs := [.r (.str x12.Name), .r (.str x12.Value)]) rfl ta_128 (.inl rfl) rfl rfl) _) ?_
      refine ob1k h13 fun out9 eout9 h14 => ?_
      refine AOps.step rfl rfl rfl (sp_callS (r := .r (.sl (out9.map GAttr.row))) (caps := []) (bs := [.r (.sl (out6.map GAttr.row)), .agg [.r (.str x12.Name), .r (.str x12.Value)]]) rfl (.inl rfl) rfl ⟨.inl ⟨(.inl rfl), rfl⟩, .inl ⟨(.inl rfl), rfl⟩, trivial⟩ (fun _ => w_ref_put (eout9))) ?_
      refine AOps.step rfl rfl rfl (OpQ.spec (sp_assign rfl (.inl rfl)) _) ?_
      refine AOps.nil ?_
      refine hK18 _ ?_
      refine AW.weak (s' := ⟨[(1, .r (.sl (change1.map GAttr.row))), (5, .r (.sl (out9.map GAttr.row))), (23, .r (.int .i64 (change1.length : Int))), (24, .r (.int .i64 x5))], [], (i8 0), 54⟩) (by exact Weak.cv ⟨.inl (.inl rfl), .inl (.inl rfl), .inl (.inl rfl), .inl (.inl rfl), trivial⟩ trivial (Nat.le_refl _)) ?_
      refine AW.region ?_
      refine ob1k h14 fun x13 ex13 h15 => ?_
      refine AOps.step rfl rfl rfl (OpQ.spec (ms_add rfl (.inl rfl) (.inl rfl) (fun _ => ex13)) _) ?_
      refine AOps.step rfl rfl rfl (OpQ.spec (sp_move rfl (.inl rfl)) _) ?_
      refine AOps.nil ?_
      exact NextQ2.mk h15 (vec [(i8 0)]) ((by exact Weak.cv ⟨.inl (.inl rfl), .inl (.inl rfl), .inl (.inl rfl), .inl (.inl rfl), trivial⟩ trivial (Nat.le_refl _)))
    · have h12 := ite_f hc3 h11
      refine AW.exit ?_
      exact wK5 _ _ ((by exact Weak.cv ⟨.inl (.inl rfl), trivial⟩ trivial (Nat.le_refl _))) (J2 _ (vec [(i8 0)]) (hx2 _ (Option.some.inj h12).symm))
  refine AW.iter2 (fun (out2 : List GAttr) (x2 : Int) i3 => ⟨[(0, .r (.sl (l1.map GAttr.row))), (1, .r (.sl (change1.map GAttr.row))), (5, .r (.sl (out2.map GAttr.row))), (11, .r (.int .i64 (l1.length : Int))), (12, .r (.int .i64 x2))], [], (i3 0), 54⟩) (vec [n0]) hit1 ((by exact Weak.cv ⟨.inl (.inl rfl), .inl (.inl rfl), .inl (.inr (.inr ⟨rfl, rfl⟩)), .inl (.inl rfl), .inl (.inl rfl), trivial⟩ trivial (Nat.le_refl _))) ?_
  intro out2 x2 i3 v3 hv3 hx1
  have h16 : ref_Changed_L1 l1 out2 x2 = some v3 := hv3; unfold ref_Changed_L1 at h16
  refine AW.seq_w fun K20 hK20 wK20 => ?_
  refine AW.region ?_
  refine AOps.step rfl rfl rfl (OpQ.spec (sp_lss rfl (.inl rfl) (.inl rfl)) _) ?_
  refine AOps.nil ?_
  refine hK20 _ ?_
  refine AW.seq_w fun K21 hK21 wK21 => ?_
  refine AW.cond rfl (fun hc4 => ?_) (fun hc4 => ?_)
  · have h17 := ite_t hc4 h16
    refine AW.skip ?_
    refine hK21 _ ?_
    refine AW.seq_w fun K22 hK22 wK22 => ?_
    refine AW.block ?_
    refine AW.seq_w fun K23 hK23 wK23 => ?_
    refine AW.region ?_
    refine AOps.step rfl rfl rfl (OpQ.spec (sp_move rfl (.inl rfl)) _) ?_
    refine AOps.step rfl rfl rfl (OpQ.spec (sp_assign rfl (.inl rfl)) _) ?_
    refine AOps.nil ?_
    refine hK23 _ ?_
    refine AW.region ?_
    refine AOps.step rfl rfl rfl (OpQ.spec (sp_move rfl (.inl rfl)) _) ?_
    refine AOps.step rfl rfl rfl (OpQ.spec (sp_move rfl (.inl rfl)) _) ?_
    refine AOps.step rfl rfl rfl (OpQ.spec (sp_move rfl (.inl rfl)) _) ?_
    refine ob1k h17 fun x14 ex14 h18 => ?_
    refine AOps.step rfl rfl rfl (OpQ.spec (ms_idx rfl tg_47.slice (.inl rfl) (.inl rfl) (fun _ => rfl) (fun _ => ex14)) _) ?_
    refine AOps.step rfl rfl rfl (OpQ.spec (ms_loadA (cs := [.r (.str x14.Name), .r (.str x14.Value)]) rfl ta_128 (.inl rfl) rfl rfl) _) ?_
    refine ob1k h18 fun out10 eout10 h19 => ?_
    refine AOps.step rfl rfl rfl (sp_callS (r := .r (.sl (out10.map GAttr.row))) (caps := []) (bs := [.r (.sl (out2.map GAttr.row)), .agg [.r (.str x14.Name), .r (.str x14.Value)]]) rfl (.inl rfl) rfl ⟨.inl ⟨(.inl rfl), rfl⟩, .inl ⟨(.inl rfl), rfl⟩, trivial⟩ (fun _ => w_ref_put (eout10))) ?_
    refine AOps.step rfl rfl rfl (OpQ.spec (sp_assign rfl (.inl rfl)) _) ?_
    refine AOps.nil ?_
    refine hK22 _ ?_
    refine AW.weak (s' := ⟨[(0, .r (.sl (l1.map GAttr.row))), (1, .r (.sl (change1.map GAttr.row))), (5, .r (.sl (out10.map GAttr.row))), (11, .r (.int .i64 (l1.length : Int))), (12, .r (.int .i64 x2))], [], (i3 0), 54⟩) (by exact Weak.cv ⟨.inl (.inl rfl), .inl (.inl rfl), .inl (.inl rfl), .inl (.inl rfl), .inl (.inl rfl), trivial⟩ trivial (Nat.le_refl _)) ?_
    refine AW.region ?_
    refine ob1k h19 fun x15 ex15 h20 => ?_
    refine AOps.step rfl rfl rfl (OpQ.spec (ms_add rfl (.inl rfl) (.inl rfl) (fun _ => ex15)) _) ?_
    refine AOps.step rfl rfl rfl (OpQ.spec (sp_move rfl (.inl rfl)) _) ?_
    refine AOps.nil ?_
    exact NextQ2.mk h20 (vec [(i3 0)]) ((by exact Weak.cv ⟨.inl (.inl rfl), .inl (.inl rfl), .inl (.inl rfl), .inl (.inl rfl), .inl (.inl rfl), trivial⟩ trivial (Nat.le_refl _)))
  · have h17 := ite_f hc4 h16
    refine AW.exit ?_
    exact wK3 _ _ ((by exact Weak.cv ⟨.inl (.inl rfl), .inl (.inl rfl), trivial⟩ trivial (Nat.le_refl _))) (J1 _ (vec [(i3 0)]) (hx1 _ (Option.some.inj h17).symm))
set_option maxHeartbeats 4000000 in
set_option maxRecDepth 20000 in
theorem w_ref_Get {l1 : List GAttr} {name1 : List UInt8} {r : (List UInt8)} (h : ref_Get l1 name1 = some r) : ARO Try.prog 119 [.r (.sl (l1.map GAttr.row)), .r (.str name1)] (.r (.str r)) := by
  unfold ref_Get at h
  refine ARO.mkF Try.func119 rfl rfl Try.ntmps119 rfl (Nat.le_of_ble_eq_true rfl) fun n0 => ?_
  refine AW.seq_w fun K1 hK1 wK1 => ?_
  refine AW.region ?_
  refine AOps.step rfl rfl rfl (OpQ.spec (sp_assign rfl (.inl rfl)) _) ?_
  refine AOps.nil ?_
  refine hK1 _ ?_
  refine AW.seq_w fun K2 hK2 wK2 => ?_
  refine AW.seq_w fun K3 hK3 wK3 => ?_
  refine AW.region ?_
  refine AOps.step rfl rfl rfl (OpQ.spec (sp_move rfl (.inl rfl)) _) ?_
  refine AOps.step rfl rfl rfl (OpQ.spec (ms_len rfl tg_47.slice (.inl rfl)) _) ?_
  refine AOps.step rfl rfl rfl (OpQ.spec (sp_move rfl (.inl rfl)) _) ?_
  refine AOps.nil ?_
  refine hK3 _ ?_
  refine AW.block ?_
  refine jc1k h fun o1 hit1 hk1 he1 => ?_
  have J1 : ∀ (u2 : Unit) (i5 : Nat → Nat), o1 = .nrm u2 → K2 ⟨[], [], (i5 0), 24⟩ := by
    intro u2 i5 e
    have h1 := hk1 _ e
    refine hK2 _ ?_
    refine AW.seq_w fun K4 hK4 wK4 => ?_
    refine AW.region ?_
    refine AOps.step rfl rfl rfl (OpQ.spec (sp_assign rfl (.inl rfl)) _) ?_
    refine AOps.nil ?_
    refine hK4 _ ?_
    refine AW.ret ?_
    exact retf1 (P := Try.prog) (fun (r : (List UInt8)) => .r (.str r)) h1 (.inl rfl) (.t (.d rfl))
  refine AW.iter1 (fun (x2 : Int) i3 => ⟨[(0, .r (.sl (l1.map GAttr.row))), (1, .r (.str name1)), (7, .r (.int .i64 (l1.length : Int))), (8, .r (.int .i64 x2))], [], (i3 0), 24⟩) (vec [n0]) hit1 ((by exact Weak.cv ⟨.inl (.inl rfl), .inl (.inl rfl), .inl (.inl rfl), .inl (.inl rfl), trivial⟩ trivial (Nat.le_refl _))) ?_
  intro x2 i3 v1 hv1 hx1
  have h2 : ref_Get_L1 l1 name1 x2 = some v1 := hv1; unfold ref_Get_L1 at h2
  refine AW.seq_w fun K5 hK5 wK5 => ?_
  refine AW.region ?_
  refine AOps.step rfl rfl rfl (OpQ.spec (sp_lss rfl (.inl rfl) (.inl rfl)) _) ?_
  refine AOps.nil ?_
  refine hK5 _ ?_
  refine AW.seq_w fun K6 hK6 wK6 => ?_
  refine AW.cond rfl (fun hc1 => ?_) (fun hc1 => ?_)
  · have h3 := ite_t hc1 h2
    refine AW.skip ?_
    refine hK6 _ ?_
    refine AW.seq_w fun K7 hK7 wK7 => ?_
    refine AW.block ?_
    refine AW.seq_w fun K8 hK8 wK8 => ?_
    refine AW.region ?_
    refine AOps.step rfl rfl rfl (OpQ.spec (sp_move rfl (.inl rfl)) _) ?_
    refine AOps.step rfl rfl rfl (OpQ.spec (sp_assign rfl (.inl rfl)) _) ?_
    refine AOps.nil ?_
    refine hK8 _ ?_
    refine AW.seq_w fun K9 hK9 wK9 => ?_
    refine AW.region ?_
    refine AOps.step rfl rfl rfl (OpQ.spec (sp_move rfl (.inl rfl)) _) ?_
    refine AOps.step rfl rfl rfl (OpQ.spec (sp_move rfl (.inl rfl)) _) ?_
    refine ob1k h3 fun x4 ex4 h4 => ?_
    refine AOps.step rfl rfl rfl (OpQ.spec (ms_idx rfl tg_47.slice (.inl rfl) (.inl rfl) (fun _ => rfl) (fun _ => ex4)) _) ?_
    refine AOps.step rfl rfl rfl (OpQ.spec (sp_fieldAddr_ro rfl tf_128_0 (.inl rfl)) _) ?_
    refine AOps.step rfl rfl rfl (OpQ.spec (ms_load (d := .str x4.Name) rfl ts_9 (.inl rfl) rfl) _) ?_
    refine AOps.step rfl rfl rfl (OpQ.spec (sp_move rfl (.inl rfl)) _) ?_
    refine AOps.step rfl rfl rfl (OpQ.spec (sp_seql rfl (.inl rfl) (.inl rfl)) _) ?_
    refine AOps.nil ?_
    refine hK9 _ ?_
    refine AW.cond rfl (fun hc2 => ?_) (fun hc2 => ?_)
    · have h5 := ite_t hc2 h4
      refine AW.seq_w fun K10 hK10 wK10 => ?_
      refine AW.weak (s' := ⟨[(0, .r (.sl (l1.map GAttr.row))), (5, .r (.int .i64 x2))], [], (i3 0), 24⟩) (by exact Weak.cv ⟨.inl (.inl rfl), .inl (.inl rfl), trivial⟩ trivial (Nat.le_refl _)) ?_
      refine AW.region ?_
      refine AOps.step rfl rfl rfl (OpQ.spec (sp_move rfl (.inl rfl)) _) ?_
      refine AOps.step rfl rfl rfl (OpQ.spec (sp_move rfl (.inl rfl)) _) ?_
      refine AOps.step rfl rfl rfl (OpQ.spec (ms_idx rfl tg_47.slice (.inl rfl) (.inl rfl) (fun _ => rfl) (fun _ => ex4)) _) ?_
      refine AOps.step rfl rfl rfl (OpQ.spec (sp_fieldAddr_ro rfl tf_128_1 (.inl rfl)) _) ?_
      refine AOps.step rfl rfl rfl (OpQ.spec (ms_load (d := .str x4.Value) rfl ts_9 (.inl rfl) rfl) _) ?_
      refine AOps.step rfl rfl rfl (OpQ.spec (sp_assign rfl (.inl rfl)) _) ?_
      refine AOps.nil ?_
      refine hK10 _ ?_
      refine AW.ret ?_
      exact retf1 (P := Try.prog) (fun (r : (List UInt8)) => .r (.str r)) (he1 _ (hx1 _ (Option.some.inj h5).symm)) (.inl rfl) (.t (.d rfl))
    · have h5 := ite_f hc2 h4
      refine AW.skip ?_
      refine hK7 _ ?_
      refine AW.weak (s' := ⟨[(0, .r (.sl (l1.map GAttr.row))), (1, .r (.str name1)), (7, .r (.int .i64 (l1.length : Int))), (8, .r (.int .i64 x2))], [], (i3 0), 24⟩) (by exact Weak.cv ⟨.inl (.inl rfl), .inl (.inl rfl), .inl (.inl rfl), .inl (.inl rfl), trivial⟩ trivial (Nat.le_refl _)) ?_
      refine AW.region ?_
      refine ob1k h5 fun x5 ex5 h6 => ?_
      refine AOps.step rfl rfl rfl (OpQ.spec (ms_add rfl (.inl rfl) (.inl rfl) (fun _ => ex5)) _) ?_
      refine AOps.step rfl rfl rfl (OpQ.spec (sp_move rfl (.inl rfl)) _) ?_
      refine AOps.nil ?_
      exact NextQ1.mk h6 (vec [(i3 0)]) ((by exact Weak.cv ⟨.inl (.inl rfl), .inl (.inl rfl), .inl (.inl rfl), .inl (.inl rfl), trivial⟩ trivial (Nat.le_refl _)))
  · have h3 := ite_f hc1 h2
    refine AW.exit ?_
    exact wK2 _ _ ((by exact Weak.cv trivial trivial (Nat.le_refl _))) (J1 _ (vec [(i3 0)]) (hx1 _ (Option.some.inj h3).symm))
set_option maxHeartbeats 4000000 in
set_option maxRecDepth 20000 in
theorem w_ref_Between {a1 : List GAttr} {b1 : List GAttr} {r : (List GAttr)} (h : ref_Between a1 b1 = some r) : ARO Try.prog 73 [.r (.sl (a1.map GAttr.row)), .r (.sl (b1.map GAttr.row))] (.r (.sl (r.map GAttr.row))) := by
  unfold ref_Between at h
  refine ARO.mkF Try.func73 rfl rfl Try.ntmps73 rfl (Nat.le_of_ble_eq_true rfl) fun n0 => ?_
  refine AW.seq_w fun K1 hK1 wK1 => ?_
  refine AW.region ?_
  refine AOps.step rfl rfl rfl (OpQ.spec (sp_assign rfl (.inl rfl)) _) ?_
  refine AOps.nil ?_
  refine hK1 _ ?_
  refine AW.seq_w fun K2 hK2 wK2 => ?_
  refine AW.region ?_
  refine AOps.step rfl rfl rfl (OpQ.spec (sp_assign rfl (.inl rfl)) _) ?_
  refine AOps.nil ?_
  refine hK2 _ ?_
  refine AW.seq_w fun K3 hK3 wK3 => ?_
  refine AW.seq_w fun K4 hK4 wK4 => ?_
  refine AW.region ?_
  refine AOps.step rfl rfl rfl (OpQ.spec (sp_move rfl (.inl rfl)) _) ?_
  refine AOps.step rfl rfl rfl (OpQ.spec (ms_len rfl tg_47.slice (.inl rfl)) _) ?_
  refine AOps.step rfl rfl rfl (OpQ.spec (sp_move rfl (.inl rfl)) _) ?_
  refine AOps.nil ?_
  refine hK4 _ ?_
  refine AW.block ?_
  refine jb1k h fun o1 hit1 hk1 => ?_
  have J1 : ∀ (out4 : List GAttr) (i5 : Nat → Nat), o1 = out4 → K3 ⟨[(0, .r (.sl (a1.map GAttr.row))), (1, .r (.sl (b1.map GAttr.row))), (5, .r (.sl (out4.map GAttr.row)))], [], (i5 0), 56⟩ := by
    intro out4 i5 e
    have h1 := hk1 _ e
    refine hK3 _ ?_
    refine AW.seq_w fun K5 hK5 wK5 => ?_
    refine AW.seq_w fun K6 hK6 wK6 => ?_
    refine AW.region ?_
    refine AOps.step rfl rfl rfl (OpQ.spec (sp_move rfl (.inl rfl)) _) ?_
    refine AOps.step rfl rfl rfl (OpQ.spec (ms_len rfl tg_47.slice (.inl rfl)) _) ?_
    refine AOps.step rfl rfl rfl (OpQ.spec (sp_move rfl (.inl rfl)) _) ?_
    refine AOps.nil ?_
    refine hK6 _ ?_
    refine AW.block ?_
    refine jb1k h1 fun o2 hit2 hk2 => ?_
    have J2 : ∀ (out8 : List GAttr) (i10 : Nat → Nat), o2 = out8 → K5 ⟨[(5, .r (.sl (out8.map GAttr.row)))], [], (i10 0), 56⟩ := by
      intro out8 i10 e
      have h2 := hk2 _ e
      refine hK5 _ ?_
      refine AW.seq_w fun K7 hK7 wK7 => ?_
      refine AW.region ?_
      refine AOps.step rfl rfl rfl (OpQ.spec (sp_move rfl (.inl rfl)) _) ?_
      refine AOps.step rfl rfl rfl (OpQ.spec (sp_assign rfl (.inl rfl)) _) ?_
      refine AOps.nil ?_
      refine hK7 _ ?_
      refine AW.ret ?_
      exact retf1 (P := Try.prog) (fun (r : (List GAttr)) => .r (.sl (r.map GAttr.row))) h2 (.inl rfl) (.t (.d rfl))
    refine AW.iter2 (fun (out6 : List GAttr) (x5 : Int) i8 => ⟨[(0, .r (.sl (a1.map GAttr.row))), (1, .r (.sl (b1.map GAttr.row))), (5, .r (.sl (out6.map GAttr.row))), (34, .r (.int .i64 (a1.length : Int))), (35, .r (.int .i64 x5))], [], (i8 0), 56⟩) (vec [(i5 0)]) hit2 ((by exact Weak.cv ⟨.inl (.inl rfl), .inl (.inl rfl), .inl (.inl rfl), .inl (.inl rfl), .inl (.inl rfl), trivial⟩ trivial (Nat.le_refl _))) ?_
    intro out6 x5 i8 v1 hv1 hx2
    have h3 : ref_Between_L2 a1 b1 out6 x5 = some v1 := hv1; unfold ref_Between_L2 at h3
    refine AW.seq_w fun K8 hK8 wK8 => ?_
    refine AW.region ?_
    refine AOps.step rfl rfl rfl (OpQ.spec (sp_lss rfl (.inl rfl) (.inl rfl)) _) ?_
    refine AOps.nil ?_
    refine hK8 _ ?_
    refine AW.seq_w fun K9 hK9 wK9 => ?_
    refine AW.cond rfl (fun hc1 => ?_) (fun hc1 => ?_)
    · have h4 := ite_t hc1 h3
      refine AW.skip ?_
      refine hK9 _ ?_
      refine AW.seq_w fun K10 hK10 wK10 => ?_
      refine AW.block ?_
      refine jb1k h4 fun p1 hp1 hk3 => ?_
      have J3 : ∀ (out9 : List GAttr) (i11 : Nat → Nat), p1 = out9 → K10 ⟨[(0, .r (.sl (a1.map GAttr.row))), (1, .r (.sl (b1.map GAttr.row))), (5, .r (.sl (out9.map GAttr.row))), (34, .r (.int .i64 (a1.length : Int))), (35, .r (.int .i64 x5))], [], (i11 0), 56⟩ := by
        intro out9 i11 e
        have h5 := hk3 _ e
        refine hK10 _ ?_
        refine AW.region ?_
        refine ob1k h5 fun x7 ex7 h6 => ?_
        refine AOps.step rfl rfl rfl (OpQ.spec (ms_add rfl (.inl rfl) (.inl rfl) (fun _ => ex7)) _) ?_
        refine AOps.step rfl rfl rfl (OpQ.spec (sp_move rfl (.inl rfl)) _) ?_
        refine AOps.nil ?_
        exact NextQ2.mk h6 (vec [(i11 0)]) ((by exact Weak.cv ⟨.inl (.inl rfl), .inl (.inl rfl), .inl (.inl rfl), .inl (.inl rfl), .inl (.inl rfl), trivial⟩ trivial (Nat.le_refl _)))
      refine AW.seq_w fun K11 hK11 wK11 => ?_
      refine AW.region ?_
      refine AOps.step rfl rfl rfl (OpQ.spec (sp_move rfl (.inl rfl)) _) ?_
      refine AOps.step rfl rfl rfl (OpQ.spec (sp_assign rfl (.inl rfl)) _) ?_
      refine AOps.nil ?_
      refine hK11 _ ?_
      refine AW.seq_w fun K12 hK12 wK12 => ?_
      refine AW.region ?_
      refine AOps.step rfl rfl rfl (OpQ.spec (sp_move rfl (.inl rfl)) _) ?_
      refine AOps.step rfl rfl rfl (OpQ.spec (sp_move rfl (.inl rfl)) _) ?_
      refine AOps.step rfl rfl rfl (OpQ.spec (sp_move rfl (.inl rfl)) _) ?_
      refine ob1k hp1 fun x8 ex8 h7 => ?_
      refine AOps.step rfl rfl rfl (OpQ.spec (ms_idx rfl tg_47.slice (.inl rfl) (.inl rfl) (fun _ => rfl) (fun _ => ex8)) _) ?_
      refine AOps.step rfl rfl rfl (OpQ.spec (sp_fieldAddr_ro rfl tf_128_0 (.inl rfl)) _) ?_
      refine AOps.step rfl rfl rfl (OpQ.spec (ms_load (d := .str x8.Name) rfl ts_9 (.inl rfl) rfl) _) ?_
      refine ob1k h7 fun r1 er1 h8 => ?_
      refine AOps.step rfl rfl rfl (sp_call (r := .r (.str r1)) (caps := []) (bs := [.r (.sl (b1.map GAttr.row)), .r (.str x8.Name)]) rfl (.inl rfl) rfl ⟨⟨_, (.inl rfl), .d rfl⟩, ⟨_, (.inl rfl), .d rfl⟩, trivial⟩ (fun _ => w_ref_Get (er1)) rfl) ?_
      refine AOps.step rfl rfl rfl (OpQ.spec (sp_seql rfl (.inl rfl) (.inl rfl)) _) ?_
      refine AOps.nil ?_
      refine hK12 _ ?_
      refine AW.cond rfl (fun hc2 => ?_) (fun hc2 => ?_)
      · have h9 := ite_t hc2 h8
        refine AW.weak (s' := ⟨[(0, .r (.sl (a1.map GAttr.row))), (1, .r (.sl (b1.map GAttr.row))), (5, .r (.sl (out6.map GAttr.row))), (7, .r (.int .i64 x5)), (34, .r (.int .i64 (a1.length : Int))), (35, .r (.int .i64 x5))], [], (i8 0), 56⟩) (by exact Weak.cv ⟨.inl (.inl rfl), .inl (.inl rfl), .inl (.inl rfl), .inl (.inl rfl), .inl (.inl rfl), .inl (.inl rfl), trivial⟩ trivial (Nat.le_refl _)) ?_
        refine AW.region ?_
        refine AOps.step rfl rfl rfl (OpQ.spec (sp_move rfl (.inl rfl)) _) ?_
        refine AOps.step rfl rfl rfl (OpQ.spec (sp_move rfl (.inl rfl)) _) ?_
        refine AOps.step rfl rfl rfl (OpQ.spec (sp_move rfl (.inl rfl)) _) ?_
        refine AOps.step rfl rfl rfl (OpQ.spec (ms_idx rfl tg_47.slice (.inl rfl) (.inl rfl) (fun _ => rfl) (fun _ => ex8)) _) ?_
        refine AOps.step rfl rfl rfl (OpQ.spec (sp_fieldAddr_ro rfl tf_128_0 (.inl rfl)) _) ?_
        refine AOps.step rfl rfl rfl (OpQ.spec (ms_load (d := .str x8.Name) rfl ts_9 (.inl rfl) rfl) _) ?_
        refine AOps.step rfl rfl rfl (OpQ.spec (sp_build rfl tb_128 (q := [(0, _)]) (by exact ⟨rfl, rfl, rfl, (.inl rfl), trivial⟩) (cs := [.r (.str x8.Name), .r (.str [])]) (by rfl)) _) ?_
        refine ob1k h9 fun out10 eout10 h10 => ?_
        refine AOps.step rfl rfl rfl (sp_callS (r := .r (.sl (out10.map GAttr.row))) (caps := []) (bs := [.r (.sl (out6.map GAttr.row)), .agg [.r (.str x8.Name), .r (.str [])]]) rfl (.inl rfl) rfl ⟨.inl ⟨(.inl rfl), rfl⟩, .inl ⟨(.inl rfl), rfl⟩, trivial⟩ (fun _ => w_ref_put (eout10))) ?_
        refine AOps.step rfl rfl rfl (OpQ.spec (sp_assign rfl (.inl rfl)) _) ?_
        refine AOps.nil ?_
        exact wK10 _ _ ((by exact Weak.cv ⟨.inl (.inl rfl), .inl (.inl rfl), .inl (.inl rfl), .inl (.inl rfl), .inl (.inl rfl), trivial⟩ trivial (Nat.le_refl _))) (J3 _ (vec [(i8 0)]) (Option.some.inj h10).symm)
      · have h9 := ite_f hc2 h8
        refine AW.skip ?_
        exact wK10 _ _ ((by exact Weak.cv ⟨.inl (.inl rfl), .inl (.inl rfl), .inl (.inl rfl), .inl (.inl rfl), .inl (.inl rfl), trivial⟩ trivial (Nat.le_refl _))) (J3 _ (vec [(i8 0)]) (Option.some.inj h9).symm)
    · have h4 := ite_f hc1 h3
      refine AW.exit ?_
      exact wK5 _ _ ((by exact Weak.cv ⟨.inl (.inl rfl), trivial⟩ trivial (Nat.le_refl _))) (J2 _ (vec [(i8 0)]) (hx2 _ (Option.some.inj h4).symm))
  refine AW.iter2 (fun (out2 : List GAttr) (x2 : Int) i3 => ⟨[(0, .r (.sl (a1.map GAttr.row))), (1, .r (.sl (b1.map GAttr.row))), (5, .r (.sl (out2.map GAttr.row))), (9, .r (.int .i64 (b1.length : Int))), (10, .r (.int .i64 x2))], [], (i3 0), 56⟩) (vec [n0]) hit1 ((by exact Weak.cv ⟨.inl (.inl rfl), .inl (.inl rfl), .inl (.inr (.inr ⟨rfl, rfl⟩)), .inl (.inl rfl), .inl (.inl rfl), trivial⟩ trivial (Nat.le_refl _))) ?_
  intro out2 x2 i3 v2 hv2 hx1
  have h11 : ref_Between_L1 a1 b1 out2 x2 = some v2 := hv2; unfold ref_Between_L1 at h11
  refine AW.seq_w fun K13 hK13 wK13 => ?_
  refine AW.region ?_
  refine AOps.step rfl rfl rfl (OpQ.spec (sp_lss rfl (.inl rfl) (.inl rfl)) _) ?_
  refine AOps.nil ?_
  refine hK13 _ ?_
  refine AW.seq_w fun K14 hK14 wK14 => ?_
  refine AW.cond rfl (fun hc3 => ?_) (fun hc3 => ?_)
  · have h12 := ite_t hc3 h11
    refine AW.skip ?_
    refine hK14 _ ?_
    refine AW.seq_w fun K15 hK15 wK15 => ?_
    refine AW.block ?_
    refine jb1k h12 fun p2 hp2 hk4 => ?_
    have J4 : ∀ (out11 : List GAttr) (i12 : Nat → Nat), p2 = out11 → K15 ⟨[(0, .r (.sl (a1.map GAttr.row))), (1, .r (.sl (b1.map GAttr.row))), (5, .r (.sl (out11.map GAttr.row))), (9, .r (.int .i64 (b1.length : Int))), (10, .r (.int .i64 x2))], [], (i12 0), 56⟩ := by
      intro out11 i12 e
      have h13 := hk4 _ e
      refine hK15 _ ?_
      refine AW.region ?_
      refine ob1k h13 fun x9 ex9 h14 => ?_
      refine AOps.step rfl rfl rfl (OpQ.spec (ms_add rfl (.inl rfl) (.inl rfl) (fun _ => ex9)) _) ?_
      refine AOps.step rfl rfl rfl (OpQ.spec (sp_move rfl (.inl rfl)) _) ?_
      refine AOps.nil ?_
      exact NextQ2.mk h14 (vec [(i12 0)]) ((by exact Weak.cv ⟨.inl (.inl rfl), .inl (.inl rfl), .inl (.inl rfl), .inl (.inl rfl), .inl (.inl rfl), trivial⟩ trivial (Nat.le_refl _)))
    refine AW.seq_w fun K16 hK16 wK16 => ?_
    refine AW.region ?_
    refine AOps.step rfl rfl rfl (OpQ.spec (sp_move rfl (.inl rfl)) _) ?_
    refine AOps.step rfl rfl rfl (OpQ.spec (sp_assign rfl (.inl rfl)) _) ?_
    refine AOps.nil ?_
    refine hK16 _ ?_
    refine AW.seq_w fun K17 hK17 wK17 => ?_
    refine AW.regionQ hmix (by kernel_rfl) ?_
    refine AQ.step rfl rfl rfl (sp_move rfl (.inl rfl)) ?_
    refine AQ.step rfl rfl rfl (sp_move rfl (.inl rfl)) ?_
    refine AQ.step rfl rfl rfl (sp_move rfl (.inl rfl)) ?_
    refine ob1k hp2 fun x10 ex10 h15 => ?_
    refine AQ.step rfl rfl rfl (ms_idx rfl tg_47.slice (.inl rfl) (.inl rfl) (fun _ => rfl) (fun _ => ex10)) ?_
    refine AQ.step rfl rfl rfl (sp_fieldAddr_ro rfl tf_128_0 (.inl rfl)) ?_
    refine AQ.step rfl rfl rfl (ms_load (d := .str x10.Name) rfl ts_9 (.inl rfl) rfl) ?_
    refine ob1k h15 fun r2 er2 h16 => ?_
    refine AQ.stepC rfl rfl rfl (r := .r (.str r2)) (caps := []) (bs := [.r (.sl (a1.map GAttr.row)), .r (.str x10.Name)]) rfl (.inl rfl) rfl ⟨⟨_, (.inl rfl), .d rfl⟩, ⟨_, (.inl rfl), .d rfl⟩, trivial⟩ (fun _ => w_ref_Get (er2)) rfl ?_
    refine AQ.step rfl rfl rfl (sp_move rfl (.inl rfl)) ?_
    refine AQ.step rfl rfl rfl (sp_move rfl (.inl rfl)) ?_
    refine AQ.step rfl rfl rfl (ms_idx rfl tg_47.slice (.inl rfl) (.inl rfl) (fun _ => rfl) (fun _ => ex10)) ?_
    refine AQ.step rfl rfl rfl (sp_fieldAddr_ro rfl tf_128_1 (.inl rfl)) ?_
    refine AQ.step rfl rfl rfl (ms_load (d := .str x10.Value) rfl ts_9 (.inl rfl) rfl) ?_
    refine AQ.step rfl rfl rfl (sp_sneq rfl (.inl rfl) (.inl rfl)) ?_
    refine AQ.nil ?_
    refine hK17 _ ?_
    refine AW.cond rfl (fun hc4 => ?_) (fun hc4 => ?_)
    · have h17 := ite_t hc4 h16
      refine AW.weak (s' := ⟨[(0, .r (.sl (a1.map GAttr.row))), (1, .r (.sl (b1.map GAttr.row))), (5, .r (.sl (out2.map GAttr.row))), (6, .r (.int .i64 x2)), (9, .r (.int .i64 (b1.length : Int))), (10, .r (.int .i64 x2))], [], (i3 0), 56⟩) (by exact Weak.cv ⟨.inl (.inl rfl), .inl (.inl rfl), .inl (.inl rfl), .inl (.inl rfl), .inl (.inl rfl), .inl (.inl rfl), trivial⟩ trivial (Nat.le_refl _)) ?_
      refine AW.region ?_
      refine AOps.step rfl rfl rfl (OpQ.spec (sp_move rfl (.inl rfl)) _) ?_
      refine AOps.step rfl rfl rfl (OpQ.spec (sp_move rfl (.inl rfl)) _) ?_
      refine AOps.step rfl rfl rfl (OpQ.spec (sp_move rfl (.inl rfl)) _) ?_
      refine AOps.step rfl rfl rfl (OpQ.spec (ms_idx rfl tg_47.slice (.inl rfl) (.inl rfl) (fun _ => rfl) (fun _ => ex10)) _) ?_
      refine AOps.step rfl rfl rfl (OpQ.spec (ms_loadA (cs := [.r (.str x10.Name), .r (.str x10.Value)]) rfl ta_128 (.inl rfl) rfl rfl) _) ?_
      refine ob1k h17 fun out12 eout12 h18 => ?_
      refine AOps.step rfl rfl rfl (sp_callS (r := .r (.sl (out12.map GAttr.row))) (caps := []) (bs := [.r (.sl (out2.map GAttr.row)), .agg [.r (.str x10.Name), .r (.str x10.Value)]]) rfl (.inl rfl) rfl ⟨.inl ⟨(.inl rfl), rfl⟩, .inl ⟨(.inl rfl), rfl⟩, trivial⟩ (fun _ => w_ref_put (eout12))) ?_
      refine AOps.step rfl rfl rfl (OpQ.spec (sp_assign rfl (.inl rfl)) _) ?_
      refine AOps.nil ?_
      exact wK15 _ _ ((by exact Weak.cv ⟨.inl (.inl rfl), .inl (.inl rfl), .inl (.inl rfl), .inl (.inl rfl), .inl (.inl rfl), trivial⟩ trivial (Nat.le_refl _))) (J4 _ (vec [(i3 0)]) (Option.some.inj h18).symm)
    · have h17 := ite_f hc4 h16
      refine AW.skip ?_
      exact wK15 _ _ ((by exact Weak.cv ⟨.inl (.inl rfl), .inl (.inl rfl), .inl (.inl rfl), .inl (.inl rfl), .inl (.inl rfl), trivial⟩ trivial (Nat.le_refl _))) (J4 _ (vec [(i3 0)]) (Option.some.inj h17).symm)
  · have h12 := ite_f hc3 h11
    refine AW.exit ?_
    exact wK3 _ _ ((by exact Weak.cv ⟨.inl (.inl rfl), .inl (.inl rfl), .inl (.inl rfl), trivial⟩ trivial (Nat.le_refl _))) (J1 _ (vec [(i3 0)]) (hx1 _ (Option.some.inj h12).symm))
set_option maxHeartbeats 4000000 in
set_option maxRecDepth 20000 in
theorem w_ref_Back {f1 : List GElem} {a1 : Ref_Act} {r : Ref_Act} (h : ref_Back f1 a1 = some r) : ARO Try.prog 20 [.r (.sl (f1.map GElem.row)), .agg [.r (.sl (a1.Adds.map (rSl GElem.row))), .r (.sl (a1.Cuts.map rBool)), .r (.sl (a1.Attrs.map (rSl GAttr.row)))]] (.agg [.r (.sl (r.Adds.map (rSl GElem.row))), .r (.sl (r.Cuts.map rBool)), .r (.sl (r.Attrs.map (rSl GAttr.row)))]) := by
  unfold ref_Back at h
  refine ARO.mkF Try.func20 rfl rfl Try.ntmps20 rfl (Nat.le_of_ble_eq_true rfl) fun n0 => ?_
  refine AW.seq_w fun K1 hK1 wK1 => ?_
  refine AW.region ?_
  refine AOps.step rfl rfl rfl (ms_box (cs := [.r (.sl (a1.Adds.map (rSl GElem.row))), .r (.sl (a1.Cuts.map rBool)), .r (.sl (a1.Attrs.map (rSl GAttr.row)))]) 3 rfl (.inl rfl) rfl rfl) ?_
  refine AOps.step rfl rfl rfl (ms_alloc (cs := [.cst (.slice none 0 0), .cst (.slice none 0 0), .cst (.slice none 0 0)]) 4 rfl t0_34 rfl rfl) ?_
  refine AOps.nil ?_
  refine hK1 _ ?_
  refine AW.seq_w fun K2 hK2 wK2 => ?_
  refine AW.region ?_
  refine AOps.step rfl rfl rfl (ms_lit 9 rfl tg_30 (f := (rSl GElem.row)) (l := ([[]] : List (List GElem))) ⟨rfl, ⟨_, (.inl rfl), rfl⟩, trivial⟩ rfl (fun _ => rfl) rfl) ?_
  refine AOps.step rfl rfl rfl (OpQ.spec (sp_build rfl tb_34 (q := [(0, _)]) (by exact ⟨rfl, rfl, rfl, (.inl rfl), trivial⟩) (cs := [.own 9 (n0 + 2), .cst (.slice none 0 0), .cst (.slice none 0 0)]) (by rfl)) _) ?_
  refine AOps.step rfl rfl rfl (ms_alloc (cs := [.cst (.slice none 0 0), .cst (.slice none 0 0), .cst (.slice none 0 0)]) 5 rfl t0_34 rfl rfl) ?_
  refine AOps.step0 rfl rfl (ms_store_box (ds := [.own 9 (n0 + 2), .cst (.slice none 0 0), .cst (.slice none 0 0)]) rfl tz_34 (.inl rfl) rfl (.inl rfl) rfl rfl rfl rfl) ?_
  refine AOps.nil ?_
  refine hK2 _ ?_
  refine AW.seq_w fun K3 hK3 wK3 => ?_
  refine AW.seq_w fun K4 hK4 wK4 => ?_
  refine AW.region ?_
  refine AOps.step rfl rfl rfl (OpQ.spec (sp_assign rfl (.inl rfl)) _) ?_
  refine AOps.nil ?_
  refine hK4 _ ?_
  refine AW.block ?_
  refine jb1k h fun o1 hit1 hk1 => ?_
  have J1 : ∀ (out4 : Ref_Act) (i8 : Nat → Nat), o1 = out4 → K3 ⟨[(4, .ptr 4 (n0 + 1) 0 0), (5, .ptr 5 (n0 + 3) 0 0)], [(4, some (.box (n0 + 1) 34 [.cst (.slice none 0 0), .cst (.slice none 0 0), .cst (.slice none 0 0)])), (5, some (.box (n0 + 3) 34 [.own 9 (i8 0), .own 32 (i8 1), .own 36 (i8 2)])), (9, some (.arr (i8 0) 39 1 (out4.Adds.map (rSl GElem.row)))), (32, some (.arr (i8 1) 4 1 (out4.Cuts.map rBool))), (36, some (.arr (i8 2) 47 1 (out4.Attrs.map (rSl GAttr.row))))], (i8 3), 105⟩ := by
    intro out4 i8 e
    have h1 := hk1 _ e
    refine hK3 _ ?_
    refine AW.seq_w fun K5 hK5 wK5 => ?_
    refine AW.region ?_
    refine AOps.step rfl rfl rfl (OpQ.spec (ms_loadA_box rfl ta_34 (.inl rfl) rfl rfl) _) ?_
    refine AOps.step0 rfl rfl (ms_store_box (ds := [.own 9 (i8 0), .own 32 (i8 1), .own 36 (i8 2)]) rfl tz_34 (.inl rfl) rfl (.inl rfl) rfl rfl rfl rfl) ?_
    refine AOps.nil ?_
    refine hK5 _ ?_
    refine AW.ret ?_
    exact retf1 (P := Try.prog) (fun (r : Ref_Act) => .agg [.r (.sl (r.Adds.map (rSl GElem.row))), .r (.sl (r.Cuts.map rBool)), .r (.sl (r.Attrs.map (rSl GAttr.row)))]) h1 (.inl rfl) (.a ta_34 rfl rfl rfl (.agg ⟨.own rfl, .own rfl, .own rfl, trivial⟩))
  refine AW.iter2 (fun (i4 : Int) (out2 : Ref_Act) i5 => ⟨[(0, .r (.sl (f1.map GElem.row))), (3, .ptr 3 n0 0 0), (4, .ptr 4 (n0 + 1) 0 0), (5, .ptr 5 (n0 + 3) 0 0), (6, .r (.int .i64 i4))], [(3, some (.box n0 34 [.r (.sl (a1.Adds.map (rSl GElem.row))), .r (.sl (a1.Cuts.map rBool)), .r (.sl (a1.Attrs.map (rSl GAttr.row)))])), (4, some (.box (n0 + 1) 34 [.cst (.slice none 0 0), .cst (.slice none 0 0), .cst (.slice none 0 0)])), (5, some (.box (n0 + 3) 34 [.own 9 (i5 0), .own 32 (i5 1), .own 36 (i5 2)])), (9, some (.arr (i5 0) 39 1 (out2.Adds.map (rSl GElem.row)))), (32, some (.arr (i5 1) 4 1 (out2.Cuts.map rBool))), (36, some (.arr (i5 2) 47 1 (out2.Attrs.map (rSl GAttr.row))))], (i5 3), 105⟩) (vec [(n0 + 2), (n0 + 4), (n0 + 5), (n0 + 6)]) hit1 (Weak.trans (Weak.trans (Weak.adoptBox 5 1 32 4 1 (by decide) rfl rfl (by decide)) (by exact Weak.cv (e' := [(0, .r (.sl (f1.map GElem.row))), (1, .agg [.r (.sl (a1.Adds.map (rSl GElem.row))), .r (.sl (a1.Cuts.map rBool)), .r (.sl (a1.Attrs.map (rSl GAttr.row)))]), (3, .ptr 3 n0 0 0), (4, .ptr 4 (n0 + 1) 0 0), (5, .ptr 5 (n0 + 3) 0 0), (6, .r (.int .i64 0)), (9, .own 9 (n0 + 2)), (10, .agg [.own 9 (n0 + 2), .cst (.slice none 0 0), .cst (.slice none 0 0)])]) (h' := [(3, some (.box n0 34 [.r (.sl (a1.Adds.map (rSl GElem.row))), .r (.sl (a1.Cuts.map rBool)), .r (.sl (a1.Attrs.map (rSl GAttr.row)))])), (4, some (.box (n0 + 1) 34 [.cst (.slice none 0 0), .cst (.slice none 0 0), .cst (.slice none 0 0)])), (5, some (.box (n0 + 3) 34 [.own 9 (n0 + 2), .own 32 (n0 + 4), .cst (.slice none 0 0)])), (9, some (.arr (n0 + 2) 39 1 ([[]].map (rSl GElem.row)))), (32, some (.arr (n0 + 4) 4 1 (([] : List Bool).map rBool)))]) ⟨.inl (.inl rfl), .inl (.inl rfl), .inl (.inl rfl), .inl (.inl rfl), .inl (.inl rfl), .inl (.inl rfl), .inl (.inl rfl), .inl (.inl rfl), trivial⟩ ⟨.inl rfl, .inl rfl, .inl rfl, .inl rfl, .inl rfl, trivial⟩ (Nat.le_refl _))) (Weak.trans (Weak.trans (Weak.adoptBox 5 2 36 47 1 (by decide) rfl rfl (by decide)) (by exact Weak.cv (e' := [(0, .r (.sl (f1.map GElem.row))), (1, .agg [.r (.sl (a1.Adds.map (rSl GElem.row))), .r (.sl (a1.Cuts.map rBool)), .r (.sl (a1.Attrs.map (rSl GAttr.row)))]), (3, .ptr 3 n0 0 0), (4, .ptr 4 (n0 + 1) 0 0), (5, .ptr 5 (n0 + 3) 0 0), (6, .r (.int .i64 0)), (9, .own 9 (n0 + 2)), (10, .agg [.own 9 (n0 + 2), .cst (.slice none 0 0), .cst (.slice none 0 0)])]) (h' := [(3, some (.box n0 34 [.r (.sl (a1.Adds.map (rSl GElem.row))), .r (.sl (a1.Cuts.map rBool)), .r (.sl (a1.Attrs.map (rSl GAttr.row)))])), (4, some (.box (n0 + 1) 34 [.cst (.slice none 0 0), .cst (.slice none 0 0), .cst (.slice none 0 0)])), (5, some (.box (n0 + 3) 34 [.own 9 (n0 + 2), .own 32 (n0 + 4), .own 36 (n0 + 5)])), (9, some (.arr (n0 + 2) 39 1 ([[]].map (rSl GElem.row)))), (32, some (.arr (n0 + 4) 4 1 (([] : List Bool).map rBool))), (36, some (.arr (n0 + 5) 47 1 (([] : List (List GAttr)).map (rSl GAttr.row))))]) ⟨.inl (.inl rfl), .inl (.inl rfl), .inl (.inl rfl), .inl (.inl rfl), .inl (.inl rfl), .inl (.inl rfl), .inl (.inl rfl), .inl (.inl rfl), trivial⟩ ⟨.inl rfl, .inl rfl, .inl rfl, .inl rfl, .inl rfl, .inl rfl, trivial⟩ (Nat.le_refl _))) (by exact Weak.cv ⟨.inl (.inl rfl), .inl (.inl rfl), .inl (.inl rfl), .inl (.inl rfl), .inl (.inl rfl), trivial⟩ ⟨.inl rfl, .inl rfl, .inl rfl, .inl rfl, .inl rfl, .inl rfl, trivial⟩ (Nat.le_refl _)))) ?_
  intro i4 out2 i5 v1 hv1 hx1
  have h2 : ref_Back_L1 f1 a1 i4 out2 = some v1 := hv1; unfold ref_Back_L1 at h2
  refine AW.seq_w fun K6 hK6 wK6 => ?_
  refine AW.seq_w fun K7 hK7 wK7 => ?_
  refine AW.region ?_
  refine AOps.step rfl rfl rfl (OpQ.spec (sp_move rfl (.inl rfl)) _) ?_
  refine AOps.step rfl rfl rfl (OpQ.spec (sp_move rfl (.inl rfl)) _) ?_
  refine AOps.step rfl rfl rfl (OpQ.spec (ms_len rfl tg_39.slice (.inl rfl)) _) ?_
  refine AOps.step rfl rfl rfl (OpQ.spec (sp_leq rfl (.inl rfl) (.inl rfl)) _) ?_
  refine AOps.nil ?_
  refine hK7 _ ?_
  refine AW.cond rfl (fun hc1 => ?_) (fun hc1 => ?_)
  · have h3 := ite_t hc1 h2
    refine AW.skip ?_
    refine hK6 _ ?_
    refine AW.seq_w fun K8 hK8 wK8 => ?_
    refine AW.block ?_
    refine jc1k h3 fun p1 hp1 hk2 he2 => ?_
    have J2 : ∀ (out5 : Ref_Act) (i9 : Nat → Nat), p1 = .nrm out5 → K8 ⟨[(0, .r (.sl (f1.map GElem.row))), (3, .ptr 3 n0 0 0), (4, .ptr 4 (n0 + 1) 0 0), (5, .ptr 5 (n0 + 3) 0 0), (6, .r (.int .i64 i4))], [(3, some (.box n0 34 [.r (.sl (a1.Adds.map (rSl GElem.row))), .r (.sl (a1.Cuts.map rBool)), .r (.sl (a1.Attrs.map (rSl GAttr.row)))])), (4, some (.box (n0 + 1) 34 [.cst (.slice none 0 0), .cst (.slice none 0 0), .cst (.slice none 0 0)])), (5, some (.box (n0 + 3) 34 [.own 9 (i9 0), .own 32 (i9 1), .own 36 (i9 2)])), (9, some (.arr (i9 0) 39 1 (out5.Adds.map (rSl GElem.row)))), (32, some (.arr (i9 1) 4 1 (out5.Cuts.map rBool))), (36, some (.arr (i9 2) 47 1 (out5.Attrs.map (rSl GAttr.row))))], (i9 3), 105⟩ := by
      intro out5 i9 e
      have h4 := hk2 _ e
      refine hK8 _ ?_
      refine AW.region ?_
      refine AOps.step rfl rfl rfl (OpQ.spec (sp_move rfl (.inl rfl)) _) ?_
      refine ob1k h4 fun i10 ei10 h5 => ?_
      refine AOps.step rfl rfl rfl (OpQ.spec (ms_add rfl (.inl rfl) (.inl rfl) (fun _ => ei10)) _) ?_
      refine AOps.step rfl rfl rfl (OpQ.spec (sp_assign rfl (.inl rfl)) _) ?_
      refine AOps.nil ?_
      exact NextQ2.mk h5 (vec [(i9 0), (i9 1), (i9 2), (i9 3)]) ((by exact Weak.cv ⟨.inl (.inl rfl), .inl (.inl rfl), .inl (.inl rfl), .inl (.inl rfl), .inl (.inl rfl), trivial⟩ ⟨.inl rfl, .inl rfl, .inl rfl, .inl rfl, .inl rfl, .inl rfl, trivial⟩ (Nat.le_refl _)))
    refine AW.seq_w fun K9 hK9 wK9 => ?_
    refine AW.seq_w fun K10 hK10 wK10 => ?_
    refine AW.region ?_
    refine AOps.step rfl rfl rfl (OpQ.spec (sp_fieldAddr_own (ob := .box _ _ _) rfl tf_34_0 (.inl rfl) (fun _ => rfl) rfl) _) ?_
    refine AOps.step rfl rfl rfl (OpQ.spec (ms_load_box (a := .r (.sl (a1.Adds.map (rSl GElem.row)))) rfl ts_30 (.inl rfl) rfl rfl) _) ?_
    refine AOps.step rfl rfl rfl (OpQ.spec (sp_move rfl (.inl rfl)) _) ?_
    refine ob1k hp1 fun x1 ex1 h6 => ?_
    refine AOps.step rfl rfl rfl (OpQ.spec (ms_idx rfl tg_30.slice (.inl rfl) (.inl rfl) (fun _ => rfl) (fun _ => ex1)) _) ?_
    refine AOps.step rfl rfl rfl (OpQ.spec (ms_load (d := .sl (x1.map GElem.row)) rfl ts_39 (.inl rfl) rfl) _) ?_
    refine AOps.step rfl rfl rfl (OpQ.spec (ms_len rfl tg_39.slice (.inl rfl)) _) ?_
    refine AOps.step rfl rfl rfl (OpQ.spec (sp_move rfl (.inl rfl)) _) ?_
    refine AOps.nil ?_
    refine hK10 _ ?_
    refine AW.block ?_
    refine jb1k h6 fun o2 hit2 hk3 => ?_
    have J3 : ∀ (out9 : Ref_Act) (i15 : Nat → Nat), o2 = out9 → K9 ⟨[(0, .r (.sl (f1.map GElem.row))), (3, .ptr 3 n0 0 0), (4, .ptr 4 (n0 + 1) 0 0), (5, .ptr 5 (n0 + 3) 0 0), (6, .r (.int .i64 i4))], [(3, some (.box n0 34 [.r (.sl (a1.Adds.map (rSl GElem.row))), .r (.sl (a1.Cuts.map rBool)), .r (.sl (a1.Attrs.map (rSl GAttr.row)))])), (4, some (.box (n0 + 1) 34 [.cst (.slice none 0 0), .cst (.slice none 0 0), .cst (.slice none 0 0)])), (5, some (.box (n0 + 3) 34 [.own 9 (i15 0), .own 32 (i15 1), .own 36 (i15 2)])), (9, some (.arr (i15 0) 39 1 (out9.Adds.map (rSl GElem.row)))), (32, some (.arr (i15 1) 4 1 (out9.Cuts.map rBool))), (36, some (.arr (i15 2) 47 1 (out9.Attrs.map (rSl GAttr.row))))], (i15 3), 105⟩ := by
      intro out9 i15 e
      have h7 := hk3 _ e
      refine hK9 _ ?_
      refine AW.seq_w fun K11 hK11 wK11 => ?_
      refine AW.seq_w fun K12 hK12 wK12 => ?_
      refine AW.region ?_
      refine AOps.step rfl rfl rfl (OpQ.spec (sp_move rfl (.inl rfl)) _) ?_
      refine AOps.step rfl rfl rfl (OpQ.spec (sp_move rfl (.inl rfl)) _) ?_
      refine AOps.step rfl rfl rfl (OpQ.spec (ms_len rfl tg_39.slice (.inl rfl)) _) ?_
      refine AOps.step rfl rfl rfl (OpQ.spec (sp_eql rfl (.inl rfl) (.inl rfl)) _) ?_
      refine AOps.nil ?_
      refine hK12 _ ?_
      refine AW.cond rfl (fun hc2 => ?_) (fun hc2 => ?_)
      · have h8 := ite_t hc2 h7
        refine AW.exit ?_
        exact wK3 _ _ ((by exact Weak.cv ⟨.inl (.inl rfl), .inl (.inl rfl), trivial⟩ ⟨.inl rfl, .inl rfl, .inl rfl, .inl rfl, .inl rfl, trivial⟩ (Nat.le_refl _))) (J1 _ (vec [(i15 0), (i15 1), (i15 2), (i15 3)]) (hx1 _ (Option.some.inj (he2 _ (Option.some.inj h8).symm)).symm))
      · have h8 := ite_f hc2 h7
        refine AW.skip ?_
        refine hK11 _ ?_
        refine AW.seq_w fun K13 hK13 wK13 => ?_
        refine AW.region ?_
        refine AOps.step rfl rfl rfl (OpQ.spec (sp_fieldAddr_own (ob := .box _ _ _) rfl tf_34_0 (.inl rfl) (fun _ => rfl) rfl) _) ?_
        refine AOps.step rfl rfl rfl (OpQ.spec (ms_load_box (a := .own 9 (i15 0)) rfl ts_30 (.inl rfl) rfl rfl) _) ?_
        refine AOps.step rfl rfl rfl (OpQ.spec (ms_len_own rfl tg_30.slice (.inl rfl) rfl) _) ?_
        refine ob1k h8 fun k1 ek1 h9 => ?_
        refine AOps.step rfl rfl rfl (OpQ.spec (ms_sub rfl (.inl rfl) (.inl rfl) (fun _ => ek1)) _) ?_
        refine AOps.step rfl rfl rfl (OpQ.spec (sp_assign rfl (.inl rfl)) _) ?_
        refine AOps.nil ?_
        refine hK13 _ ?_
        refine AW.seq_w fun K14 hK14 wK14 => ?_
        refine AW.seq_w fun K15 hK15 wK15 => ?_
        refine AW.region ?_
        refine AOps.step rfl rfl rfl (OpQ.spec (sp_fieldAddr_own (ob := .box _ _ _) rfl tf_34_1 (.inl rfl) (fun _ => rfl) rfl) _) ?_
        refine AOps.step rfl rfl rfl (OpQ.spec (ms_load_box (a := .r (.sl (a1.Cuts.map rBool))) rfl ts_31 (.inl rfl) rfl rfl) _) ?_
        refine AOps.step rfl rfl rfl (OpQ.spec (sp_move rfl (.inl rfl)) _) ?_
        refine ob1k h9 fun x5 ex5 h10 => ?_
        refine AOps.step rfl rfl rfl (OpQ.spec (ms_idx rfl tg_31.slice (.inl rfl) (.inl rfl) (fun _ => rfl) (fun _ => ex5)) _) ?_
        refine AOps.step rfl rfl rfl (OpQ.spec (ms_load (d := .bool x5) rfl ts_4 (.inl rfl) rfl) _) ?_
        refine AOps.nil ?_
        refine hK15 _ ?_
        refine AW.cond rfl (fun hc3 => ?_) (fun hc3 => ?_)
        · have h11 := ite_t hc3 h10
          refine AW.seq_w fun K16 hK16 wK16 => ?_
          refine AW.weak (s' := ⟨[(0, .r (.sl (f1.map GElem.row))), (3, .ptr 3 n0 0 0), (4, .ptr 4 (n0 + 1) 0 0), (5, .ptr 5 (n0 + 3) 0 0), (6, .r (.int .i64 i4)), (7, .r (.int .i64 k1))], [(3, some (.box n0 34 [.r (.sl (a1.Adds.map (rSl GElem.row))), .r (.sl (a1.Cuts.map rBool)), .r (.sl (a1.Attrs.map (rSl GAttr.row)))])), (4, some (.box (n0 + 1) 34 [.cst (.slice none 0 0), .cst (.slice none 0 0), .cst (.slice none 0 0)])), (5, some (.box (n0 + 3) 34 [.own 9 (i15 0), .own 32 (i15 1), .own 36 (i15 2)])), (9, some (.arr (i15 0) 39 1 (out9.Adds.map (rSl GElem.row)))), (32, some (.arr (i15 1) 4 1 (out9.Cuts.map rBool))), (36, some (.arr (i15 2) 47 1 (out9.Attrs.map (rSl GAttr.row))))], (i15 3), 105⟩) (by exact Weak.cv ⟨.inl (.inl rfl), .inl (.inl rfl), .inl (.inl rfl), .inl (.inl rfl), .inl (.inl rfl), .inl (.inl rfl), trivial⟩ ⟨.inl rfl, .inl rfl, .inl rfl, .inl rfl, .inl rfl, .inl rfl, trivial⟩ (Nat.le_refl _)) ?_
          refine ob1k h11 fun x6 ex6 h12 => ?_
          refine ob1k h12 fun l1 el1 h13 => ?_
          refine ob1k h13 fun x7 ex7 h14 => ?_
          refine ob1k h14 fun l2 el2 h15 => ?_
          refine AW.regionP 16 [⟨some 54, (fun _ => .ptr 5 (n0 + 3) 0 0), none, []⟩, ⟨some 55, (fun _ => .own 9 (i15 0)), none, []⟩, ⟨some 56, (fun _ => .r (.int .i64 k1)), none, []⟩, ⟨some 57, (fun G1 => .own 57 (G1 3)), some (57, (fun G1 => some (.arr (G1 3) 113 3 (([] : List GElem).map GElem.row)))), [3]⟩, ⟨some 58, (fun _ => .ptr 5 (n0 + 3) 0 0), none, []⟩, ⟨some 59, (fun _ => .own 9 (i15 0)), none, []⟩, ⟨some 60, (fun _ => .r (.int .i64 k1)), none, []⟩, ⟨some 61, (fun _ => .ptr 9 (i15 0) k1.toNat 0), none, []⟩, ⟨some 62, (fun _ => .r (.sl (x6.map GElem.row))), none, []⟩, ⟨some 63, (fun G1 => .own 57 (G1 9)), some (57, (fun G1 => some (.arr (G1 9) 113 3 (l1.map GElem.row)))), [9]⟩, ⟨some 64, (fun _ => .r (.sl (f1.map GElem.row))), none, []⟩, ⟨some 65, (fun _ => .r (.int .i64 i4)), none, []⟩, ⟨some 66, (fun _ => .rop (GElem.row x7) 0), none, []⟩, ⟨some 67, (fun _ => .agg [.r (.int .i64 x7.Char), .r (.int .i64 x7.Ref), .r (.sl (x7.Attrs.map GAttr.row))]), none, []⟩, ⟨some 68, (fun G1 => .own 68 (G1 14)), some (68, (fun G1 => some (.arr (G1 14) 113 3 ([x7].map GElem.row)))), [14]⟩, ⟨some 69, (fun G1 => .own 57 (G1 15)), some (57, (fun G1 => some (.arr (G1 15) 113 3 (l2.map GElem.row)))), [15]⟩] hmix (by kernel_rfl) (by exact ⟨fun _ _ h => ⟨rfl, fun _ _ e => by cases e⟩, fun _ _ h => ⟨rfl, fun _ _ e => by cases e⟩, fun _ _ h => ⟨rfl, fun _ _ e => by cases e⟩, fun _ _ h => ⟨by simp only [h 3 rfl], fun _ _ e => by cases e; simp only [h 3 rfl]⟩, fun _ _ h => ⟨rfl, fun _ _ e => by cases e⟩, fun _ _ h => ⟨rfl, fun _ _ e => by cases e⟩, fun _ _ h => ⟨rfl, fun _ _ e => by cases e⟩, fun _ _ h => ⟨rfl, fun _ _ e => by cases e⟩, fun _ _ h => ⟨rfl, fun _ _ e => by cases e⟩, fun _ _ h => ⟨by simp only [h 9 rfl], fun _ _ e => by cases e; simp only [h 9 rfl]⟩, fun _ _ h => ⟨rfl, fun _ _ e => by cases e⟩, fun _ _ h => ⟨rfl, fun _ _ e => by cases e⟩, fun _ _ h => ⟨rfl, fun _ _ e => by cases e⟩, fun _ _ h => ⟨rfl, fun _ _ e => by cases e⟩, fun _ _ h => ⟨by simp only [h 14 rfl], fun _ _ e => by cases e; simp only [h 14 rfl]⟩, fun _ _ h => ⟨by simp only [h 15 rfl], fun _ _ e => by cases e; simp only [h 15 rfl]⟩, trivial⟩) rfl (by exact ⟨Ob.quiet (n1 := fun n => n) rfl rfl (by intro d h; cases h; rfl) rfl (fun _ => [(5, .ptr 5 (n0 + 3) 0 0)]) (fun _ => [(5, some (.box (n0 + 3) 34 [.own 9 (i15 0), .own 32 (i15 1), .own 36 (i15 2)]))]) (fun D G1 hr => ⟨inE_base rfl rfl, trivial⟩) (fun D G1 hr => ⟨inH_base rfl rfl, trivial⟩) (fun _ _ => rfl) (fun G1 e h' n => OpQ.spec (v := .ptr 5 (n0 + 3) 0 0) (sp_fieldAddr_own (ob := .box _ _ _) rfl tf_34_0 (.inl rfl) (fun _ => rfl) rfl) _),
              Ob.quiet (n1 := fun n => n) rfl rfl (by intro d h; cases h; rfl) rfl (fun _ => [(54, .ptr 5 (n0 + 3) 0 0)]) (fun _ => [(5, some (.box (n0 + 3) 34 [.own 9 (i15 0), .own 32 (i15 1), .own 36 (i15 2)]))]) (fun D G1 hr => ⟨inE_op hr 0 rfl rfl (by kernel_rfl) rfl rfl, trivial⟩) (fun D G1 hr => ⟨inH_base rfl rfl, trivial⟩) (fun _ _ => rfl) (fun G1 e h' n => OpQ.spec (v := .own 9 (i15 0)) (ms_load_box (a := .own 9 (i15 0)) rfl ts_30 (.inl rfl) rfl rfl) _),
              Ob.quiet (n1 := fun n => n) rfl rfl (by intro d h; cases h; rfl) rfl (fun _ => [(7, .r (.int .i64 k1))]) (fun _ => []) (fun D G1 hr => ⟨inE_base rfl rfl, trivial⟩) (fun D G1 hr => trivial) (fun _ _ => rfl) (fun G1 e h' n => OpQ.spec (v := .r (.int .i64 k1)) (sp_move rfl (.inl rfl)) _),
              Ob.make (n1 := fun n => n + 1) rfl rfl (by intro d h; cases h; rfl) rfl (fun _ => []) (fun _ => []) (fun D G1 hr => trivial) (fun D G1 hr => trivial) (fun G1 e h' n => ms_lit 57 rfl tg_39 (f := GElem.row) (l := ([] : List GElem)) trivial rfl (fun _ => rfl) rfl),
              Ob.quiet (n1 := fun n => n) rfl rfl (by intro d h; cases h; rfl) rfl (fun _ => [(5, .ptr 5 (n0 + 3) 0 0)]) (fun _ => [(5, some (.box (n0 + 3) 34 [.own 9 (i15 0), .own 32 (i15 1), .own 36 (i15 2)]))]) (fun D G1 hr => ⟨inE_base rfl rfl, trivial⟩) (fun D G1 hr => ⟨inH_base rfl rfl, trivial⟩) (fun _ _ => rfl) (fun G1 e h' n => OpQ.spec (v := .ptr 5 (n0 + 3) 0 0) (sp_fieldAddr_own (ob := .box _ _ _) rfl tf_34_0 (.inl rfl) (fun _ => rfl) rfl) _),
              Ob.quiet (n1 := fun n => n) rfl rfl (by intro d h; cases h; rfl) rfl (fun _ => [(58, .ptr 5 (n0 + 3) 0 0)]) (fun _ => [(5, some (.box (n0 + 3) 34 [.own 9 (i15 0), .own 32 (i15 1), .own 36 (i15 2)]))]) (fun D G1 hr => ⟨inE_op hr 4 rfl rfl (by kernel_rfl) rfl rfl, trivial⟩) (fun D G1 hr => ⟨inH_base rfl rfl, trivial⟩) (fun _ _ => rfl) (fun G1 e h' n => OpQ.spec (v := .own 9 (i15 0)) (ms_load_box (a := .own 9 (i15 0)) rfl ts_30 (.inl rfl) rfl rfl) _),
              Ob.quiet (n1 := fun n => n) rfl rfl (by intro d h; cases h; rfl) rfl (fun _ => [(7, .r (.int .i64 k1))]) (fun _ => []) (fun D G1 hr => ⟨inE_base rfl rfl, trivial⟩) (fun D G1 hr => trivial) (fun _ _ => rfl) (fun G1 e h' n => OpQ.spec (v := .r (.int .i64 k1)) (sp_move rfl (.inl rfl)) _),
              Ob.quiet (n1 := fun n => n) rfl rfl (by intro d h; cases h; rfl) rfl (fun _ => [(59, .own 9 (i15 0)), (60, .r (.int .i64 k1))]) (fun _ => [(9, some (.arr (i15 0) 39 1 (out9.Adds.map (rSl GElem.row))))]) (fun D G1 hr => ⟨inE_op hr 5 rfl rfl (by kernel_rfl) rfl rfl, inE_op hr 6 rfl rfl (by kernel_rfl) rfl rfl, trivial⟩) (fun D G1 hr => ⟨inH_base rfl rfl, trivial⟩) (fun _ _ => rfl) (fun G1 e h' n => OpQ.spec (v := .ptr 9 (i15 0) k1.toNat 0) (ms_idx_own rfl tg_30.slice (.inl rfl) rfl (.inl rfl) (fun _ => ex6)) _),
              Ob.quiet (n1 := fun n => n) rfl rfl (by intro d h; cases h; rfl) rfl (fun _ => [(61, .ptr 9 (i15 0) k1.toNat 0)]) (fun _ => [(9, some (.arr (i15 0) 39 1 (out9.Adds.map (rSl GElem.row))))]) (fun D G1 hr => ⟨inE_op hr 7 rfl rfl (by kernel_rfl) rfl rfl, trivial⟩) (fun D G1 hr => ⟨inH_base rfl rfl, trivial⟩) (fun _ _ => rfl) (fun G1 e h' n => OpQ.spec (v := .r (.sl (x6.map GElem.row))) (ms_load_own (d := .sl (x6.map GElem.row)) rfl ts_39 (.inl rfl) (fun _ => rfl) (fun _ => ex6) rfl) _),
              Ob.make (n1 := fun n => n + 1) rfl rfl (by intro d h; cases h; rfl) rfl (fun G1 => [(57, .own 57 (G1 3)), (62, .r (.sl (x6.map GElem.row)))]) (fun G1 => [(57, some (.arr (G1 3) 113 3 (([] : List GElem).map GElem.row)))]) (fun D G1 hr => ⟨inE_op hr 3 rfl rfl (by kernel_rfl) rfl rfl, inE_op hr 8 rfl rfl (by kernel_rfl) rfl rfl, trivial⟩) (fun D G1 hr => ⟨inH_op hr 3 rfl rfl (by kernel_rfl) (by kernel_rfl) rfl, trivial⟩) (fun G1 e h' n => ms_app rfl tg_39 (.inl rfl) rfl (.inl ⟨(.inl rfl), fun _ => rfl⟩) el1),
              Ob.quiet (n1 := fun n => n) rfl rfl (by intro d h; cases h; rfl) rfl (fun _ => [(0, .r (.sl (f1.map GElem.row)))]) (fun _ => []) (fun D G1 hr => ⟨inE_base rfl rfl, trivial⟩) (fun D G1 hr => trivial) (fun _ _ => rfl) (fun G1 e h' n => OpQ.spec (v := .r (.sl (f1.map GElem.row))) (sp_move rfl (.inl rfl)) _),
              Ob.quiet (n1 := fun n => n) rfl rfl (by intro d h; cases h; rfl) rfl (fun _ => [(6, .r (.int .i64 i4))]) (fun _ => []) (fun D G1 hr => ⟨inE_base rfl rfl, trivial⟩) (fun D G1 hr => trivial) (fun _ _ => rfl) (fun G1 e h' n => OpQ.spec (v := .r (.int .i64 i4)) (sp_move rfl (.inl rfl)) _),
              Ob.quiet (n1 := fun n => n) rfl rfl (by intro d h; cases h; rfl) rfl (fun _ => [(64, .r (.sl (f1.map GElem.row))), (65, .r (.int .i64 i4))]) (fun _ => []) (fun D G1 hr => ⟨inE_op hr 10 rfl rfl (by kernel_rfl) rfl rfl, inE_op hr 11 rfl rfl (by kernel_rfl) rfl rfl, trivial⟩) (fun D G1 hr => trivial) (fun _ _ => rfl) (fun G1 e h' n => OpQ.spec (v := .rop (GElem.row x7) 0) (ms_idx rfl tg_39.slice (.inl rfl) (.inl rfl) (fun _ => rfl) (fun _ => ex7)) _),
              Ob.quiet (n1 := fun n => n) rfl rfl (by intro d h; cases h; rfl) rfl (fun _ => [(66, .rop (GElem.row x7) 0)]) (fun _ => []) (fun D G1 hr => ⟨inE_op hr 12 rfl rfl (by kernel_rfl) rfl rfl, trivial⟩) (fun D G1 hr => trivial) (fun _ _ => rfl) (fun G1 e h' n => OpQ.spec (v := .agg [.r (.int .i64 x7.Char), .r (.int .i64 x7.Ref), .r (.sl (x7.Attrs.map GAttr.row))]) (ms_loadA (cs := [.r (.int .i64 x7.Char), .r (.int .i64 x7.Ref), .r (.sl (x7.Attrs.map GAttr.row))]) rfl ta_113 (.inl rfl) rfl rfl) _),
              Ob.make (n1 := fun n => n + 1) rfl rfl (by intro d h; cases h; rfl) rfl (fun _ => [(67, .agg [.r (.int .i64 x7.Char), .r (.int .i64 x7.Ref), .r (.sl (x7.Attrs.map GAttr.row))])]) (fun _ => []) (fun D G1 hr => ⟨inE_op hr 13 rfl rfl (by kernel_rfl) rfl rfl, trivial⟩) (fun D G1 hr => trivial) (fun G1 e h' n => ms_lit 68 rfl tg_39 (f := GElem.row) (l := ([x7] : List GElem)) ⟨rfl, ⟨_, (.inl rfl), rfl⟩, trivial⟩ rfl (fun _ => rfl) rfl),
              Ob.make (n1 := fun n => n + 1) rfl rfl (by intro d h; cases h; rfl) rfl (fun G1 => [(63, .own 57 (G1 9)), (68, .own 68 (G1 14))]) (fun G1 => [(57, some (.arr (G1 9) 113 3 (l1.map GElem.row))), (68, some (.arr (G1 14) 113 3 ([x7].map GElem.row)))]) (fun D G1 hr => ⟨inE_op hr 9 rfl rfl (by kernel_rfl) rfl rfl, inE_op hr 14 rfl rfl (by kernel_rfl) rfl rfl, trivial⟩) (fun D G1 hr => ⟨inH_op hr 9 rfl rfl (by kernel_rfl) (by kernel_rfl) rfl, inH_op hr 14 rfl rfl (by kernel_rfl) (by kernel_rfl) rfl, trivial⟩) (fun G1 e h' n => ms_app rfl tg_39 (.inl rfl) rfl (.inr (.inl ⟨_, _, (.inl rfl), rfl⟩)) el2),
              trivial⟩) fun G1 n1 => ?_
          refine AOps.weak (s' := ⟨[(0, .r (.sl (f1.map GElem.row))), (3, .ptr 3 n0 0 0), (4, .ptr 4 (n0 + 1) 0 0), (5, .ptr 5 (n0 + 3) 0 0), (6, .r (.int .i64 i4)), (7, .r (.int .i64 k1)), (54, .ptr 5 (n0 + 3) 0 0), (55, .own 9 (i15 0)), (56, .r (.int .i64 k1)), (58, .ptr 5 (n0 + 3) 0 0), (59, .own 9 (i15 0)), (60, .r (.int .i64 k1)), (61, .ptr 9 (i15 0) k1.toNat 0), (62, .r (.sl (x6.map GElem.row))), (64, .r (.sl (f1.map GElem.row))), (65, .r (.int .i64 i4)), (66, .rop (GElem.row x7) 0), (67, .agg [.r (.int .i64 x7.Char), .r (.int .i64 x7.Ref), .r (.sl (x7.Attrs.map GAttr.row))]), (68, .own 68 (G1 14)), (69, .own 57 (G1 15))], [(3, some (.box n0 34 [.r (.sl (a1.Adds.map (rSl GElem.row))), .r (.sl (a1.Cuts.map rBool)), .r (.sl (a1.Attrs.map (rSl GAttr.row)))])), (4, some (.box (n0 + 1) 34 [.cst (.slice none 0 0), .cst (.slice none 0 0), .cst (.slice none 0 0)])), (5, some (.box (n0 + 3) 34 [.own 9 (i15 0), .own 32 (i15 1), .own 36 (i15 2)])), (9, some (.arr (i15 0) 39 1 (out9.Adds.map (rSl GElem.row)))), (32, some (.arr (i15 1) 4 1 (out9.Cuts.map rBool))), (36, some (.arr (i15 2) 47 1 (out9.Attrs.map (rSl GAttr.row)))), (57, some (.arr (G1 15) 113 3 (l2.map GElem.row))), (68, some (.arr (G1 14) 113 3 ([x7].map GElem.row)))], n1, 105⟩) (by exact Weak.cv ⟨.inl (.inl rfl), .inl (.inl rfl), .inl (.inl rfl), .inl (.inl rfl), .inl (.inl rfl), .inl (.inl rfl), .inl (.inl rfl), .inl (.inl rfl), .inl (.inl rfl), .inl (.inl rfl), .inl (.inl rfl), .inl (.inl rfl), .inl (.inl rfl), .inl (.inl rfl), .inl (.inl rfl), .inl (.inl rfl), .inl (.inl rfl), .inl (.inl rfl), .inl (.inl rfl), .inl (.inl rfl), trivial⟩ ⟨.inl rfl, .inl rfl, .inl rfl, .inl rfl, .inl rfl, .inl rfl, .inl rfl, .inl rfl, trivial⟩ (Nat.le_refl _)) ?_
          refine AOps.step rfl rfl rfl (OpQ.spec (ms_idx_own rfl tg_30.slice (.inl rfl) rfl (.inl rfl) (fun _ => ex6)) _) ?_
          refine AOps.weak (by exact Weak.frz (e' := [(0, .r (.sl (f1.map GElem.row))), (3, .ptr 3 n0 0 0), (4, .ptr 4 (n0 + 1) 0 0), (5, .ptr 5 (n0 + 3) 0 0), (6, .r (.int .i64 i4)), (7, .r (.int .i64 k1)), (54, .ptr 5 (n0 + 3) 0 0), (55, .own 9 (i15 0)), (56, .r (.int .i64 k1)), (58, .ptr 5 (n0 + 3) 0 0), (59, .own 9 (i15 0)), (60, .r (.int .i64 k1)), (61, .ptr 9 (i15 0) k1.toNat 0), (62, .r (.sl (x6.map GElem.row))), (64, .r (.sl (f1.map GElem.row))), (65, .r (.int .i64 i4)), (66, .rop (GElem.row x7) 0), (67, .agg [.r (.int .i64 x7.Char), .r (.int .i64 x7.Ref), .r (.sl (x7.Attrs.map GAttr.row))]), (68, .own 68 (G1 14)), (69, .r (.sl (l2.map GElem.row))), (70, .ptr 9 (i15 0) k1.toNat 0)]) (h' := [(3, some (.box n0 34 [.r (.sl (a1.Adds.map (rSl GElem.row))), .r (.sl (a1.Cuts.map rBool)), .r (.sl (a1.Attrs.map (rSl GAttr.row)))])), (4, some (.box (n0 + 1) 34 [.cst (.slice none 0 0), .cst (.slice none 0 0), .cst (.slice none 0 0)])), (5, some (.box (n0 + 3) 34 [.own 9 (i15 0), .own 32 (i15 1), .own 36 (i15 2)])), (9, some (.arr (i15 0) 39 1 (out9.Adds.map (rSl GElem.row)))), (32, some (.arr (i15 1) 4 1 (out9.Cuts.map rBool))), (36, some (.arr (i15 2) 47 1 (out9.Attrs.map (rSl GAttr.row)))), (68, some (.arr (G1 14) 113 3 ([x7].map GElem.row)))]) 57 rfl ⟨.inl (.inl rfl), .inl (.inl rfl), .inl (.inl rfl), .inl (.inl rfl), .inl (.inl rfl), .inl (.inl rfl), .inl (.inl rfl), .inl (.inl rfl), .inl (.inl rfl), .inl (.inl rfl), .inl (.inl rfl), .inl (.inl rfl), .inl (.inl rfl), .inl (.inl rfl), .inl (.inl rfl), .inl (.inl rfl), .inl (.inl rfl), .inl (.inl rfl), .inl (.inl rfl), .inl (.inr (.inr ⟨rfl, rfl⟩)), .inl (.inl rfl), trivial⟩ ⟨rfl, .inl rfl, rfl, .inl rfl, rfl, .inl rfl, rfl, .inl rfl, rfl, .inl rfl, rfl, .inl rfl, rfl, .inl rfl, trivial⟩) ?_
          refine AOps.step0 rfl rfl (ms_store (v := l2) rfl tz_39 (.inl rfl) rfl ex6 (.inl rfl) rfl rfl rfl rfl) ?_
          refine AOps.nil ?_
          refine hK16 _ ?_
          refine AW.exit ?_
          exact wK8 _ _ ((by exact Weak.cv ⟨.inl (.inl rfl), .inl (.inl rfl), .inl (.inl rfl), .inl (.inl rfl), .inl (.inl rfl), trivial⟩ ⟨.inl rfl, .inl rfl, .inl rfl, .inl rfl, .inl rfl, .inl rfl, trivial⟩ (Nat.le_refl _))) (J2 _ (vec [(i15 0), (i15 1), (i15 2), n1]) (Option.some.inj h15).symm)
        · have h11 := ite_f hc3 h10
          refine AW.skip ?_
          refine hK14 _ ?_
          refine AW.seq_w fun K17 hK17 wK17 => ?_
          refine AW.weak (s' := ⟨[(0, .r (.sl (f1.map GElem.row))), (3, .ptr 3 n0 0 0), (4, .ptr 4 (n0 + 1) 0 0), (5, .ptr 5 (n0 + 3) 0 0), (6, .r (.int .i64 i4))], [(3, some (.box n0 34 [.r (.sl (a1.Adds.map (rSl GElem.row))), .r (.sl (a1.Cuts.map rBool)), .r (.sl (a1.Attrs.map (rSl GAttr.row)))])), (4, some (.box (n0 + 1) 34 [.cst (.slice none 0 0), .cst (.slice none 0 0), .cst (.slice none 0 0)])), (5, some (.box (n0 + 3) 34 [.own 9 (i15 0), .own 32 (i15 1), .own 36 (i15 2)])), (9, some (.arr (i15 0) 39 1 (out9.Adds.map (rSl GElem.row)))), (32, some (.arr (i15 1) 4 1 (out9.Cuts.map rBool))), (36, some (.arr (i15 2) 47 1 (out9.Attrs.map (rSl GAttr.row))))], (i15 3), 105⟩) (by exact Weak.cv ⟨.inl (.inl rfl), .inl (.inl rfl), .inl (.inl rfl), .inl (.inl rfl), .inl (.inl rfl), trivial⟩ ⟨.inl rfl, .inl rfl, .inl rfl, .inl rfl, .inl rfl, .inl rfl, trivial⟩ (Nat.le_refl _)) ?_
          refine ob1k h11 fun x8 ex8 h16 => ?_
          refine ob1k h16 fun x9 ex9 h17 => ?_
          refine ob1k h17 fun r1 er1 h18 => ?_
          refine AW.regionP 16 [⟨some 71, (fun _ => .r (.sl (f1.map GElem.row))), none, []⟩, ⟨some 72, (fun _ => .r (.int .i64 i4)), none, []⟩, ⟨some 73, (fun _ => .rop (GElem.row x8) 0), none, []⟩, ⟨some 74, (fun _ => .rop (GElem.row x8) 2), none, []⟩, ⟨some 75, (fun _ => .r (.sl (x8.Attrs.map GAttr.row))), none, []⟩, ⟨some 76, (fun _ => .ptr 3 n0 0 2), none, []⟩, ⟨some 77, (fun _ => .r (.sl (a1.Attrs.map (rSl GAttr.row)))), none, []⟩, ⟨some 78, (fun _ => .r (.int .i64 i4)), none, []⟩, ⟨some 79, (fun _ => .rop ((rSl GAttr.row) x9) 0), none, []⟩, ⟨some 80, (fun _ => .r (.sl (x9.map GAttr.row))), none, []⟩, ⟨some 81, (fun _ => .r (.sl (r1.map GAttr.row))), none, []⟩, ⟨some 82, (fun _ => .r (.sl (f1.map GElem.row))), none, []⟩, ⟨some 83, (fun _ => .r (.int .i64 i4)), none, []⟩, ⟨some 84, (fun _ => .rop (GElem.row x8) 0), none, []⟩, ⟨some 85, (fun _ => .rop (GElem.row x8) 2), none, []⟩, ⟨some 86, (fun _ => .r (.sl (x8.Attrs.map GAttr.row))), none, []⟩] hmix (by kernel_rfl) (by exact ⟨fun _ _ h => ⟨rfl, fun _ _ e => by cases e⟩, fun _ _ h => ⟨rfl, fun _ _ e => by cases e⟩, fun _ _ h => ⟨rfl, fun _ _ e => by cases e⟩, fun _ _ h => ⟨rfl, fun _ _ e => by cases e⟩, fun _ _ h => ⟨rfl, fun _ _ e => by cases e⟩, fun _ _ h => ⟨rfl, fun _ _ e => by cases e⟩, fun _ _ h => ⟨rfl, fun _ _ e => by cases e⟩, fun _ _ h => ⟨rfl, fun _ _ e => by cases e⟩, fun _ _ h => ⟨rfl, fun _ _ e => by cases e⟩, fun _ _ h => ⟨rfl, fun _ _ e => by cases e⟩, fun _ _ h => ⟨rfl, fun _ _ e => by cases e⟩, fun _ _ h => ⟨rfl, fun _ _ e => by cases e⟩, fun _ _ h => ⟨rfl, fun _ _ e => by cases e⟩, fun _ _ h => ⟨rfl, fun _ _ e => by cases e⟩, fun _ _ h => ⟨rfl, fun _ _ e => by cases e⟩, fun _ _ h => ⟨rfl, fun _ _ e => by cases e⟩, trivial⟩) rfl (by exact ⟨Ob.quiet (n1 := fun n => n) rfl rfl (by intro d h; cases h; rfl) rfl (fun _ => [(0, .r (.sl (f1.map GElem.row)))]) (fun _ => []) (fun D G2 hr => ⟨inE_base rfl rfl, trivial⟩) (fun D G2 hr => trivial) (fun _ _ => rfl) (fun G2 e h' n => OpQ.spec (v := .r (.sl (f1.map GElem.row))) (sp_move rfl (.inl rfl)) _),
              Ob.quiet (n1 := fun n => n) rfl rfl (by intro d h; cases h; rfl) rfl (fun _ => [(6, .r (.int .i64 i4))]) (fun _ => []) (fun D G2 hr => ⟨inE_base rfl rfl, trivial⟩) (fun D G2 hr => trivial) (fun _ _ => rfl) (fun G2 e h' n => OpQ.spec (v := .r (.int .i64 i4)) (sp_move rfl (.inl rfl)) _),
              Ob.quiet (n1 := fun n => n) rfl rfl (by intro d h; cases h; rfl) rfl (fun _ => [(71, .r (.sl (f1.map GElem.row))), (72, .r (.int .i64 i4))]) (fun _ => []) (fun D G2 hr => ⟨inE_op hr 0 rfl rfl (by kernel_rfl) rfl rfl, inE_op hr 1 rfl rfl (by kernel_rfl) rfl rfl, trivial⟩) (fun D G2 hr => trivial) (fun _ _ => rfl) (fun G2 e h' n => OpQ.spec (v := .rop (GElem.row x8) 0) (ms_idx rfl tg_39.slice (.inl rfl) (.inl rfl) (fun _ => rfl) (fun _ => ex8)) _),
              Ob.quiet (n1 := fun n => n) rfl rfl (by intro d h; cases h; rfl) rfl (fun _ => [(73, .rop (GElem.row x8) 0)]) (fun _ => []) (fun D G2 hr => ⟨inE_op hr 2 rfl rfl (by kernel_rfl) rfl rfl, trivial⟩) (fun D G2 hr => trivial) (fun _ _ => rfl) (fun G2 e h' n => OpQ.spec (v := .rop (GElem.row x8) 2) (sp_fieldAddr_ro rfl tf_113_2 (.inl rfl)) _),
              Ob.quiet (n1 := fun n => n) rfl rfl (by intro d h; cases h; rfl) rfl (fun _ => [(74, .rop (GElem.row x8) 2)]) (fun _ => []) (fun D G2 hr => ⟨inE_op hr 3 rfl rfl (by kernel_rfl) rfl rfl, trivial⟩) (fun D G2 hr => trivial) (fun _ _ => rfl) (fun G2 e h' n => OpQ.spec (v := .r (.sl (x8.Attrs.map GAttr.row))) (ms_load (d := .sl (x8.Attrs.map GAttr.row)) rfl ts_47 (.inl rfl) rfl) _),
              Ob.quiet (n1 := fun n => n) rfl rfl (by intro d h; cases h; rfl) rfl (fun _ => [(3, .ptr 3 n0 0 0)]) (fun _ => [(3, some (.box n0 34 [.r (.sl (a1.Adds.map (rSl GElem.row))), .r (.sl (a1.Cuts.map rBool)), .r (.sl (a1.Attrs.map (rSl GAttr.row)))]))]) (fun D G2 hr => ⟨inE_base rfl rfl, trivial⟩) (fun D G2 hr => ⟨inH_base rfl rfl, trivial⟩) (fun _ _ => rfl) (fun G2 e h' n => OpQ.spec (v := .ptr 3 n0 0 2) (sp_fieldAddr_own (ob := .box _ _ _) rfl tf_34_2 (.inl rfl) (fun _ => rfl) rfl) _),
              Ob.quiet (n1 := fun n => n) rfl rfl (by intro d h; cases h; rfl) rfl (fun _ => [(76, .ptr 3 n0 0 2)]) (fun _ => [(3, some (.box n0 34 [.r (.sl (a1.Adds.map (rSl GElem.row))), .r (.sl (a1.Cuts.map rBool)), .r (.sl (a1.Attrs.map (rSl GAttr.row)))]))]) (fun D G2 hr => ⟨inE_op hr 5 rfl rfl (by kernel_rfl) rfl rfl, trivial⟩) (fun D G2 hr => ⟨inH_base rfl rfl, trivial⟩) (fun _ _ => rfl) (fun G2 e h' n => OpQ.spec (v := .r (.sl (a1.Attrs.map (rSl GAttr.row)))) (ms_load_box (a := .r (.sl (a1.Attrs.map (rSl GAttr.row)))) rfl ts_32 (.inl rfl) rfl rfl) _),
              Ob.quiet (n1 := fun n => n) rfl rfl (by intro d h; cases h; rfl) rfl (fun _ => [(6, .r (.int .i64 i4))]) (fun _ => []) (fun D G2 hr => ⟨inE_base rfl rfl, trivial⟩) (fun D G2 hr => trivial) (fun _ _ => rfl) (fun G2 e h' n => OpQ.spec (v := .r (.int .i64 i4)) (sp_move rfl (.inl rfl)) _),
              Ob.quiet (n1 := fun n => n) rfl rfl (by intro d h; cases h; rfl) rfl (fun _ => [(77, .r (.sl (a1.Attrs.map (rSl GAttr.row)))), (78, .r (.int .i64 i4))]) (fun _ => []) (fun D G2 hr => ⟨inE_op hr 6 rfl rfl (by kernel_rfl) rfl rfl, inE_op hr 7 rfl rfl (by kernel_rfl) rfl rfl, trivial⟩) (fun D G2 hr => trivial) (fun _ _ => rfl) (fun G2 e h' n => OpQ.spec (v := .rop ((rSl GAttr.row) x9) 0) (ms_idx rfl tg_32.slice (.inl rfl) (.inl rfl) (fun _ => rfl) (fun _ => ex9)) _),
              Ob.quiet (n1 := fun n => n) rfl rfl (by intro d h; cases h; rfl) rfl (fun _ => [(79, .rop ((rSl GAttr.row) x9) 0)]) (fun _ => []) (fun D G2 hr => ⟨inE_op hr 8 rfl rfl (by kernel_rfl) rfl rfl, trivial⟩) (fun D G2 hr => trivial) (fun _ _ => rfl) (fun G2 e h' n => OpQ.spec (v := .r (.sl (x9.map GAttr.row))) (ms_load (d := .sl (x9.map GAttr.row)) rfl ts_47 (.inl rfl) rfl) _),
              Ob.quiet (n1 := fun n => n) rfl rfl (by intro d h; cases h; rfl) rfl (fun _ => [(75, .r (.sl (x8.Attrs.map GAttr.row))), (80, .r (.sl (x9.map GAttr.row)))]) (fun _ => []) (fun D G2 hr => ⟨inE_op hr 4 rfl rfl (by kernel_rfl) rfl rfl, inE_op hr 9 rfl rfl (by kernel_rfl) rfl rfl, trivial⟩) (fun D G2 hr => trivial) (fun _ _ => rfl) (fun G2 e h' n => sp_callS (r := .r (.sl (r1.map GAttr.row))) (caps := []) (bs := [.r (.sl (x8.Attrs.map GAttr.row)), .r (.sl (x9.map GAttr.row))]) rfl (.inl rfl) rfl ⟨.inl ⟨(.inl rfl), rfl⟩, .inl ⟨(.inl rfl), rfl⟩, trivial⟩ (fun _ => w_ref_Changed (er1))),
              Ob.quiet (n1 := fun n => n) rfl rfl (by intro d h; cases h; rfl) rfl (fun _ => [(0, .r (.sl (f1.map GElem.row)))]) (fun _ => []) (fun D G2 hr => ⟨inE_base rfl rfl, trivial⟩) (fun D G2 hr => trivial) (fun _ _ => rfl) (fun G2 e h' n => OpQ.spec (v := .r (.sl (f1.map GElem.row))) (sp_move rfl (.inl rfl)) _),
              Ob.quiet (n1 := fun n => n) rfl rfl (by intro d h; cases h; rfl) rfl (fun _ => [(6, .r (.int .i64 i4))]) (fun _ => []) (fun D G2 hr => ⟨inE_base rfl rfl, trivial⟩) (fun D G2 hr => trivial) (fun _ _ => rfl) (fun G2 e h' n => OpQ.spec (v := .r (.int .i64 i4)) (sp_move rfl (.inl rfl)) _),
              Ob.quiet (n1 := fun n => n) rfl rfl (by intro d h; cases h; rfl) rfl (fun _ => [(82, .r (.sl (f1.map GElem.row))), (83, .r (.int .i64 i4))]) (fun _ => []) (fun D G2 hr => ⟨inE_op hr 11 rfl rfl (by kernel_rfl) rfl rfl, inE_op hr 12 rfl rfl (by kernel_rfl) rfl rfl, trivial⟩) (fun D G2 hr => trivial) (fun _ _ => rfl) (fun G2 e h' n => OpQ.spec (v := .rop (GElem.row x8) 0) (ms_idx rfl tg_39.slice (.inl rfl) (.inl rfl) (fun _ => rfl) (fun _ => ex8)) _),
              Ob.quiet (n1 := fun n => n) rfl rfl (by intro d h; cases h; rfl) rfl (fun _ => [(84, .rop (GElem.row x8) 0)]) (fun _ => []) (fun D G2 hr => ⟨inE_op hr 13 rfl rfl (by kernel_rfl) rfl rfl, trivial⟩) (fun D G2 hr => trivial) (fun _ _ => rfl) (fun G2 e h' n => OpQ.spec (v := .rop (GElem.row x8) 2) (sp_fieldAddr_ro rfl tf_113_2 (.inl rfl)) _),
              Ob.quiet (n1 := fun n => n) rfl rfl (by intro d h; cases h; rfl) rfl (fun _ => [(85, .rop (GElem.row x8) 2)]) (fun _ => []) (fun D G2 hr => ⟨inE_op hr 14 rfl rfl (by kernel_rfl) rfl rfl, trivial⟩) (fun D G2 hr => trivial) (fun _ _ => rfl) (fun G2 e h' n => OpQ.spec (v := .r (.sl (x8.Attrs.map GAttr.row))) (ms_load (d := .sl (x8.Attrs.map GAttr.row)) rfl ts_47 (.inl rfl) rfl) _),
              trivial⟩) fun G2 n2 => ?_
          refine AOps.weak (s' := ⟨[(0, .r (.sl (f1.map GElem.row))), (3, .ptr 3 n0 0 0), (4, .ptr 4 (n0 + 1) 0 0), (5, .ptr 5 (n0 + 3) 0 0), (6, .r (.int .i64 i4)), (71, .r (.sl (f1.map GElem.row))), (72, .r (.int .i64 i4)), (73, .rop (GElem.row x8) 0), (74, .rop (GElem.row x8) 2), (75, .r (.sl (x8.Attrs.map GAttr.row))), (76, .ptr 3 n0 0 2), (77, .r (.sl (a1.Attrs.map (rSl GAttr.row)))), (78, .r (.int .i64 i4)), (79, .rop ((rSl GAttr.row) x9) 0), (80, .r (.sl (x9.map GAttr.row))), (81, .r (.sl (r1.map GAttr.row))), (82, .r (.sl (f1.map GElem.row))), (83, .r (.int .i64 i4)), (84, .rop (GElem.row x8) 0), (85, .rop (GElem.row x8) 2), (86, .r (.sl (x8.Attrs.map GAttr.row)))], [(3, some (.box n0 34 [.r (.sl (a1.Adds.map (rSl GElem.row))), .r (.sl (a1.Cuts.map rBool)), .r (.sl (a1.Attrs.map (rSl GAttr.row)))])), (4, some (.box (n0 + 1) 34 [.cst (.slice none 0 0), .cst (.slice none 0 0), .cst (.slice none 0 0)])), (5, some (.box (n0 + 3) 34 [.own 9 (i15 0), .own 32 (i15 1), .own 36 (i15 2)])), (9, some (.arr (i15 0) 39 1 (out9.Adds.map (rSl GElem.row)))), (32, some (.arr (i15 1) 4 1 (out9.Cuts.map rBool))), (36, some (.arr (i15 2) 47 1 (out9.Attrs.map (rSl GAttr.row))))], n2, 105⟩) (by exact Weak.cv ⟨.inl (.inl rfl), .inl (.inl rfl), .inl (.inl rfl), .inl (.inl rfl), .inl (.inl rfl), .inl (.inl rfl), .inl (.inl rfl), .inl (.inl rfl), .inl (.inl rfl), .inl (.inl rfl), .inl (.inl rfl), .inl (.inl rfl), .inl (.inl rfl), .inl (.inl rfl), .inl (.inl rfl), .inl (.inl rfl), .inl (.inl rfl), .inl (.inl rfl), .inl (.inl rfl), .inl (.inl rfl), .inl (.inl rfl), trivial⟩ ⟨.inl rfl, .inl rfl, .inl rfl, .inl rfl, .inl rfl, .inl rfl, trivial⟩ (Nat.le_refl _)) ?_
          refine ob1k h18 fun change1 echange1 h19 => ?_
          refine AOps.step rfl rfl rfl (sp_callS (r := .r (.sl (change1.map GAttr.row))) (caps := []) (bs := [.r (.sl (r1.map GAttr.row)), .r (.sl (x8.Attrs.map GAttr.row))]) rfl (.inl rfl) rfl ⟨.inl ⟨(.inl rfl), rfl⟩, .inl ⟨(.inl rfl), rfl⟩, trivial⟩ (fun _ => w_ref_Between (echange1))) ?_
          refine AOps.step rfl rfl rfl (OpQ.spec (sp_assign rfl (.inl rfl)) _) ?_
          refine AOps.nil ?_
          refine hK17 _ ?_
          refine AW.weak (s' := ⟨[(0, .r (.sl (f1.map GElem.row))), (3, .ptr 3 n0 0 0), (4, .ptr 4 (n0 + 1) 0 0), (5, .ptr 5 (n0 + 3) 0 0), (6, .r (.int .i64 i4)), (8, .r (.sl (change1.map GAttr.row)))], [(3, some (.box n0 34 [.r (.sl (a1.Adds.map (rSl GElem.row))), .r (.sl (a1.Cuts.map rBool)), .r (.sl (a1.Attrs.map (rSl GAttr.row)))])), (4, some (.box (n0 + 1) 34 [.cst (.slice none 0 0), .cst (.slice none 0 0), .cst (.slice none 0 0)])), (5, some (.box (n0 + 3) 34 [.own 9 (i15 0), .own 32 (i15 1), .own 36 (i15 2)])), (9, some (.arr (i15 0) 39 1 (out9.Adds.map (rSl GElem.row)))), (32, some (.arr (i15 1) 4 1 (out9.Cuts.map rBool))), (36, some (.arr (i15 2) 47 1 (out9.Attrs.map (rSl GAttr.row))))], n2, 105⟩) (by exact Weak.cv ⟨.inl (.inl rfl), .inl (.inl rfl), .inl (.inl rfl), .inl (.inl rfl), .inl (.inl rfl), .inl (.inl rfl), trivial⟩ ⟨.inl rfl, .inl rfl, .inl rfl, .inl rfl, .inl rfl, .inl rfl, trivial⟩ (Nat.le_refl _)) ?_
          refine ob1k h19 fun l3 el3 h20 => ?_
          refine ob1k h20 fun l4 el4 h21 => ?_
          refine ob1k h21 fun l5 el5 h22 => ?_
          refine AW.regionP 14 [⟨some 88, (fun _ => .ptr 5 (n0 + 3) 0 0), none, []⟩, ⟨some 89, (fun _ => .own 9 (i15 0)), none, []⟩, ⟨some 90, (fun G3 => .own 90 (G3 2)), some (90, (fun G3 => some (.arr (G3 2) 39 1 ([[]].map (rSl GElem.row))))), [2]⟩, ⟨some 91, (fun G3 => .own 9 (G3 3)), some (9, (fun G3 => some (.arr (G3 3) 39 1 (l3.map (rSl GElem.row))))), [3]⟩, ⟨some 92, (fun _ => .ptr 5 (n0 + 3) 0 1), none, []⟩, ⟨some 93, (fun _ => .own 32 (i15 1)), none, []⟩, ⟨some 94, (fun G3 => .own 94 (G3 6)), some (94, (fun G3 => some (.arr (G3 6) 4 1 ([false].map rBool)))), [6]⟩, ⟨some 95, (fun G3 => .own 32 (G3 7)), some (32, (fun G3 => some (.arr (G3 7) 4 1 (l4.map rBool)))), [7]⟩, ⟨some 96, (fun _ => .ptr 5 (n0 + 3) 0 2), none, []⟩, ⟨some 97, (fun _ => .own 36 (i15 2)), none, []⟩, ⟨some 98, (fun _ => .r (.sl (change1.map GAttr.row))), none, []⟩, ⟨some 99, (fun G3 => .own 99 (G3 11)), some (99, (fun G3 => some (.arr (G3 11) 47 1 ([change1].map (rSl GAttr.row))))), [11]⟩, ⟨some 100, (fun G3 => .own 36 (G3 12)), some (36, (fun G3 => some (.arr (G3 12) 47 1 (l5.map (rSl GAttr.row))))), [12]⟩, ⟨some 101, (fun _ => .ptr 5 (n0 + 3) 0 0), none, []⟩] hmix (by kernel_rfl) (by exact ⟨fun _ _ h => ⟨rfl, fun _ _ e => by cases e⟩, fun _ _ h => ⟨rfl, fun _ _ e => by cases e⟩, fun _ _ h => ⟨by simp only [h 2 rfl], fun _ _ e => by cases e; simp only [h 2 rfl]⟩, fun _ _ h => ⟨by simp only [h 3 rfl], fun _ _ e => by cases e; simp only [h 3 rfl]⟩, fun _ _ h => ⟨rfl, fun _ _ e => by cases e⟩, fun _ _ h => ⟨rfl, fun _ _ e => by cases e⟩, fun _ _ h => ⟨by simp only [h 6 rfl], fun _ _ e => by cases e; simp only [h 6 rfl]⟩, fun _ _ h => ⟨by simp only [h 7 rfl], fun _ _ e => by cases e; simp only [h 7 rfl]⟩, fun _ _ h => ⟨rfl, fun _ _ e => by cases e⟩, fun _ _ h => ⟨rfl, fun _ _ e => by cases e⟩, fun _ _ h => ⟨rfl, fun _ _ e => by cases e⟩, fun _ _ h => ⟨by simp only [h 11 rfl], fun _ _ e => by cases e; simp only [h 11 rfl]⟩, fun _ _ h => ⟨by simp only [h 12 rfl], fun _ _ e => by cases e; simp only [h 12 rfl]⟩, fun _ _ h => ⟨rfl, fun _ _ e => by cases e⟩, trivial⟩) rfl (by exact ⟨Ob.quiet (n1 := fun n => n) rfl rfl (by intro d h; cases h; rfl) rfl (fun _ => [(5, .ptr 5 (n0 + 3) 0 0)]) (fun _ => [(5, some (.box (n0 + 3) 34 [.own 9 (i15 0), .own 32 (i15 1), .own 36 (i15 2)]))]) (fun D G3 hr => ⟨inE_base rfl rfl, trivial⟩) (fun D G3 hr => ⟨inH_base rfl rfl, trivial⟩) (fun _ _ => rfl) (fun G3 e h' n => OpQ.spec (v := .ptr 5 (n0 + 3) 0 0) (sp_fieldAddr_own (ob := .box _ _ _) rfl tf_34_0 (.inl rfl) (fun _ => rfl) rfl) _),
              Ob.quiet (n1 := fun n => n) rfl rfl (by intro d h; cases h; rfl) rfl (fun _ => [(88, .ptr 5 (n0 + 3) 0 0)]) (fun _ => [(5, some (.box (n0 + 3) 34 [.own 9 (i15 0), .own 32 (i15 1), .own 36 (i15 2)]))]) (fun D G3 hr => ⟨inE_op hr 0 rfl rfl (by kernel_rfl) rfl rfl, trivial⟩) (fun D G3 hr => ⟨inH_base rfl rfl, trivial⟩) (fun _ _ => rfl) (fun G3 e h' n => OpQ.spec (v := .own 9 (i15 0)) (ms_load_box (a := .own 9 (i15 0)) rfl ts_30 (.inl rfl) rfl rfl) _),
              Ob.make (n1 := fun n => n + 1) rfl rfl (by intro d h; cases h; rfl) rfl (fun _ => []) (fun _ => []) (fun D G3 hr => trivial) (fun D G3 hr => trivial) (fun G3 e h' n => ms_lit 90 rfl tg_30 (f := (rSl GElem.row)) (l := ([[]] : List (List GElem))) ⟨rfl, ⟨_, (.inl rfl), rfl⟩, trivial⟩ rfl (fun _ => rfl) rfl),
              Ob.make (n1 := fun n => n + 1) rfl rfl (by intro d h; cases h; rfl) rfl (fun G3 => [(89, .own 9 (i15 0)), (90, .own 90 (G3 2))]) (fun G3 => [(9, some (.arr (i15 0) 39 1 (out9.Adds.map (rSl GElem.row)))), (90, some (.arr (G3 2) 39 1 ([[]].map (rSl GElem.row))))]) (fun D G3 hr => ⟨inE_op hr 1 rfl rfl (by kernel_rfl) rfl rfl, inE_op hr 2 rfl rfl (by kernel_rfl) rfl rfl, trivial⟩) (fun D G3 hr => ⟨inH_baseL hr (by kernel_rfl) rfl, inH_op hr 2 rfl rfl (by kernel_rfl) (by kernel_rfl) rfl, trivial⟩) (fun G3 e h' n => ms_app rfl tg_30 (.inl rfl) rfl (.inr (.inl ⟨_, _, (.inl rfl), rfl⟩)) el3),
              Ob.quiet (n1 := fun n => n) rfl rfl (by intro d h; cases h; rfl) rfl (fun _ => [(5, .ptr 5 (n0 + 3) 0 0)]) (fun _ => [(5, some (.box (n0 + 3) 34 [.own 9 (i15 0), .own 32 (i15 1), .own 36 (i15 2)]))]) (fun D G3 hr => ⟨inE_base rfl rfl, trivial⟩) (fun D G3 hr => ⟨inH_base rfl rfl, trivial⟩) (fun _ _ => rfl) (fun G3 e h' n => OpQ.spec (v := .ptr 5 (n0 + 3) 0 1) (sp_fieldAddr_own (ob := .box _ _ _) rfl tf_34_1 (.inl rfl) (fun _ => rfl) rfl) _),
              Ob.quiet (n1 := fun n => n) rfl rfl (by intro d h; cases h; rfl) rfl (fun _ => [(92, .ptr 5 (n0 + 3) 0 1)]) (fun _ => [(5, some (.box (n0 + 3) 34 [.own 9 (i15 0), .own 32 (i15 1), .own 36 (i15 2)]))]) (fun D G3 hr => ⟨inE_op hr 4 rfl rfl (by kernel_rfl) rfl rfl, trivial⟩) (fun D G3 hr => ⟨inH_base rfl rfl, trivial⟩) (fun _ _ => rfl) (fun G3 e h' n => OpQ.spec (v := .own 32 (i15 1)) (ms_load_box (a := .own 32 (i15 1)) rfl ts_31 (.inl rfl) rfl rfl) _),
              Ob.make (n1 := fun n => n + 1) rfl rfl (by intro d h; cases h; rfl) rfl (fun _ => []) (fun _ => []) (fun D G3 hr => trivial) (fun D G3 hr => trivial) (fun G3 e h' n => ms_lit 94 rfl tg_31 (f := rBool) (l := ([false] : List Bool)) ⟨rfl, ⟨_, (.inl rfl), rfl⟩, trivial⟩ rfl (fun _ => rfl) rfl),
              Ob.make (n1 := fun n => n + 1) rfl rfl (by intro d h; cases h; rfl) rfl (fun G3 => [(93, .own 32 (i15 1)), (94, .own 94 (G3 6))]) (fun G3 => [(32, some (.arr (i15 1) 4 1 (out9.Cuts.map rBool))), (94, some (.arr (G3 6) 4 1 ([false].map rBool)))]) (fun D G3 hr => ⟨inE_op hr 5 rfl rfl (by kernel_rfl) rfl rfl, inE_op hr 6 rfl rfl (by kernel_rfl) rfl rfl, trivial⟩) (fun D G3 hr => ⟨inH_baseL hr (by kernel_rfl) rfl, inH_op hr 6 rfl rfl (by kernel_rfl) (by kernel_rfl) rfl, trivial⟩) (fun G3 e h' n => ms_app rfl tg_31 (.inl rfl) rfl (.inr (.inl ⟨_, _, (.inl rfl), rfl⟩)) el4),
              Ob.quiet (n1 := fun n => n) rfl rfl (by intro d h; cases h; rfl) rfl (fun _ => [(5, .ptr 5 (n0 + 3) 0 0)]) (fun _ => [(5, some (.box (n0 + 3) 34 [.own 9 (i15 0), .own 32 (i15 1), .own 36 (i15 2)]))]) (fun D G3 hr => ⟨inE_base rfl rfl, trivial⟩) (fun D G3 hr => ⟨inH_base rfl rfl, trivial⟩) (fun _ _ => rfl) (fun G3 e h' n => OpQ.spec (v := .ptr 5 (n0 + 3) 0 2) (sp_fieldAddr_own (ob := .box _ _ _) rfl tf_34_2 (.inl rfl) (fun _ => rfl) rfl) _),
              Ob.quiet (n1 := fun n => n) rfl rfl (by intro d h; cases h; rfl) rfl (fun _ => [(96, .ptr 5 (n0 + 3) 0 2)]) (fun _ => [(5, some (.box (n0 + 3) 34 [.own 9 (i15 0), .own 32 (i15 1), .own 36 (i15 2)]))]) (fun D G3 hr => ⟨inE_op hr 8 rfl rfl (by kernel_rfl) rfl rfl, trivial⟩) (fun D G3 hr => ⟨inH_base rfl rfl, trivial⟩) (fun _ _ => rfl) (fun G3 e h' n => OpQ.spec (v := .own 36 (i15 2)) (ms_load_box (a := .own 36 (i15 2)) rfl ts_32 (.inl rfl) rfl rfl) _),
              Ob.quiet (n1 := fun n => n) rfl rfl (by intro d h; cases h; rfl) rfl (fun _ => [(8, .r (.sl (change1.map GAttr.row)))]) (fun _ => []) (fun D G3 hr => ⟨inE_base rfl rfl, trivial⟩) (fun D G3 hr => trivial) (fun _ _ => rfl) (fun G3 e h' n => OpQ.spec (v := .r (.sl (change1.map GAttr.row))) (sp_move rfl (.inl rfl)) _),
              Ob.make (n1 := fun n => n + 1) rfl rfl (by intro d h; cases h; rfl) rfl (fun _ => [(98, .r (.sl (change1.map GAttr.row)))]) (fun _ => []) (fun D G3 hr => ⟨inE_op hr 10 rfl rfl (by kernel_rfl) rfl rfl, trivial⟩) (fun D G3 hr => trivial) (fun G3 e h' n => ms_lit 99 rfl tg_32 (f := (rSl GAttr.row)) (l := ([change1] : List (List GAttr))) ⟨rfl, ⟨_, (.inl rfl), rfl⟩, trivial⟩ rfl (fun _ => rfl) rfl),
              Ob.make (n1 := fun n => n + 1) rfl rfl (by intro d h; cases h; rfl) rfl (fun G3 => [(97, .own 36 (i15 2)), (99, .own 99 (G3 11))]) (fun G3 => [(36, some (.arr (i15 2) 47 1 (out9.Attrs.map (rSl GAttr.row)))), (99, some (.arr (G3 11) 47 1 ([change1].map (rSl GAttr.row))))]) (fun D G3 hr => ⟨inE_op hr 9 rfl rfl (by kernel_rfl) rfl rfl, inE_op hr 11 rfl rfl (by kernel_rfl) rfl rfl, trivial⟩) (fun D G3 hr => ⟨inH_baseL hr (by kernel_rfl) rfl, inH_op hr 11 rfl rfl (by kernel_rfl) (by kernel_rfl) rfl, trivial⟩) (fun G3 e h' n => ms_app rfl tg_32 (.inl rfl) rfl (.inr (.inl ⟨_, _, (.inl rfl), rfl⟩)) el5),
              Ob.quiet (n1 := fun n => n) rfl rfl (by intro d h; cases h; rfl) rfl (fun _ => [(5, .ptr 5 (n0 + 3) 0 0)]) (fun _ => [(5, some (.box (n0 + 3) 34 [.own 9 (i15 0), .own 32 (i15 1), .own 36 (i15 2)]))]) (fun D G3 hr => ⟨inE_base rfl rfl, trivial⟩) (fun D G3 hr => ⟨inH_base rfl rfl, trivial⟩) (fun _ _ => rfl) (fun G3 e h' n => OpQ.spec (v := .ptr 5 (n0 + 3) 0 0) (sp_fieldAddr_own (ob := .box _ _ _) rfl tf_34_0 (.inl rfl) (fun _ => rfl) rfl) _),
              trivial⟩) fun G3 n3 => ?_
          refine AOps.weak (s' := ⟨[(0, .r (.sl (f1.map GElem.row))), (3, .ptr 3 n0 0 0), (4, .ptr 4 (n0 + 1) 0 0), (5, .ptr 5 (n0 + 3) 0 0), (6, .r (.int .i64 i4)), (8, .r (.sl (change1.map GAttr.row))), (88, .ptr 5 (n0 + 3) 0 0), (90, .own 90 (G3 2)), (91, .own 9 (G3 3)), (92, .ptr 5 (n0 + 3) 0 1), (94, .own 94 (G3 6)), (95, .own 32 (G3 7)), (96, .ptr 5 (n0 + 3) 0 2), (98, .r (.sl (change1.map GAttr.row))), (99, .own 99 (G3 11)), (100, .own 36 (G3 12)), (101, .ptr 5 (n0 + 3) 0 0)], [(3, some (.box n0 34 [.r (.sl (a1.Adds.map (rSl GElem.row))), .r (.sl (a1.Cuts.map rBool)), .r (.sl (a1.Attrs.map (rSl GAttr.row)))])), (4, some (.box (n0 + 1) 34 [.cst (.slice none 0 0), .cst (.slice none 0 0), .cst (.slice none 0 0)])), (5, some (.box (n0 + 3) 34 [.own 9 (i15 0), .own 32 (i15 1), .own 36 (i15 2)])), (9, some (.arr (G3 3) 39 1 (l3.map (rSl GElem.row)))), (32, some (.arr (G3 7) 4 1 (l4.map rBool))), (36, some (.arr (G3 12) 47 1 (l5.map (rSl GAttr.row)))), (90, some (.arr (G3 2) 39 1 ([[]].map (rSl GElem.row)))), (94, some (.arr (G3 6) 4 1 ([false].map rBool))), (99, some (.arr (G3 11) 47 1 ([change1].map (rSl GAttr.row))))], n3, 105⟩) (by exact Weak.cv ⟨.inl (.inl rfl), .inl (.inl rfl), .inl (.inl rfl), .inl (.inl rfl), .inl (.inl rfl), .inl (.inl rfl), .inl (.inl rfl), .inl (.inl rfl), .inl (.inl rfl), .inl (.inl rfl), .inl (.inl rfl), .inl (.inl rfl), .inl (.inl rfl), .inl (.inl rfl), .inl (.inl rfl), .inl (.inl rfl), .inl (.inl rfl), trivial⟩ ⟨.inl rfl, .inl rfl, .inl rfl, .inl rfl, .inl rfl, .inl rfl, .inl rfl, .inl rfl, .inl rfl, trivial⟩ (Nat.le_refl _)) ?_
          refine AOps.step0 rfl rfl (ms_store_box (ds := [.own 9 (G3 3), .own 32 (i15 1), .own 36 (i15 2)]) rfl tz_30 (.inl rfl) rfl (.inl rfl) rfl rfl rfl rfl) ?_
          refine AOps.step rfl rfl rfl (OpQ.spec (sp_fieldAddr_own (ob := .box _ _ _) rfl tf_34_1 (.inl rfl) (fun _ => rfl) rfl) _) ?_
          refine AOps.step0 rfl rfl (ms_store_box (ds := [.own 9 (G3 3), .own 32 (G3 7), .own 36 (i15 2)]) rfl tz_31 (.inl rfl) rfl (.inl rfl) rfl rfl rfl rfl) ?_
          refine AOps.step rfl rfl rfl (OpQ.spec (sp_fieldAddr_own (ob := .box _ _ _) rfl tf_34_2 (.inl rfl) (fun _ => rfl) rfl) _) ?_
          refine AOps.step0 rfl rfl (ms_store_box (ds := [.own 9 (G3 3), .own 32 (G3 7), .own 36 (G3 12)]) rfl tz_32 (.inl rfl) rfl (.inl rfl) rfl rfl rfl rfl) ?_
          refine AOps.nil ?_
          exact wK8 _ _ ((by exact Weak.cv ⟨.inl (.inl rfl), .inl (.inl rfl), .inl (.inl rfl), .inl (.inl rfl), .inl (.inl rfl), trivial⟩ ⟨.inl rfl, .inl rfl, .inl rfl, .inl rfl, .inl rfl, .inl rfl, trivial⟩ (Nat.le_refl _))) (J2 _ (vec [(G3 3), (G3 7), (G3 12), n3]) (Option.some.inj h22).symm)
    refine AW.iter2 (fun (x3 : Int) (out7 : Ref_Act) i13 => ⟨[(0, .r (.sl (f1.map GElem.row))), (3, .ptr 3 n0 0 0), (4, .ptr 4 (n0 + 1) 0 0), (5, .ptr 5 (n0 + 3) 0 0), (6, .r (.int .i64 i4)), (22, .r (.int .i64 (x1.length : Int))), (23, .r (.int .i64 x3))], [(3, some (.box n0 34 [.r (.sl (a1.Adds.map (rSl GElem.row))), .r (.sl (a1.Cuts.map rBool)), .r (.sl (a1.Attrs.map (rSl GAttr.row)))])), (4, some (.box (n0 + 1) 34 [.cst (.slice none 0 0), .cst (.slice none 0 0), .cst (.slice none 0 0)])), (5, some (.box (n0 + 3) 34 [.own 9 (i13 0), .own 32 (i13 1), .own 36 (i13 2)])), (9, some (.arr (i13 0) 39 1 (out7.Adds.map (rSl GElem.row)))), (32, some (.arr (i13 1) 4 1 (out7.Cuts.map rBool))), (36, some (.arr (i13 2) 47 1 (out7.Attrs.map (rSl GAttr.row))))], (i13 3), 105⟩) (vec [(i5 0), (i5 1), (i5 2), (i5 3)]) hit2 ((by exact Weak.cv ⟨.inl (.inl rfl), .inl (.inl rfl), .inl (.inl rfl), .inl (.inl rfl), .inl (.inl rfl), .inl (.inl rfl), .inl (.inl rfl), trivial⟩ ⟨.inl rfl, .inl rfl, .inl rfl, .inl rfl, .inl rfl, .inl rfl, trivial⟩ (Nat.le_refl _))) ?_
    intro x3 out7 i13 v2 hv2 hx2
    have h23 : ref_Back_L2 x1 x3 out7 = some v2 := hv2; unfold ref_Back_L2 at h23
    refine AW.seq_w fun K18 hK18 wK18 => ?_
    refine AW.region ?_
    refine AOps.step rfl rfl rfl (OpQ.spec (sp_lss rfl (.inl rfl) (.inl rfl)) _) ?_
    refine AOps.nil ?_
    refine hK18 _ ?_
    refine AW.seq_w fun K19 hK19 wK19 => ?_
    refine AW.cond rfl (fun hc4 => ?_) (fun hc4 => ?_)
    · have h24 := ite_t hc4 h23
      refine AW.skip ?_
      refine hK19 _ ?_
      refine AW.seq_w fun K20 hK20 wK20 => ?_
      refine AW.block ?_
      refine ob1k h24 fun l6 el6 h25 => ?_
      refine ob1k h25 fun l7 el7 h26 => ?_
      refine ob1k h26 fun l8 el8 h27 => ?_
      refine AW.regionP 13 [⟨some 25, (fun _ => .ptr 5 (n0 + 3) 0 0), none, []⟩, ⟨some 26, (fun _ => .own 9 (i13 0)), none, []⟩, ⟨some 27, (fun G4 => .own 27 (G4 2)), some (27, (fun G4 => some (.arr (G4 2) 39 1 ([[]].map (rSl GElem.row))))), [2]⟩, ⟨some 28, (fun G4 => .own 9 (G4 3)), some (9, (fun G4 => some (.arr (G4 3) 39 1 (l6.map (rSl GElem.row))))), [3]⟩, ⟨some 29, (fun _ => .ptr 5 (n0 + 3) 0 1), none, []⟩, ⟨some 30, (fun _ => .own 32 (i13 1)), none, []⟩, ⟨some 31, (fun G4 => .own 31 (G4 6)), some (31, (fun G4 => some (.arr (G4 6) 4 1 ([true].map rBool)))), [6]⟩, ⟨some 32, (fun G4 => .own 32 (G4 7)), some (32, (fun G4 => some (.arr (G4 7) 4 1 (l7.map rBool)))), [7]⟩, ⟨some 33, (fun _ => .ptr 5 (n0 + 3) 0 2), none, []⟩, ⟨some 34, (fun _ => .own 36 (i13 2)), none, []⟩, ⟨some 35, (fun G4 => .own 35 (G4 10)), some (35, (fun G4 => some (.arr (G4 10) 47 1 ([[]].map (rSl GAttr.row))))), [10]⟩, ⟨some 36, (fun G4 => .own 36 (G4 11)), some (36, (fun G4 => some (.arr (G4 11) 47 1 (l8.map (rSl GAttr.row))))), [11]⟩, ⟨some 37, (fun _ => .ptr 5 (n0 + 3) 0 0), none, []⟩] hmix (by kernel_rfl) (by exact ⟨fun _ _ h => ⟨rfl, fun _ _ e => by cases e⟩, fun _ _ h => ⟨rfl, fun _ _ e => by cases e⟩, fun _ _ h => ⟨by simp only [h 2 rfl], fun _ _ e => by cases e; simp only [h 2 rfl]⟩, fun _ _ h => ⟨by simp only [h 3 rfl], fun _ _ e => by cases e; simp only [h 3 rfl]⟩, fun _ _ h => ⟨rfl, fun _ _ e => by cases e⟩, fun _ _ h => ⟨rfl, fun _ _ e => by cases e⟩, fun _ _ h => ⟨by simp only [h 6 rfl], fun _ _ e => by cases e; simp only [h 6 rfl]⟩, fun _ _ h => ⟨by simp only [h 7 rfl], fun _ _ e => by cases e; simp only [h 7 rfl]⟩, fun _ _ h => ⟨rfl, fun _ _ e => by cases e⟩, fun _ _ h => ⟨rfl, fun _ _ e => by cases e⟩, fun _ _ h => ⟨by simp only [h 10 rfl], fun _ _ e => by cases e; simp only [h 10 rfl]⟩, fun _ _ h => ⟨by simp only [h 11 rfl], fun _ _ e => by cases e; simp only [h 11 rfl]⟩, fun _ _ h => ⟨rfl, fun _ _ e => by cases e⟩, trivial⟩) rfl (by exact ⟨Ob.quiet (n1 := fun n => n) rfl rfl (by intro d h; cases h; rfl) rfl (fun _ => [(5, .ptr 5 (n0 + 3) 0 0)]) (fun _ => [(5, some (.box (n0 + 3) 34 [.own 9 (i13 0), .own 32 (i13 1), .own 36 (i13 2)]))]) (fun D G4 hr => ⟨inE_base rfl rfl, trivial⟩) (fun D G4 hr => ⟨inH_base rfl rfl, trivial⟩) (fun _ _ => rfl) (fun G4 e h' n => OpQ.spec (v := .ptr 5 (n0 + 3) 0 0) (sp_fieldAddr_own (ob := .box _ _ _) rfl tf_34_0 (.inl rfl) (fun _ => rfl) rfl) _),
          Ob.quiet (n1 := fun n => n) rfl rfl (by intro d h; cases h; rfl) rfl (fun _ => [(25, .ptr 5 (n0 + 3) 0 0)]) (fun _ => [(5, some (.box (n0 + 3) 34 [.own 9 (i13 0), .own 32 (i13 1), .own 36 (i13 2)]))]) (fun D G4 hr => ⟨inE_op hr 0 rfl rfl (by kernel_rfl) rfl rfl, trivial⟩) (fun D G4 hr => ⟨inH_base rfl rfl, trivial⟩) (fun _ _ => rfl) (fun G4 e h' n => OpQ.spec (v := .own 9 (i13 0)) (ms_load_box (a := .own 9 (i13 0)) rfl ts_30 (.inl rfl) rfl rfl) _),
          Ob.make (n1 := fun n => n + 1) rfl rfl (by intro d h; cases h; rfl) rfl (fun _ => []) (fun _ => []) (fun D G4 hr => trivial) (fun D G4 hr => trivial) (fun G4 e h' n => ms_lit 27 rfl tg_30 (f := (rSl GElem.row)) (l := ([[]] : List (List GElem))) ⟨rfl, ⟨_, (.inl rfl), rfl⟩, trivial⟩ rfl (fun _ => rfl) rfl),
          Ob.make (n1 := fun n => n + 1) rfl rfl (by intro d h; cases h; rfl) rfl (fun G4 => [(26, .own 9 (i13 0)), (27, .own 27 (G4 2))]) (fun G4 => [(9, some (.arr (i13 0) 39 1 (out7.Adds.map (rSl GElem.row)))), (27, some (.arr (G4 2) 39 1 ([[]].map (rSl GElem.row))))]) (fun D G4 hr => ⟨inE_op hr 1 rfl rfl (by kernel_rfl) rfl rfl, inE_op hr 2 rfl rfl (by kernel_rfl) rfl rfl, trivial⟩) (fun D G4 hr => ⟨inH_baseL hr (by kernel_rfl) rfl, inH_op hr 2 rfl rfl (by kernel_rfl) (by kernel_rfl) rfl, trivial⟩) (fun G4 e h' n => ms_app rfl tg_30 (.inl rfl) rfl (.inr (.inl ⟨_, _, (.inl rfl), rfl⟩)) el6),
          Ob.quiet (n1 := fun n => n) rfl rfl (by intro d h; cases h; rfl) rfl (fun _ => [(5, .ptr 5 (n0 + 3) 0 0)]) (fun _ => [(5, some (.box (n0 + 3) 34 [.own 9 (i13 0), .own 32 (i13 1), .own 36 (i13 2)]))]) (fun D G4 hr => ⟨inE_base rfl rfl, trivial⟩) (fun D G4 hr => ⟨inH_base rfl rfl, trivial⟩) (fun _ _ => rfl) (fun G4 e h' n => OpQ.spec (v := .ptr 5 (n0 + 3) 0 1) (sp_fieldAddr_own (ob := .box _ _ _) rfl tf_34_1 (.inl rfl) (fun _ => rfl) rfl) _),
          Ob.quiet (n1 := fun n => n) rfl rfl (by intro d h; cases h; rfl) rfl (fun _ => [(29, .ptr 5 (n0 + 3) 0 1)]) (fun _ => [(5, some (.box (n0 + 3) 34 [.own 9 (i13 0), .own 32 (i13 1), .own 36 (i13 2)]))]) (fun D G4 hr => ⟨inE_op hr 4 rfl rfl (by kernel_rfl) rfl rfl, trivial⟩) (fun D G4 hr => ⟨inH_base rfl rfl, trivial⟩) (fun _ _ => rfl) (fun G4 e h' n => OpQ.spec (v := .own 32 (i13 1)) (ms_load_box (a := .own 32 (i13 1)) rfl ts_31 (.inl rfl) rfl rfl) _),
          Ob.make (n1 := fun n => n + 1) rfl rfl (by intro d h; cases h; rfl) rfl (fun _ => []) (fun _ => []) (fun D G4 hr => trivial) (fun D G4 hr => trivial) (fun G4 e h' n => ms_lit 31 rfl tg_31 (f := rBool) (l := ([true] : List Bool)) ⟨rfl, ⟨_, (.inl rfl), rfl⟩, trivial⟩ rfl (fun _ => rfl) rfl),
          Ob.make (n1 := fun n => n + 1) rfl rfl (by intro d h; cases h; rfl) rfl (fun G4 => [(30, .own 32 (i13 1)), (31, .own 31 (G4 6))]) (fun G4 => [(31, some (.arr (G4 6) 4 1 ([true].map rBool))), (32, some (.arr (i13 1) 4 1 (out7.Cuts.map rBool)))]) (fun D G4 hr => ⟨inE_op hr 5 rfl rfl (by kernel_rfl) rfl rfl, inE_op hr 6 rfl rfl (by kernel_rfl) rfl rfl, trivial⟩) (fun D G4 hr => ⟨inH_op hr 6 rfl rfl (by kernel_rfl) (by kernel_rfl) rfl, inH_baseL hr (by kernel_rfl) rfl, trivial⟩) (fun G4 e h' n => ms_app rfl tg_31 (.inl rfl) rfl (.inr (.inl ⟨_, _, (.inl rfl), rfl⟩)) el7),
          Ob.quiet (n1 := fun n => n) rfl rfl (by intro d h; cases h; rfl) rfl (fun _ => [(5, .ptr 5 (n0 + 3) 0 0)]) (fun _ => [(5, some (.box (n0 + 3) 34 [.own 9 (i13 0), .own 32 (i13 1), .own 36 (i13 2)]))]) (fun D G4 hr => ⟨inE_base rfl rfl, trivial⟩) (fun D G4 hr => ⟨inH_base rfl rfl, trivial⟩) (fun _ _ => rfl) (fun G4 e h' n => OpQ.spec (v := .ptr 5 (n0 + 3) 0 2) (sp_fieldAddr_own (ob := .box _ _ _) rfl tf_34_2 (.inl rfl) (fun _ => rfl) rfl) _),
          Ob.quiet (n1 := fun n => n) rfl rfl (by intro d h; cases h; rfl) rfl (fun _ => [(33, .ptr 5 (n0 + 3) 0 2)]) (fun _ => [(5, some (.box (n0 + 3) 34 [.own 9 (i13 0), .own 32 (i13 1), .own 36 (i13 2)]))]) (fun D G4 hr => ⟨inE_op hr 8 rfl rfl (by kernel_rfl) rfl rfl, trivial⟩) (fun D G4 hr => ⟨inH_base rfl rfl, trivial⟩) (fun _ _ => rfl) (fun G4 e h' n => OpQ.spec (v := .own 36 (i13 2)) (ms_load_box (a := .own 36 (i13 2)) rfl ts_32 (.inl rfl) rfl rfl) _),
          Ob.make (n1 := fun n => n + 1) rfl rfl (by intro d h; cases h; rfl) rfl (fun _ => []) (fun _ => []) (fun D G4 hr => trivial) (fun D G4 hr => trivial) (fun G4 e h' n => ms_lit 35 rfl tg_32 (f := (rSl GAttr.row)) (l := ([[]] : List (List GAttr))) ⟨rfl, ⟨_, (.inl rfl), rfl⟩, trivial⟩ rfl (fun _ => rfl) rfl),
          Ob.make (n1 := fun n => n + 1) rfl rfl (by intro d h; cases h; rfl) rfl (fun G4 => [(34, .own 36 (i13 2)), (35, .own 35 (G4 10))]) (fun G4 => [(35, some (.arr (G4 10) 47 1 ([[]].map (rSl GAttr.row)))), (36, some (.arr (i13 2) 47 1 (out7.Attrs.map (rSl GAttr.row))))]) (fun D G4 hr => ⟨inE_op hr 9 rfl rfl (by kernel_rfl) rfl rfl, inE_op hr 10 rfl rfl (by kernel_rfl) rfl rfl, trivial⟩) (fun D G4 hr => ⟨inH_op hr 10 rfl rfl (by kernel_rfl) (by kernel_rfl) rfl, inH_baseL hr (by kernel_rfl) rfl, trivial⟩) (fun G4 e h' n => ms_app rfl tg_32 (.inl rfl) rfl (.inr (.inl ⟨_, _, (.inl rfl), rfl⟩)) el8),
          Ob.quiet (n1 := fun n => n) rfl rfl (by intro d h; cases h; rfl) rfl (fun _ => [(5, .ptr 5 (n0 + 3) 0 0)]) (fun _ => [(5, some (.box (n0 + 3) 34 [.own 9 (i13 0), .own 32 (i13 1), .own 36 (i13 2)]))]) (fun D G4 hr => ⟨inE_base rfl rfl, trivial⟩) (fun D G4 hr => ⟨inH_base rfl rfl, trivial⟩) (fun _ _ => rfl) (fun G4 e h' n => OpQ.spec (v := .ptr 5 (n0 + 3) 0 0) (sp_fieldAddr_own (ob := .box _ _ _) rfl tf_34_0 (.inl rfl) (fun _ => rfl) rfl) _),
          trivial⟩) fun G4 n4 => ?_
      refine AOps.weak (s' := ⟨[(0, .r (.sl (f1.map GElem.row))), (3, .ptr 3 n0 0 0), (4, .ptr 4 (n0 + 1) 0 0), (5, .ptr 5 (n0 + 3) 0 0), (6, .r (.int .i64 i4)), (22, .r (.int .i64 (x1.length : Int))), (23, .r (.int .i64 x3)), (24, .r (.bool (decide (x3 < (x1.length : Int))))), (25, .ptr 5 (n0 + 3) 0 0), (27, .own 27 (G4 2)), (28, .own 9 (G4 3)), (29, .ptr 5 (n0 + 3) 0 1), (31, .own 31 (G4 6)), (32, .own 32 (G4 7)), (33, .ptr 5 (n0 + 3) 0 2), (35, .own 35 (G4 10)), (36, .own 36 (G4 11)), (37, .ptr 5 (n0 + 3) 0 0)], [(3, some (.box n0 34 [.r (.sl (a1.Adds.map (rSl GElem.row))), .r (.sl (a1.Cuts.map rBool)), .r (.sl (a1.Attrs.map (rSl GAttr.row)))])), (4, some (.box (n0 + 1) 34 [.cst (.slice none 0 0), .cst (.slice none 0 0), .cst (.slice none 0 0)])), (5, some (.box (n0 + 3) 34 [.own 9 (i13 0), .own 32 (i13 1), .own 36 (i13 2)])), (9, some (.arr (G4 3) 39 1 (l6.map (rSl GElem.row)))), (27, some (.arr (G4 2) 39 1 ([[]].map (rSl GElem.row)))), (31, some (.arr (G4 6) 4 1 ([true].map rBool))), (32, some (.arr (G4 7) 4 1 (l7.map rBool))), (35, some (.arr (G4 10) 47 1 ([[]].map (rSl GAttr.row)))), (36, some (.arr (G4 11) 47 1 (l8.map (rSl GAttr.row))))], n4, 105⟩) (by exact Weak.cv ⟨.inl (.inl rfl), .inl (.inl rfl), .inl (.inl rfl), .inl (.inl rfl), .inl (.inl rfl), .inl (.inl rfl), .inl (.inl rfl), .inl (.inl rfl), .inl (.inl rfl), .inl (.inl rfl), .inl (.inl rfl), .inl (.inl rfl), .inl (.inl rfl), .inl (.inl rfl), .inl (.inl rfl), .inl (.inl rfl), .inl (.inl rfl), .inl (.inl rfl), trivial⟩ ⟨.inl rfl, .inl rfl, .inl rfl, .inl rfl, .inl rfl, .inl rfl, .inl rfl, .inl rfl, .inl rfl, trivial⟩ (Nat.le_refl _)) ?_
      refine AOps.step0 rfl rfl (ms_store_box (ds := [.own 9 (G4 3), .own 32 (i13 1), .own 36 (i13 2)]) rfl tz_30 (.inl rfl) rfl (.inl rfl) rfl rfl rfl rfl) ?_
      refine AOps.step rfl rfl rfl (OpQ.spec (sp_fieldAddr_own (ob := .box _ _ _) rfl tf_34_1 (.inl rfl) (fun _ => rfl) rfl) _) ?_
      refine AOps.step0 rfl rfl (ms_store_box (ds := [.own 9 (G4 3), .own 32 (G4 7), .own 36 (i13 2)]) rfl tz_31 (.inl rfl) rfl (.inl rfl) rfl rfl rfl rfl) ?_
      refine AOps.step rfl rfl rfl (OpQ.spec (sp_fieldAddr_own (ob := .box _ _ _) rfl tf_34_2 (.inl rfl) (fun _ => rfl) rfl) _) ?_
      refine AOps.step0 rfl rfl (ms_store_box (ds := [.own 9 (G4 3), .own 32 (G4 7), .own 36 (G4 11)]) rfl tz_32 (.inl rfl) rfl (.inl rfl) rfl rfl rfl rfl) ?_
      refine AOps.nil ?_
      refine hK20 _ ?_
      refine AW.weak (s' := ⟨[(0, .r (.sl (f1.map GElem.row))), (3, .ptr 3 n0 0 0), (4, .ptr 4 (n0 + 1) 0 0), (5, .ptr 5 (n0 + 3) 0 0), (6, .r (.int .i64 i4)), (22, .r (.int .i64 (x1.length : Int))), (23, .r (.int .i64 x3))], [(3, some (.box n0 34 [.r (.sl (a1.Adds.map (rSl GElem.row))), .r (.sl (a1.Cuts.map rBool)), .r (.sl (a1.Attrs.map (rSl GAttr.row)))])), (4, some (.box (n0 + 1) 34 [.cst (.slice none 0 0), .cst (.slice none 0 0), .cst (.slice none 0 0)])), (5, some (.box (n0 + 3) 34 [.own 9 (G4 3), .own 32 (G4 7), .own 36 (G4 11)])), (9, some (.arr (G4 3) 39 1 (l6.map (rSl GElem.row)))), (32, some (.arr (G4 7) 4 1 (l7.map rBool))), (36, some (.arr (G4 11) 47 1 (l8.map (rSl GAttr.row))))], n4, 105⟩) (by exact Weak.cv ⟨.inl (.inl rfl), .inl (.inl rfl), .inl (.inl rfl), .inl (.inl rfl), .inl (.inl rfl), .inl (.inl rfl), .inl (.inl rfl), trivial⟩ ⟨.inl rfl, .inl rfl, .inl rfl, .inl rfl, .inl rfl, .inl rfl, trivial⟩ (Nat.le_refl _)) ?_
      refine AW.region ?_
      refine ob1k h27 fun x10 ex10 h28 => ?_
      refine AOps.step rfl rfl rfl (OpQ.spec (ms_add rfl (.inl rfl) (.inl rfl) (fun _ => ex10)) _) ?_
      refine AOps.step rfl rfl rfl (OpQ.spec (sp_move rfl (.inl rfl)) _) ?_
      refine AOps.nil ?_
      exact NextQ2.mk h28 (vec [(G4 3), (G4 7), (G4 11), n4]) ((by exact Weak.cv ⟨.inl (.inl rfl), .inl (.inl rfl), .inl (.inl rfl), .inl (.inl rfl), .inl (.inl rfl), .inl (.inl rfl), .inl (.inl rfl), trivial⟩ ⟨.inl rfl, .inl rfl, .inl rfl, .inl rfl, .inl rfl, .inl rfl, trivial⟩ (Nat.le_refl _)))
    · have h24 := ite_f hc4 h23
      refine AW.exit ?_
      exact wK9 _ _ ((by exact Weak.cv ⟨.inl (.inl rfl), .inl (.inl rfl), .inl (.inl rfl), .inl (.inl rfl), .inl (.inl rfl), trivial⟩ ⟨.inl rfl, .inl rfl, .inl rfl, .inl rfl, .inl rfl, .inl rfl, trivial⟩ (Nat.le_refl _))) (J3 _ (vec [(i13 0), (i13 1), (i13 2), (i13 3)]) (hx2 _ (Option.some.inj h24).symm))
  · have h3 := ite_f hc1 h2
    refine AW.exit ?_
    exact wK3 _ _ ((by exact Weak.cv ⟨.inl (.inl rfl), .inl (.inl rfl), trivial⟩ ⟨.inl rfl, .inl rfl, .inl rfl, .inl rfl, .inl rfl, trivial⟩ (Nat.le_refl _))) (J1 _ (vec [(i5 0), (i5 1), (i5 2), (i5 3)]) (hx1 _ (Option.some.inj h3).symm))
set_option maxHeartbeats 4000000 in
set_option maxRecDepth 20000 in
theorem w_ref_SameAttrs {a1 : List GAttr} {b1 : List GAttr} {r : Bool} (h : ref_SameAttrs a1 b1 = some r) : ARO Try.prog 78 [.r (.sl (a1.map GAttr.row)), .r (.sl (b1.map GAttr.row))] (.r (.bool r)) := by
  unfold ref_SameAttrs at h
  refine ARO.mkF Try.func78 rfl rfl Try.ntmps78 rfl (Nat.le_of_ble_eq_true rfl) fun n0 => ?_
  refine AW.seq_w fun K1 hK1 wK1 => ?_
  refine AW.region ?_
  refine AOps.step rfl rfl rfl (OpQ.spec (sp_assign rfl (.inl rfl)) _) ?_
  refine AOps.nil ?_
  refine hK1 _ ?_
  refine AW.seq_w fun K2 hK2 wK2 => ?_
  refine AW.seq_w fun K3 hK3 wK3 => ?_
  refine AW.region ?_
  refine AOps.step rfl rfl rfl (OpQ.spec (sp_move rfl (.inl rfl)) _) ?_
  refine AOps.step rfl rfl rfl (OpQ.spec (ms_len rfl tg_47.slice (.inl rfl)) _) ?_
  refine AOps.step rfl rfl rfl (OpQ.spec (sp_move rfl (.inl rfl)) _) ?_
  refine AOps.step rfl rfl rfl (OpQ.spec (ms_len rfl tg_47.slice (.inl rfl)) _) ?_
  refine AOps.step rfl rfl rfl (OpQ.spec (sp_neq rfl (.inl rfl) (.inl rfl)) _) ?_
  refine AOps.nil ?_
  refine hK3 _ ?_
  refine AW.cond rfl (fun hc1 => ?_) (fun hc1 => ?_)
  · have h1 := ite_t hc1 h
    refine AW.seq_w fun K4 hK4 wK4 => ?_
    refine AW.region ?_
    refine AOps.step rfl rfl rfl (OpQ.spec (sp_assign rfl (.inl rfl)) _) ?_
    refine AOps.nil ?_
    refine hK4 _ ?_
    refine AW.ret ?_
    exact retf1 (P := Try.prog) (fun (r : Bool) => .r (.bool r)) h1 (.inl rfl) (.t (.d rfl))
  · have h1 := ite_f hc1 h
    refine AW.skip ?_
    refine hK2 _ ?_
    refine AW.seq_w fun K5 hK5 wK5 => ?_
    refine AW.seq_w fun K6 hK6 wK6 => ?_
    refine AW.region ?_
    refine AOps.step rfl rfl rfl (OpQ.spec (sp_move rfl (.inl rfl)) _) ?_
    refine AOps.step rfl rfl rfl (OpQ.spec (ms_len rfl tg_47.slice (.inl rfl)) _) ?_
    refine AOps.step rfl rfl rfl (OpQ.spec (sp_move rfl (.inl rfl)) _) ?_
    refine AOps.nil ?_
    refine hK6 _ ?_
    refine AW.block ?_
    refine jc1k h1 fun o1 hit1 hk1 he1 => ?_
    have J1 : ∀ (u2 : Unit) (i5 : Nat → Nat), o1 = .nrm u2 → K5 ⟨[], [], (i5 0), 26⟩ := by
      intro u2 i5 e
      have h2 := hk1 _ e
      refine hK5 _ ?_
      refine AW.seq_w fun K7 hK7 wK7 => ?_
      refine AW.region ?_
      refine AOps.step rfl rfl rfl (OpQ.spec (sp_assign rfl (.inl rfl)) _) ?_
      refine AOps.nil ?_
      refine hK7 _ ?_
      refine AW.ret ?_
      exact retf1 (P := Try.prog) (fun (r : Bool) => .r (.bool r)) h2 (.inl rfl) (.t (.d rfl))
    refine AW.iter1 (fun (x2 : Int) i3 => ⟨[(0, .r (.sl (a1.map GAttr.row))), (1, .r (.sl (b1.map GAttr.row))), (12, .r (.int .i64 (a1.length : Int))), (13, .r (.int .i64 x2))], [], (i3 0), 26⟩) (vec [n0]) hit1 ((by exact Weak.cv ⟨.inl (.inl rfl), .inl (.inl rfl), .inl (.inl rfl), .inl (.inl rfl), trivial⟩ trivial (Nat.le_refl _))) ?_
    intro x2 i3 v1 hv1 hx1
    have h3 : ref_SameAttrs_L1 a1 b1 x2 = some v1 := hv1; unfold ref_SameAttrs_L1 at h3
    refine AW.seq_w fun K8 hK8 wK8 => ?_
    refine AW.region ?_
    refine AOps.step rfl rfl rfl (OpQ.spec (sp_lss rfl (.inl rfl) (.inl rfl)) _) ?_
    refine AOps.nil ?_
    refine hK8 _ ?_
    refine AW.seq_w fun K9 hK9 wK9 => ?_
    refine AW.cond rfl (fun hc2 => ?_) (fun hc2 => ?_)
    · have h4 := ite_t hc2 h3
      refine AW.skip ?_
      refine hK9 _ ?_
      refine AW.seq_w fun K10 hK10 wK10 => ?_
      refine AW.block ?_
      refine AW.seq_w fun K11 hK11 wK11 => ?_
      refine AW.region ?_
      refine AOps.step rfl rfl rfl (OpQ.spec (sp_move rfl (.inl rfl)) _) ?_
      refine AOps.step rfl rfl rfl (OpQ.spec (sp_assign rfl (.inl rfl)) _) ?_
      refine AOps.nil ?_
      refine hK11 _ ?_
      refine AW.seq_w fun K12 hK12 wK12 => ?_
      refine AW.regionQ hmix (by kernel_rfl) ?_
      refine AQ.step rfl rfl rfl (sp_move rfl (.inl rfl)) ?_
      refine AQ.step rfl rfl rfl (sp_move rfl (.inl rfl)) ?_
      refine ob1k h4 fun x4 ex4 h5 => ?_
      refine AQ.step rfl rfl rfl (ms_idx rfl tg_47.slice (.inl rfl) (.inl rfl) (fun _ => rfl) (fun _ => ex4)) ?_
      refine AQ.step rfl rfl rfl (ms_loadA (cs := [.r (.str x4.Name), .r (.str x4.Value)]) rfl ta_128 (.inl rfl) rfl rfl) ?_
      refine AQ.step rfl rfl rfl (sp_move rfl (.inl rfl)) ?_
      refine AQ.step rfl rfl rfl (sp_move rfl (.inl rfl)) ?_
      refine ob1k h5 fun x5 ex5 h6 => ?_
      refine AQ.step rfl rfl rfl (ms_idx rfl tg_47.slice (.inl rfl) (.inl rfl) (fun _ => rfl) (fun _ => ex5)) ?_
      refine AQ.step rfl rfl rfl (ms_loadA (cs := [.r (.str x5.Name), .r (.str x5.Value)]) rfl ta_128 (.inl rfl) rfl rfl) ?_
      refine AQ.step rfl rfl rfl (sp_aggneq rfl te_128 (.inl rfl) (.inl rfl) rfl) ?_
      refine AQ.nil ?_
      refine hK12 _ ?_
      refine AW.cond rfl (fun hc3 => ?_) (fun hc3 => ?_)
      · have h7 := ite_t hc3 h6
        refine AW.seq_w fun K13 hK13 wK13 => ?_
        refine AW.weak (s' := ⟨[], [], (i3 0), 26⟩) (by exact Weak.cv trivial trivial (Nat.le_refl _)) ?_
        refine AW.region ?_
        refine AOps.step rfl rfl rfl (OpQ.spec (sp_assign rfl (.inl rfl)) _) ?_
        refine AOps.nil ?_
        refine hK13 _ ?_
        refine AW.ret ?_
        exact retf1 (P := Try.prog) (fun (r : Bool) => .r (.bool r)) (he1 _ (hx1 _ (Option.some.inj h7).symm)) (.inl rfl) (.t (.d rfl))
      · have h7 := ite_f hc3 h6
        refine AW.skip ?_
        refine hK10 _ ?_
        refine AW.weak (s' := ⟨[(0, .r (.sl (a1.map GAttr.row))), (1, .r (.sl (b1.map GAttr.row))), (12, .r (.int .i64 (a1.length : Int))), (13, .r (.int .i64 x2))], [], (i3 0), 26⟩) (by exact Weak.cv ⟨.inl (.inl rfl), .inl (.inl rfl), .inl (.inl rfl), .inl (.inl rfl), trivial⟩ trivial (Nat.le_refl _)) ?_
        refine AW.region ?_
        refine ob1k h7 fun x6 ex6 h8 => ?_
        refine AOps.step rfl rfl rfl (OpQ.spec (ms_add rfl (.inl rfl) (.inl rfl) (fun _ => ex6)) _) ?_
        refine AOps.step rfl rfl rfl (OpQ.spec (sp_move rfl (.inl rfl)) _) ?_
        refine AOps.nil ?_
        exact NextQ1.mk h8 (vec [(i3 0)]) ((by exact Weak.cv ⟨.inl (.inl rfl), .inl (.inl rfl), .inl (.inl rfl), .inl (.inl rfl), trivial⟩ trivial (Nat.le_refl _)))
    · have h4 := ite_f hc2 h3
      refine AW.exit ?_
      exact wK5 _ _ ((by exact Weak.cv trivial trivial (Nat.le_refl _))) (J1 _ (vec [(i3 0)]) (hx1 _ (Option.some.inj h4).symm))
set_option maxHeartbeats 4000000 in
set_option maxRecDepth 20000 in
theorem w_ref_DeltaOf {a1 : Ref_Act} {r : (List GStep)} (h : ref_DeltaOf a1 = some r) : ARO Try.prog 32 [.agg [.r (.sl (a1.Adds.map (rSl GElem.row))), .r (.sl (a1.Cuts.map rBool)), .r (.sl (a1.Attrs.map (rSl GAttr.row)))]] (.r (.sl (r.map GStep.row))) := by
  unfold ref_DeltaOf at h
  refine ARO.mkF Try.func32 rfl rfl Try.ntmps32 rfl (Nat.le_of_ble_eq_true rfl) fun n0 => ?_
  refine AW.seq_w fun K1 hK1 wK1 => ?_
  refine AW.region ?_
  refine AOps.step rfl rfl rfl (ms_box (cs := [.r (.sl (a1.Adds.map (rSl GElem.row))), .r (.sl (a1.Cuts.map rBool)), .r (.sl (a1.Attrs.map (rSl GAttr.row)))]) 1 rfl (.inl rfl) rfl rfl) ?_
  refine AOps.step rfl rfl rfl (OpQ.spec (sp_assign rfl (.inl rfl)) _) ?_
  refine AOps.nil ?_
  refine hK1 _ ?_
  refine AW.seq_w fun K2 hK2 wK2 => ?_
  refine AW.region ?_
  refine AOps.step rfl rfl rfl (OpQ.spec (sp_assign rfl (.inl rfl)) _) ?_
  refine AOps.nil ?_
  refine hK2 _ ?_
  refine AW.seq_w fun K3 hK3 wK3 => ?_
  refine AW.region ?_
  refine AOps.step rfl rfl rfl (OpQ.spec (sp_assign rfl (.inl rfl)) _) ?_
  refine AOps.nil ?_
  refine hK3 _ ?_
  refine AW.seq_w fun K4 hK4 wK4 => ?_
  refine AW.region ?_
  refine AOps.step rfl rfl rfl (OpQ.spec (sp_assign rfl (.inl rfl)) _) ?_
  refine AOps.nil ?_
  refine hK4 _ ?_
  refine AW.seq_w fun K5 hK5 wK5 => ?_
  refine AW.seq_w fun K6 hK6 wK6 => ?_
  refine AW.region ?_
  refine AOps.step rfl rfl rfl (OpQ.spec (sp_assign rfl (.inl rfl)) _) ?_
  refine AOps.nil ?_
  refine hK6 _ ?_
  refine AW.block ?_
  refine jb1k h fun o1 hit1 hk1 => ?_
  have J1 : ∀ (out4 : List GStep) (i8 : Nat → Nat), o1 = out4 → K5 ⟨[(3, .own 5003 (i8 0))], [(5003, some (.arr (i8 0) 49 4 (out4.map GStep.row)))], (i8 1), 100⟩ := by
    intro out4 i8 e
    have h1 := hk1 _ e
    refine hK5 _ ?_
    refine AW.seq_w fun K7 hK7 wK7 => ?_
    refine AW.region ?_
    refine AOps.step rfl rfl rfl (OpQ.spec (sp_move rfl (.inl rfl)) _) ?_
    refine AOps.step rfl rfl rfl (OpQ.spec (sp_assign rfl (.inl rfl)) _) ?_
    refine AOps.nil ?_
    refine hK7 _ ?_
    refine AW.ret ?_
    exact retf1 (P := Try.prog) (fun (r : (List GStep)) => .r (.sl (r.map GStep.row))) h1 (.inl rfl) (.t (.one (.own rfl)))
  refine AW.iter4 (fun (cuts2 : Int) (i4 : Int) (out2 : List GStep) (adds2 : List GElem) i5 => ⟨[(1, .ptr 1 n0 0 0), (3, .own 5003 (i5 0)), (4, .own 5004 (i5 1)), (5, .r (.int .i64 cuts2)), (6, .r (.int .i64 i4))], [(1, some (.box n0 34 [.r (.sl (a1.Adds.map (rSl GElem.row))), .r (.sl (a1.Cuts.map rBool)), .r (.sl (a1.Attrs.map (rSl GAttr.row)))])), (5003, some (.arr (i5 0) 49 4 (out2.map GStep.row))), (5004, some (.arr (i5 1) 113 3 (adds2.map GElem.row)))], (i5 2), 100⟩) (vec [(n0 + 1), (n0 + 2), (n0 + 3)]) hit1 (Weak.trans (Weak.trans (Weak.adopt 3 5003 49 4 (by decide) rfl) (by exact Weak.cv (e' := [(0, .agg [.r (.sl (a1.Adds.map (rSl GElem.row))), .r (.sl (a1.Cuts.map rBool)), .r (.sl (a1.Attrs.map (rSl GAttr.row)))]), (1, .ptr 1 n0 0 0), (2, .cst (.slice none 0 0)), (3, .own 5003 (n0 + 1)), (4, .cst (.slice none 0 0)), (5, .r (.int .i64 0)), (6, .r (.int .i64 0))]) (h' := [(1, some (.box n0 34 [.r (.sl (a1.Adds.map (rSl GElem.row))), .r (.sl (a1.Cuts.map rBool)), .r (.sl (a1.Attrs.map (rSl GAttr.row)))])), (5003, some (.arr (n0 + 1) 49 4 (([] : List GStep).map GStep.row)))]) ⟨.inl (.inl rfl), .inl (.inl rfl), .inl (.inl rfl), .inl (.inl rfl), .inl (.inl rfl), .inl (.inl rfl), .inl (.inl rfl), trivial⟩ ⟨.inl rfl, .inl rfl, trivial⟩ (Nat.le_refl _))) (Weak.trans (Weak.trans (Weak.adopt 4 5004 113 3 (by decide) rfl) (by exact Weak.cv (e' := [(0, .agg [.r (.sl (a1.Adds.map (rSl GElem.row))), .r (.sl (a1.Cuts.map rBool)), .r (.sl (a1.Attrs.map (rSl GAttr.row)))]), (1, .ptr 1 n0 0 0), (2, .cst (.slice none 0 0)), (3, .own 5003 (n0 + 1)), (4, .own 5004 (n0 + 2)), (5, .r (.int .i64 0)), (6, .r (.int .i64 0))]) (h' := [(1, some (.box n0 34 [.r (.sl (a1.Adds.map (rSl GElem.row))), .r (.sl (a1.Cuts.map rBool)), .r (.sl (a1.Attrs.map (rSl GAttr.row)))])), (5003, some (.arr (n0 + 1) 49 4 (([] : List GStep).map GStep.row))), (5004, some (.arr (n0 + 2) 113 3 (([] : List GElem).map GElem.row)))]) ⟨.inl (.inl rfl), .inl (.inl rfl), .inl (.inl rfl), .inl (.inl rfl), .inl (.inl rfl), .inl (.inl rfl), .inl (.inl rfl), trivial⟩ ⟨.inl rfl, .inl rfl, .inl rfl, trivial⟩ (Nat.le_refl _))) (by exact Weak.cv ⟨.inl (.inl rfl), .inl (.inl rfl), .inl (.inl rfl), .inl (.inl rfl), .inl (.inl rfl), trivial⟩ ⟨.inl rfl, .inl rfl, .inl rfl, trivial⟩ (Nat.le_refl _)))) ?_
  intro cuts2 i4 out2 adds2 i5 v1 hv1 hx1
  have h2 : ref_DeltaOf_L1 a1 cuts2 i4 out2 adds2 = some v1 := hv1; unfold ref_DeltaOf_L1 at h2
  refine AW.seq_w fun K8 hK8 wK8 => ?_
  refine AW.seq_w fun K9 hK9 wK9 => ?_
  refine AW.region ?_
  refine AOps.step rfl rfl rfl (OpQ.spec (sp_move rfl (.inl rfl)) _) ?_
  refine AOps.step rfl rfl rfl (OpQ.spec (sp_fieldAddr_own (ob := .box _ _ _) rfl tf_34_1 (.inl rfl) (fun _ => rfl) rfl) _) ?_
  refine AOps.step rfl rfl rfl (OpQ.spec (ms_load_box (a := .r (.sl (a1.Cuts.map rBool))) rfl ts_31 (.inl rfl) rfl rfl) _) ?_
  refine AOps.step rfl rfl rfl (OpQ.spec (ms_len rfl tg_31.slice (.inl rfl)) _) ?_
  refine AOps.step rfl rfl rfl (OpQ.spec (sp_leq rfl (.inl rfl) (.inl rfl)) _) ?_
  refine AOps.nil ?_
  refine hK9 _ ?_
  refine AW.cond rfl (fun hc1 => ?_) (fun hc1 => ?_)
  · have h3 := ite_t hc1 h2
    refine AW.skip ?_
    refine hK8 _ ?_
    refine AW.seq_w fun K10 hK10 wK10 => ?_
    refine AW.block ?_
    refine jc3k h3 fun p1 hp1 hk2 he2 => ?_
    have J2 : ∀ (cuts4 : Int) (out5 : List GStep) (adds4 : List GElem) (i9 : Nat → Nat), p1 = .nrm (cuts4, out5, adds4) → K10 ⟨[(1, .ptr 1 n0 0 0), (3, .own 5003 (i9 0)), (4, .own 5004 (i9 1)), (5, .r (.int .i64 cuts4)), (6, .r (.int .i64 i4))], [(1, some (.box n0 34 [.r (.sl (a1.Adds.map (rSl GElem.row))), .r (.sl (a1.Cuts.map rBool)), .r (.sl (a1.Attrs.map (rSl GAttr.row)))])), (5003, some (.arr (i9 0) 49 4 (out5.map GStep.row))), (5004, some (.arr (i9 1) 113 3 (adds4.map GElem.row)))], (i9 2), 100⟩ := by
      intro cuts4 out5 adds4 i9 e
      have h4 := hk2 _ _ _ e
      refine hK10 _ ?_
      refine AW.region ?_
      refine AOps.step rfl rfl rfl (OpQ.spec (sp_move rfl (.inl rfl)) _) ?_
      refine ob1k h4 fun i10 ei10 h5 => ?_
      refine AOps.step rfl rfl rfl (OpQ.spec (ms_add rfl (.inl rfl) (.inl rfl) (fun _ => ei10)) _) ?_
      refine AOps.step rfl rfl rfl (OpQ.spec (sp_assign rfl (.inl rfl)) _) ?_
      refine AOps.nil ?_
      exact NextQ4.mk h5 (vec [(i9 0), (i9 1), (i9 2)]) ((by exact Weak.cv ⟨.inl (.inl rfl), .inl (.inl rfl), .inl (.inl rfl), .inl (.inl rfl), .inl (.inl rfl), trivial⟩ ⟨.inl rfl, .inl rfl, .inl rfl, trivial⟩ (Nat.le_refl _)))
    refine AW.seq_w fun K11 hK11 wK11 => ?_
    refine AW.region ?_
    refine AOps.step rfl rfl rfl (OpQ.spec (sp_move rfl (.inl rfl)) _) ?_
    refine AOps.step rfl rfl rfl (OpQ.spec (sp_fieldAddr_own (ob := .box _ _ _) rfl tf_34_0 (.inl rfl) (fun _ => rfl) rfl) _) ?_
    refine AOps.step rfl rfl rfl (OpQ.spec (ms_load_box (a := .r (.sl (a1.Adds.map (rSl GElem.row)))) rfl ts_30 (.inl rfl) rfl rfl) _) ?_
    refine AOps.step rfl rfl rfl (OpQ.spec (sp_move rfl (.inl rfl)) _) ?_
    refine ob1k hp1 fun x1 ex1 h6 => ?_
    refine AOps.step rfl rfl rfl (OpQ.spec (ms_idx rfl tg_30.slice (.inl rfl) (.inl rfl) (fun _ => rfl) (fun _ => ex1)) _) ?_
    refine AOps.step rfl rfl rfl (OpQ.spec (ms_load (d := .sl (x1.map GElem.row)) rfl ts_39 (.inl rfl) rfl) _) ?_
    refine ob1k h6 fun adds5 eadds5 h7 => ?_
    refine AOps.step rfl rfl rfl (ms_app rfl tg_39 (.inl rfl) rfl (.inl ⟨(.inl rfl), fun _ => rfl⟩) eadds5) ?_
    refine AOps.step rfl rfl rfl (OpQ.spec (sp_assign rfl (.inl rfl)) _) ?_
    refine AOps.nil ?_
    refine hK11 _ ?_
    refine AW.seq_w fun K12 hK12 wK12 => ?_
    refine AW.seq_w fun K13 hK13 wK13 => ?_
    refine AW.weak (s' := ⟨[(1, .ptr 1 n0 0 0), (3, .own 5003 (i5 0)), (4, .own 5004 (i5 2)), (5, .r (.int .i64 cuts2)), (6, .r (.int .i64 i4))], [(1, some (.box n0 34 [.r (.sl (a1.Adds.map (rSl GElem.row))), .r (.sl (a1.Cuts.map rBool)), .r (.sl (a1.Attrs.map (rSl GAttr.row)))])), (5003, some (.arr (i5 0) 49 4 (out2.map GStep.row))), (5004, some (.arr (i5 2) 113 3 (adds5.map GElem.row)))], ((i5 2) + 1), 100⟩) (by exact Weak.cv ⟨.inl (.inl rfl), .inl (.inl rfl), .inl (.inl rfl), .inl (.inl rfl), .inl (.inl rfl), trivial⟩ ⟨.inl rfl, .inl rfl, .inl rfl, trivial⟩ (Nat.le_refl _)) ?_
    refine AW.region ?_
    refine AOps.step rfl rfl rfl (OpQ.spec (sp_move rfl (.inl rfl)) _) ?_
    refine AOps.step rfl rfl rfl (OpQ.spec (sp_fieldAddr_own (ob := .box _ _ _) rfl tf_34_1 (.inl rfl) (fun _ => rfl) rfl) _) ?_
    refine AOps.step rfl rfl rfl (OpQ.spec (ms_load_box (a := .r (.sl (a1.Cuts.map rBool))) rfl ts_31 (.inl rfl) rfl rfl) _) ?_
    refine AOps.step rfl rfl rfl (OpQ.spec (ms_len rfl tg_31.slice (.inl rfl)) _) ?_
    refine AOps.step rfl rfl rfl (OpQ.spec (sp_lss rfl (.inl rfl) (.inl rfl)) _) ?_
    refine AOps.step rfl rfl rfl (OpQ.spec (sp_move rfl (.inl rfl)) _) ?_
    refine AOps.stepW (.one rfl rfl rfl) rfl rfl (OpQ.spec (sp_fieldAddr_own (ob := .box _ _ _) rfl tf_34_1 (.inl rfl) (fun _ => rfl) rfl) _) ?_
    refine AOps.stepW (.one rfl rfl rfl) rfl rfl (OpQ.spec (ms_load_box (a := .r (.sl (a1.Cuts.map rBool))) rfl ts_31 (.inr ⟨_, (by exact id), rfl⟩) rfl rfl) _) ?_
    refine AOps.stepW (.one rfl rfl rfl) rfl rfl (OpQ.spec (sp_move rfl (.inl rfl)) _) ?_
    refine ob1k h7 fun x2 ex2 h8 => ?_
    refine AOps.stepW (.one rfl rfl rfl) rfl rfl (OpQ.spec (ms_idx rfl tg_31.slice (.inr ⟨_, (by exact id), rfl⟩) (.inr ⟨_, (by exact id), rfl⟩) (fun _ => rfl) (gdt ex2)) _) ?_
    refine AOps.stepW (.one rfl rfl rfl) rfl rfl (OpQ.spec (ms_load (d := .bool x2) rfl ts_4 (.inr ⟨_, (by exact id), rfl⟩) rfl) _) ?_
    refine AOps.step rfl rfl rfl (OpQ.spec (sp_and rfl (.inl rfl) (.inr ⟨_, (by exact id), rfl⟩)) _) ?_
    refine AOps.nil ?_
    refine hK13 _ ?_
    refine AW.cond rfl (fun hc2 => ?_) (fun hc2 => ?_)
    · have h9 := ite_t hc2 h8
      refine AW.seq_w fun K14 hK14 wK14 => ?_
      refine AW.region ?_
      refine AOps.step rfl rfl rfl (OpQ.spec (sp_move rfl (.inl rfl)) _) ?_
      refine ob1k h9 fun cuts5 ecuts5 h10 => ?_
      refine AOps.step rfl rfl rfl (OpQ.spec (ms_add rfl (.inl rfl) (.inl rfl) (fun _ => ecuts5)) _) ?_
      refine AOps.step rfl rfl rfl (OpQ.spec (sp_assign rfl (.inl rfl)) _) ?_
      refine AOps.nil ?_
      refine hK14 _ ?_
      refine AW.exit ?_
      exact wK10 _ _ ((by exact Weak.cv ⟨.inl (.inl rfl), .inl (.inl rfl), .inl (.inl rfl), .inl (.inl rfl), .inl (.inl rfl), trivial⟩ ⟨.inl rfl, .inl rfl, .inl rfl, trivial⟩ (Nat.le_refl _))) (J2 _ _ _ (vec [(i5 0), (i5 2), ((i5 2) + 1)]) (Option.some.inj h10).symm)
    · have h9 := ite_f hc2 h8
      refine AW.skip ?_
      refine hK12 _ ?_
      refine AW.seq_w fun K15 hK15 wK15 => ?_
      refine AW.seq_w fun K16 hK16 wK16 => ?_
      refine AW.region ?_
      refine AOps.step rfl rfl rfl (OpQ.spec (sp_move rfl (.inl rfl)) _) ?_
      refine AOps.step rfl rfl rfl (OpQ.spec (ms_len_own rfl tg_39.slice (.inl rfl) rfl) _) ?_
      refine AOps.step rfl rfl rfl (OpQ.spec (sp_gtr rfl (.inl rfl) (.inl rfl)) _) ?_
      refine AOps.nil ?_
      refine hK16 _ ?_
      refine jb1k h9 fun p2 hp2 hk3 => ?_
      have J3 : ∀ (out6 : List GStep) (i11 : Nat → Nat), p2 = out6 → K15 ⟨[(1, .ptr 1 n0 0 0), (3, .own 5003 (i11 0)), (5, .r (.int .i64 cuts2)), (6, .r (.int .i64 i4))], [(1, some (.box n0 34 [.r (.sl (a1.Adds.map (rSl GElem.row))), .r (.sl (a1.Cuts.map rBool)), .r (.sl (a1.Attrs.map (rSl GAttr.row)))])), (5003, some (.arr (i11 0) 49 4 (out6.map GStep.row)))], (i11 1), 100⟩ := by
        intro out6 i11 e
        have h11 := hk3 _ e
        refine hK15 _ ?_
        refine AW.seq_w fun K17 hK17 wK17 => ?_
        refine AW.seq_w fun K18 hK18 wK18 => ?_
        refine AW.region ?_
        refine AOps.step rfl rfl rfl (OpQ.spec (sp_move rfl (.inl rfl)) _) ?_
        refine AOps.step rfl rfl rfl (OpQ.spec (sp_gtr rfl (.inl rfl) (.inl rfl)) _) ?_
        refine AOps.nil ?_
        refine hK18 _ ?_
        refine jb1k h11 fun p3 hp3 hk4 => ?_
        have J4 : ∀ (out7 : List GStep) (i12 : Nat → Nat), p3 = out7 → K17 ⟨[(1, .ptr 1 n0 0 0), (3, .own 5003 (i12 0)), (6, .r (.int .i64 i4))], [(1, some (.box n0 34 [.r (.sl (a1.Adds.map (rSl GElem.row))), .r (.sl (a1.Cuts.map rBool)), .r (.sl (a1.Attrs.map (rSl GAttr.row)))])), (5003, some (.arr (i12 0) 49 4 (out7.map GStep.row)))], (i12 1), 100⟩ := by
          intro out7 i12 e
          have h12 := hk4 _ e
          refine hK17 _ ?_
          refine AW.seq_w fun K19 hK19 wK19 => ?_
          refine AW.region ?_
          refine AOps.step rfl rfl rfl (OpQ.spec (sp_assign rfl (.inl rfl)) _) ?_
          refine AOps.step rfl rfl rfl (OpQ.spec (sp_assign rfl (.inl rfl)) _) ?_
          refine AOps.nil ?_
          refine hK19 _ ?_
          refine AW.seq_w fun K20 hK20 wK20 => ?_
          refine AW.seq_w fun K21 hK21 wK21 => ?_
          refine AW.region ?_
          refine AOps.step rfl rfl rfl (OpQ.spec (sp_move rfl (.inl rfl)) _) ?_
          refine AOps.step rfl rfl rfl (OpQ.spec (sp_fieldAddr_own (ob := .box _ _ _) rfl tf_34_1 (.inl rfl) (fun _ => rfl) rfl) _) ?_
          refine AOps.step rfl rfl rfl (OpQ.spec (ms_load_box (a := .r (.sl (a1.Cuts.map rBool))) rfl ts_31 (.inl rfl) rfl rfl) _) ?_
          refine AOps.step rfl rfl rfl (OpQ.spec (ms_len rfl tg_31.slice (.inl rfl)) _) ?_
          refine AOps.step rfl rfl rfl (OpQ.spec (sp_eql rfl (.inl rfl) (.inl rfl)) _) ?_
          refine AOps.nil ?_
          refine hK21 _ ?_
          refine AW.cond rfl (fun hc3 => ?_) (fun hc3 => ?_)
          · have h13 := ite_t hc3 h12
            refine AW.exit ?_
            exact wK5 _ _ ((by exact Weak.cv ⟨.inl (.inl rfl), trivial⟩ ⟨.inl rfl, trivial⟩ (Nat.le_refl _))) (J1 _ (vec [(i12 0), (i12 1)]) (hx1 _ (Option.some.inj (he2 _ (Option.some.inj h13).symm)).symm))
          · have h13 := ite_f hc3 h12
            refine AW.skip ?_
            refine hK20 _ ?_
            refine AW.seq_w fun K22 hK22 wK22 => ?_
            refine AW.region ?_
            refine AOps.step rfl rfl rfl (OpQ.spec (sp_move rfl (.inl rfl)) _) ?_
            refine AOps.step rfl rfl rfl (OpQ.spec (ms_len_own rfl tg_42.slice (.inl rfl) rfl) _) ?_
            refine ob1k h13 fun k1 ek1 h14 => ?_
            refine AOps.step rfl rfl rfl (OpQ.spec (ms_sub rfl (.inl rfl) (.inl rfl) (fun _ => ek1)) _) ?_
            refine AOps.step rfl rfl rfl (OpQ.spec (sp_assign rfl (.inl rfl)) _) ?_
            refine AOps.nil ?_
            refine hK22 _ ?_
            refine AW.seq_w fun K23 hK23 wK23 => ?_
            refine AW.regionQ hmix (by kernel_rfl) ?_
            refine AQ.step rfl rfl rfl (sp_move rfl (.inl rfl)) ?_
            refine AQ.step rfl rfl rfl (sp_geq rfl (.inl rfl) (.inl rfl)) ?_
            refine AQ.step rfl rfl rfl (sp_move rfl (.inl rfl)) ?_
            refine AQ.stepW (.one rfl rfl rfl) rfl rfl (sp_move rfl (.inl rfl)) ?_
            refine AQ.stepW (.one rfl rfl rfl) rfl rfl (sp_move rfl (.inl rfl)) ?_
            refine ob1k h14 fun x3 ex3 h15 => ?_
            refine AQ.stepW (.one rfl rfl rfl) rfl rfl (ms_idx_own rfl tg_42.slice (.inr ⟨_, (by exact id), rfl⟩) rfl (.inr ⟨_, (by exact id), rfl⟩) (gdt ex3)) ?_
            refine AQ.stepW (.one rfl rfl rfl) rfl rfl (sp_fieldAddr_own (ob := .arr _ _ _ _) rfl tf_49_0 (.inr ⟨_, (by exact id), rfl⟩) (fun _ => rfl) rfl) ?_
            refine AQ.stepW (.one rfl rfl rfl) rfl rfl (ms_load_own (d := .int .i64 x3.Kind) rfl ts_3 (.inr ⟨_, (by exact id), rfl⟩) (fun _ => rfl) (gdt ex3) rfl) ?_
            refine AQ.stepW (.one rfl rfl rfl) rfl rfl (sp_eql rfl (.inr ⟨_, (by exact id), rfl⟩) (.inl rfl)) ?_
            refine AQ.step rfl rfl rfl (sp_and rfl (.inl rfl) (.inr ⟨_, (by exact id), rfl⟩)) ?_
            refine AQ.step rfl rfl rfl (sp_move rfl (.inl rfl)) ?_
            refine AQ.stepW (.one rfl rfl rfl) rfl rfl (sp_move rfl (.inl rfl)) ?_
            refine AQ.stepW (.one rfl rfl rfl) rfl rfl (sp_move rfl (.inl rfl)) ?_
            refine ob1k h15 fun x4 ex4 h16 => ?_
            refine AQ.stepW (.one rfl rfl rfl) rfl rfl (ms_idx_own rfl tg_42.slice (.inr ⟨_, (by exact id), rfl⟩) rfl (.inr ⟨_, (by exact id), rfl⟩) (gdt ex4)) ?_
            refine AQ.stepW (.one rfl rfl rfl) rfl rfl (sp_fieldAddr_own (ob := .arr _ _ _ _) rfl tf_49_2 (.inr ⟨_, (by exact id), rfl⟩) (fun _ => rfl) rfl) ?_
            refine AQ.stepW (.one rfl rfl rfl) rfl rfl (ms_load_own (d := .sl (x4.Attrs.map GAttr.row)) rfl ts_47 (.inr ⟨_, (by exact id), rfl⟩) (fun _ => rfl) (gdt ex4) rfl) ?_
            refine AQ.stepW (.one rfl rfl rfl) rfl rfl (sp_fieldAddr_own (ob := .box _ _ _) rfl tf_34_2 (.inl rfl) (fun _ => rfl) rfl) ?_
            refine AQ.stepW (.one rfl rfl rfl) rfl rfl (ms_load_box (a := .r (.sl (a1.Attrs.map (rSl GAttr.row)))) rfl ts_32 (.inr ⟨_, (by exact id), rfl⟩) rfl rfl) ?_
            refine AQ.stepW (.one rfl rfl rfl) rfl rfl (sp_move rfl (.inl rfl)) ?_
            refine ob1k h16 fun x5 ex5 h17 => ?_
            refine AQ.stepW (.one rfl rfl rfl) rfl rfl (ms_idx rfl tg_32.slice (.inr ⟨_, (by exact id), rfl⟩) (.inr ⟨_, (by exact id), rfl⟩) (fun _ => rfl) (gdt ex5)) ?_
            refine AQ.stepW (.one rfl rfl rfl) rfl rfl (ms_load (d := .sl (x5.map GAttr.row)) rfl ts_47 (.inr ⟨_, (by exact id), rfl⟩) rfl) ?_
            refine ob1k h17 fun r1 er1 h18 => ?_
            refine AQ.stepWC (.one rfl rfl rfl) rfl rfl (r := .r (.bool r1)) (caps := []) (bs := [.r (.sl (x4.Attrs.map GAttr.row)), .r (.sl (x5.map GAttr.row))]) rfl (.inl rfl) rfl ⟨⟨_, (.inr ⟨_, (by exact id), rfl⟩), .d rfl⟩, ⟨_, (.inr ⟨_, (by exact id), rfl⟩), .d rfl⟩, trivial⟩ (fun hg => w_ref_SameAttrs (gdt er1 hg)) rfl ?_
            refine AQ.step rfl rfl rfl (sp_and rfl (.inl rfl) (.inr ⟨_, (by exact id), rfl⟩)) ?_
            refine AQ.nil ?_
            refine hK23 _ ?_
            refine AW.cond rfl (fun hc4 => ?_) (fun hc4 => ?_)
            · have h19 := ite_t hc4 h18
              refine AW.weak (s' := ⟨[(1, .ptr 1 n0 0 0), (3, .own 5003 (i12 0)), (4, .cst (.slice none 0 0)), (5, .r (.int .i64 0)), (6, .r (.int .i64 i4)), (7, .r (.int .i64 k1))], [(1, some (.box n0 34 [.r (.sl (a1.Adds.map (rSl GElem.row))), .r (.sl (a1.Cuts.map rBool)), .r (.sl (a1.Attrs.map (rSl GAttr.row)))])), (5003, some (.arr (i12 0) 49 4 (out7.map GStep.row)))], (i12 1), 100⟩) (by exact Weak.cv ⟨.inl (.inl rfl), .inl (.inl rfl), .inl (.inl rfl), .inl (.inl rfl), .inl (.inl rfl), .inl (.inl rfl), trivial⟩ ⟨.inl rfl, .inl rfl, trivial⟩ (Nat.le_refl _)) ?_
              refine AW.region ?_
              refine AOps.step rfl rfl rfl (OpQ.spec (sp_move rfl (.inl rfl)) _) ?_
              refine AOps.step rfl rfl rfl (OpQ.spec (sp_move rfl (.inl rfl)) _) ?_
              refine ob1k h19 fun x6 ex6 h20 => ?_
              refine AOps.step rfl rfl rfl (OpQ.spec (ms_idx_own rfl tg_42.slice (.inl rfl) rfl (.inl rfl) (fun _ => ex6)) _) ?_
              refine AOps.step rfl rfl rfl (OpQ.spec (sp_fieldAddr_own (ob := .arr _ _ _ _) rfl tf_49_1 (.inl rfl) (fun _ => rfl) rfl) _) ?_
              refine AOps.step rfl rfl rfl (OpQ.spec (ms_load_own (d := .int .i64 x6.N) rfl ts_3 (.inl rfl) (fun _ => rfl) (fun _ => ex6) rfl) _) ?_
              refine ob1k h20 fun x7 ex7 h21 => ?_
              refine AOps.step rfl rfl rfl (OpQ.spec (ms_add rfl (.inl rfl) (.inl rfl) (fun _ => ex7)) _) ?_
              refine AOps.step rfl rfl rfl (OpQ.spec (ms_idx_own rfl tg_42.slice (.inl rfl) rfl (.inl rfl) (fun _ => ex6)) _) ?_
              refine AOps.step rfl rfl rfl (OpQ.spec (sp_fieldAddr_own (ob := .arr _ _ _ _) rfl tf_49_1 (.inl rfl) (fun _ => rfl) rfl) _) ?_
              refine AOps.step0 rfl rfl (ms_store (v := (GStep.mk x6.Kind x7 x6.Attrs x6.Elems)) rfl tz_3 (.inl rfl) rfl ex6 (.inl rfl) rfl rfl rfl rfl) ?_
              refine AOps.nil ?_
              exact wK10 _ _ (Weak.trans (Weak.trans (Weak.adopt 4 5004 113 3 (by decide) rfl) (by exact Weak.cv (e' := [(1, .ptr 1 n0 0 0), (3, .own 5003 (i12 0)), (4, .own 5004 (i12 1)), (5, .r (.int .i64 0)), (6, .r (.int .i64 i4)), (7, .r (.int .i64 k1)), (82, .own 5003 (i12 0)), (83, .r (.int .i64 k1)), (84, .ptr 5003 (i12 0) k1.toNat 0), (85, .ptr 5003 (i12 0) k1.toNat 1), (86, .r (.int .i64 x6.N)), (87, .r (.int .i64 x7)), (88, .ptr 5003 (i12 0) k1.toNat 0), (89, .ptr 5003 (i12 0) k1.toNat 1)]) (h' := [(1, some (.box n0 34 [.r (.sl (a1.Adds.map (rSl GElem.row))), .r (.sl (a1.Cuts.map rBool)), .r (.sl (a1.Attrs.map (rSl GAttr.row)))])), (5003, some (.arr (i12 0) 49 4 ((out7.set k1.toNat (GStep.mk x6.Kind x7 x6.Attrs x6.Elems)).map GStep.row))), (5004, some (.arr (i12 1) 113 3 (([] : List GElem).map GElem.row)))]) ⟨.inl (.inl rfl), .inl (.inl rfl), .inl (.inl rfl), .inl (.inl rfl), .inl (.inl rfl), .inl (.inl rfl), .inl (.inl rfl), .inl (.inl rfl), .inl (.inl rfl), .inl (.inl rfl), .inl (.inl rfl), .inl (.inl rfl), .inl (.inl rfl), .inl (.inl rfl), trivial⟩ ⟨.inl rfl, .inl rfl, .inl rfl, trivial⟩ (Nat.le_refl _))) (by exact Weak.cv ⟨.inl (.inl rfl), .inl (.inl rfl), .inl (.inl rfl), .inl (.inl rfl), .inl (.inl rfl), trivial⟩ ⟨.inl rfl, .inl rfl, .inl rfl, trivial⟩ (Nat.le_refl _))) (J2 _ _ _ (vec [(i12 0), (i12 1), ((i12 1) + 1)]) (Option.some.inj h21).symm)
            · have h19 := ite_f hc4 h18
              refine AW.weak (s' := ⟨[(1, .ptr 1 n0 0 0), (3, .own 5003 (i12 0)), (4, .cst (.slice none 0 0)), (5, .r (.int .i64 0)), (6, .r (.int .i64 i4))], [(1, some (.box n0 34 [.r (.sl (a1.Adds.map (rSl GElem.row))), .r (.sl (a1.Cuts.map rBool)), .r (.sl (a1.Attrs.map (rSl GAttr.row)))])), (5003, some (.arr (i12 0) 49 4 (out7.map GStep.row)))], (i12 1), 100⟩) (by exact Weak.cv ⟨.inl (.inl rfl), .inl (.inl rfl), .inl (.inl rfl), .inl (.inl rfl), .inl (.inl rfl), trivial⟩ ⟨.inl rfl, .inl rfl, trivial⟩ (Nat.le_refl _)) ?_
              refine AW.region ?_
              refine AOps.step rfl rfl rfl (OpQ.spec (sp_move rfl (.inl rfl)) _) ?_
              refine AOps.step rfl rfl rfl (OpQ.spec (sp_fieldAddr_own (ob := .box _ _ _) rfl tf_34_2 (.inl rfl) (fun _ => rfl) rfl) _) ?_
              refine AOps.step rfl rfl rfl (OpQ.spec (ms_load_box (a := .r (.sl (a1.Attrs.map (rSl GAttr.row)))) rfl ts_32 (.inl rfl) rfl rfl) _) ?_
              refine AOps.step rfl rfl rfl (OpQ.spec (sp_move rfl (.inl rfl)) _) ?_
              refine ob1k h19 fun x8 ex8 h22 => ?_
              refine AOps.step rfl rfl rfl (OpQ.spec (ms_idx rfl tg_32.slice (.inl rfl) (.inl rfl) (fun _ => rfl) (fun _ => ex8)) _) ?_
              refine AOps.step rfl rfl rfl (OpQ.spec (ms_load (d := .sl (x8.map GAttr.row)) rfl ts_47 (.inl rfl) rfl) _) ?_
              refine AOps.step rfl rfl rfl (OpQ.spec (sp_build rfl tb_49 (q := [(0, _), (1, _), (2, _)]) (by exact ⟨rfl, rfl, rfl, (.inl rfl), rfl, rfl, rfl, (.inl rfl), rfl, rfl, rfl, (.inl rfl), trivial⟩) (cs := [.r (.int .i64 0), .r (.int .i64 1), .r (.sl (x8.map GAttr.row)), .cst (.slice none 0 0)]) (by rfl)) _) ?_
              refine AOps.step rfl rfl rfl (ms_lit 97 rfl tg_42 (f := GStep.row) (l := ([(GStep.mk 0 1 x8 [])] : List GStep)) ⟨rfl, ⟨_, (.inl rfl), rfl⟩, trivial⟩ rfl (fun _ => rfl) rfl) ?_
              refine ob1k h22 fun out8 eout8 h23 => ?_
              refine AOps.step rfl rfl rfl (ms_app rfl tg_42 (.inl rfl) rfl (.inr (.inl ⟨_, _, (.inl rfl), rfl⟩)) eout8) ?_
              refine AOps.step rfl rfl rfl (OpQ.spec (sp_assign rfl (.inl rfl)) _) ?_
              refine AOps.nil ?_
              exact wK10 _ _ (Weak.trans (Weak.trans (Weak.adopt 4 5004 113 3 (by decide) rfl) (by exact Weak.cv (e' := [(1, .ptr 1 n0 0 0), (3, .own 5003 ((i12 1) + 1)), (4, .own 5004 ((i12 1) + 2)), (5, .r (.int .i64 0)), (6, .r (.int .i64 i4)), (91, .ptr 1 n0 0 2), (92, .r (.sl (a1.Attrs.map (rSl GAttr.row)))), (93, .r (.int .i64 i4)), (94, .rop ((rSl GAttr.row) x8) 0), (95, .r (.sl (x8.map GAttr.row))), (96, .agg [.r (.int .i64 0), .r (.int .i64 1), .r (.sl (x8.map GAttr.row)), .cst (.slice none 0 0)]), (97, .own 97 (i12 1)), (98, .own 5003 ((i12 1) + 1))]) (h' := [(1, some (.box n0 34 [.r (.sl (a1.Adds.map (rSl GElem.row))), .r (.sl (a1.Cuts.map rBool)), .r (.sl (a1.Attrs.map (rSl GAttr.row)))])), (97, some (.arr (i12 1) 49 4 ([(GStep.mk 0 1 x8 [])].map GStep.row))), (5003, some (.arr ((i12 1) + 1) 49 4 (out8.map GStep.row))), (5004, some (.arr ((i12 1) + 2) 113 3 (([] : List GElem).map GElem.row)))]) ⟨.inl (.inl rfl), .inl (.inl rfl), .inl (.inl rfl), .inl (.inl rfl), .inl (.inl rfl), .inl (.inl rfl), .inl (.inl rfl), .inl (.inl rfl), .inl (.inl rfl), .inl (.inl rfl), .inl (.inl rfl), .inl (.inl rfl), .inl (.inl rfl), trivial⟩ ⟨.inl rfl, .inl rfl, .inl rfl, .inl rfl, trivial⟩ (Nat.le_refl _))) (by exact Weak.cv ⟨.inl (.inl rfl), .inl (.inl rfl), .inl (.inl rfl), .inl (.inl rfl), .inl (.inl rfl), trivial⟩ ⟨.inl rfl, .inl rfl, .inl rfl, trivial⟩ (Nat.le_refl _))) (J2 _ _ _ (vec [((i12 1) + 1), ((i12 1) + 2), ((i12 1) + 3)]) (Option.some.inj h23).symm)
        refine AW.cond rfl (fun hc5 => ?_) (fun hc5 => ?_)
        · have h24 := ite_t hc5 hp3
          refine AW.region ?_
          refine AOps.step rfl rfl rfl (OpQ.spec (sp_move rfl (.inl rfl)) _) ?_
          refine AOps.step rfl rfl rfl (OpQ.spec (sp_move rfl (.inl rfl)) _) ?_
          refine AOps.step rfl rfl rfl (OpQ.spec (sp_build rfl tb_49 (q := [(0, _), (1, _)]) (by exact ⟨rfl, rfl, rfl, (.inl rfl), rfl, rfl, rfl, (.inl rfl), trivial⟩) (cs := [.r (.int .i64 2), .r (.int .i64 cuts2), .cst (.slice none 0 0), .cst (.slice none 0 0)]) (by rfl)) _) ?_
          refine AOps.step rfl rfl rfl (ms_lit 49 rfl tg_42 (f := GStep.row) (l := ([(GStep.mk 2 cuts2 [] [])] : List GStep)) ⟨rfl, ⟨_, (.inl rfl), rfl⟩, trivial⟩ rfl (fun _ => rfl) rfl) ?_
          refine ob1k h24 fun out9 eout9 h25 => ?_
          refine AOps.step rfl rfl rfl (ms_app rfl tg_42 (.inl rfl) rfl (.inr (.inl ⟨_, _, (.inl rfl), rfl⟩)) eout9) ?_
          refine AOps.step rfl rfl rfl (OpQ.spec (sp_assign rfl (.inl rfl)) _) ?_
          refine AOps.nil ?_
          exact wK17 _ _ ((by exact Weak.cv ⟨.inl (.inl rfl), .inl (.inl rfl), .inl (.inl rfl), trivial⟩ ⟨.inl rfl, .inl rfl, trivial⟩ (Nat.le_refl _))) (J4 _ (vec [((i11 1) + 1), ((i11 1) + 2)]) (Option.some.inj h25).symm)
        · have h24 := ite_f hc5 hp3
          refine AW.skip ?_
          exact wK17 _ _ ((by exact Weak.cv ⟨.inl (.inl rfl), .inl (.inl rfl), .inl (.inl rfl), trivial⟩ ⟨.inl rfl, .inl rfl, trivial⟩ (Nat.le_refl _))) (J4 _ (vec [(i11 0), (i11 1)]) (Option.some.inj h24).symm)
      refine AW.cond rfl (fun hc6 => ?_) (fun hc6 => ?_)
      · have h26 := ite_t hc6 hp2
        refine AW.weak (s' := ⟨[(1, .ptr 1 n0 0 0), (3, .own 5003 (i5 0)), (4, .own 5004 (i5 2)), (5, .r (.int .i64 cuts2)), (6, .r (.int .i64 i4))], [(1, some (.box n0 34 [.r (.sl (a1.Adds.map (rSl GElem.row))), .r (.sl (a1.Cuts.map rBool)), .r (.sl (a1.Attrs.map (rSl GAttr.row)))])), (5003, some (.arr (i5 0) 49 4 (out2.map GStep.row))), (5004, some (.arr (i5 2) 113 3 (adds5.map GElem.row)))], ((i5 2) + 1), 100⟩) (by exact Weak.cv ⟨.inl (.inl rfl), .inl (.inl rfl), .inl (.inl rfl), .inl (.inl rfl), .inl (.inl rfl), trivial⟩ ⟨.inl rfl, .inl rfl, .inl rfl, trivial⟩ (Nat.le_refl _)) ?_
        refine AW.region ?_
        refine AOps.step rfl rfl rfl (OpQ.spec (sp_move rfl (.inl rfl)) _) ?_
        refine AOps.step rfl rfl rfl (OpQ.spec (sp_move rfl (.inl rfl)) _) ?_
        refine AOps.step rfl rfl rfl (OpQ.spec (sp_build rfl tb_49 (q := [(0, _), (3, _)]) (by exact ⟨rfl, rfl, rfl, (.inl rfl), rfl, rfl, rfl, (.inl rfl), trivial⟩) (cs := [.r (.int .i64 1), .r (.int .i64 0), .cst (.slice none 0 0), .own 5004 (i5 2)]) (by rfl)) _) ?_
        refine AOps.weak (by exact Weak.frz (e' := [(1, .ptr 1 n0 0 0), (3, .own 5003 (i5 0)), (4, .r (.sl (adds5.map GElem.row))), (5, .r (.int .i64 cuts2)), (6, .r (.int .i64 i4)), (39, .own 5003 (i5 0)), (40, .r (.sl (adds5.map GElem.row))), (41, .agg [.r (.int .i64 1), .r (.int .i64 0), .cst (.slice none 0 0), .r (.sl (adds5.map GElem.row))])]) (h' := [(1, some (.box n0 34 [.r (.sl (a1.Adds.map (rSl GElem.row))), .r (.sl (a1.Cuts.map rBool)), .r (.sl (a1.Attrs.map (rSl GAttr.row)))])), (5003, some (.arr (i5 0) 49 4 (out2.map GStep.row)))]) 5004 rfl ⟨.inl (.inl rfl), .inl (.inl rfl), .inl (.inr (.inr ⟨rfl, rfl⟩)), .inl (.inl rfl), .inl (.inl rfl), .inl (.inl rfl), .inl (.inr (.inr ⟨rfl, rfl⟩)), .inr ⟨_, _, rfl, rfl, ⟨.inl rfl, .inl rfl, .inl rfl, .inr (.inr ⟨rfl, rfl⟩), trivial⟩⟩, trivial⟩ ⟨rfl, .inl rfl, rfl, .inl rfl, trivial⟩) ?_
        refine AOps.step rfl rfl rfl (ms_lit 42 rfl tg_42 (f := GStep.row) (l := ([(GStep.mk 1 0 [] adds5)] : List GStep)) ⟨rfl, ⟨_, (.inl rfl), rfl⟩, trivial⟩ rfl (fun _ => rfl) rfl) ?_
        refine ob1k h26 fun out10 eout10 h27 => ?_
        refine AOps.step rfl rfl rfl (ms_app rfl tg_42 (.inl rfl) rfl (.inr (.inl ⟨_, _, (.inl rfl), rfl⟩)) eout10) ?_
        refine AOps.step rfl rfl rfl (OpQ.spec (sp_assign rfl (.inl rfl)) _) ?_
        refine AOps.nil ?_
        exact wK15 _ _ ((by exact Weak.cv ⟨.inl (.inl rfl), .inl (.inl rfl), .inl (.inl rfl), .inl (.inl rfl), trivial⟩ ⟨.inl rfl, .inl rfl, trivial⟩ (Nat.le_refl _))) (J3 _ (vec [((i5 2) + 2), ((i5 2) + 3)]) (Option.some.inj h27).symm)
      · have h26 := ite_f hc6 hp2
        refine AW.skip ?_
        exact wK15 _ _ ((by exact Weak.cv ⟨.inl (.inl rfl), .inl (.inl rfl), .inl (.inl rfl), .inl (.inl rfl), trivial⟩ ⟨.inl rfl, .inl rfl, trivial⟩ (Nat.le_refl _))) (J3 _ (vec [(i5 0), ((i5 2) + 1)]) (Option.some.inj h26).symm)
  · have h3 := ite_f hc1 h2
    refine AW.exit ?_
    exact wK5 _ _ ((by exact Weak.cv ⟨.inl (.inl rfl), trivial⟩ ⟨.inl rfl, trivial⟩ (Nat.le_refl _))) (J1 _ (vec [(i5 0), (i5 2)]) (hx1 _ (Option.some.inj h3).symm))
set_option maxHeartbeats 4000000 in
set_option maxRecDepth 20000 in
theorem w_law_steps {a1 : Ref_Act} {r : (List GAxisStep)} (h : law_steps a1 = some r) : ARO Try.prog 19 [.agg [.r (.sl (a1.Adds.map (rSl GElem.row))), .r (.sl (a1.Cuts.map rBool)), .r (.sl (a1.Attrs.map (rSl GAttr.row)))]] (.r (.sl (r.map GAxisStep.row))) := by
  unfold law_steps at h
  refine ARO.mkF Try.func19 rfl rfl Try.ntmps19 rfl (Nat.le_of_ble_eq_true rfl) fun n0 => ?_
  refine AW.seq_w fun K1 hK1 wK1 => ?_
  refine AW.region ?_
  refine AOps.step rfl rfl rfl (ms_box (cs := [.r (.sl (a1.Adds.map (rSl GElem.row))), .r (.sl (a1.Cuts.map rBool)), .r (.sl (a1.Attrs.map (rSl GAttr.row)))]) 1 rfl (.inl rfl) rfl rfl) ?_
  refine AOps.step rfl rfl rfl (OpQ.spec (sp_assign rfl (.inl rfl)) _) ?_
  refine AOps.nil ?_
  refine hK1 _ ?_
  refine AW.seq_w fun K2 hK2 wK2 => ?_
  refine AW.region ?_
  refine AOps.step rfl rfl rfl (OpQ.spec (sp_assign rfl (.inl rfl)) _) ?_
  refine AOps.nil ?_
  refine hK2 _ ?_
  refine AW.seq_w fun K3 hK3 wK3 => ?_
  refine AW.region ?_
  refine AOps.step rfl rfl rfl (OpQ.spec (ms_loadA_box rfl ta_34 (.inl rfl) rfl rfl) _) ?_
  refine ob1k h fun d1 ed1 h1 => ?_
  refine AOps.step rfl rfl rfl (sp_callS (r := .r (.sl (d1.map GStep.row))) (caps := []) (bs := [.agg [.r (.sl (a1.Adds.map (rSl GElem.row))), .r (.sl (a1.Cuts.map rBool)), .r (.sl (a1.Attrs.map (rSl GAttr.row)))]]) rfl (.inl rfl) rfl ⟨.inl ⟨(.inl rfl), rfl⟩, trivial⟩ (fun _ => w_ref_DeltaOf (ed1))) ?_
  refine AOps.step rfl rfl rfl (OpQ.spec (sp_assign rfl (.inl rfl)) _) ?_
  refine AOps.nil ?_
  refine hK3 _ ?_
  refine AW.seq_w fun K4 hK4 wK4 => ?_
  refine AW.seq_w fun K5 hK5 wK5 => ?_
  refine AW.region ?_
  refine AOps.step rfl rfl rfl (OpQ.spec (sp_move rfl (.inl rfl)) _) ?_
  refine AOps.step rfl rfl rfl (OpQ.spec (ms_len rfl tg_42.slice (.inl rfl)) _) ?_
  refine AOps.step rfl rfl rfl (OpQ.spec (sp_move rfl (.inl rfl)) _) ?_
  refine AOps.nil ?_
  refine hK5 _ ?_
  refine AW.block ?_
  refine jb1k h1 fun o1 hit1 hk1 => ?_
  have J1 : ∀ (out4 : List GAxisStep) (i5 : Nat → Nat), o1 = out4 → K4 ⟨[(3, .own 5003 (i5 0))], [(5003, some (.arr (i5 0) 99 2 (out4.map GAxisStep.row)))], (i5 1), 36⟩ := by
    intro out4 i5 e
    have h2 := hk1 _ e
    refine hK4 _ ?_
    refine AW.seq_w fun K6 hK6 wK6 => ?_
    refine AW.region ?_
    refine AOps.step rfl rfl rfl (OpQ.spec (sp_move rfl (.inl rfl)) _) ?_
    refine AOps.step rfl rfl rfl (OpQ.spec (sp_assign rfl (.inl rfl)) _) ?_
    refine AOps.nil ?_
    refine hK6 _ ?_
    refine AW.ret ?_
    exact retf1 (P := Try.prog) (fun (r : (List GAxisStep)) => .r (.sl (r.map GAxisStep.row))) h2 (.inl rfl) (.t (.one (.own rfl)))
  refine AW.iter2 (fun (x2 : Int) (out2 : List GAxisStep) i3 => ⟨[(3, .own 5003 (i3 0)), (4, .r (.sl (d1.map GStep.row))), (9, .r (.int .i64 (d1.length : Int))), (10, .r (.int .i64 x2))], [(5003, some (.arr (i3 0) 99 2 (out2.map GAxisStep.row)))], (i3 1), 36⟩) (vec [(n0 + 1), (n0 + 2)]) hit1 (Weak.trans (Weak.trans (Weak.adopt 3 5003 99 2 (by decide) rfl) (by exact Weak.cv (e' := [(0, .agg [.r (.sl (a1.Adds.map (rSl GElem.row))), .r (.sl (a1.Cuts.map rBool)), .r (.sl (a1.Attrs.map (rSl GAttr.row)))]), (1, .ptr 1 n0 0 0), (2, .cst (.slice none 0 0)), (3, .own 5003 (n0 + 1)), (4, .r (.sl (d1.map GStep.row))), (6, .agg [.r (.sl (a1.Adds.map (rSl GElem.row))), .r (.sl (a1.Cuts.map rBool)), .r (.sl (a1.Attrs.map (rSl GAttr.row)))]), (7, .r (.sl (d1.map GStep.row))), (8, .r (.sl (d1.map GStep.row))), (9, .r (.int .i64 (d1.length : Int))), (10, .r (.int .i64 0))]) (h' := [(1, some (.box n0 34 [.r (.sl (a1.Adds.map (rSl GElem.row))), .r (.sl (a1.Cuts.map rBool)), .r (.sl (a1.Attrs.map (rSl GAttr.row)))])), (5003, some (.arr (n0 + 1) 99 2 (([] : List GAxisStep).map GAxisStep.row)))]) ⟨.inl (.inl rfl), .inl (.inl rfl), .inl (.inl rfl), .inl (.inl rfl), .inl (.inl rfl), .inl (.inl rfl), .inl (.inl rfl), .inl (.inl rfl), .inl (.inl rfl), .inl (.inl rfl), trivial⟩ ⟨.inl rfl, .inl rfl, trivial⟩ (Nat.le_refl _))) (by exact Weak.cv ⟨.inl (.inl rfl), .inl (.inl rfl), .inl (.inl rfl), .inl (.inl rfl), trivial⟩ ⟨.inl rfl, trivial⟩ (Nat.le_refl _))) ?_
  intro x2 out2 i3 v1 hv1 hx1
  have h3 : law_steps_L1 d1 x2 out2 = some v1 := hv1; unfold law_steps_L1 at h3
  refine AW.seq_w fun K7 hK7 wK7 => ?_
  refine AW.region ?_
  refine AOps.step rfl rfl rfl (OpQ.spec (sp_lss rfl (.inl rfl) (.inl rfl)) _) ?_
  refine AOps.nil ?_
  refine hK7 _ ?_
  refine AW.seq_w fun K8 hK8 wK8 => ?_
  refine AW.cond rfl (fun hc1 => ?_) (fun hc1 => ?_)
  · have h4 := ite_t hc1 h3
    refine AW.skip ?_
    refine hK8 _ ?_
    refine AW.seq_w fun K9 hK9 wK9 => ?_
    refine AW.block ?_
    refine AW.seq_w fun K10 hK10 wK10 => ?_
    refine AW.region ?_
    refine AOps.step rfl rfl rfl (OpQ.spec (sp_move rfl (.inl rfl)) _) ?_
    refine AOps.step rfl rfl rfl (OpQ.spec (sp_assign rfl (.inl rfl)) _) ?_
    refine AOps.nil ?_
    refine hK10 _ ?_
    refine AW.regionF' [0] [1, 2, 3, 4, 5, 6, 7, 8, 9, 10, 11, 12, 13, 14, 15, 16, 17] [] 18 hmix (by kernel_rfl) rfl rfl rfl rfl rfl ?_
    refine AFl.move rfl rfl rfl rfl ?_
    refine AFl.nil ?_
    refine AF.step rfl rfl rfl (sp_move rfl (.inl rfl)) ?_
    refine AF.step rfl rfl rfl (sp_move rfl (.inl rfl)) ?_
    refine ob1k h4 fun x4 ex4 h5 => ?_
    refine AF.step rfl rfl rfl (ms_idx rfl tg_42.slice (.inl rfl) (.inl rfl) (fun _ => rfl) (fun _ => ex4)) ?_
    refine AF.step rfl rfl rfl (sp_fieldAddr_ro rfl tf_49_0 (.inl rfl)) ?_
    refine AF.step rfl rfl rfl (ms_load (d := .int .i64 x4.Kind) rfl ts_3 (.inl rfl) rfl) ?_
    refine AF.step rfl rfl rfl (sp_move rfl (.inl rfl)) ?_
    refine AF.step rfl rfl rfl (sp_move rfl (.inl rfl)) ?_
    refine AF.step rfl rfl rfl (ms_idx rfl tg_42.slice (.inl rfl) (.inl rfl) (fun _ => rfl) (fun _ => ex4)) ?_
    refine AF.step rfl rfl rfl (sp_fieldAddr_ro rfl tf_49_1 (.inl rfl)) ?_
    refine AF.step rfl rfl rfl (ms_load (d := .int .i64 x4.N) rfl ts_3 (.inl rfl) rfl) ?_
    refine AF.step rfl rfl rfl (sp_move rfl (.inl rfl)) ?_
    refine AF.step rfl rfl rfl (sp_move rfl (.inl rfl)) ?_
    refine AF.step rfl rfl rfl (ms_idx rfl tg_42.slice (.inl rfl) (.inl rfl) (fun _ => rfl) (fun _ => ex4)) ?_
    refine AF.step rfl rfl rfl (sp_fieldAddr_ro rfl tf_49_3 (.inl rfl)) ?_
    refine AF.step rfl rfl rfl (ms_load (d := .sl (x4.Elems.map GElem.row)) rfl ts_39 (.inl rfl) rfl) ?_
    refine AF.step rfl rfl rfl (ms_len rfl tg_39.slice (.inl rfl)) ?_
    refine ob1k h5 fun x5 ex5 h6 => ?_
    refine AF.step rfl rfl rfl (ms_add rfl (.inl rfl) (.inl rfl) (fun _ => ex5)) ?_
    refine AF.nil ?_
    refine AA.nil ?_
    refine AOps.step rfl rfl rfl (OpQ.spec (sp_build rfl tb_99 (q := [(0, _), (1, _)]) (by exact ⟨rfl, rfl, rfl, (.inl rfl), rfl, rfl, rfl, (.inl rfl), trivial⟩) (cs := [.r (.int .i64 x4.Kind), .r (.int .i64 x5)]) (by rfl)) _) ?_
    refine AOps.step rfl rfl rfl (ms_lit 32 rfl tg_22 (f := GAxisStep.row) (l := ([(GAxisStep.mk x4.Kind x5)] : List GAxisStep)) ⟨rfl, ⟨_, (.inl rfl), rfl⟩, trivial⟩ rfl (fun _ => rfl) rfl) ?_
    refine ob1k h6 fun out5 eout5 h7 => ?_
    refine AOps.step rfl rfl rfl (ms_app rfl tg_22 (.inl rfl) rfl (.inr (.inl ⟨_, _, (.inl rfl), rfl⟩)) eout5) ?_
    refine AOps.step rfl rfl rfl (OpQ.spec (sp_assign rfl (.inl rfl)) _) ?_
    refine AOps.nil ?_
    refine hK9 _ ?_
    refine AW.weak (s' := ⟨[(3, .own 5003 ((i3 1) + 1)), (4, .r (.sl (d1.map GStep.row))), (9, .r (.int .i64 (d1.length : Int))), (10, .r (.int .i64 x2))], [(5003, some (.arr ((i3 1) + 1) 99 2 (out5.map GAxisStep.row)))], ((i3 1) + 2), 36⟩) (by exact Weak.cv ⟨.inl (.inl rfl), .inl (.inl rfl), .inl (.inl rfl), .inl (.inl rfl), trivial⟩ ⟨.inl rfl, trivial⟩ (Nat.le_refl _)) ?_
    refine AW.region ?_
    refine ob1k h7 fun x6 ex6 h8 => ?_
    refine AOps.step rfl rfl rfl (OpQ.spec (ms_add rfl (.inl rfl) (.inl rfl) (fun _ => ex6)) _) ?_
    refine AOps.step rfl rfl rfl (OpQ.spec (sp_move rfl (.inl rfl)) _) ?_
    refine AOps.nil ?_
    exact NextQ2.mk h8 (vec [((i3 1) + 1), ((i3 1) + 2)]) ((by exact Weak.cv ⟨.inl (.inl rfl), .inl (.inl rfl), .inl (.inl rfl), .inl (.inl rfl), trivial⟩ ⟨.inl rfl, trivial⟩ (Nat.le_refl _)))
  · have h4 := ite_f hc1 h3
    refine AW.exit ?_
    exact wK4 _ _ ((by exact Weak.cv ⟨.inl (.inl rfl), trivial⟩ ⟨.inl rfl, trivial⟩ (Nat.le_refl _))) (J1 _ (vec [(i3 0), (i3 1)]) (hx1 _ (Option.some.inj h4).symm))
set_option maxHeartbeats 4000000 in
set_option maxRecDepth 20000 in
theorem w_ref_SameSteps {a1 : List GAxisStep} {b1 : List GAxisStep} {r : Bool} (h : ref_SameSteps a1 b1 = some r) : ARO Try.prog 18 [.r (.sl (a1.map GAxisStep.row)), .r (.sl (b1.map GAxisStep.row))] (.r (.bool r)) := by
  unfold ref_SameSteps at h
  refine ARO.mkF Try.func18 rfl rfl Try.ntmps18 rfl (Nat.le_of_ble_eq_true rfl) fun n0 => ?_
  refine AW.seq_w fun K1 hK1 wK1 => ?_
  refine AW.region ?_
  refine AOps.step rfl rfl rfl (OpQ.spec (sp_assign rfl (.inl rfl)) _) ?_
  refine AOps.nil ?_
  refine hK1 _ ?_
  refine AW.seq_w fun K2 hK2 wK2 => ?_
  refine AW.seq_w fun K3 hK3 wK3 => ?_
  refine AW.region ?_
  refine AOps.step rfl rfl rfl (OpQ.spec (sp_move rfl (.inl rfl)) _) ?_
  refine AOps.step rfl rfl rfl (OpQ.spec (ms_len rfl tg_22.slice (.inl rfl)) _) ?_
  refine AOps.step rfl rfl rfl (OpQ.spec (sp_move rfl (.inl rfl)) _) ?_
  refine AOps.step rfl rfl rfl (OpQ.spec (ms_len rfl tg_22.slice (.inl rfl)) _) ?_
  refine AOps.step rfl rfl rfl (OpQ.spec (sp_neq rfl (.inl rfl) (.inl rfl)) _) ?_
  refine AOps.nil ?_
  refine hK3 _ ?_
  refine AW.cond rfl (fun hc1 => ?_) (fun hc1 => ?_)
  · have h1 := ite_t hc1 h
    refine AW.seq_w fun K4 hK4 wK4 => ?_
    refine AW.region ?_
    refine AOps.step rfl rfl rfl (OpQ.spec (sp_assign rfl (.inl rfl)) _) ?_
    refine AOps.nil ?_
    refine hK4 _ ?_
    refine AW.ret ?_
    exact retf1 (P := Try.prog) (fun (r : Bool) => .r (.bool r)) h1 (.inl rfl) (.t (.d rfl))
  · have h1 := ite_f hc1 h
    refine AW.skip ?_
    refine hK2 _ ?_
    refine AW.seq_w fun K5 hK5 wK5 => ?_
    refine AW.seq_w fun K6 hK6 wK6 => ?_
    refine AW.region ?_
    refine AOps.step rfl rfl rfl (OpQ.spec (sp_move rfl (.inl rfl)) _) ?_
    refine AOps.step rfl rfl rfl (OpQ.spec (ms_len rfl tg_22.slice (.inl rfl)) _) ?_
    refine AOps.step rfl rfl rfl (OpQ.spec (sp_move rfl (.inl rfl)) _) ?_
    refine AOps.nil ?_
    refine hK6 _ ?_
    refine AW.block ?_
    refine jc1k h1 fun o1 hit1 hk1 he1 => ?_
    have J1 : ∀ (u2 : Unit) (i5 : Nat → Nat), o1 = .nrm u2 → K5 ⟨[], [], (i5 0), 26⟩ := by
      intro u2 i5 e
      have h2 := hk1 _ e
      refine hK5 _ ?_
      refine AW.seq_w fun K7 hK7 wK7 => ?_
      refine AW.region ?_
      refine AOps.step rfl rfl rfl (OpQ.spec (sp_assign rfl (.inl rfl)) _) ?_
      refine AOps.nil ?_
      refine hK7 _ ?_
      refine AW.ret ?_
      exact retf1 (P := Try.prog) (fun (r : Bool) => .r (.bool r)) h2 (.inl rfl) (.t (.d rfl))
    refine AW.iter1 (fun (x2 : Int) i3 => ⟨[(0, .r (.sl (a1.map GAxisStep.row))), (1, .r (.sl (b1.map GAxisStep.row))), (12, .r (.int .i64 (a1.length : Int))), (13, .r (.int .i64 x2))], [], (i3 0), 26⟩) (vec [n0]) hit1 ((by exact Weak.cv ⟨.inl (.inl rfl), .inl (.inl rfl), .inl (.inl rfl), .inl (.inl rfl), trivial⟩ trivial (Nat.le_refl _))) ?_
    intro x2 i3 v1 hv1 hx1
    have h3 : ref_SameSteps_L1 a1 b1 x2 = some v1 := hv1; unfold ref_SameSteps_L1 at h3
    refine AW.seq_w fun K8 hK8 wK8 => ?_
    refine AW.region ?_
    refine AOps.step rfl rfl rfl (OpQ.spec (sp_lss rfl (.inl rfl) (.inl rfl)) _) ?_
    refine AOps.nil ?_
    refine hK8 _ ?_
    refine AW.seq_w fun K9 hK9 wK9 => ?_
    refine AW.cond rfl (fun hc2 => ?_) (fun hc2 => ?_)
    · have h4 := ite_t hc2 h3
      refine AW.skip ?_
      refine hK9 _ ?_
      refine AW.seq_w fun K10 hK10 wK10 => ?_
      refine AW.block ?_
      refine AW.seq_w fun K11 hK11 wK11 => ?_
      refine AW.region ?_
      refine AOps.step rfl rfl rfl (OpQ.spec (sp_move rfl (.inl rfl)) _) ?_
      refine AOps.step rfl rfl rfl (OpQ.spec (sp_assign rfl (.inl rfl)) _) ?_
      refine AOps.nil ?_
      refine hK11 _ ?_
      refine AW.seq_w fun K12 hK12 wK12 => ?_
      refine AW.regionQ hmix (by kernel_rfl) ?_
      refine AQ.step rfl rfl rfl (sp_move rfl (.inl rfl)) ?_
      refine AQ.step rfl rfl rfl (sp_move rfl (.inl rfl)) ?_
      refine ob1k h4 fun x4 ex4 h5 => ?_
      refine AQ.step rfl rfl rfl (ms_idx rfl tg_22.slice (.inl rfl) (.inl rfl) (fun _ => rfl) (fun _ => ex4)) ?_
      refine AQ.step rfl rfl rfl (ms_loadA (cs := [.r (.int .i64 x4.Kind), .r (.int .i64 x4.N)]) rfl ta_99 (.inl rfl) rfl rfl) ?_
      refine AQ.step rfl rfl rfl (sp_move rfl (.inl rfl)) ?_
      refine AQ.step rfl rfl rfl (sp_move rfl (.inl rfl)) ?_
      refine ob1k h5 fun x5 ex5 h6 => ?_
      refine AQ.step rfl rfl rfl (ms_idx rfl tg_22.slice (.inl rfl) (.inl rfl) (fun _ => rfl) (fun _ => ex5)) ?_
      refine AQ.step rfl rfl rfl (ms_loadA (cs := [.r (.int .i64 x5.Kind), .r (.int .i64 x5.N)]) rfl ta_99 (.inl rfl) rfl rfl) ?_
      refine AQ.step rfl rfl rfl (sp_aggneq rfl te_99 (.inl rfl) (.inl rfl) rfl) ?_
      refine AQ.nil ?_
      refine hK12 _ ?_
      refine AW.cond rfl (fun hc3 => ?_) (fun hc3 => ?_)
      · have h7 := ite_t hc3 h6
        refine AW.seq_w fun K13 hK13 wK13 => ?_
        refine AW.weak (s' := ⟨[], [], (i3 0), 26⟩) (by exact Weak.cv trivial trivial (Nat.le_refl _)) ?_
        refine AW.region ?_
        refine AOps.step rfl rfl rfl (OpQ.spec (sp_assign rfl (.inl rfl)) _) ?_
        refine AOps.nil ?_
        refine hK13 _ ?_
        refine AW.ret ?_
        exact retf1 (P := Try.prog) (fun (r : Bool) => .r (.bool r)) (he1 _ (hx1 _ (Option.some.inj h7).symm)) (.inl rfl) (.t (.d rfl))
      · have h7 := ite_f hc3 h6
        refine AW.skip ?_
        refine hK10 _ ?_
        refine AW.weak (s' := ⟨[(0, .r (.sl (a1.map GAxisStep.row))), (1, .r (.sl (b1.map GAxisStep.row))), (12, .r (.int .i64 (a1.length : Int))), (13, .r (.int .i64 x2))], [], (i3 0), 26⟩) (by exact Weak.cv ⟨.inl (.inl rfl), .inl (.inl rfl), .inl (.inl rfl), .inl (.inl rfl), trivial⟩ trivial (Nat.le_refl _)) ?_
        refine AW.region ?_
        refine ob1k h7 fun x6 ex6 h8 => ?_
        refine AOps.step rfl rfl rfl (OpQ.spec (ms_add rfl (.inl rfl) (.inl rfl) (fun _ => ex6)) _) ?_
        refine AOps.step rfl rfl rfl (OpQ.spec (sp_move rfl (.inl rfl)) _) ?_
        refine AOps.nil ?_
        exact NextQ1.mk h8 (vec [(i3 0)]) ((by exact Weak.cv ⟨.inl (.inl rfl), .inl (.inl rfl), .inl (.inl rfl), .inl (.inl rfl), trivial⟩ trivial (Nat.le_refl _)))
    · have h4 := ite_f hc2 h3
      refine AW.exit ?_
      exact wK5 _ _ ((by exact Weak.cv trivial trivial (Nat.le_refl _))) (J1 _ (vec [(i3 0)]) (hx1 _ (Option.some.inj h4).symm))
set_option maxHeartbeats 4000000 in
set_option maxRecDepth 20000 in
theorem w_ref_Done {f1 : List GElem} {a1 : Ref_Act} {r : (List GElem)} (h : ref_Done f1 a1 = some r) : ARO Try.prog 21 [.r (.sl (f1.map GElem.row)), .agg [.r (.sl (a1.Adds.map (rSl GElem.row))), .r (.sl (a1.Cuts.map rBool)), .r (.sl (a1.Attrs.map (rSl GAttr.row)))]] (.r (.sl (r.map GElem.row))) := by
  unfold ref_Done at h
  refine ARO.mkF Try.func21 rfl rfl Try.ntmps21 rfl (Nat.le_of_ble_eq_true rfl) fun n0 => ?_
  refine AW.seq_w fun K1 hK1 wK1 => ?_
  refine AW.region ?_
  refine AOps.step rfl rfl rfl (ms_box (cs := [.r (.sl (a1.Adds.map (rSl GElem.row))), .r (.sl (a1.Cuts.map rBool)), .r (.sl (a1.Attrs.map (rSl GAttr.row)))]) 3 rfl (.inl rfl) rfl rfl) ?_
  refine AOps.step rfl rfl rfl (OpQ.spec (sp_assign rfl (.inl rfl)) _) ?_
  refine AOps.nil ?_
  refine hK1 _ ?_
  refine AW.seq_w fun K2 hK2 wK2 => ?_
  refine AW.region ?_
  refine AOps.step rfl rfl rfl (OpQ.spec (sp_assign rfl (.inl rfl)) _) ?_
  refine AOps.nil ?_
  refine hK2 _ ?_
  refine AW.seq_w fun K3 hK3 wK3 => ?_
  refine AW.seq_w fun K4 hK4 wK4 => ?_
  refine AW.region ?_
  refine AOps.step rfl rfl rfl (OpQ.spec (sp_move rfl (.inl rfl)) _) ?_
  refine AOps.step rfl rfl rfl (OpQ.spec (ms_len rfl tg_39.slice (.inl rfl)) _) ?_
  refine AOps.step rfl rfl rfl (OpQ.spec (sp_move rfl (.inl rfl)) _) ?_
  refine AOps.nil ?_
  refine hK4 _ ?_
  refine AW.block ?_
  refine jb1k h fun o1 hit1 hk1 => ?_
  have J1 : ∀ (out4 : List GElem) (i5 : Nat → Nat), o1 = out4 → K3 ⟨[(0, .r (.sl (f1.map GElem.row))), (3, .ptr 3 n0 0 0), (5, .own 5005 (i5 0))], [(3, some (.box n0 34 [.r (.sl (a1.Adds.map (rSl GElem.row))), .r (.sl (a1.Cuts.map rBool)), .r (.sl (a1.Attrs.map (rSl GAttr.row)))])), (5005, some (.arr (i5 0) 113 3 (out4.map GElem.row)))], (i5 1), 52⟩ := by
    intro out4 i5 e
    have h1 := hk1 _ e
    refine hK3 _ ?_
    refine AW.seq_w fun K5 hK5 wK5 => ?_
    refine AW.region ?_
    refine AOps.step rfl rfl rfl (OpQ.spec (sp_move rfl (.inl rfl)) _) ?_
    refine AOps.step rfl rfl rfl (OpQ.spec (sp_fieldAddr_own (ob := .box _ _ _) rfl tf_34_0 (.inl rfl) (fun _ => rfl) rfl) _) ?_
    refine AOps.step rfl rfl rfl (OpQ.spec (ms_load_box (a := .r (.sl (a1.Adds.map (rSl GElem.row)))) rfl ts_30 (.inl rfl) rfl rfl) _) ?_
    refine AOps.step rfl rfl rfl (OpQ.spec (sp_move rfl (.inl rfl)) _) ?_
    refine AOps.step rfl rfl rfl (OpQ.spec (ms_len rfl tg_39.slice (.inl rfl)) _) ?_
    refine ob1k h1 fun x4 ex4 h2 => ?_
    refine AOps.step rfl rfl rfl (OpQ.spec (ms_idx rfl tg_30.slice (.inl rfl) (.inl rfl) (fun _ => rfl) (fun _ => ex4)) _) ?_
    refine AOps.step rfl rfl rfl (OpQ.spec (ms_load (d := .sl (x4.map GElem.row)) rfl ts_39 (.inl rfl) rfl) _) ?_
    refine ob1k h2 fun l1 el1 h3 => ?_
    refine AOps.step rfl rfl rfl (ms_app rfl tg_39 (.inl rfl) rfl (.inl ⟨(.inl rfl), fun _ => rfl⟩) el1) ?_
    refine AOps.step rfl rfl rfl (OpQ.spec (sp_assign rfl (.inl rfl)) _) ?_
    refine AOps.nil ?_
    refine hK5 _ ?_
    refine AW.ret ?_
    exact retf1 (P := Try.prog) (fun (r : (List GElem)) => .r (.sl (r.map GElem.row))) h3 (.inl rfl) (.t (.one (.own rfl)))
  refine AW.iter2 (fun (x2 : Int) (out2 : List GElem) i3 => ⟨[(0, .r (.sl (f1.map GElem.row))), (3, .ptr 3 n0 0 0), (5, .own 5005 (i3 0)), (9, .r (.int .i64 (f1.length : Int))), (10, .r (.int .i64 x2))], [(3, some (.box n0 34 [.r (.sl (a1.Adds.map (rSl GElem.row))), .r (.sl (a1.Cuts.map rBool)), .r (.sl (a1.Attrs.map (rSl GAttr.row)))])), (5005, some (.arr (i3 0) 113 3 (out2.map GElem.row)))], (i3 1), 52⟩) (vec [(n0 + 1), (n0 + 2)]) hit1 (Weak.trans (Weak.trans (Weak.adopt 5 5005 113 3 (by decide) rfl) (by exact Weak.cv (e' := [(0, .r (.sl (f1.map GElem.row))), (1, .agg [.r (.sl (a1.Adds.map (rSl GElem.row))), .r (.sl (a1.Cuts.map rBool)), .r (.sl (a1.Attrs.map (rSl GAttr.row)))]), (3, .ptr 3 n0 0 0), (4, .cst (.slice none 0 0)), (5, .own 5005 (n0 + 1)), (8, .r (.sl (f1.map GElem.row))), (9, .r (.int .i64 (f1.length : Int))), (10, .r (.int .i64 0))]) (h' := [(3, some (.box n0 34 [.r (.sl (a1.Adds.map (rSl GElem.row))), .r (.sl (a1.Cuts.map rBool)), .r (.sl (a1.Attrs.map (rSl GAttr.row)))])), (5005, some (.arr (n0 + 1) 113 3 (([] : List GElem).map GElem.row)))]) ⟨.inl (.inl rfl), .inl (.inl rfl), .inl (.inl rfl), .inl (.inl rfl), .inl (.inl rfl), .inl (.inl rfl), .inl (.inl rfl), .inl (.inl rfl), trivial⟩ ⟨.inl rfl, .inl rfl, trivial⟩ (Nat.le_refl _))) (by exact Weak.cv ⟨.inl (.inl rfl), .inl (.inl rfl), .inl (.inl rfl), .inl (.inl rfl), .inl (.inl rfl), trivial⟩ ⟨.inl rfl, .inl rfl, trivial⟩ (Nat.le_refl _))) ?_
  intro x2 out2 i3 v1 hv1 hx1
  have h4 : ref_Done_L1 f1 a1 x2 out2 = some v1 := hv1; unfold ref_Done_L1 at h4
  refine AW.seq_w fun K6 hK6 wK6 => ?_
  refine AW.region ?_
  refine AOps.step rfl rfl rfl (OpQ.spec (sp_lss rfl (.inl rfl) (.inl rfl)) _) ?_
  refine AOps.nil ?_
  refine hK6 _ ?_
  refine AW.seq_w fun K7 hK7 wK7 => ?_
  refine AW.cond rfl (fun hc1 => ?_) (fun hc1 => ?_)
  · have h5 := ite_t hc1 h4
    refine AW.skip ?_
    refine hK7 _ ?_
    refine AW.seq_w fun K8 hK8 wK8 => ?_
    refine AW.block ?_
    refine jb1k h5 fun p1 hp1 hk2 => ?_
    have J2 : ∀ (out5 : List GElem) (i6 : Nat → Nat), p1 = out5 → K8 ⟨[(0, .r (.sl (f1.map GElem.row))), (3, .ptr 3 n0 0 0), (5, .own 5005 (i6 0)), (9, .r (.int .i64 (f1.length : Int))), (10, .r (.int .i64 x2))], [(3, some (.box n0 34 [.r (.sl (a1.Adds.map (rSl GElem.row))), .r (.sl (a1.Cuts.map rBool)), .r (.sl (a1.Attrs.map (rSl GAttr.row)))])), (5005, some (.arr (i6 0) 113 3 (out5.map GElem.row)))], (i6 1), 52⟩ := by
      intro out5 i6 e
      have h6 := hk2 _ e
      refine hK8 _ ?_
      refine AW.region ?_
      refine ob1k h6 fun x5 ex5 h7 => ?_
      refine AOps.step rfl rfl rfl (OpQ.spec (ms_add rfl (.inl rfl) (.inl rfl) (fun _ => ex5)) _) ?_
      refine AOps.step rfl rfl rfl (OpQ.spec (sp_move rfl (.inl rfl)) _) ?_
      refine AOps.nil ?_
      exact NextQ2.mk h7 (vec [(i6 0), (i6 1)]) ((by exact Weak.cv ⟨.inl (.inl rfl), .inl (.inl rfl), .inl (.inl rfl), .inl (.inl rfl), .inl (.inl rfl), trivial⟩ ⟨.inl rfl, .inl rfl, trivial⟩ (Nat.le_refl _)))
    refine AW.seq_w fun K9 hK9 wK9 => ?_
    refine AW.region ?_
    refine AOps.step rfl rfl rfl (OpQ.spec (sp_move rfl (.inl rfl)) _) ?_
    refine AOps.step rfl rfl rfl (OpQ.spec (sp_assign rfl (.inl rfl)) _) ?_
    refine AOps.nil ?_
    refine hK9 _ ?_
    refine AW.seq_w fun K10 hK10 wK10 => ?_
    refine AW.region ?_
    refine AOps.step rfl rfl rfl (OpQ.spec (sp_move rfl (.inl rfl)) _) ?_
    refine AOps.step rfl rfl rfl (OpQ.spec (sp_fieldAddr_own (ob := .box _ _ _) rfl tf_34_0 (.inl rfl) (fun _ => rfl) rfl) _) ?_
    refine AOps.step rfl rfl rfl (OpQ.spec (ms_load_box (a := .r (.sl (a1.Adds.map (rSl GElem.row)))) rfl ts_30 (.inl rfl) rfl rfl) _) ?_
    refine AOps.step rfl rfl rfl (OpQ.spec (sp_move rfl (.inl rfl)) _) ?_
    refine ob1k hp1 fun x6 ex6 h8 => ?_
    refine AOps.step rfl rfl rfl (OpQ.spec (ms_idx rfl tg_30.slice (.inl rfl) (.inl rfl) (fun _ => rfl) (fun _ => ex6)) _) ?_
    refine AOps.step rfl rfl rfl (OpQ.spec (ms_load (d := .sl (x6.map GElem.row)) rfl ts_39 (.inl rfl) rfl) _) ?_
    refine ob1k h8 fun out6 eout6 h9 => ?_
    refine AOps.step rfl rfl rfl (ms_app rfl tg_39 (.inl rfl) rfl (.inl ⟨(.inl rfl), fun _ => rfl⟩) eout6) ?_
    refine AOps.step rfl rfl rfl (OpQ.spec (sp_assign rfl (.inl rfl)) _) ?_
    refine AOps.nil ?_
    refine hK10 _ ?_
    refine AW.seq_w fun K11 hK11 wK11 => ?_
    refine AW.region ?_
    refine AOps.step rfl rfl rfl (OpQ.spec (sp_fieldAddr_own (ob := .box _ _ _) rfl tf_34_1 (.inl rfl) (fun _ => rfl) rfl) _) ?_
    refine AOps.step rfl rfl rfl (OpQ.spec (ms_load_box (a := .r (.sl (a1.Cuts.map rBool))) rfl ts_31 (.inl rfl) rfl rfl) _) ?_
    refine AOps.step rfl rfl rfl (OpQ.spec (sp_move rfl (.inl rfl)) _) ?_
    refine ob1k h9 fun x7 ex7 h10 => ?_
    refine AOps.step rfl rfl rfl (OpQ.spec (ms_idx rfl tg_31.slice (.inl rfl) (.inl rfl) (fun _ => rfl) (fun _ => ex7)) _) ?_
    refine AOps.step rfl rfl rfl (OpQ.spec (ms_load (d := .bool x7) rfl ts_4 (.inl rfl) rfl) _) ?_
    refine AOps.step rfl rfl rfl (OpQ.spec (sp_not rfl (.inl rfl)) _) ?_
    refine AOps.nil ?_
    refine hK11 _ ?_
    refine AW.cond rfl (fun hc2 => ?_) (fun hc2 => ?_)
    · have h11 := ite_t hc2 h10
      refine AW.seq_w fun K12 hK12 wK12 => ?_
      refine AW.weak (s' := ⟨[(0, .r (.sl (f1.map GElem.row))), (3, .ptr 3 n0 0 0), (5, .own 5005 (i3 1)), (6, .r (.int .i64 x2)), (9, .r (.int .i64 (f1.length : Int))), (10, .r (.int .i64 x2))], [(3, some (.box n0 34 [.r (.sl (a1.Adds.map (rSl GElem.row))), .r (.sl (a1.Cuts.map rBool)), .r (.sl (a1.Attrs.map (rSl GAttr.row)))])), (5005, some (.arr (i3 1) 113 3 (out6.map GElem.row)))], ((i3 1) + 1), 52⟩) (by exact Weak.cv ⟨.inl (.inl rfl), .inl (.inl rfl), .inl (.inl rfl), .inl (.inl rfl), .inl (.inl rfl), .inl (.inl rfl), trivial⟩ ⟨.inl rfl, .inl rfl, trivial⟩ (Nat.le_refl _)) ?_
      refine AW.region ?_
      refine AOps.step rfl rfl rfl (OpQ.spec (sp_move rfl (.inl rfl)) _) ?_
      refine AOps.step rfl rfl rfl (OpQ.spec (sp_move rfl (.inl rfl)) _) ?_
      refine ob1k h11 fun x8 ex8 h12 => ?_
      refine AOps.step rfl rfl rfl (OpQ.spec (ms_idx rfl tg_39.slice (.inl rfl) (.inl rfl) (fun _ => rfl) (fun _ => ex8)) _) ?_
      refine AOps.step rfl rfl rfl (OpQ.spec (ms_loadA (cs := [.r (.int .i64 x8.Char), .r (.int .i64 x8.Ref), .r (.sl (x8.Attrs.map GAttr.row))]) rfl ta_113 (.inl rfl) rfl rfl) _) ?_
      refine AOps.step rfl rfl rfl (ms_alloc (cs := [.r (.int .i64 0), .r (.int .i64 0), .cst (.slice none 0 0)]) 7 rfl t0_113 rfl rfl) ?_
      refine AOps.step0 rfl rfl (ms_store_box (ds := [.r (.int .i64 x8.Char), .r (.int .i64 x8.Ref), .r (.sl (x8.Attrs.map GAttr.row))]) rfl tz_113 (.inl rfl) rfl (.inl rfl) rfl rfl rfl rfl) ?_
      refine AOps.nil ?_
      refine hK12 _ ?_
      refine AW.seq_w fun K13 hK13 wK13 => ?_
      refine AW.regionT 7 hmix (by kernel_rfl) rfl rfl ?_
      refine AT.step rfl rfl rfl (sp_fieldAddr_own (ob := .box _ _ _) rfl tf_113_2 (.inl rfl) (fun _ => rfl) rfl) ?_
      refine AT.step rfl rfl rfl (ms_load_box (a := .r (.sl (x8.Attrs.map GAttr.row))) rfl ts_47 (.inl rfl) rfl rfl) ?_
      refine AT.step rfl rfl rfl (sp_fieldAddr_own (ob := .box _ _ _) rfl tf_34_2 (.inl rfl) (fun _ => rfl) rfl) ?_
      refine AT.step rfl rfl rfl (ms_load_box (a := .r (.sl (a1.Attrs.map (rSl GAttr.row)))) rfl ts_32 (.inl rfl) rfl rfl) ?_
      refine AT.step rfl rfl rfl (sp_move rfl (.inl rfl)) ?_
      refine ob1k h12 fun x9 ex9 h13 => ?_
      refine AT.step rfl rfl rfl (ms_idx rfl tg_32.slice (.inl rfl) (.inl rfl) (fun _ => rfl) (fun _ => ex9)) ?_
      refine AT.step rfl rfl rfl (ms_load (d := .sl (x9.map GAttr.row)) rfl ts_47 (.inl rfl) rfl) ?_
      refine AT.nil ?_
      refine ob1k h13 fun r1 er1 h14 => ?_
      refine AOps.step rfl rfl rfl (sp_callS (r := .r (.sl (r1.map GAttr.row))) (caps := []) (bs := [.r (.sl (x8.Attrs.map GAttr.row)), .r (.sl (x9.map GAttr.row))]) rfl (.inl rfl) rfl ⟨.inl ⟨(.inl rfl), rfl⟩, .inl ⟨(.inl rfl), rfl⟩, trivial⟩ (fun _ => w_ref_Changed (er1))) ?_
      refine AOps.step rfl rfl rfl (OpQ.spec (sp_fieldAddr_own (ob := .box _ _ _) rfl tf_113_2 (.inl rfl) (fun _ => rfl) rfl) _) ?_
      refine AOps.step0 rfl rfl (ms_store_box (ds := [.r (.int .i64 x8.Char), .r (.int .i64 x8.Ref), .r (.sl (r1.map GAttr.row))]) rfl tz_47 (.inl rfl) rfl (.inl rfl) rfl rfl rfl rfl) ?_
      refine AOps.nil ?_
      refine hK13 _ ?_
      refine AW.weak (s' := ⟨[(0, .r (.sl (f1.map GElem.row))), (3, .ptr 3 n0 0 0), (5, .own 5005 (i3 1)), (7, .ptr 7 ((i3 1) + 1) 0 0), (9, .r (.int .i64 (f1.length : Int))), (10, .r (.int .i64 x2))], [(3, some (.box n0 34 [.r (.sl (a1.Adds.map (rSl GElem.row))), .r (.sl (a1.Cuts.map rBool)), .r (.sl (a1.Attrs.map (rSl GAttr.row)))])), (7, some (.box ((i3 1) + 1) 113 [.r (.int .i64 x8.Char), .r (.int .i64 x8.Ref), .r (.sl (r1.map GAttr.row))])), (5005, some (.arr (i3 1) 113 3 (out6.map GElem.row)))], ((i3 1) + 2), 52⟩) (by exact Weak.cv ⟨.inl (.inl rfl), .inl (.inl rfl), .inl (.inl rfl), .inl (.inl rfl), .inl (.inl rfl), .inl (.inl rfl), trivial⟩ ⟨.inl rfl, .inl rfl, .inl rfl, trivial⟩ (Nat.le_refl _)) ?_
      refine AW.region ?_
      refine AOps.step rfl rfl rfl (OpQ.spec (sp_move rfl (.inl rfl)) _) ?_
      refine AOps.step rfl rfl rfl (OpQ.spec (ms_loadA_box rfl ta_113 (.inl rfl) rfl rfl) _) ?_
      refine AOps.step rfl rfl rfl (ms_lit 41 rfl tg_39 (f := GElem.row) (l := ([(GElem.mk x8.Char x8.Ref r1)] : List GElem)) ⟨rfl, ⟨_, (.inl rfl), rfl⟩, trivial⟩ rfl (fun _ => rfl) rfl) ?_
      refine ob1k h14 fun out7 eout7 h15 => ?_
      refine AOps.step rfl rfl rfl (ms_app rfl tg_39 (.inl rfl) rfl (.inr (.inl ⟨_, _, (.inl rfl), rfl⟩)) eout7) ?_
      refine AOps.step rfl rfl rfl (OpQ.spec (sp_assign rfl (.inl rfl)) _) ?_
      refine AOps.nil ?_
      exact wK8 _ _ ((by exact Weak.cv ⟨.inl (.inl rfl), .inl (.inl rfl), .inl (.inl rfl), .inl (.inl rfl), .inl (.inl rfl), trivial⟩ ⟨.inl rfl, .inl rfl, trivial⟩ (Nat.le_refl _))) (J2 _ (vec [((i3 1) + 3), ((i3 1) + 4)]) (Option.some.inj h15).symm)
    · have h11 := ite_f hc2 h10
      refine AW.skip ?_
      exact wK8 _ _ ((by exact Weak.cv ⟨.inl (.inl rfl), .inl (.inl rfl), .inl (.inl rfl), .inl (.inl rfl), .inl (.inl rfl), trivial⟩ ⟨.inl rfl, .inl rfl, trivial⟩ (Nat.le_refl _))) (J2 _ (vec [(i3 1), ((i3 1) + 1)]) (Option.some.inj h11).symm)
  · have h5 := ite_f hc1 h4
    refine AW.exit ?_
    exact wK3 _ _ ((by exact Weak.cv ⟨.inl (.inl rfl), .inl (.inl rfl), .inl (.inl rfl), trivial⟩ ⟨.inl rfl, .inl rfl, trivial⟩ (Nat.le_refl _))) (J1 _ (vec [(i3 0), (i3 1)]) (hx1 _ (Option.some.inj h5).symm))
set_option maxHeartbeats 4000000 in
set_option maxRecDepth 20000 in
theorem w_ref_Joined {a1 : List GAttr} {b1 : List GAttr} {r : (List GAttr)} (h : ref_Joined a1 b1 = some r) : ARO Try.prog 75 [.r (.sl (a1.map GAttr.row)), .r (.sl (b1.map GAttr.row))] (.r (.sl (r.map GAttr.row))) := by
  unfold ref_Joined at h
  refine ARO.mkF Try.func75 rfl rfl Try.ntmps75 rfl (Nat.le_of_ble_eq_true rfl) fun n0 => ?_
  refine AW.seq_w fun K1 hK1 wK1 => ?_
  refine AW.region ?_
  refine AOps.step rfl rfl rfl (OpQ.spec (sp_assign rfl (.inl rfl)) _) ?_
  refine AOps.nil ?_
  refine hK1 _ ?_
  refine AW.seq_w fun K2 hK2 wK2 => ?_
  refine AW.region ?_
  refine AOps.step rfl rfl rfl (OpQ.spec (sp_assign rfl (.inl rfl)) _) ?_
  refine AOps.nil ?_
  refine hK2 _ ?_
  refine AW.seq_w fun K3 hK3 wK3 => ?_
  refine AW.seq_w fun K4 hK4 wK4 => ?_
  refine AW.region ?_
  refine AOps.step rfl rfl rfl (OpQ.spec (sp_move rfl (.inl rfl)) _) ?_
  refine AOps.step rfl rfl rfl (OpQ.spec (ms_len rfl tg_47.slice (.inl rfl)) _) ?_
  refine AOps.step rfl rfl rfl (OpQ.spec (sp_move rfl (.inl rfl)) _) ?_
  refine AOps.nil ?_
  refine hK4 _ ?_
  refine AW.block ?_
  refine jb1k h fun o1 hit1 hk1 => ?_
  have J1 : ∀ (out4 : List GAttr) (i5 : Nat → Nat), o1 = out4 → K3 ⟨[(1, .r (.sl (b1.map GAttr.row))), (5, .r (.sl (out4.map GAttr.row)))], [], (i5 0), 33⟩ := by
    intro out4 i5 e
    have h1 := hk1 _ e
    refine hK3 _ ?_
    refine AW.seq_w fun K5 hK5 wK5 => ?_
    refine AW.seq_w fun K6 hK6 wK6 => ?_
    refine AW.region ?_
    refine AOps.step rfl rfl rfl (OpQ.spec (sp_move rfl (.inl rfl)) _) ?_
    refine AOps.step rfl rfl rfl (OpQ.spec (ms_len rfl tg_47.slice (.inl rfl)) _) ?_
    refine AOps.step rfl rfl rfl (OpQ.spec (sp_move rfl (.inl rfl)) _) ?_
    refine AOps.nil ?_
    refine hK6 _ ?_
    refine AW.block ?_
    refine jb1k h1 fun o2 hit2 hk2 => ?_
    have J2 : ∀ (out8 : List GAttr) (i10 : Nat → Nat), o2 = out8 → K5 ⟨[(5, .r (.sl (out8.map GAttr.row)))], [], (i10 0), 33⟩ := by
      intro out8 i10 e
      have h2 := hk2 _ e
      refine hK5 _ ?_
      refine AW.seq_w fun K7 hK7 wK7 => ?_
      refine AW.region ?_
      refine AOps.step rfl rfl rfl (OpQ.spec (sp_move rfl (.inl rfl)) _) ?_
      refine AOps.step rfl rfl rfl (OpQ.spec (sp_assign rfl (.inl rfl)) _) ?_
      refine AOps.nil ?_
      refine hK7 _ ?_
      refine AW.ret ?_
      exact retf1 (P := Try.prog) (fun (r : (List GAttr)) => .r (.sl (r.map GAttr.row))) h2 (.inl rfl) (.t (.d rfl))
    refine AW.iter2 (fun (out6 : List GAttr) (x5 : Int) i8 => ⟨[(1, .r (.sl (b1.map GAttr.row))), (5, .r (.sl (out6.map GAttr.row))), (21, .r (.int .i64 (b1.length : Int))), (22, .r (.int .i64 x5))], [], (i8 0), 33⟩) (vec [(i5 0)]) hit2 ((by exact Weak.cv ⟨.inl (.inl rfl), .inl (.inl rfl), .inl (.inl rfl), .inl (.inl rfl), trivial⟩ trivial (Nat.le_refl _))) ?_
    intro out6 x5 i8 v1 hv1 hx2
    have h3 : ref_Joined_L2 b1 out6 x5 = some v1 := hv1; unfold ref_Joined_L2 at h3
    refine AW.seq_w fun K8 hK8 wK8 => ?_
    refine AW.region ?_
    refine AOps.step rfl rfl rfl (OpQ.spec (sp_lss rfl (.inl rfl) (.inl rfl)) _) ?_
    refine AOps.nil ?_
    refine hK8 _ ?_
    refine AW.seq_w fun K9 hK9 wK9 => ?_
    refine AW.cond rfl (fun hc1 => ?_) (fun hc1 => ?_)
    · have h4 := ite_t hc1 h3
      refine AW.skip ?_
      refine hK9 _ ?_
      refine AW.seq_w fun K10 hK10 wK10 => ?_
      refine AW.block ?_
      refine AW.seq_w fun K11 hK11 wK11 => ?_
      refine AW.region ?_
      refine AOps.step rfl rfl rfl (OpQ.spec (sp_move rfl (.inl rfl)) _) ?_
      refine AOps.step rfl rfl rfl (OpQ.spec (sp_assign rfl (.inl rfl)) _) ?_
      refine AOps.nil ?_
      refine hK11 _ ?_
      refine AW.region ?_
      refine AOps.step rfl rfl rfl (OpQ.spec (sp_move rfl (.inl rfl)) _) ?_
      refine AOps.step rfl rfl rfl (OpQ.spec (sp_move rfl (.inl rfl)) _) ?_
      refine AOps.step rfl rfl rfl (OpQ.spec (sp_move rfl (.inl rfl)) _) ?_
      refine ob1k h4 fun x7 ex7 h5 => ?_
      refine AOps.step rfl rfl rfl (OpQ.spec (ms_idx rfl tg_47.slice (.inl rfl) (.inl rfl) (fun _ => rfl) (fun _ => ex7)) _) ?_
      refine AOps.step rfl rfl rfl (OpQ.spec (ms_loadA (cs := [.r (.str x7.Name), .r (.str x7.Value)]) rfl ta_128 (.inl rfl) rfl rfl) _) ?_
      refine ob1k h5 fun out9 eout9 h6 => ?_
      refine AOps.step rfl rfl rfl (sp_callS (r := .r (.sl (out9.map GAttr.row))) (caps := []) (bs := [.r (.sl (out6.map GAttr.row)), .agg [.r (.str x7.Name), .r (.str x7.Value)]]) rfl (.inl rfl) rfl ⟨.inl ⟨(.inl rfl), rfl⟩, .inl ⟨(.inl rfl), rfl⟩, trivial⟩ (fun _ => w_ref_put (eout9))) ?_
      refine AOps.step rfl rfl rfl (OpQ.spec (sp_assign rfl (.inl rfl)) _) ?_
      refine AOps.nil ?_
      refine hK10 _ ?_
      refine AW.weak (s' := ⟨[(1, .r (.sl (b1.map GAttr.row))), (5, .r (.sl (out9.map GAttr.row))), (21, .r (.int .i64 (b1.length : Int))), (22, .r (.int .i64 x5))], [], (i8 0), 33⟩) (by exact Weak.cv ⟨.inl (.inl rfl), .inl (.inl rfl), .inl (.inl rfl), .inl (.inl rfl), trivial⟩ trivial (Nat.le_refl _)) ?_
      refine AW.region ?_
      refine ob1k h6 fun x8 ex8 h7 => ?_
      refine AOps.step rfl rfl rfl (OpQ.spec (ms_add rfl (.inl rfl) (.inl rfl) (fun _ => ex8)) _) ?_
      refine AOps.step rfl rfl rfl (OpQ.spec (sp_move rfl (.inl rfl)) _) ?_
      refine AOps.nil ?_
      exact NextQ2.mk h7 (vec [(i8 0)]) ((by exact Weak.cv ⟨.inl (.inl rfl), .inl (.inl rfl), .inl (.inl rfl), .inl (.inl rfl), trivial⟩ trivial (Nat.le_refl _)))
    · have h4 := ite_f hc1 h3
      refine AW.exit ?_
      exact wK5 _ _ ((by exact Weak.cv ⟨.inl (.inl rfl), trivial⟩ trivial (Nat.le_refl _))) (J2 _ (vec [(i8 0)]) (hx2 _ (Option.some.inj h4).symm))
  refine AW.iter2 (fun (out2 : List GAttr) (x2 : Int) i3 => ⟨[(0, .r (.sl (a1.map GAttr.row))), (1, .r (.sl (b1.map GAttr.row))), (5, .r (.sl (out2.map GAttr.row))), (9, .r (.int .i64 (a1.length : Int))), (10, .r (.int .i64 x2))], [], (i3 0), 33⟩) (vec [n0]) hit1 ((by exact Weak.cv ⟨.inl (.inl rfl), .inl (.inl rfl), .inl (.inr (.inr ⟨rfl, rfl⟩)), .inl (.inl rfl), .inl (.inl rfl), trivial⟩ trivial (Nat.le_refl _))) ?_
  intro out2 x2 i3 v2 hv2 hx1
  have h8 : ref_Joined_L1 a1 out2 x2 = some v2 := hv2; unfold ref_Joined_L1 at h8
  refine AW.seq_w fun K12 hK12 wK12 => ?_
  refine AW.region ?_
  refine AOps.step rfl rfl rfl (OpQ.spec (sp_lss rfl (.inl rfl) (.inl rfl)) _) ?_
  refine AOps.nil ?_
  refine hK12 _ ?_
  refine AW.seq_w fun K13 hK13 wK13 => ?_
  refine AW.cond rfl (fun hc2 => ?_) (fun hc2 => ?_)
  · have h9 := ite_t hc2 h8
    refine AW.skip ?_
    refine hK13 _ ?_
    refine AW.seq_w fun K14 hK14 wK14 => ?_
    refine AW.block ?_
    refine AW.seq_w fun K15 hK15 wK15 => ?_
    refine AW.region ?_
    refine AOps.step rfl rfl rfl (OpQ.spec (sp_move rfl (.inl rfl)) _) ?_
    refine AOps.step rfl rfl rfl (OpQ.spec (sp_assign rfl (.inl rfl)) _) ?_
    refine AOps.nil ?_
    refine hK15 _ ?_
    refine AW.region ?_
    refine AOps.step rfl rfl rfl (OpQ.spec (sp_move rfl (.inl rfl)) _) ?_
    refine AOps.step rfl rfl rfl (OpQ.spec (sp_move rfl (.inl rfl)) _) ?_
    refine AOps.step rfl rfl rfl (OpQ.spec (sp_move rfl (.inl rfl)) _) ?_
    refine ob1k h9 fun x9 ex9 h10 => ?_
    refine AOps.step rfl rfl rfl (OpQ.spec (ms_idx rfl tg_47.slice (.inl rfl) (.inl rfl) (fun _ => rfl) (fun _ => ex9)) _) ?_
    refine AOps.step rfl rfl rfl (OpQ.spec (ms_loadA (cs := [.r (.str x9.Name), .r (.str x9.Value)]) rfl ta_128 (.inl rfl) rfl rfl) _) ?_
    refine ob1k h10 fun out10 eout10 h11 => ?_
    refine AOps.step rfl rfl rfl (sp_callS (r := .r (.sl (out10.map GAttr.row))) (caps := []) (bs := [.r (.sl (out2.map GAttr.row)), .agg [.r (.str x9.Name), .r (.str x9.Value)]]) rfl (.inl rfl) rfl ⟨.inl ⟨(.inl rfl), rfl⟩, .inl ⟨(.inl rfl), rfl⟩, trivial⟩ (fun _ => w_ref_put (eout10))) ?_
    refine AOps.step rfl rfl rfl (OpQ.spec (sp_assign rfl (.inl rfl)) _) ?_
    refine AOps.nil ?_
    refine hK14 _ ?_
    refine AW.weak (s' := ⟨[(0, .r (.sl (a1.map GAttr.row))), (1, .r (.sl (b1.map GAttr.row))), (5, .r (.sl (out10.map GAttr.row))), (9, .r (.int .i64 (a1.length : Int))), (10, .r (.int .i64 x2))], [], (i3 0), 33⟩) (by exact Weak.cv ⟨.inl (.inl rfl), .inl (.inl rfl), .inl (.inl rfl), .inl (.inl rfl), .inl (.inl rfl), trivial⟩ trivial (Nat.le_refl _)) ?_
    refine AW.region ?_
    refine ob1k h11 fun x10 ex10 h12 => ?_
    refine AOps.step rfl rfl rfl (OpQ.spec (ms_add rfl (.inl rfl) (.inl rfl) (fun _ => ex10)) _) ?_
    refine AOps.step rfl rfl rfl (OpQ.spec (sp_move rfl (.inl rfl)) _) ?_
    refine AOps.nil ?_
    exact NextQ2.mk h12 (vec [(i3 0)]) ((by exact Weak.cv ⟨.inl (.inl rfl), .inl (.inl rfl), .inl (.inl rfl), .inl (.inl rfl), .inl (.inl rfl), trivial⟩ trivial (Nat.le_refl _)))
  · have h9 := ite_f hc2 h8
    refine AW.exit ?_
    exact wK3 _ _ ((by exact Weak.cv ⟨.inl (.inl rfl), .inl (.inl rfl), trivial⟩ trivial (Nat.le_refl _))) (J1 _ (vec [(i3 0)]) (hx1 _ (Option.some.inj h9).symm))
end Go.Proofs.Ytdeglnbioiicaaa.Al
