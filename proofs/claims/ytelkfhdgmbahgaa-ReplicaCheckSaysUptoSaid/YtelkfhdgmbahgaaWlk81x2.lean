/- Walks, as printed. -/
import Derived.Test.YtelkfhdgmbahgaaWlk81
import Derived.Test.YtelkfhdgmbahgaaProg
set_option maxHeartbeats 4000000
set_option maxRecDepth 20000
set_option linter.unusedVariables false
namespace Go.Proofs.Ytelkfhdgmbahgaa.Al
open Go.Proofs
theorem w_ref_DrawError {l1 : List GDrawOp} {r : Int} (h : ref_DrawError l1 = some r) : ARO Try.prog 9 [.r (.sl (l1.map GDrawOp.row))] (.r (.int .i64 r)) := by
  unfold ref_DrawError at h
  refine ARO.mkF Try.func9 rfl rfl Try.ntmps9 rfl (Nat.le_of_ble_eq_true rfl) fun n0 => ?_
  refine AW.seq_w fun K1 hK1 wK1 => ?_
  refine AW.region ?_
  refine AOps.step rfl rfl rfl (OpQ.spec (sp_assign rfl (.inl rfl)) _) ?_
  refine AOps.nil ?_
  refine hK1 _ ?_
  refine AW.seq_w fun K2 hK2 wK2 => ?_
  refine AW.seq_w fun K3 hK3 wK3 => ?_
  refine AW.region ?_
  refine AOps.step rfl rfl rfl (OpQ.spec (sp_move rfl (.inl rfl)) _) ?_
  refine AOps.step rfl rfl rfl (OpQ.spec (ms_len rfl tg_22.slice (.inl rfl)) _) ?_
  refine AOps.step rfl rfl rfl (OpQ.spec (sp_move rfl (.inl rfl)) _) ?_
  refine AOps.nil ?_
  refine hK3 _ ?_
  refine AW.block ?_
  refine jc1k h fun o1 hit1 hk1 he1 => ?_
  have J1 : ∀ (u2 : Unit) (i5 : Nat → Nat), o1 = .nrm u2 → K2 ⟨[], [], (i5 0), 91⟩ := by
    intro u2 i5 e
    have h1 := hk1 _ e
    refine hK2 _ ?_
    refine AW.seq_w fun K4 hK4 wK4 => ?_
    refine AW.region ?_
    refine AOps.step rfl rfl rfl (OpQ.spec (sp_assign rfl (.inl rfl)) _) ?_
    refine AOps.nil ?_
    refine hK4 _ ?_
    refine AW.ret ?_
    exact retf1 (P := Try.prog) (fun (r : Int) => .r (.int .i64 r)) h1 (.inl rfl) (.t (.d rfl))
  refine AW.iter1 (fun (x2 : Int) i3 => ⟨[(0, .r (.sl (l1.map GDrawOp.row))), (6, .r (.int .i64 (l1.length : Int))), (7, .r (.int .i64 x2))], [], (i3 0), 91⟩) (vec [n0]) hit1 ((by exact Weak.cv ⟨.inl (.inl rfl), .inl (.inl rfl), .inl (.inl rfl), trivial⟩ trivial (Nat.le_refl _))) ?_
  intro x2 i3 v1 hv1 hx1
  have h2 : ref_DrawError_L1 l1 x2 = some v1 := hv1; unfold ref_DrawError_L1 at h2
  refine AW.seq_w fun K5 hK5 wK5 => ?_
  refine AW.region ?_
  refine AOps.step rfl rfl rfl (OpQ.spec (sp_lss rfl (.inl rfl) (.inl rfl)) _) ?_
  refine AOps.nil ?_
  refine hK5 _ ?_
  refine AW.seq_w fun K6 hK6 wK6 => ?_
  refine AW.cond rfl (fun hc1 => ?_) (fun hc1 => ?_)
  · have h3 := ite_t hc1 h2
    refine AW.skip ?_
    refine hK6 _ ?_
    refine AW.seq_w fun K7 hK7 wK7 => ?_
    refine AW.block ?_
    refine AW.seq_w fun K8 hK8 wK8 => ?_
    refine AW.region ?_
    refine AOps.step rfl rfl rfl (OpQ.spec (sp_move rfl (.inl rfl)) _) ?_
    refine AOps.step rfl rfl rfl (OpQ.spec (sp_assign rfl (.inl rfl)) _) ?_
    refine AOps.nil ?_
    refine hK8 _ ?_
    refine AW.seq_w fun K9 hK9 wK9 => ?_
    refine AW.region ?_
    refine AOps.step rfl rfl rfl (OpQ.spec (sp_move rfl (.inl rfl)) _) ?_
    refine AOps.step rfl rfl rfl (OpQ.spec (sp_move rfl (.inl rfl)) _) ?_
    refine ob1k h3 fun x4 ex4 h4 => ?_
    refine AOps.step rfl rfl rfl (OpQ.spec (ms_idx rfl tg_22.slice (.inl rfl) (.inl rfl) (fun _ => rfl) (fun _ => ex4)) _) ?_
    refine AOps.step rfl rfl rfl (OpQ.spec (ms_loadA (cs := [.r (.int .i64 x4.Clock), .r (.int .i64 x4.Site), .r (.int .i64 x4.Kind), .r (.int .i64 x4.Item), .r (.int .i64 x4.Parent), .r (.str x4.Place), .r (.str x4.Name), .r (.str x4.Value)]) rfl ta_46 (.inl rfl) rfl rfl) _) ?_
    refine AOps.step rfl rfl rfl (ms_alloc (cs := [.r (.int .i64 0), .r (.int .i64 0), .r (.int .i64 0), .r (.int .i64 0), .r (.int .i64 0), .r (.str []), .r (.str []), .r (.str [])]) 4 rfl t0_46 rfl rfl) ?_
    refine AOps.step0 rfl rfl (ms_store_box (ds := [.r (.int .i64 x4.Clock), .r (.int .i64 x4.Site), .r (.int .i64 x4.Kind), .r (.int .i64 x4.Item), .r (.int .i64 x4.Parent), .r (.str x4.Place), .r (.str x4.Name), .r (.str x4.Value)]) rfl tz_46 (.inl rfl) rfl (.inl rfl) rfl rfl rfl rfl) ?_
    refine AOps.nil ?_
    refine hK9 _ ?_
    refine AW.seq_w fun K10 hK10 wK10 => ?_
    refine AW.seq_w fun K11 hK11 wK11 => ?_
    refine AW.region ?_
    refine AOps.step rfl rfl rfl (OpQ.spec (sp_fieldAddr_own (ob := .box _ _ _) rfl tf_46_2 (.inl rfl) (fun _ => rfl) rfl) _) ?_
    refine AOps.step rfl rfl rfl (OpQ.spec (ms_load_box (a := .r (.int .i64 x4.Kind)) rfl ts_3 (.inl rfl) rfl rfl) _) ?_
    refine AOps.step rfl rfl rfl (OpQ.spec (sp_neq rfl (.inl rfl) (.inl rfl)) _) ?_
    refine AOps.step rfl rfl rfl (OpQ.spec (sp_move rfl (.inl rfl)) _) ?_
    refine AOps.stepW (.one rfl rfl rfl) rfl rfl (OpQ.spec (sp_fieldAddr_own (ob := .box _ _ _) rfl tf_46_2 (.inl rfl) (fun _ => rfl) rfl) _) ?_
    refine AOps.stepW (.one rfl rfl rfl) rfl rfl (OpQ.spec (ms_load_box (a := .r (.int .i64 x4.Kind)) rfl ts_3 (.inr ⟨_, (by exact id), rfl⟩) rfl rfl) _) ?_
    refine AOps.stepW (.one rfl rfl rfl) rfl rfl (OpQ.spec (sp_neq rfl (.inr ⟨_, (by exact id), rfl⟩) (.inl rfl)) _) ?_
    refine AOps.step rfl rfl rfl (OpQ.spec (sp_and rfl (.inl rfl) (.inr ⟨_, (by exact id), rfl⟩)) _) ?_
    refine AOps.nil ?_
    refine hK11 _ ?_
    refine AW.cond rfl (fun hc2 => ?_) (fun hc2 => ?_)
    · have h5 := ite_t hc2 h4
      refine AW.seq_w fun K12 hK12 wK12 => ?_
      refine AW.weak (s' := ⟨[], [], ((i3 0) + 1), 91⟩) (by exact Weak.cv trivial trivial (Nat.le_refl _)) ?_
      refine AW.region ?_
      refine AOps.step rfl rfl rfl (OpQ.spec (sp_assign rfl (.inl rfl)) _) ?_
      refine AOps.nil ?_
      refine hK12 _ ?_
      refine AW.ret ?_
      exact retf1 (P := Try.prog) (fun (r : Int) => .r (.int .i64 r)) (he1 _ (hx1 _ (Option.some.inj h5).symm)) (.inl rfl) (.t (.d rfl))
    · have h5 := ite_f hc2 h4
      refine AW.skip ?_
      refine hK10 _ ?_
      refine AW.seq_w fun K13 hK13 wK13 => ?_
      refine AW.seq_w fun K14 hK14 wK14 => ?_
      refine AW.weak (s' := ⟨[(0, .r (.sl (l1.map GDrawOp.row))), (3, .r (.int .i64 x2)), (4, .ptr 4 (i3 0) 0 0), (6, .r (.int .i64 (l1.length : Int))), (7, .r (.int .i64 x2))], [(4, some (.box (i3 0) 46 [.r (.int .i64 x4.Clock), .r (.int .i64 x4.Site), .r (.int .i64 x4.Kind), .r (.int .i64 x4.Item), .r (.int .i64 x4.Parent), .r (.str x4.Place), .r (.str x4.Name), .r (.str x4.Value)]))], ((i3 0) + 1), 91⟩) (by exact Weak.cv ⟨.inl (.inl rfl), .inl (.inl rfl), .inl (.inl rfl), .inl (.inl rfl), .inl (.inl rfl), trivial⟩ ⟨.inl rfl, trivial⟩ (Nat.le_refl _)) ?_
      refine AW.region ?_
      refine AOps.step rfl rfl rfl (OpQ.spec (sp_fieldAddr_own (ob := .box _ _ _) rfl tf_46_0 (.inl rfl) (fun _ => rfl) rfl) _) ?_
      refine AOps.step rfl rfl rfl (OpQ.spec (ms_load_box (a := .r (.int .i64 x4.Clock)) rfl ts_3 (.inl rfl) rfl rfl) _) ?_
      refine ob1k h5 fun r1 er1 h6 => ?_
      refine AOps.step rfl rfl rfl (sp_call (r := .r (.bool r1)) (caps := []) (bs := [.r (.int .i64 x4.Clock), .r (.int .i64 1), .r (.int .i64 1073741824)]) rfl (.inl rfl) rfl ⟨⟨_, (.inl rfl), .d rfl⟩, ⟨_, (.inl rfl), .d rfl⟩, ⟨_, (.inl rfl), .d rfl⟩, trivial⟩ (fun _ => w_ref_In (er1)) rfl) ?_
      refine AOps.step rfl rfl rfl (OpQ.spec (sp_not rfl (.inl rfl)) _) ?_
      refine AOps.step rfl rfl rfl (OpQ.spec (sp_move rfl (.inl rfl)) _) ?_
      refine AOps.stepW (.one rfl rfl rfl) rfl rfl (OpQ.spec (sp_fieldAddr_own (ob := .box _ _ _) rfl tf_46_1 (.inl rfl) (fun _ => rfl) rfl) _) ?_
      refine AOps.stepW (.one rfl rfl rfl) rfl rfl (OpQ.spec (ms_load_box (a := .r (.int .i64 x4.Site)) rfl ts_3 (.inr ⟨_, (by exact id), rfl⟩) rfl rfl) _) ?_
      refine ob1k h6 fun r2 er2 h7 => ?_
      refine AOps.stepW (.one rfl rfl rfl) rfl rfl (sp_call (r := .r (.bool r2)) (caps := []) (bs := [.r (.int .i64 x4.Site), .r (.int .i64 0), .r (.int .i64 1000)]) rfl (.inl rfl) rfl ⟨⟨_, (.inr ⟨_, (by exact id), rfl⟩), .d rfl⟩, ⟨_, (.inl rfl), .d rfl⟩, ⟨_, (.inl rfl), .d rfl⟩, trivial⟩ (fun hg => w_ref_In (gdt er2 hg)) rfl) ?_
      refine AOps.stepW (.one rfl rfl rfl) rfl rfl (OpQ.spec (sp_not rfl (.inr ⟨_, (by exact id), rfl⟩)) _) ?_
      refine AOps.step rfl rfl rfl (OpQ.spec (sp_or rfl (.inl rfl) (.inr ⟨_, (by exact id), rfl⟩)) _) ?_
      refine AOps.step rfl rfl rfl (OpQ.spec (sp_move rfl (.inl rfl)) _) ?_
      refine AOps.stepW (.one rfl rfl rfl) rfl rfl (OpQ.spec (sp_fieldAddr_own (ob := .box _ _ _) rfl tf_46_3 (.inl rfl) (fun _ => rfl) rfl) _) ?_
      refine AOps.stepW (.one rfl rfl rfl) rfl rfl (OpQ.spec (ms_load_box (a := .r (.int .i64 x4.Item)) rfl ts_3 (.inr ⟨_, (by exact id), rfl⟩) rfl rfl) _) ?_
      refine ob1k h7 fun r3 er3 h8 => ?_
      refine AOps.stepW (.one rfl rfl rfl) rfl rfl (sp_call (r := .r (.bool r3)) (caps := []) (bs := [.r (.int .i64 x4.Item), .r (.int .i64 1), .r (.int .i64 1073741824)]) rfl (.inl rfl) rfl ⟨⟨_, (.inr ⟨_, (by exact id), rfl⟩), .d rfl⟩, ⟨_, (.inl rfl), .d rfl⟩, ⟨_, (.inl rfl), .d rfl⟩, trivial⟩ (fun hg => w_ref_In (gdt er3 hg)) rfl) ?_
      refine AOps.stepW (.one rfl rfl rfl) rfl rfl (OpQ.spec (sp_not rfl (.inr ⟨_, (by exact id), rfl⟩)) _) ?_
      refine AOps.step rfl rfl rfl (OpQ.spec (sp_or rfl (.inl rfl) (.inr ⟨_, (by exact id), rfl⟩)) _) ?_
      refine AOps.nil ?_
      refine hK14 _ ?_
      refine AW.cond rfl (fun hc3 => ?_) (fun hc3 => ?_)
      · have h9 := ite_t hc3 h8
        refine AW.seq_w fun K15 hK15 wK15 => ?_
        refine AW.weak (s' := ⟨[], [], ((i3 0) + 1), 91⟩) (by exact Weak.cv trivial trivial (Nat.le_refl _)) ?_
        refine AW.region ?_
        refine AOps.step rfl rfl rfl (OpQ.spec (sp_assign rfl (.inl rfl)) _) ?_
        refine AOps.nil ?_
        refine hK15 _ ?_
        refine AW.ret ?_
        exact retf1 (P := Try.prog) (fun (r : Int) => .r (.int .i64 r)) (he1 _ (hx1 _ (Option.some.inj h9).symm)) (.inl rfl) (.t (.d rfl))
      · have h9 := ite_f hc3 h8
        refine AW.skip ?_
        refine hK13 _ ?_
        refine AW.seq_w fun K16 hK16 wK16 => ?_
        refine AW.seq_w fun K17 hK17 wK17 => ?_
        refine AW.region ?_
        refine AOps.step rfl rfl rfl (OpQ.spec (sp_fieldAddr_own (ob := .box _ _ _) rfl tf_46_2 (.inl rfl) (fun _ => rfl) rfl) _) ?_
        refine AOps.step rfl rfl rfl (OpQ.spec (ms_load_box (a := .r (.int .i64 x4.Kind)) rfl ts_3 (.inl rfl) rfl rfl) _) ?_
        refine AOps.step rfl rfl rfl (OpQ.spec (sp_eql rfl (.inl rfl) (.inl rfl)) _) ?_
        refine AOps.nil ?_
        refine hK17 _ ?_
        refine jc1k h9 fun p1 hp1 hk2 he2 => ?_
        have J2 : ∀ (u3 : Unit) (i6 : Nat → Nat), p1 = .nrm u3 → K16 ⟨[(0, .r (.sl (l1.map GDrawOp.row))), (3, .r (.int .i64 x2)), (4, .ptr 4 (i3 0) 0 0), (6, .r (.int .i64 (l1.length : Int))), (7, .r (.int .i64 x2))], [(4, some (.box (i3 0) 46 [.r (.int .i64 x4.Clock), .r (.int .i64 x4.Site), .r (.int .i64 x4.Kind), .r (.int .i64 x4.Item), .r (.int .i64 x4.Parent), .r (.str x4.Place), .r (.str x4.Name), .r (.str x4.Value)]))], (i6 0), 91⟩ := by
          intro u3 i6 e
          have h10 := hk2 _ e
          refine hK16 _ ?_
          refine AW.seq_w fun K18 hK18 wK18 => ?_
          refine AW.regionQ hmix (by kernel_rfl) ?_
          refine AQ.step rfl rfl rfl (sp_move rfl (.inl rfl)) ?_
          refine AQ.step rfl rfl rfl (sp_gtr rfl (.inl rfl) (.inl rfl)) ?_
          refine AQ.step rfl rfl rfl (sp_move rfl (.inl rfl)) ?_
          refine AQ.stepW (.one rfl rfl rfl) rfl rfl (sp_move rfl (.inl rfl)) ?_
          refine AQ.stepW (.one rfl rfl rfl) rfl rfl (sp_move rfl (.inl rfl)) ?_
          refine ob1k h10 fun x5 ex5 h11 => ?_
          refine AQ.stepW (.one rfl rfl rfl) rfl rfl (ms_sub rfl (.inr ⟨_, (by exact id), rfl⟩) (.inl rfl) (gdt ex5)) ?_
          refine ob1k h11 fun x6 ex6 h12 => ?_
          refine AQ.stepW (.one rfl rfl rfl) rfl rfl (ms_idx rfl tg_22.slice (.inr ⟨_, (by exact id), rfl⟩) (.inr ⟨_, (by exact id), rfl⟩) (fun _ => rfl) (gdt ex6)) ?_
          refine AQ.stepW (.one rfl rfl rfl) rfl rfl (ms_loadA (cs := [.r (.int .i64 x6.Clock), .r (.int .i64 x6.Site), .r (.int .i64 x6.Kind), .r (.int .i64 x6.Item), .r (.int .i64 x6.Parent), .r (.str x6.Place), .r (.str x6.Name), .r (.str x6.Value)]) rfl ta_46 (.inr ⟨_, (by exact id), rfl⟩) rfl rfl) ?_
          refine AQ.stepW (.one rfl rfl rfl) rfl rfl (ms_loadA_box rfl ta_46 (.inl rfl) rfl rfl) ?_
          refine ob1k h12 fun r4 er4 h13 => ?_
          refine AQ.stepWC (.one rfl rfl rfl) rfl rfl (r := .r (.bool r4)) (caps := []) (bs := [.agg [.r (.int .i64 x6.Clock), .r (.int .i64 x6.Site), .r (.int .i64 x6.Kind), .r (.int .i64 x6.Item), .r (.int .i64 x6.Parent), .r (.str x6.Place), .r (.str x6.Name), .r (.str x6.Value)], .agg [.r (.int .i64 x4.Clock), .r (.int .i64 x4.Site), .r (.int .i64 x4.Kind), .r (.int .i64 x4.Item), .r (.int .i64 x4.Parent), .r (.str x4.Place), .r (.str x4.Name), .r (.str x4.Value)]]) rfl (.inl rfl) rfl ⟨⟨_, (.inr ⟨_, (by exact id), rfl⟩), .g (cs := [.int .i64 x6.Clock, .int .i64 x6.Site, .int .i64 x6.Kind, .int .i64 x6.Item, .int .i64 x6.Parent, .str x6.Place, .str x6.Name, .str x6.Value]) rfl rfl⟩, ⟨_, (.inr ⟨_, (by exact id), rfl⟩), .g (cs := [.int .i64 x4.Clock, .int .i64 x4.Site, .int .i64 x4.Kind, .int .i64 x4.Item, .int .i64 x4.Parent, .str x4.Place, .str x4.Name, .str x4.Value]) rfl rfl⟩, trivial⟩ (fun hg => w_ref_Earlier (gdt er4 hg)) rfl ?_
          refine AQ.stepW (.one rfl rfl rfl) rfl rfl (sp_not rfl (.inr ⟨_, (by exact id), rfl⟩)) ?_
          refine AQ.step rfl rfl rfl (sp_and rfl (.inl rfl) (.inr ⟨_, (by exact id), rfl⟩)) ?_
          refine AQ.nil ?_
          refine hK18 _ ?_
          refine AW.cond rfl (fun hc4 => ?_) (fun hc4 => ?_)
          · have h14 := ite_t hc4 h13
            refine AW.seq_w fun K19 hK19 wK19 => ?_
            refine AW.weak (s' := ⟨[], [], (i6 0), 91⟩) (by exact Weak.cv trivial trivial (Nat.le_refl _)) ?_
            refine AW.region ?_
            refine AOps.step rfl rfl rfl (OpQ.spec (sp_assign rfl (.inl rfl)) _) ?_
            refine AOps.nil ?_
            refine hK19 _ ?_
            refine AW.ret ?_
            exact retf1 (P := Try.prog) (fun (r : Int) => .r (.int .i64 r)) (he1 _ (hx1 _ (Option.some.inj h14).symm)) (.inl rfl) (.t (.d rfl))
          · have h14 := ite_f hc4 h13
            refine AW.skip ?_
            refine hK7 _ ?_
            refine AW.region ?_
            refine ob1k h14 fun x7 ex7 h15 => ?_
            refine AOps.step rfl rfl rfl (OpQ.spec (ms_add rfl (.inl rfl) (.inl rfl) (fun _ => ex7)) _) ?_
            refine AOps.step rfl rfl rfl (OpQ.spec (sp_move rfl (.inl rfl)) _) ?_
            refine AOps.nil ?_
            exact NextQ1.mk h15 (vec [(i6 0)]) ((by exact Weak.cv ⟨.inl (.inl rfl), .inl (.inl rfl), .inl (.inl rfl), trivial⟩ trivial (Nat.le_refl _)))
        refine AW.cond rfl (fun hc5 => ?_) (fun hc5 => ?_)
        · have h16 := ite_t hc5 hp1
          refine AW.seq_w fun K20 hK20 wK20 => ?_
          refine AW.seq_w fun K21 hK21 wK21 => ?_
          refine AW.weak (s' := ⟨[(0, .r (.sl (l1.map GDrawOp.row))), (3, .r (.int .i64 x2)), (4, .ptr 4 (i3 0) 0 0), (6, .r (.int .i64 (l1.length : Int))), (7, .r (.int .i64 x2))], [(4, some (.box (i3 0) 46 [.r (.int .i64 x4.Clock), .r (.int .i64 x4.Site), .r (.int .i64 x4.Kind), .r (.int .i64 x4.Item), .r (.int .i64 x4.Parent), .r (.str x4.Place), .r (.str x4.Name), .r (.str x4.Value)]))], ((i3 0) + 1), 91⟩) (by exact Weak.cv ⟨.inl (.inl rfl), .inl (.inl rfl), .inl (.inl rfl), .inl (.inl rfl), .inl (.inl rfl), trivial⟩ ⟨.inl rfl, trivial⟩ (Nat.le_refl _)) ?_
          refine AW.region ?_
          refine AOps.step rfl rfl rfl (OpQ.spec (sp_fieldAddr_own (ob := .box _ _ _) rfl tf_46_6 (.inl rfl) (fun _ => rfl) rfl) _) ?_
          refine AOps.step rfl rfl rfl (OpQ.spec (ms_load_box (a := .r (.str x4.Name)) rfl ts_9 (.inl rfl) rfl rfl) _) ?_
          refine AOps.step rfl rfl rfl (OpQ.spec (sp_sneq rfl (.inl rfl) (.inl rfl)) _) ?_
          refine AOps.step rfl rfl rfl (OpQ.spec (sp_move rfl (.inl rfl)) _) ?_
          refine AOps.stepW (.one rfl rfl rfl) rfl rfl (OpQ.spec (sp_fieldAddr_own (ob := .box _ _ _) rfl tf_46_7 (.inl rfl) (fun _ => rfl) rfl) _) ?_
          refine AOps.stepW (.one rfl rfl rfl) rfl rfl (OpQ.spec (ms_load_box (a := .r (.str x4.Value)) rfl ts_9 (.inr ⟨_, (by exact id), rfl⟩) rfl rfl) _) ?_
          refine AOps.stepW (.one rfl rfl rfl) rfl rfl (OpQ.spec (sp_sneq rfl (.inr ⟨_, (by exact id), rfl⟩) (.inl rfl)) _) ?_
          refine AOps.step rfl rfl rfl (OpQ.spec (sp_or rfl (.inl rfl) (.inr ⟨_, (by exact id), rfl⟩)) _) ?_
          refine AOps.nil ?_
          refine hK21 _ ?_
          refine AW.cond rfl (fun hc6 => ?_) (fun hc6 => ?_)
          · have h17 := ite_t hc6 h16
            refine AW.seq_w fun K22 hK22 wK22 => ?_
            refine AW.weak (s' := ⟨[], [], ((i3 0) + 1), 91⟩) (by exact Weak.cv trivial trivial (Nat.le_refl _)) ?_
            refine AW.region ?_
            refine AOps.step rfl rfl rfl (OpQ.spec (sp_assign rfl (.inl rfl)) _) ?_
            refine AOps.nil ?_
            refine hK22 _ ?_
            refine AW.ret ?_
            exact retf1 (P := Try.prog) (fun (r : Int) => .r (.int .i64 r)) (he1 _ (hx1 _ (Option.some.inj (he2 _ (Option.some.inj h17).symm)).symm)) (.inl rfl) (.t (.d rfl))
          · have h17 := ite_f hc6 h16
            refine AW.skip ?_
            refine hK20 _ ?_
            refine AW.seq_w fun K23 hK23 wK23 => ?_
            refine AW.seq_w fun K24 hK24 wK24 => ?_
            refine AW.region ?_
            refine AOps.step rfl rfl rfl (OpQ.spec (sp_fieldAddr_own (ob := .box _ _ _) rfl tf_46_4 (.inl rfl) (fun _ => rfl) rfl) _) ?_
            refine AOps.step rfl rfl rfl (OpQ.spec (ms_load_box (a := .r (.int .i64 x4.Parent)) rfl ts_3 (.inl rfl) rfl rfl) _) ?_
            refine ob1k h17 fun r5 er5 h18 => ?_
            refine AOps.step rfl rfl rfl (sp_call (r := .r (.bool r5)) (caps := []) (bs := [.r (.int .i64 x4.Parent), .r (.int .i64 (-1)), .r (.int .i64 1073741824)]) rfl (.inl rfl) rfl ⟨⟨_, (.inl rfl), .d rfl⟩, ⟨_, (.inl rfl), .d rfl⟩, ⟨_, (.inl rfl), .d rfl⟩, trivial⟩ (fun _ => w_ref_In (er5)) rfl) ?_
            refine AOps.step rfl rfl rfl (OpQ.spec (sp_not rfl (.inl rfl)) _) ?_
            refine AOps.nil ?_
            refine hK24 _ ?_
            refine AW.cond rfl (fun hc7 => ?_) (fun hc7 => ?_)
            · have h19 := ite_t hc7 h18
              refine AW.seq_w fun K25 hK25 wK25 => ?_
              refine AW.weak (s' := ⟨[], [], ((i3 0) + 1), 91⟩) (by exact Weak.cv trivial trivial (Nat.le_refl _)) ?_
              refine AW.region ?_
              refine AOps.step rfl rfl rfl (OpQ.spec (sp_assign rfl (.inl rfl)) _) ?_
              refine AOps.nil ?_
              refine hK25 _ ?_
              refine AW.ret ?_
              exact retf1 (P := Try.prog) (fun (r : Int) => .r (.int .i64 r)) (he1 _ (hx1 _ (Option.some.inj (he2 _ (Option.some.inj h19).symm)).symm)) (.inl rfl) (.t (.d rfl))
            · have h19 := ite_f hc7 h18
              refine AW.skip ?_
              refine hK23 _ ?_
              refine AW.seq_w fun K26 hK26 wK26 => ?_
              refine AW.weak (s' := ⟨[(0, .r (.sl (l1.map GDrawOp.row))), (3, .r (.int .i64 x2)), (4, .ptr 4 (i3 0) 0 0), (6, .r (.int .i64 (l1.length : Int))), (7, .r (.int .i64 x2))], [(4, some (.box (i3 0) 46 [.r (.int .i64 x4.Clock), .r (.int .i64 x4.Site), .r (.int .i64 x4.Kind), .r (.int .i64 x4.Item), .r (.int .i64 x4.Parent), .r (.str x4.Place), .r (.str x4.Name), .r (.str x4.Value)]))], ((i3 0) + 1), 91⟩) (by exact Weak.cv ⟨.inl (.inl rfl), .inl (.inl rfl), .inl (.inl rfl), .inl (.inl rfl), .inl (.inl rfl), trivial⟩ ⟨.inl rfl, trivial⟩ (Nat.le_refl _)) ?_
              refine AW.region ?_
              refine AOps.step rfl rfl rfl (OpQ.spec (sp_fieldAddr_own (ob := .box _ _ _) rfl tf_46_5 (.inl rfl) (fun _ => rfl) rfl) _) ?_
              refine AOps.step rfl rfl rfl (OpQ.spec (ms_load_box (a := .r (.str x4.Place)) rfl ts_9 (.inl rfl) rfl rfl) _) ?_
              refine ob1k h19 fun r6 er6 h20 => ?_
              refine AOps.step rfl rfl rfl (sp_call (r := .r (.bool r6)) (caps := []) (bs := [.r (.str x4.Place)]) rfl (.inl rfl) rfl ⟨⟨_, (.inl rfl), .d rfl⟩, trivial⟩ (fun _ => w_ref_Place (er6)) rfl) ?_
              refine AOps.step rfl rfl rfl (OpQ.spec (sp_not rfl (.inl rfl)) _) ?_
              refine AOps.nil ?_
              refine hK26 _ ?_
              refine AW.cond rfl (fun hc8 => ?_) (fun hc8 => ?_)
              · have h21 := ite_t hc8 h20
                refine AW.seq_w fun K27 hK27 wK27 => ?_
                refine AW.weak (s' := ⟨[], [], ((i3 0) + 1), 91⟩) (by exact Weak.cv trivial trivial (Nat.le_refl _)) ?_
                refine AW.region ?_
                refine AOps.step rfl rfl rfl (OpQ.spec (sp_assign rfl (.inl rfl)) _) ?_
                refine AOps.nil ?_
                refine hK27 _ ?_
                refine AW.ret ?_
                exact retf1 (P := Try.prog) (fun (r : Int) => .r (.int .i64 r)) (he1 _ (hx1 _ (Option.some.inj (he2 _ (Option.some.inj h21).symm)).symm)) (.inl rfl) (.t (.d rfl))
              · have h21 := ite_f hc8 h20
                refine AW.skip ?_
                exact wK16 _ _ ((by exact Weak.cv ⟨.inl (.inl rfl), .inl (.inl rfl), .inl (.inl rfl), .inl (.inl rfl), .inl (.inl rfl), trivial⟩ ⟨.inl rfl, trivial⟩ (Nat.le_refl _))) (J2 _ (vec [((i3 0) + 1)]) (Option.some.inj h21).symm)
        · have h16 := ite_f hc5 hp1
          refine AW.seq_w fun K28 hK28 wK28 => ?_
          refine AW.seq_w fun K29 hK29 wK29 => ?_
          refine AW.weak (s' := ⟨[(0, .r (.sl (l1.map GDrawOp.row))), (3, .r (.int .i64 x2)), (4, .ptr 4 (i3 0) 0 0), (6, .r (.int .i64 (l1.length : Int))), (7, .r (.int .i64 x2))], [(4, some (.box (i3 0) 46 [.r (.int .i64 x4.Clock), .r (.int .i64 x4.Site), .r (.int .i64 x4.Kind), .r (.int .i64 x4.Item), .r (.int .i64 x4.Parent), .r (.str x4.Place), .r (.str x4.Name), .r (.str x4.Value)]))], ((i3 0) + 1), 91⟩) (by exact Weak.cv ⟨.inl (.inl rfl), .inl (.inl rfl), .inl (.inl rfl), .inl (.inl rfl), .inl (.inl rfl), trivial⟩ ⟨.inl rfl, trivial⟩ (Nat.le_refl _)) ?_
          refine AW.region ?_
          refine AOps.step rfl rfl rfl (OpQ.spec (sp_fieldAddr_own (ob := .box _ _ _) rfl tf_46_4 (.inl rfl) (fun _ => rfl) rfl) _) ?_
          refine AOps.step rfl rfl rfl (OpQ.spec (ms_load_box (a := .r (.int .i64 x4.Parent)) rfl ts_3 (.inl rfl) rfl rfl) _) ?_
          refine AOps.step rfl rfl rfl (OpQ.spec (sp_neq rfl (.inl rfl) (.inl rfl)) _) ?_
          refine AOps.step rfl rfl rfl (OpQ.spec (sp_move rfl (.inl rfl)) _) ?_
          refine AOps.stepW (.one rfl rfl rfl) rfl rfl (OpQ.spec (sp_fieldAddr_own (ob := .box _ _ _) rfl tf_46_5 (.inl rfl) (fun _ => rfl) rfl) _) ?_
          refine AOps.stepW (.one rfl rfl rfl) rfl rfl (OpQ.spec (ms_load_box (a := .r (.str x4.Place)) rfl ts_9 (.inr ⟨_, (by exact id), rfl⟩) rfl rfl) _) ?_
          refine AOps.stepW (.one rfl rfl rfl) rfl rfl (OpQ.spec (sp_sneq rfl (.inr ⟨_, (by exact id), rfl⟩) (.inl rfl)) _) ?_
          refine AOps.step rfl rfl rfl (OpQ.spec (sp_or rfl (.inl rfl) (.inr ⟨_, (by exact id), rfl⟩)) _) ?_
          refine AOps.nil ?_
          refine hK29 _ ?_
          refine AW.cond rfl (fun hc9 => ?_) (fun hc9 => ?_)
          · have h22 := ite_t hc9 h16
            refine AW.seq_w fun K30 hK30 wK30 => ?_
            refine AW.weak (s' := ⟨[], [], ((i3 0) + 1), 91⟩) (by exact Weak.cv trivial trivial (Nat.le_refl _)) ?_
            refine AW.region ?_
            refine AOps.step rfl rfl rfl (OpQ.spec (sp_assign rfl (.inl rfl)) _) ?_
            refine AOps.nil ?_
            refine hK30 _ ?_
            refine AW.ret ?_
            exact retf1 (P := Try.prog) (fun (r : Int) => .r (.int .i64 r)) (he1 _ (hx1 _ (Option.some.inj (he2 _ (Option.some.inj h22).symm)).symm)) (.inl rfl) (.t (.d rfl))
          · have h22 := ite_f hc9 h16
            refine AW.skip ?_
            refine hK28 _ ?_
            refine AW.seq_w fun K31 hK31 wK31 => ?_
            refine AW.seq_w fun K32 hK32 wK32 => ?_
            refine AW.region ?_
            refine AOps.step rfl rfl rfl (OpQ.spec (sp_fieldAddr_own (ob := .box _ _ _) rfl tf_46_6 (.inl rfl) (fun _ => rfl) rfl) _) ?_
            refine AOps.step rfl rfl rfl (OpQ.spec (ms_load_box (a := .r (.str x4.Name)) rfl ts_9 (.inl rfl) rfl rfl) _) ?_
            refine ob1k h22 fun r7 er7 h23 => ?_
            refine AOps.step rfl rfl rfl (sp_call (r := .r (.bool r7)) (caps := []) (bs := [.r (.str x4.Name)]) rfl (.inl rfl) rfl ⟨⟨_, (.inl rfl), .d rfl⟩, trivial⟩ (fun _ => w_ref_Name (er7)) rfl) ?_
            refine AOps.step rfl rfl rfl (OpQ.spec (sp_not rfl (.inl rfl)) _) ?_
            refine AOps.nil ?_
            refine hK32 _ ?_
            refine AW.cond rfl (fun hc10 => ?_) (fun hc10 => ?_)
            · have h24 := ite_t hc10 h23
              refine AW.seq_w fun K33 hK33 wK33 => ?_
              refine AW.weak (s' := ⟨[], [], ((i3 0) + 1), 91⟩) (by exact Weak.cv trivial trivial (Nat.le_refl _)) ?_
              refine AW.region ?_
              refine AOps.step rfl rfl rfl (OpQ.spec (sp_assign rfl (.inl rfl)) _) ?_
              refine AOps.nil ?_
              refine hK33 _ ?_
              refine AW.ret ?_
              exact retf1 (P := Try.prog) (fun (r : Int) => .r (.int .i64 r)) (he1 _ (hx1 _ (Option.some.inj (he2 _ (Option.some.inj h24).symm)).symm)) (.inl rfl) (.t (.d rfl))
            · have h24 := ite_f hc10 h23
              refine AW.skip ?_
              refine hK31 _ ?_
              refine AW.seq_w fun K34 hK34 wK34 => ?_
              refine AW.weak (s' := ⟨[(0, .r (.sl (l1.map GDrawOp.row))), (3, .r (.int .i64 x2)), (4, .ptr 4 (i3 0) 0 0), (6, .r (.int .i64 (l1.length : Int))), (7, .r (.int .i64 x2))], [(4, some (.box (i3 0) 46 [.r (.int .i64 x4.Clock), .r (.int .i64 x4.Site), .r (.int .i64 x4.Kind), .r (.int .i64 x4.Item), .r (.int .i64 x4.Parent), .r (.str x4.Place), .r (.str x4.Name), .r (.str x4.Value)]))], ((i3 0) + 1), 91⟩) (by exact Weak.cv ⟨.inl (.inl rfl), .inl (.inl rfl), .inl (.inl rfl), .inl (.inl rfl), .inl (.inl rfl), trivial⟩ ⟨.inl rfl, trivial⟩ (Nat.le_refl _)) ?_
              refine AW.region ?_
              refine AOps.step rfl rfl rfl (OpQ.spec (sp_fieldAddr_own (ob := .box _ _ _) rfl tf_46_7 (.inl rfl) (fun _ => rfl) rfl) _) ?_
              refine AOps.step rfl rfl rfl (OpQ.spec (ms_load_box (a := .r (.str x4.Value)) rfl ts_9 (.inl rfl) rfl rfl) _) ?_
              refine AOps.step rfl rfl rfl (OpQ.spec (sp_sneq rfl (.inl rfl) (.inl rfl)) _) ?_
              refine AOps.step rfl rfl rfl (OpQ.spec (sp_move rfl (.inl rfl)) _) ?_
              refine AOps.stepW (.one rfl rfl rfl) rfl rfl (OpQ.spec (sp_fieldAddr_own (ob := .box _ _ _) rfl tf_46_7 (.inl rfl) (fun _ => rfl) rfl) _) ?_
              refine AOps.stepW (.one rfl rfl rfl) rfl rfl (OpQ.spec (ms_load_box (a := .r (.str x4.Value)) rfl ts_9 (.inr ⟨_, (by exact id), rfl⟩) rfl rfl) _) ?_
              refine ob1k h24 fun r8 er8 h25 => ?_
              refine AOps.stepW (.one rfl rfl rfl) rfl rfl (sp_call (r := .r (.bool r8)) (caps := []) (bs := [.r (.str x4.Value)]) rfl (.inl rfl) rfl ⟨⟨_, (.inr ⟨_, (by exact id), rfl⟩), .d rfl⟩, trivial⟩ (fun hg => w_ref_Value (gdt er8 hg)) rfl) ?_
              refine AOps.stepW (.one rfl rfl rfl) rfl rfl (OpQ.spec (sp_not rfl (.inr ⟨_, (by exact id), rfl⟩)) _) ?_
              refine AOps.step rfl rfl rfl (OpQ.spec (sp_and rfl (.inl rfl) (.inr ⟨_, (by exact id), rfl⟩)) _) ?_
              refine AOps.nil ?_
              refine hK34 _ ?_
              refine AW.cond rfl (fun hc11 => ?_) (fun hc11 => ?_)
              · have h26 := ite_t hc11 h25
                refine AW.seq_w fun K35 hK35 wK35 => ?_
                refine AW.weak (s' := ⟨[], [], ((i3 0) + 1), 91⟩) (by exact Weak.cv trivial trivial (Nat.le_refl _)) ?_
                refine AW.region ?_
                refine AOps.step rfl rfl rfl (OpQ.spec (sp_assign rfl (.inl rfl)) _) ?_
                refine AOps.nil ?_
                refine hK35 _ ?_
                refine AW.ret ?_
                exact retf1 (P := Try.prog) (fun (r : Int) => .r (.int .i64 r)) (he1 _ (hx1 _ (Option.some.inj (he2 _ (Option.some.inj h26).symm)).symm)) (.inl rfl) (.t (.d rfl))
              · have h26 := ite_f hc11 h25
                refine AW.skip ?_
                exact wK16 _ _ ((by exact Weak.cv ⟨.inl (.inl rfl), .inl (.inl rfl), .inl (.inl rfl), .inl (.inl rfl), .inl (.inl rfl), trivial⟩ ⟨.inl rfl, trivial⟩ (Nat.le_refl _))) (J2 _ (vec [((i3 0) + 1)]) (Option.some.inj h26).symm)
  · have h3 := ite_f hc1 h2
    refine AW.exit ?_
    exact wK2 _ _ ((by exact Weak.cv trivial trivial (Nat.le_refl _))) (J1 _ (vec [(i3 0)]) (hx1 _ (Option.some.inj h3).symm))
theorem w_replica_Both {a1 : List GDrawOp} {b1 : List GDrawOp} {r : (List GDrawOp) × Int} (h : replica_Both a1 b1 = some r) : ARO Try.prog 36 [.r (.sl (a1.map GDrawOp.row)), .r (.sl (b1.map GDrawOp.row))] (.tup [.r (.sl (r.1.map GDrawOp.row)), .r (.int .i64 r.2)]) := by
  unfold replica_Both at h
  refine ARO.mkF Try.func36 rfl rfl Try.ntmps36 rfl (Nat.le_of_ble_eq_true rfl) fun n0 => ?_
  refine AW.seq_w fun K1 hK1 wK1 => ?_
  refine AW.region ?_
  refine AOps.step rfl rfl rfl (OpQ.spec (sp_assign rfl (.inl rfl)) _) ?_
  refine AOps.step rfl rfl rfl (OpQ.spec (sp_assign rfl (.inl rfl)) _) ?_
  refine AOps.nil ?_
  refine hK1 _ ?_
  refine AW.seq_w fun K2 hK2 wK2 => ?_
  refine AW.region ?_
  refine AOps.step rfl rfl rfl (OpQ.spec (sp_assign rfl (.inl rfl)) _) ?_
  refine AOps.nil ?_
  refine hK2 _ ?_
  refine AW.seq_w fun K3 hK3 wK3 => ?_
  refine AW.block ?_
  refine jc1k h fun o1 hit1 hk1 he1 => ?_
  have J1 : ∀ (out4 : List GDrawOp) (i5 : Nat → Nat), o1 = .nrm out4 → K3 ⟨[(6, .own 5006 (i5 0))], [(5006, some (.arr (i5 0) 46 8 (out4.map GDrawOp.row)))], (i5 1), 83⟩ := by
    intro out4 i5 e
    have h1 := hk1 _ e
    refine hK3 _ ?_
    refine AW.seq_w fun K4 hK4 wK4 => ?_
    refine AW.region ?_
    refine AOps.step rfl rfl rfl (OpQ.spec (sp_move rfl (.inl rfl)) _) ?_
    refine AOps.step rfl rfl rfl (OpQ.spec (sp_assign rfl (.inl rfl)) _) ?_
    refine AOps.step rfl rfl rfl (OpQ.spec (sp_assign rfl (.inl rfl)) _) ?_
    refine AOps.nil ?_
    refine hK4 _ ?_
    refine AW.ret ?_
    exact retf2 (P := Try.prog) (fun (r : (List GDrawOp) × Int) => .r (.sl (r.1.map GDrawOp.row))) (fun (r : (List GDrawOp) × Int) => .r (.int .i64 r.2)) h1 (.inl rfl) (.t (.one (.own rfl))) (.t (.d rfl))
  refine AW.iter3 (fun (a3 : List GDrawOp) (b3 : List GDrawOp) (out2 : List GDrawOp) i3 => ⟨[(0, .r (.sl (a3.map GDrawOp.row))), (1, .r (.sl (b3.map GDrawOp.row))), (6, .own 5006 (i3 0))], [(5006, some (.arr (i3 0) 46 8 (out2.map GDrawOp.row)))], (i3 1), 83⟩) (vec [n0, (n0 + 1)]) hit1 (Weak.trans (Weak.trans (Weak.adopt 6 5006 46 8 (by decide) rfl) (by exact Weak.cv (e' := [(0, .r (.sl (a1.map GDrawOp.row))), (1, .r (.sl (b1.map GDrawOp.row))), (4, .cst (.slice none 0 0)), (5, .r (.int .i64 0)), (6, .own 5006 n0)]) (h' := [(5006, some (.arr n0 46 8 (([] : List GDrawOp).map GDrawOp.row)))]) ⟨.inl (.inl rfl), .inl (.inl rfl), .inl (.inl rfl), .inl (.inl rfl), .inl (.inl rfl), trivial⟩ ⟨.inl rfl, trivial⟩ (Nat.le_refl _))) (by exact Weak.cv ⟨.inl (.inl rfl), .inl (.inl rfl), .inl (.inl rfl), trivial⟩ ⟨.inl rfl, trivial⟩ (Nat.le_refl _))) ?_
  intro a3 b3 out2 i3 v1 hv1 hx1
  have h2 : replica_Both_L1 a3 b3 out2 = some v1 := hv1; unfold replica_Both_L1 at h2
  refine AW.seq_w fun K5 hK5 wK5 => ?_
  refine AW.seq_w fun K6 hK6 wK6 => ?_
  refine AW.region ?_
  refine AOps.step rfl rfl rfl (OpQ.spec (sp_move rfl (.inl rfl)) _) ?_
  refine AOps.step rfl rfl rfl (OpQ.spec (ms_len rfl tg_22.slice (.inl rfl)) _) ?_
  refine AOps.step rfl rfl rfl (OpQ.spec (sp_gtr rfl (.inl rfl) (.inl rfl)) _) ?_
  refine AOps.step rfl rfl rfl (OpQ.spec (sp_move rfl (.inl rfl)) _) ?_
  refine AOps.stepW (.one rfl rfl rfl) rfl rfl (OpQ.spec (sp_move rfl (.inl rfl)) _) ?_
  refine AOps.stepW (.one rfl rfl rfl) rfl rfl (OpQ.spec (ms_len rfl tg_22.slice (.inr ⟨_, (by exact id), rfl⟩)) _) ?_
  refine AOps.stepW (.one rfl rfl rfl) rfl rfl (OpQ.spec (sp_gtr rfl (.inr ⟨_, (by exact id), rfl⟩) (.inl rfl)) _) ?_
  refine AOps.step rfl rfl rfl (OpQ.spec (sp_or rfl (.inl rfl) (.inr ⟨_, (by exact id), rfl⟩)) _) ?_
  refine AOps.nil ?_
  refine hK6 _ ?_
  refine AW.cond rfl (fun hc1 => ?_) (fun hc1 => ?_)
  · have h3 := ite_t hc1 h2
    refine AW.skip ?_
    refine hK5 _ ?_
    refine AW.block ?_
    refine AW.block ?_
    refine AW.seq_w fun K7 hK7 wK7 => ?_
    refine AW.regionQ hmix (by kernel_rfl) ?_
    refine AQ.step rfl rfl rfl (sp_move rfl (.inl rfl)) ?_
    refine AQ.step rfl rfl rfl (ms_len rfl tg_22.slice (.inl rfl)) ?_
    refine AQ.step rfl rfl rfl (sp_eql rfl (.inl rfl) (.inl rfl)) ?_
    refine AQ.step rfl rfl rfl (sp_move rfl (.inl rfl)) ?_
    refine AQ.stepW (.one rfl rfl rfl) rfl rfl (sp_move rfl (.inl rfl)) ?_
    refine AQ.stepW (.one rfl rfl rfl) rfl rfl (ms_len rfl tg_22.slice (.inr ⟨_, (by exact id), rfl⟩)) ?_
    refine AQ.stepW (.one rfl rfl rfl) rfl rfl (sp_gtr rfl (.inr ⟨_, (by exact id), rfl⟩) (.inl rfl)) ?_
    refine AQ.stepW (.one rfl rfl rfl) rfl rfl (sp_move rfl (.inr ⟨_, (by exact id), rfl⟩)) ?_
    refine AQ.stepW (.two rfl rfl rfl) rfl rfl (sp_move rfl (.inl rfl)) ?_
    refine ob1k h3 fun x1 ex1 h4 => ?_
    refine AQ.stepW (.two rfl rfl rfl) rfl rfl (ms_idx rfl tg_22.slice (.inr ⟨_, (by exact id), rfl⟩) (.inl rfl) (fun _ => rfl) (gdt ex1)) ?_
    refine AQ.stepW (.two rfl rfl rfl) rfl rfl (ms_loadA (cs := [.r (.int .i64 x1.Clock), .r (.int .i64 x1.Site), .r (.int .i64 x1.Kind), .r (.int .i64 x1.Item), .r (.int .i64 x1.Parent), .r (.str x1.Place), .r (.str x1.Name), .r (.str x1.Value)]) rfl ta_46 (.inr ⟨_, (by exact id), rfl⟩) rfl rfl) ?_
    refine AQ.stepW (.two rfl rfl rfl) rfl rfl (sp_move rfl (.inl rfl)) ?_
    refine ob1k h4 fun x2 ex2 h5 => ?_
    refine AQ.stepW (.two rfl rfl rfl) rfl rfl (ms_idx rfl tg_22.slice (.inr ⟨_, (by exact id), rfl⟩) (.inl rfl) (fun _ => rfl) (gdt ex2)) ?_
    refine AQ.stepW (.two rfl rfl rfl) rfl rfl (ms_loadA (cs := [.r (.int .i64 x2.Clock), .r (.int .i64 x2.Site), .r (.int .i64 x2.Kind), .r (.int .i64 x2.Item), .r (.int .i64 x2.Parent), .r (.str x2.Place), .r (.str x2.Name), .r (.str x2.Value)]) rfl ta_46 (.inr ⟨_, (by exact id), rfl⟩) rfl rfl) ?_
    refine ob1k h5 fun r1 er1 h6 => ?_
    refine AQ.stepWC (.two rfl rfl rfl) rfl rfl (r := .r (.int .i64 r1)) (caps := []) (bs := [.agg [.r (.int .i64 x1.Clock), .r (.int .i64 x1.Site), .r (.int .i64 x1.Kind), .r (.int .i64 x1.Item), .r (.int .i64 x1.Parent), .r (.str x1.Place), .r (.str x1.Name), .r (.str x1.Value)], .agg [.r (.int .i64 x2.Clock), .r (.int .i64 x2.Site), .r (.int .i64 x2.Kind), .r (.int .i64 x2.Item), .r (.int .i64 x2.Parent), .r (.str x2.Place), .r (.str x2.Name), .r (.str x2.Value)]]) rfl (.inl rfl) rfl ⟨⟨_, (.inr ⟨_, (by exact id), rfl⟩), .g (cs := [.int .i64 x1.Clock, .int .i64 x1.Site, .int .i64 x1.Kind, .int .i64 x1.Item, .int .i64 x1.Parent, .str x1.Place, .str x1.Name, .str x1.Value]) rfl rfl⟩, ⟨_, (.inr ⟨_, (by exact id), rfl⟩), .g (cs := [.int .i64 x2.Clock, .int .i64 x2.Site, .int .i64 x2.Kind, .int .i64 x2.Item, .int .i64 x2.Parent, .str x2.Place, .str x2.Name, .str x2.Value]) rfl rfl⟩, trivial⟩ (fun hg => w_replica_stamps (gdt er1 hg)) rfl ?_
    refine AQ.stepW (.two rfl rfl rfl) rfl rfl (sp_lss rfl (.inr ⟨_, (by exact id), rfl⟩) (.inl rfl)) ?_
    refine AQ.stepW (.one rfl rfl rfl) rfl rfl (sp_and rfl (.inr ⟨_, (by exact id), rfl⟩) (.inr ⟨_, (by exact id), rfl⟩)) ?_
    refine AQ.step rfl rfl rfl (sp_or rfl (.inl rfl) (.inr ⟨_, (by exact id), rfl⟩)) ?_
    refine AQ.step rfl rfl rfl (sp_assign rfl (.inl rfl)) ?_
    refine AQ.nil ?_
    refine hK7 _ ?_
    refine AW.cond rfl (fun hc2 => ?_) (fun hc2 => ?_)
    · have h7 := ite_t hc2 h6
      refine AW.weak (s' := ⟨[(0, .r (.sl (a3.map GDrawOp.row))), (1, .r (.sl (b3.map GDrawOp.row))), (6, .own 5006 (i3 0))], [(5006, some (.arr (i3 0) 46 8 (out2.map GDrawOp.row)))], (i3 1), 83⟩) (by exact Weak.cv ⟨.inl (.inl rfl), .inl (.inl rfl), .inl (.inl rfl), trivial⟩ ⟨.inl rfl, trivial⟩ (Nat.le_refl _)) ?_
      refine ob1k h7 fun x3 ex3 h8 => ?_
      refine ob1k h8 fun out5 eout5 h9 => ?_
      refine ob1k h9 fun a5 ea5 h10 => ?_
      refine AW.regionP 9 [⟨some 44, (fun _ => .own 5006 (i3 0)), none, []⟩, ⟨some 45, (fun _ => .r (.sl (a3.map GDrawOp.row))), none, []⟩, ⟨some 46, (fun _ => .rop (GDrawOp.row x3) 0), none, []⟩, ⟨some 47, (fun _ => .agg [.r (.int .i64 x3.Clock), .r (.int .i64 x3.Site), .r (.int .i64 x3.Kind), .r (.int .i64 x3.Item), .r (.int .i64 x3.Parent), .r (.str x3.Place), .r (.str x3.Name), .r (.str x3.Value)]), none, []⟩, ⟨some 48, (fun G1 => .own 48 (G1 4)), some (48, (fun G1 => some (.arr (G1 4) 46 8 ([x3].map GDrawOp.row)))), [4]⟩, ⟨some 49, (fun G1 => .own 5006 (G1 5)), some (5006, (fun G1 => some (.arr (G1 5) 46 8 (out5.map GDrawOp.row)))), [5]⟩, ⟨some 50, (fun _ => .r (.sl (a3.map GDrawOp.row))), none, []⟩, ⟨some 51, (fun _ => .r (.sl (a5.map GDrawOp.row))), none, []⟩, ⟨some 6, (fun G1 => .own 5006 (G1 5)), none, [5]⟩] hmix (by kernel_rfl) (by exact ⟨fun _ _ h => ⟨rfl, fun _ _ e => by cases e⟩, fun _ _ h => ⟨rfl, fun _ _ e => by cases e⟩, fun _ _ h => ⟨rfl, fun _ _ e => by cases e⟩, fun _ _ h => ⟨rfl, fun _ _ e => by cases e⟩, fun _ _ h => ⟨by simp only [h 4 rfl], fun _ _ e => by cases e; simp only [h 4 rfl]⟩, fun _ _ h => ⟨by simp only [h 5 rfl], fun _ _ e => by cases e; simp only [h 5 rfl]⟩, fun _ _ h => ⟨rfl, fun _ _ e => by cases e⟩, fun _ _ h => ⟨rfl, fun _ _ e => by cases e⟩, fun _ _ h => ⟨by simp only [h 5 rfl], fun _ _ e => by cases e⟩, trivial⟩) rfl (by exact ⟨Ob.quiet (n1 := fun n => n) rfl rfl (by intro d h; cases h; rfl) rfl (fun _ => [(6, .own 5006 (i3 0))]) (fun _ => [(5006, some (.arr (i3 0) 46 8 (out2.map GDrawOp.row)))]) (fun D G1 hr => ⟨inE_baseL hr (by kernel_rfl) rfl, trivial⟩) (fun D G1 hr => ⟨inH_baseL hr (by kernel_rfl) rfl, trivial⟩) (fun _ _ => rfl) (fun G1 e h' n => OpQ.spec (v := .own 5006 (i3 0)) (sp_move rfl (.inl rfl)) _),
          Ob.quiet (n1 := fun n => n) rfl rfl (by intro d h; cases h; rfl) rfl (fun _ => [(0, .r (.sl (a3.map GDrawOp.row)))]) (fun _ => []) (fun D G1 hr => ⟨inE_base rfl rfl, trivial⟩) (fun D G1 hr => trivial) (fun _ _ => rfl) (fun G1 e h' n => OpQ.spec (v := .r (.sl (a3.map GDrawOp.row))) (sp_move rfl (.inl rfl)) _),
          Ob.quiet (n1 := fun n => n) rfl rfl (by intro d h; cases h; rfl) rfl (fun _ => [(45, .r (.sl (a3.map GDrawOp.row)))]) (fun _ => []) (fun D G1 hr => ⟨inE_op hr 1 rfl rfl (by kernel_rfl) rfl rfl, trivial⟩) (fun D G1 hr => trivial) (fun _ _ => rfl) (fun G1 e h' n => OpQ.spec (v := .rop (GDrawOp.row x3) 0) (ms_idx rfl tg_22.slice (.inl rfl) (.inl rfl) (fun _ => rfl) (fun _ => ex3)) _),
          Ob.quiet (n1 := fun n => n) rfl rfl (by intro d h; cases h; rfl) rfl (fun _ => [(46, .rop (GDrawOp.row x3) 0)]) (fun _ => []) (fun D G1 hr => ⟨inE_op hr 2 rfl rfl (by kernel_rfl) rfl rfl, trivial⟩) (fun D G1 hr => trivial) (fun _ _ => rfl) (fun G1 e h' n => OpQ.spec (v := .agg [.r (.int .i64 x3.Clock), .r (.int .i64 x3.Site), .r (.int .i64 x3.Kind), .r (.int .i64 x3.Item), .r (.int .i64 x3.Parent), .r (.str x3.Place), .r (.str x3.Name), .r (.str x3.Value)]) (ms_loadA (cs := [.r (.int .i64 x3.Clock), .r (.int .i64 x3.Site), .r (.int .i64 x3.Kind), .r (.int .i64 x3.Item), .r (.int .i64 x3.Parent), .r (.str x3.Place), .r (.str x3.Name), .r (.str x3.Value)]) rfl ta_46 (.inl rfl) rfl rfl) _),
          Ob.make (n1 := fun n => n + 1) rfl rfl (by intro d h; cases h; rfl) rfl (fun _ => [(47, .agg [.r (.int .i64 x3.Clock), .r (.int .i64 x3.Site), .r (.int .i64 x3.Kind), .r (.int .i64 x3.Item), .r (.int .i64 x3.Parent), .r (.str x3.Place), .r (.str x3.Name), .r (.str x3.Value)])]) (fun _ => []) (fun D G1 hr => ⟨inE_op hr 3 rfl rfl (by kernel_rfl) rfl rfl, trivial⟩) (fun D G1 hr => trivial) (fun G1 e h' n => ms_lit 48 rfl tg_22 (f := GDrawOp.row) (l := ([x3] : List GDrawOp)) ⟨rfl, ⟨_, (.inl rfl), rfl⟩, trivial⟩ rfl (fun _ => rfl) rfl),
          Ob.make (n1 := fun n => n + 1) rfl rfl (by intro d h; cases h; rfl) rfl (fun G1 => [(44, .own 5006 (i3 0)), (48, .own 48 (G1 4))]) (fun G1 => [(48, some (.arr (G1 4) 46 8 ([x3].map GDrawOp.row))), (5006, some (.arr (i3 0) 46 8 (out2.map GDrawOp.row)))]) (fun D G1 hr => ⟨inE_op hr 0 rfl rfl (by kernel_rfl) rfl rfl, inE_op hr 4 rfl rfl (by kernel_rfl) rfl rfl, trivial⟩) (fun D G1 hr => ⟨inH_op hr 4 rfl rfl (by kernel_rfl) (by kernel_rfl) rfl, inH_baseL hr (by kernel_rfl) rfl, trivial⟩) (fun G1 e h' n => ms_app rfl tg_22 (.inl rfl) rfl (.inr (.inl ⟨_, _, (.inl rfl), rfl⟩)) eout5),
          Ob.quiet (n1 := fun n => n) rfl rfl (by intro d h; cases h; rfl) rfl (fun _ => [(0, .r (.sl (a3.map GDrawOp.row)))]) (fun _ => []) (fun D G1 hr => ⟨inE_base rfl rfl, trivial⟩) (fun D G1 hr => trivial) (fun _ _ => rfl) (fun G1 e h' n => OpQ.spec (v := .r (.sl (a3.map GDrawOp.row))) (sp_move rfl (.inl rfl)) _),
          Ob.quiet (n1 := fun n => n) rfl rfl (by intro d h; cases h; rfl) rfl (fun _ => [(50, .r (.sl (a3.map GDrawOp.row)))]) (fun _ => []) (fun D G1 hr => ⟨inE_op hr 6 rfl rfl (by kernel_rfl) rfl rfl, trivial⟩) (fun D G1 hr => trivial) (fun _ _ => rfl) (fun G1 e h' n => OpQ.spec (v := .r (.sl (a5.map GDrawOp.row))) (ms_slice rfl tg_22.slice (.inl rfl) (by exact ⟨_, (.inl rfl)⟩) (by exact rfl) (fun _ => rfl) (fun _ => ea5)) _),
          Ob.quiet (n1 := fun n => n) rfl rfl (by intro d h; cases h; rfl) rfl (fun G1 => [(49, .own 5006 (G1 5))]) (fun G1 => [(5006, some (.arr (G1 5) 46 8 (out5.map GDrawOp.row)))]) (fun D G1 hr => ⟨inE_op hr 5 rfl rfl (by kernel_rfl) rfl rfl, trivial⟩) (fun D G1 hr => ⟨inH_op hr 5 rfl rfl (by kernel_rfl) (by kernel_rfl) rfl, trivial⟩) (fun _ _ => rfl) (fun G1 e h' n => OpQ.spec (v := .own 5006 (G1 5)) (sp_assign rfl (.inl rfl)) _),
          trivial⟩) fun G1 n1 => ?_
      refine AOps.weak (s' := ⟨[(0, .r (.sl (a3.map GDrawOp.row))), (1, .r (.sl (b3.map GDrawOp.row))), (6, .own 5006 (G1 5)), (45, .r (.sl (a3.map GDrawOp.row))), (46, .rop (GDrawOp.row x3) 0), (47, .agg [.r (.int .i64 x3.Clock), .r (.int .i64 x3.Site), .r (.int .i64 x3.Kind), .r (.int .i64 x3.Item), .r (.int .i64 x3.Parent), .r (.str x3.Place), .r (.str x3.Name), .r (.str x3.Value)]), (48, .own 48 (G1 4)), (49, .own 5006 (G1 5)), (50, .r (.sl (a3.map GDrawOp.row))), (51, .r (.sl (a5.map GDrawOp.row)))], [(48, some (.arr (G1 4) 46 8 ([x3].map GDrawOp.row))), (5006, some (.arr (G1 5) 46 8 (out5.map GDrawOp.row)))], n1, 83⟩) (by exact Weak.cv ⟨.inl (.inl rfl), .inl (.inl rfl), .inl (.inl rfl), .inl (.inl rfl), .inl (.inl rfl), .inl (.inl rfl), .inl (.inl rfl), .inl (.inl rfl), .inl (.inl rfl), .inl (.inl rfl), trivial⟩ ⟨.inl rfl, .inl rfl, trivial⟩ (Nat.le_refl _)) ?_
      refine AOps.step rfl rfl rfl (OpQ.spec (sp_assign rfl (.inl rfl)) _) ?_
      refine AOps.nil ?_
      exact NextQ3.mk h10 (vec [(G1 5), n1]) ((by exact Weak.cv ⟨.inl (.inl rfl), .inl (.inl rfl), .inl (.inl rfl), trivial⟩ ⟨.inl rfl, trivial⟩ (Nat.le_refl _)))
    · have h7 := ite_f hc2 h6
      refine AW.seq_w fun K8 hK8 wK8 => ?_
      refine AW.weak (s' := ⟨[(0, .r (.sl (a3.map GDrawOp.row))), (1, .r (.sl (b3.map GDrawOp.row))), (6, .own 5006 (i3 0))], [(5006, some (.arr (i3 0) 46 8 (out2.map GDrawOp.row)))], (i3 1), 83⟩) (by exact Weak.cv ⟨.inl (.inl rfl), .inl (.inl rfl), .inl (.inl rfl), trivial⟩ ⟨.inl rfl, trivial⟩ (Nat.le_refl _)) ?_
      refine AW.regionQ hmix (by kernel_rfl) ?_
      refine AQ.step rfl rfl rfl (sp_move rfl (.inl rfl)) ?_
      refine AQ.step rfl rfl rfl (ms_len rfl tg_22.slice (.inl rfl)) ?_
      refine AQ.step rfl rfl rfl (sp_eql rfl (.inl rfl) (.inl rfl)) ?_
      refine AQ.step rfl rfl rfl (sp_move rfl (.inl rfl)) ?_
      refine AQ.stepW (.one rfl rfl rfl) rfl rfl (sp_move rfl (.inl rfl)) ?_
      refine ob1k h7 fun x4 ex4 h11 => ?_
      refine AQ.stepW (.one rfl rfl rfl) rfl rfl (ms_idx rfl tg_22.slice (.inr ⟨_, (by exact id), rfl⟩) (.inl rfl) (fun _ => rfl) (gdt ex4)) ?_
      refine AQ.stepW (.one rfl rfl rfl) rfl rfl (ms_loadA (cs := [.r (.int .i64 x4.Clock), .r (.int .i64 x4.Site), .r (.int .i64 x4.Kind), .r (.int .i64 x4.Item), .r (.int .i64 x4.Parent), .r (.str x4.Place), .r (.str x4.Name), .r (.str x4.Value)]) rfl ta_46 (.inr ⟨_, (by exact id), rfl⟩) rfl rfl) ?_
      refine AQ.stepW (.one rfl rfl rfl) rfl rfl (sp_move rfl (.inl rfl)) ?_
      refine ob1k h11 fun x5 ex5 h12 => ?_
      refine AQ.stepW (.one rfl rfl rfl) rfl rfl (ms_idx rfl tg_22.slice (.inr ⟨_, (by exact id), rfl⟩) (.inl rfl) (fun _ => rfl) (gdt ex5)) ?_
      refine AQ.stepW (.one rfl rfl rfl) rfl rfl (ms_loadA (cs := [.r (.int .i64 x5.Clock), .r (.int .i64 x5.Site), .r (.int .i64 x5.Kind), .r (.int .i64 x5.Item), .r (.int .i64 x5.Parent), .r (.str x5.Place), .r (.str x5.Name), .r (.str x5.Value)]) rfl ta_46 (.inr ⟨_, (by exact id), rfl⟩) rfl rfl) ?_
      refine ob1k h12 fun r2 er2 h13 => ?_
      refine AQ.stepWC (.one rfl rfl rfl) rfl rfl (r := .r (.int .i64 r2)) (caps := []) (bs := [.agg [.r (.int .i64 x4.Clock), .r (.int .i64 x4.Site), .r (.int .i64 x4.Kind), .r (.int .i64 x4.Item), .r (.int .i64 x4.Parent), .r (.str x4.Place), .r (.str x4.Name), .r (.str x4.Value)], .agg [.r (.int .i64 x5.Clock), .r (.int .i64 x5.Site), .r (.int .i64 x5.Kind), .r (.int .i64 x5.Item), .r (.int .i64 x5.Parent), .r (.str x5.Place), .r (.str x5.Name), .r (.str x5.Value)]]) rfl (.inl rfl) rfl ⟨⟨_, (.inr ⟨_, (by exact id), rfl⟩), .g (cs := [.int .i64 x4.Clock, .int .i64 x4.Site, .int .i64 x4.Kind, .int .i64 x4.Item, .int .i64 x4.Parent, .str x4.Place, .str x4.Name, .str x4.Value]) rfl rfl⟩, ⟨_, (.inr ⟨_, (by exact id), rfl⟩), .g (cs := [.int .i64 x5.Clock, .int .i64 x5.Site, .int .i64 x5.Kind, .int .i64 x5.Item, .int .i64 x5.Parent, .str x5.Place, .str x5.Name, .str x5.Value]) rfl rfl⟩, trivial⟩ (fun hg => w_replica_stamps (gdt er2 hg)) rfl ?_
      refine AQ.stepW (.one rfl rfl rfl) rfl rfl (sp_lss rfl (.inr ⟨_, (by exact id), rfl⟩) (.inl rfl)) ?_
      refine AQ.step rfl rfl rfl (sp_or rfl (.inl rfl) (.inr ⟨_, (by exact id), rfl⟩)) ?_
      refine AQ.step rfl rfl rfl (sp_assign rfl (.inl rfl)) ?_
      refine AQ.nil ?_
      refine hK8 _ ?_
      refine AW.cond rfl (fun hc3 => ?_) (fun hc3 => ?_)
      · have h14 := ite_t hc3 h13
        refine ob1k h14 fun x6 ex6 h15 => ?_
        refine ob1k h15 fun out6 eout6 h16 => ?_
        refine ob1k h16 fun b5 eb5 h17 => ?_
        refine AW.regionP 9 [⟨some 66, (fun _ => .own 5006 (i3 0)), none, []⟩, ⟨some 67, (fun _ => .r (.sl (b3.map GDrawOp.row))), none, []⟩, ⟨some 68, (fun _ => .rop (GDrawOp.row x6) 0), none, []⟩, ⟨some 69, (fun _ => .agg [.r (.int .i64 x6.Clock), .r (.int .i64 x6.Site), .r (.int .i64 x6.Kind), .r (.int .i64 x6.Item), .r (.int .i64 x6.Parent), .r (.str x6.Place), .r (.str x6.Name), .r (.str x6.Value)]), none, []⟩, ⟨some 70, (fun G2 => .own 70 (G2 4)), some (70, (fun G2 => some (.arr (G2 4) 46 8 ([x6].map GDrawOp.row)))), [4]⟩, ⟨some 71, (fun G2 => .own 5006 (G2 5)), some (5006, (fun G2 => some (.arr (G2 5) 46 8 (out6.map GDrawOp.row)))), [5]⟩, ⟨some 72, (fun _ => .r (.sl (b3.map GDrawOp.row))), none, []⟩, ⟨some 73, (fun _ => .r (.sl (b5.map GDrawOp.row))), none, []⟩, ⟨some 6, (fun G2 => .own 5006 (G2 5)), none, [5]⟩] hmix (by kernel_rfl) (by exact ⟨fun _ _ h => ⟨rfl, fun _ _ e => by cases e⟩, fun _ _ h => ⟨rfl, fun _ _ e => by cases e⟩, fun _ _ h => ⟨rfl, fun _ _ e => by cases e⟩, fun _ _ h => ⟨rfl, fun _ _ e => by cases e⟩, fun _ _ h => ⟨by simp only [h 4 rfl], fun _ _ e => by cases e; simp only [h 4 rfl]⟩, fun _ _ h => ⟨by simp only [h 5 rfl], fun _ _ e => by cases e; simp only [h 5 rfl]⟩, fun _ _ h => ⟨rfl, fun _ _ e => by cases e⟩, fun _ _ h => ⟨rfl, fun _ _ e => by cases e⟩, fun _ _ h => ⟨by simp only [h 5 rfl], fun _ _ e => by cases e⟩, trivial⟩) rfl (by exact ⟨Ob.quiet (n1 := fun n => n) rfl rfl (by intro d h; cases h; rfl) rfl (fun _ => [(6, .own 5006 (i3 0))]) (fun _ => [(5006, some (.arr (i3 0) 46 8 (out2.map GDrawOp.row)))]) (fun D G2 hr => ⟨inE_baseL hr (by kernel_rfl) rfl, trivial⟩) (fun D G2 hr => ⟨inH_baseL hr (by kernel_rfl) rfl, trivial⟩) (fun _ _ => rfl) (fun G2 e h' n => OpQ.spec (v := .own 5006 (i3 0)) (sp_move rfl (.inl rfl)) _),
            Ob.quiet (n1 := fun n => n) rfl rfl (by intro d h; cases h; rfl) rfl (fun _ => [(1, .r (.sl (b3.map GDrawOp.row)))]) (fun _ => []) (fun D G2 hr => ⟨inE_base rfl rfl, trivial⟩) (fun D G2 hr => trivial) (fun _ _ => rfl) (fun G2 e h' n => OpQ.spec (v := .r (.sl (b3.map GDrawOp.row))) (sp_move rfl (.inl rfl)) _),
            Ob.quiet (n1 := fun n => n) rfl rfl (by intro d h; cases h; rfl) rfl (fun _ => [(67, .r (.sl (b3.map GDrawOp.row)))]) (fun _ => []) (fun D G2 hr => ⟨inE_op hr 1 rfl rfl (by kernel_rfl) rfl rfl, trivial⟩) (fun D G2 hr => trivial) (fun _ _ => rfl) (fun G2 e h' n => OpQ.spec (v := .rop (GDrawOp.row x6) 0) (ms_idx rfl tg_22.slice (.inl rfl) (.inl rfl) (fun _ => rfl) (fun _ => ex6)) _),
            Ob.quiet (n1 := fun n => n) rfl rfl (by intro d h; cases h; rfl) rfl (fun _ => [(68, .rop (GDrawOp.row x6) 0)]) (fun _ => []) (fun D G2 hr => ⟨inE_op hr 2 rfl rfl (by kernel_rfl) rfl rfl, trivial⟩) (fun D G2 hr => trivial) (fun _ _ => rfl) (fun G2 e h' n => OpQ.spec (v := .agg [.r (.int .i64 x6.Clock), .r (.int .i64 x6.Site), .r (.int .i64 x6.Kind), .r (.int .i64 x6.Item), .r (.int .i64 x6.Parent), .r (.str x6.Place), .r (.str x6.Name), .r (.str x6.Value)]) (ms_loadA (cs := [.r (.int .i64 x6.Clock), .r (.int .i64 x6.Site), .r (.int .i64 x6.Kind), .r (.int .i64 x6.Item), .r (.int .i64 x6.Parent), .r (.str x6.Place), .r (.str x6.Name), .r (.str x6.Value)]) rfl ta_46 (.inl rfl) rfl rfl) _),
            Ob.make (n1 := fun n => n + 1) rfl rfl (by intro d h; cases h; rfl) rfl (fun _ => [(69, .agg [.r (.int .i64 x6.Clock), .r (.int .i64 x6.Site), .r (.int .i64 x6.Kind), .r (.int .i64 x6.Item), .r (.int .i64 x6.Parent), .r (.str x6.Place), .r (.str x6.Name), .r (.str x6.Value)])]) (fun _ => []) (fun D G2 hr => ⟨inE_op hr 3 rfl rfl (by kernel_rfl) rfl rfl, trivial⟩) (fun D G2 hr => trivial) (fun G2 e h' n => ms_lit 70 rfl tg_22 (f := GDrawOp.row) (l := ([x6] : List GDrawOp)) ⟨rfl, ⟨_, (.inl rfl), rfl⟩, trivial⟩ rfl (fun _ => rfl) rfl),
            Ob.make (n1 := fun n => n + 1) rfl rfl (by intro d h; cases h; rfl) rfl (fun G2 => [(66, .own 5006 (i3 0)), (70, .own 70 (G2 4))]) (fun G2 => [(70, some (.arr (G2 4) 46 8 ([x6].map GDrawOp.row))), (5006, some (.arr (i3 0) 46 8 (out2.map GDrawOp.row)))]) (fun D G2 hr => ⟨inE_op hr 0 rfl rfl (by kernel_rfl) rfl rfl, inE_op hr 4 rfl rfl (by kernel_rfl) rfl rfl, trivial⟩) (fun D G2 hr => ⟨inH_op hr 4 rfl rfl (by kernel_rfl) (by kernel_rfl) rfl, inH_baseL hr (by kernel_rfl) rfl, trivial⟩) (fun G2 e h' n => ms_app rfl tg_22 (.inl rfl) rfl (.inr (.inl ⟨_, _, (.inl rfl), rfl⟩)) eout6),
            Ob.quiet (n1 := fun n => n) rfl rfl (by intro d h; cases h; rfl) rfl (fun _ => [(1, .r (.sl (b3.map GDrawOp.row)))]) (fun _ => []) (fun D G2 hr => ⟨inE_base rfl rfl, trivial⟩) (fun D G2 hr => trivial) (fun _ _ => rfl) (fun G2 e h' n => OpQ.spec (v := .r (.sl (b3.map GDrawOp.row))) (sp_move rfl (.inl rfl)) _),
            Ob.quiet (n1 := fun n => n) rfl rfl (by intro d h; cases h; rfl) rfl (fun _ => [(72, .r (.sl (b3.map GDrawOp.row)))]) (fun _ => []) (fun D G2 hr => ⟨inE_op hr 6 rfl rfl (by kernel_rfl) rfl rfl, trivial⟩) (fun D G2 hr => trivial) (fun _ _ => rfl) (fun G2 e h' n => OpQ.spec (v := .r (.sl (b5.map GDrawOp.row))) (ms_slice rfl tg_22.slice (.inl rfl) (by exact ⟨_, (.inl rfl)⟩) (by exact rfl) (fun _ => rfl) (fun _ => eb5)) _),
            Ob.quiet (n1 := fun n => n) rfl rfl (by intro d h; cases h; rfl) rfl (fun G2 => [(71, .own 5006 (G2 5))]) (fun G2 => [(5006, some (.arr (G2 5) 46 8 (out6.map GDrawOp.row)))]) (fun D G2 hr => ⟨inE_op hr 5 rfl rfl (by kernel_rfl) rfl rfl, trivial⟩) (fun D G2 hr => ⟨inH_op hr 5 rfl rfl (by kernel_rfl) (by kernel_rfl) rfl, trivial⟩) (fun _ _ => rfl) (fun G2 e h' n => OpQ.spec (v := .own 5006 (G2 5)) (sp_assign rfl (.inl rfl)) _),
            trivial⟩) fun G2 n2 => ?_
        refine AOps.weak (s' := ⟨[(0, .r (.sl (a3.map GDrawOp.row))), (1, .r (.sl (b3.map GDrawOp.row))), (6, .own 5006 (G2 5)), (52, .r (.bool ((decide ((a3.length : Int) = 0)) || (decide (r2 < 0))))), (53, .r (.sl (a3.map GDrawOp.row))), (54, .r (.int .i64 (a3.length : Int))), (55, .r (.bool (decide ((a3.length : Int) = 0)))), (56, .r (.bool (decide ((a3.length : Int) = 0)))), (65, .r (.bool ((decide ((a3.length : Int) = 0)) || (decide (r2 < 0))))), (67, .r (.sl (b3.map GDrawOp.row))), (68, .rop (GDrawOp.row x6) 0), (69, .agg [.r (.int .i64 x6.Clock), .r (.int .i64 x6.Site), .r (.int .i64 x6.Kind), .r (.int .i64 x6.Item), .r (.int .i64 x6.Parent), .r (.str x6.Place), .r (.str x6.Name), .r (.str x6.Value)]), (70, .own 70 (G2 4)), (71, .own 5006 (G2 5)), (72, .r (.sl (b3.map GDrawOp.row))), (73, .r (.sl (b5.map GDrawOp.row)))], [(70, some (.arr (G2 4) 46 8 ([x6].map GDrawOp.row))), (5006, some (.arr (G2 5) 46 8 (out6.map GDrawOp.row)))], n2, 83⟩) (by exact Weak.cv ⟨.inl (.inl rfl), .inl (.inl rfl), .inl (.inl rfl), .inl (.inl rfl), .inl (.inl rfl), .inl (.inl rfl), .inl (.inl rfl), .inl (.inl rfl), .inl (.inl rfl), .inl (.inl rfl), .inl (.inl rfl), .inl (.inl rfl), .inl (.inl rfl), .inl (.inl rfl), .inl (.inl rfl), .inl (.inl rfl), trivial⟩ ⟨.inl rfl, .inl rfl, trivial⟩ (Nat.le_refl _)) ?_
        refine AOps.step rfl rfl rfl (OpQ.spec (sp_assign rfl (.inl rfl)) _) ?_
        refine AOps.nil ?_
        exact NextQ3.mk h17 (vec [(G2 5), n2]) ((by exact Weak.cv ⟨.inl (.inl rfl), .inl (.inl rfl), .inl (.inl rfl), trivial⟩ ⟨.inl rfl, trivial⟩ (Nat.le_refl _)))
      · have h14 := ite_f hc3 h13
        refine AW.seq_w fun K9 hK9 wK9 => ?_
        refine AW.regionQ hmix (by kernel_rfl) ?_
        refine AQ.step rfl rfl rfl (sp_move rfl (.inl rfl)) ?_
        refine ob1k h14 fun x7 ex7 h18 => ?_
        refine AQ.step rfl rfl rfl (ms_idx rfl tg_22.slice (.inl rfl) (.inl rfl) (fun _ => rfl) (fun _ => ex7)) ?_
        refine AQ.step rfl rfl rfl (ms_loadA (cs := [.r (.int .i64 x7.Clock), .r (.int .i64 x7.Site), .r (.int .i64 x7.Kind), .r (.int .i64 x7.Item), .r (.int .i64 x7.Parent), .r (.str x7.Place), .r (.str x7.Name), .r (.str x7.Value)]) rfl ta_46 (.inl rfl) rfl rfl) ?_
        refine AQ.step rfl rfl rfl (sp_move rfl (.inl rfl)) ?_
        refine ob1k h18 fun x8 ex8 h19 => ?_
        refine AQ.step rfl rfl rfl (ms_idx rfl tg_22.slice (.inl rfl) (.inl rfl) (fun _ => rfl) (fun _ => ex8)) ?_
        refine AQ.step rfl rfl rfl (ms_loadA (cs := [.r (.int .i64 x8.Clock), .r (.int .i64 x8.Site), .r (.int .i64 x8.Kind), .r (.int .i64 x8.Item), .r (.int .i64 x8.Parent), .r (.str x8.Place), .r (.str x8.Name), .r (.str x8.Value)]) rfl ta_46 (.inl rfl) rfl rfl) ?_
        refine AQ.step rfl rfl rfl (sp_aggneq rfl te_46 (.inl rfl) (.inl rfl) rfl) ?_
        refine AQ.step rfl rfl rfl (sp_assign rfl (.inl rfl)) ?_
        refine AQ.nil ?_
        refine hK9 _ ?_
        refine AW.cond rfl (fun hc4 => ?_) (fun hc4 => ?_)
        · have h20 := ite_t hc4 h19
          refine AW.seq_w fun K10 hK10 wK10 => ?_
          refine AW.weak (s' := ⟨[], [], (i3 1), 83⟩) (by exact Weak.cv trivial trivial (Nat.le_refl _)) ?_
          refine AW.region ?_
          refine AOps.step rfl rfl rfl (OpQ.spec (sp_assign rfl (.inl rfl)) _) ?_
          refine AOps.step rfl rfl rfl (OpQ.spec (sp_assign rfl (.inl rfl)) _) ?_
          refine AOps.nil ?_
          refine hK10 _ ?_
          refine AW.ret ?_
          exact retf2 (P := Try.prog) (fun (r : (List GDrawOp) × Int) => .r (.sl (r.1.map GDrawOp.row))) (fun (r : (List GDrawOp) × Int) => .r (.int .i64 r.2)) (he1 _ (hx1 _ (Option.some.inj h20).symm)) (.inl rfl) (.t (.one (.nil))) (.t (.d rfl))
        · have h20 := ite_f hc4 h19
          refine AW.weak (s' := ⟨[(0, .r (.sl (a3.map GDrawOp.row))), (1, .r (.sl (b3.map GDrawOp.row))), (6, .own 5006 (i3 0))], [(5006, some (.arr (i3 0) 46 8 (out2.map GDrawOp.row)))], (i3 1), 83⟩) (by exact Weak.cv ⟨.inl (.inl rfl), .inl (.inl rfl), .inl (.inl rfl), trivial⟩ ⟨.inl rfl, trivial⟩ (Nat.le_refl _)) ?_
          refine ob1k h20 fun out7 eout7 h21 => ?_
          refine ob1k h21 fun a6 ea6 h22 => ?_
          refine ob1k h22 fun b6 eb6 h23 => ?_
          refine AW.regionP 12 [⟨some 15, (fun _ => .own 5006 (i3 0)), none, []⟩, ⟨some 16, (fun _ => .r (.sl (a3.map GDrawOp.row))), none, []⟩, ⟨some 17, (fun _ => .rop (GDrawOp.row x7) 0), none, []⟩, ⟨some 18, (fun _ => .agg [.r (.int .i64 x7.Clock), .r (.int .i64 x7.Site), .r (.int .i64 x7.Kind), .r (.int .i64 x7.Item), .r (.int .i64 x7.Parent), .r (.str x7.Place), .r (.str x7.Name), .r (.str x7.Value)]), none, []⟩, ⟨some 19, (fun G3 => .own 19 (G3 4)), some (19, (fun G3 => some (.arr (G3 4) 46 8 ([x7].map GDrawOp.row)))), [4]⟩, ⟨some 20, (fun G3 => .own 5006 (G3 5)), some (5006, (fun G3 => some (.arr (G3 5) 46 8 (out7.map GDrawOp.row)))), [5]⟩, ⟨some 21, (fun _ => .r (.sl (a3.map GDrawOp.row))), none, []⟩, ⟨some 22, (fun _ => .r (.sl (a6.map GDrawOp.row))), none, []⟩, ⟨some 23, (fun _ => .r (.sl (b3.map GDrawOp.row))), none, []⟩, ⟨some 24, (fun _ => .r (.sl (b6.map GDrawOp.row))), none, []⟩, ⟨some 6, (fun G3 => .own 5006 (G3 5)), none, [5]⟩, ⟨some 0, (fun _ => .r (.sl (a6.map GDrawOp.row))), none, []⟩] hmix (by kernel_rfl) (by exact ⟨fun _ _ h => ⟨rfl, fun _ _ e => by cases e⟩, fun _ _ h => ⟨rfl, fun _ _ e => by cases e⟩, fun _ _ h => ⟨rfl, fun _ _ e => by cases e⟩, fun _ _ h => ⟨rfl, fun _ _ e => by cases e⟩, fun _ _ h => ⟨by simp only [h 4 rfl], fun _ _ e => by cases e; simp only [h 4 rfl]⟩, fun _ _ h => ⟨by simp only [h 5 rfl], fun _ _ e => by cases e; simp only [h 5 rfl]⟩, fun _ _ h => ⟨rfl, fun _ _ e => by cases e⟩, fun _ _ h => ⟨rfl, fun _ _ e => by cases e⟩, fun _ _ h => ⟨rfl, fun _ _ e => by cases e⟩, fun _ _ h => ⟨rfl, fun _ _ e => by cases e⟩, fun _ _ h => ⟨by simp only [h 5 rfl], fun _ _ e => by cases e⟩, fun _ _ h => ⟨rfl, fun _ _ e => by cases e⟩, trivial⟩) rfl (by exact ⟨Ob.quiet (n1 := fun n => n) rfl rfl (by intro d h; cases h; rfl) rfl (fun _ => [(6, .own 5006 (i3 0))]) (fun _ => [(5006, some (.arr (i3 0) 46 8 (out2.map GDrawOp.row)))]) (fun D G3 hr => ⟨inE_baseL hr (by kernel_rfl) rfl, trivial⟩) (fun D G3 hr => ⟨inH_baseL hr (by kernel_rfl) rfl, trivial⟩) (fun _ _ => rfl) (fun G3 e h' n => OpQ.spec (v := .own 5006 (i3 0)) (sp_move rfl (.inl rfl)) _),
              Ob.quiet (n1 := fun n => n) rfl rfl (by intro d h; cases h; rfl) rfl (fun _ => [(0, .r (.sl (a3.map GDrawOp.row)))]) (fun _ => []) (fun D G3 hr => ⟨inE_baseL hr (by kernel_rfl) rfl, trivial⟩) (fun D G3 hr => trivial) (fun _ _ => rfl) (fun G3 e h' n => OpQ.spec (v := .r (.sl (a3.map GDrawOp.row))) (sp_move rfl (.inl rfl)) _),
              Ob.quiet (n1 := fun n => n) rfl rfl (by intro d h; cases h; rfl) rfl (fun _ => [(16, .r (.sl (a3.map GDrawOp.row)))]) (fun _ => []) (fun D G3 hr => ⟨inE_op hr 1 rfl rfl (by kernel_rfl) rfl rfl, trivial⟩) (fun D G3 hr => trivial) (fun _ _ => rfl) (fun G3 e h' n => OpQ.spec (v := .rop (GDrawOp.row x7) 0) (ms_idx rfl tg_22.slice (.inl rfl) (.inl rfl) (fun _ => rfl) (fun _ => ex7)) _),
              Ob.quiet (n1 := fun n => n) rfl rfl (by intro d h; cases h; rfl) rfl (fun _ => [(17, .rop (GDrawOp.row x7) 0)]) (fun _ => []) (fun D G3 hr => ⟨inE_op hr 2 rfl rfl (by kernel_rfl) rfl rfl, trivial⟩) (fun D G3 hr => trivial) (fun _ _ => rfl) (fun G3 e h' n => OpQ.spec (v := .agg [.r (.int .i64 x7.Clock), .r (.int .i64 x7.Site), .r (.int .i64 x7.Kind), .r (.int .i64 x7.Item), .r (.int .i64 x7.Parent), .r (.str x7.Place), .r (.str x7.Name), .r (.str x7.Value)]) (ms_loadA (cs := [.r (.int .i64 x7.Clock), .r (.int .i64 x7.Site), .r (.int .i64 x7.Kind), .r (.int .i64 x7.Item), .r (.int .i64 x7.Parent), .r (.str x7.Place), .r (.str x7.Name), .r (.str x7.Value)]) rfl ta_46 (.inl rfl) rfl rfl) _),
              Ob.make (n1 := fun n => n + 1) rfl rfl (by intro d h; cases h; rfl) rfl (fun _ => [(18, .agg [.r (.int .i64 x7.Clock), .r (.int .i64 x7.Site), .r (.int .i64 x7.Kind), .r (.int .i64 x7.Item), .r (.int .i64 x7.Parent), .r (.str x7.Place), .r (.str x7.Name), .r (.str x7.Value)])]) (fun _ => []) (fun D G3 hr => ⟨inE_op hr 3 rfl rfl (by kernel_rfl) rfl rfl, trivial⟩) (fun D G3 hr => trivial) (fun G3 e h' n => ms_lit 19 rfl tg_22 (f := GDrawOp.row) (l := ([x7] : List GDrawOp)) ⟨rfl, ⟨_, (.inl rfl), rfl⟩, trivial⟩ rfl (fun _ => rfl) rfl),
              Ob.make (n1 := fun n => n + 1) rfl rfl (by intro d h; cases h; rfl) rfl (fun G3 => [(15, .own 5006 (i3 0)), (19, .own 19 (G3 4))]) (fun G3 => [(19, some (.arr (G3 4) 46 8 ([x7].map GDrawOp.row))), (5006, some (.arr (i3 0) 46 8 (out2.map GDrawOp.row)))]) (fun D G3 hr => ⟨inE_op hr 0 rfl rfl (by kernel_rfl) rfl rfl, inE_op hr 4 rfl rfl (by kernel_rfl) rfl rfl, trivial⟩) (fun D G3 hr => ⟨inH_op hr 4 rfl rfl (by kernel_rfl) (by kernel_rfl) rfl, inH_baseL hr (by kernel_rfl) rfl, trivial⟩) (fun G3 e h' n => ms_app rfl tg_22 (.inl rfl) rfl (.inr (.inl ⟨_, _, (.inl rfl), rfl⟩)) eout7),
              Ob.quiet (n1 := fun n => n) rfl rfl (by intro d h; cases h; rfl) rfl (fun _ => [(0, .r (.sl (a3.map GDrawOp.row)))]) (fun _ => []) (fun D G3 hr => ⟨inE_baseL hr (by kernel_rfl) rfl, trivial⟩) (fun D G3 hr => trivial) (fun _ _ => rfl) (fun G3 e h' n => OpQ.spec (v := .r (.sl (a3.map GDrawOp.row))) (sp_move rfl (.inl rfl)) _),
              Ob.quiet (n1 := fun n => n) rfl rfl (by intro d h; cases h; rfl) rfl (fun _ => [(21, .r (.sl (a3.map GDrawOp.row)))]) (fun _ => []) (fun D G3 hr => ⟨inE_op hr 6 rfl rfl (by kernel_rfl) rfl rfl, trivial⟩) (fun D G3 hr => trivial) (fun _ _ => rfl) (fun G3 e h' n => OpQ.spec (v := .r (.sl (a6.map GDrawOp.row))) (ms_slice rfl tg_22.slice (.inl rfl) (by exact ⟨_, (.inl rfl)⟩) (by exact rfl) (fun _ => rfl) (fun _ => ea6)) _),
              Ob.quiet (n1 := fun n => n) rfl rfl (by intro d h; cases h; rfl) rfl (fun _ => [(1, .r (.sl (b3.map GDrawOp.row)))]) (fun _ => []) (fun D G3 hr => ⟨inE_base rfl rfl, trivial⟩) (fun D G3 hr => trivial) (fun _ _ => rfl) (fun G3 e h' n => OpQ.spec (v := .r (.sl (b3.map GDrawOp.row))) (sp_move rfl (.inl rfl)) _),
              Ob.quiet (n1 := fun n => n) rfl rfl (by intro d h; cases h; rfl) rfl (fun _ => [(23, .r (.sl (b3.map GDrawOp.row)))]) (fun _ => []) (fun D G3 hr => ⟨inE_op hr 8 rfl rfl (by kernel_rfl) rfl rfl, trivial⟩) (fun D G3 hr => trivial) (fun _ _ => rfl) (fun G3 e h' n => OpQ.spec (v := .r (.sl (b6.map GDrawOp.row))) (ms_slice rfl tg_22.slice (.inl rfl) (by exact ⟨_, (.inl rfl)⟩) (by exact rfl) (fun _ => rfl) (fun _ => eb6)) _),
              Ob.quiet (n1 := fun n => n) rfl rfl (by intro d h; cases h; rfl) rfl (fun G3 => [(20, .own 5006 (G3 5))]) (fun G3 => [(5006, some (.arr (G3 5) 46 8 (out7.map GDrawOp.row)))]) (fun D G3 hr => ⟨inE_op hr 5 rfl rfl (by kernel_rfl) rfl rfl, trivial⟩) (fun D G3 hr => ⟨inH_op hr 5 rfl rfl (by kernel_rfl) (by kernel_rfl) rfl, trivial⟩) (fun _ _ => rfl) (fun G3 e h' n => OpQ.spec (v := .own 5006 (G3 5)) (sp_assign rfl (.inl rfl)) _),
              Ob.quiet (n1 := fun n => n) rfl rfl (by intro d h; cases h; rfl) rfl (fun _ => [(22, .r (.sl (a6.map GDrawOp.row)))]) (fun _ => []) (fun D G3 hr => ⟨inE_op hr 7 rfl rfl (by kernel_rfl) rfl rfl, trivial⟩) (fun D G3 hr => trivial) (fun _ _ => rfl) (fun G3 e h' n => OpQ.spec (v := .r (.sl (a6.map GDrawOp.row))) (sp_assign rfl (.inl rfl)) _),
              trivial⟩) fun G3 n3 => ?_
          refine AOps.weak (s' := ⟨[(0, .r (.sl (a6.map GDrawOp.row))), (1, .r (.sl (b3.map GDrawOp.row))), (6, .own 5006 (G3 5)), (16, .r (.sl (a3.map GDrawOp.row))), (17, .rop (GDrawOp.row x7) 0), (18, .agg [.r (.int .i64 x7.Clock), .r (.int .i64 x7.Site), .r (.int .i64 x7.Kind), .r (.int .i64 x7.Item), .r (.int .i64 x7.Parent), .r (.str x7.Place), .r (.str x7.Name), .r (.str x7.Value)]), (19, .own 19 (G3 4)), (20, .own 5006 (G3 5)), (21, .r (.sl (a3.map GDrawOp.row))), (22, .r (.sl (a6.map GDrawOp.row))), (23, .r (.sl (b3.map GDrawOp.row))), (24, .r (.sl (b6.map GDrawOp.row)))], [(19, some (.arr (G3 4) 46 8 ([x7].map GDrawOp.row))), (5006, some (.arr (G3 5) 46 8 (out7.map GDrawOp.row)))], n3, 83⟩) (by exact Weak.cv ⟨.inl (.inl rfl), .inl (.inl rfl), .inl (.inl rfl), .inl (.inl rfl), .inl (.inl rfl), .inl (.inl rfl), .inl (.inl rfl), .inl (.inl rfl), .inl (.inl rfl), .inl (.inl rfl), .inl (.inl rfl), .inl (.inl rfl), trivial⟩ ⟨.inl rfl, .inl rfl, trivial⟩ (Nat.le_refl _)) ?_
          refine AOps.step rfl rfl rfl (OpQ.spec (sp_assign rfl (.inl rfl)) _) ?_
          refine AOps.nil ?_
          exact NextQ3.mk h23 (vec [(G3 5), n3]) ((by exact Weak.cv ⟨.inl (.inl rfl), .inl (.inl rfl), .inl (.inl rfl), trivial⟩ ⟨.inl rfl, trivial⟩ (Nat.le_refl _)))
  · have h3 := ite_f hc1 h2
    refine AW.exit ?_
    exact wK3 _ _ ((by exact Weak.cv ⟨.inl (.inl rfl), trivial⟩ ⟨.inl rfl, trivial⟩ (Nat.le_refl _))) (J1 _ (vec [(i3 0), (i3 1)]) (hx1 _ (Option.some.inj h3).symm))
theorem w_replica_Join {a1 : List GDrawOp} {b1 : List GDrawOp} {r : (List GDrawOp) × Int} (h : replica_Join a1 b1 = some r) : ARO Try.prog 16 [.r (.sl (a1.map GDrawOp.row)), .r (.sl (b1.map GDrawOp.row))] (.tup [.r (.sl (r.1.map GDrawOp.row)), .r (.int .i64 r.2)]) := by
  unfold replica_Join at h
  refine ARO.mkF Try.func16 rfl rfl Try.ntmps16 rfl (Nat.le_of_ble_eq_true rfl) fun n0 => ?_
  refine AW.seq_w fun K1 hK1 wK1 => ?_
  refine AW.region ?_
  refine AOps.step rfl rfl rfl (OpQ.spec (sp_assign rfl (.inl rfl)) _) ?_
  refine AOps.step rfl rfl rfl (OpQ.spec (sp_assign rfl (.inl rfl)) _) ?_
  refine AOps.nil ?_
  refine hK1 _ ?_
  refine AW.seq_w fun K2 hK2 wK2 => ?_
  refine AW.seq_w fun K3 hK3 wK3 => ?_
  refine AW.region ?_
  refine AOps.step rfl rfl rfl (OpQ.spec (sp_move rfl (.inl rfl)) _) ?_
  refine ob1k h fun e1 ee1 h1 => ?_
  refine AOps.step rfl rfl rfl (sp_call (r := .r (.int .i64 e1)) (caps := []) (bs := [.r (.sl (a1.map GDrawOp.row))]) rfl (.inl rfl) rfl ⟨⟨_, (.inl rfl), .d rfl⟩, trivial⟩ (fun _ => w_replica_Check (ee1)) rfl) ?_
  refine AOps.step rfl rfl rfl (OpQ.spec (sp_assign rfl (.inl rfl)) _) ?_
  refine AOps.nil ?_
  refine hK3 _ ?_
  refine AW.seq_w fun K4 hK4 wK4 => ?_
  refine AW.region ?_
  refine AOps.step rfl rfl rfl (OpQ.spec (sp_move rfl (.inl rfl)) _) ?_
  refine AOps.step rfl rfl rfl (OpQ.spec (sp_neq rfl (.inl rfl) (.inl rfl)) _) ?_
  refine AOps.nil ?_
  refine hK4 _ ?_
  refine AW.cond rfl (fun hc1 => ?_) (fun hc1 => ?_)
  · have h2 := ite_t hc1 h1
    refine AW.seq_w fun K5 hK5 wK5 => ?_
    refine AW.region ?_
    refine AOps.step rfl rfl rfl (OpQ.spec (sp_move rfl (.inl rfl)) _) ?_
    refine AOps.step rfl rfl rfl (OpQ.spec (sp_assign rfl (.inl rfl)) _) ?_
    refine AOps.step rfl rfl rfl (OpQ.spec (sp_assign rfl (.inl rfl)) _) ?_
    refine AOps.nil ?_
    refine hK5 _ ?_
    refine AW.ret ?_
    exact retf2 (P := Try.prog) (fun (r : (List GDrawOp) × Int) => .r (.sl (r.1.map GDrawOp.row))) (fun (r : (List GDrawOp) × Int) => .r (.int .i64 r.2)) h2 (.inl rfl) (.t (.one (.nil))) (.t (.d rfl))
  · have h2 := ite_f hc1 h1
    refine AW.skip ?_
    refine hK2 _ ?_
    refine AW.seq_w fun K6 hK6 wK6 => ?_
    refine AW.seq_w fun K7 hK7 wK7 => ?_
    refine AW.region ?_
    refine AOps.step rfl rfl rfl (OpQ.spec (sp_move rfl (.inl rfl)) _) ?_
    refine ob1k h2 fun e2 ee2 h3 => ?_
    refine AOps.step rfl rfl rfl (sp_call (r := .r (.int .i64 e2)) (caps := []) (bs := [.r (.sl (b1.map GDrawOp.row))]) rfl (.inl rfl) rfl ⟨⟨_, (.inl rfl), .d rfl⟩, trivial⟩ (fun _ => w_replica_Check (ee2)) rfl) ?_
    refine AOps.step rfl rfl rfl (OpQ.spec (sp_assign rfl (.inl rfl)) _) ?_
    refine AOps.nil ?_
    refine hK7 _ ?_
    refine AW.seq_w fun K8 hK8 wK8 => ?_
    refine AW.weak (s' := ⟨[(0, .r (.sl (a1.map GDrawOp.row))), (1, .r (.sl (b1.map GDrawOp.row))), (7, .r (.int .i64 e2))], [], n0, 23⟩) (by exact Weak.cv ⟨.inl (.inl rfl), .inl (.inl rfl), .inl (.inl rfl), trivial⟩ trivial (Nat.le_refl _)) ?_
    refine AW.region ?_
    refine AOps.step rfl rfl rfl (OpQ.spec (sp_move rfl (.inl rfl)) _) ?_
    refine AOps.step rfl rfl rfl (OpQ.spec (sp_neq rfl (.inl rfl) (.inl rfl)) _) ?_
    refine AOps.nil ?_
    refine hK8 _ ?_
    refine AW.cond rfl (fun hc2 => ?_) (fun hc2 => ?_)
    · have h4 := ite_t hc2 h3
      refine AW.seq_w fun K9 hK9 wK9 => ?_
      refine AW.region ?_
      refine AOps.step rfl rfl rfl (OpQ.spec (sp_move rfl (.inl rfl)) _) ?_
      refine AOps.step rfl rfl rfl (OpQ.spec (sp_assign rfl (.inl rfl)) _) ?_
      refine AOps.step rfl rfl rfl (OpQ.spec (sp_assign rfl (.inl rfl)) _) ?_
      refine AOps.nil ?_
      refine hK9 _ ?_
      refine AW.ret ?_
      exact retf2 (P := Try.prog) (fun (r : (List GDrawOp) × Int) => .r (.sl (r.1.map GDrawOp.row))) (fun (r : (List GDrawOp) × Int) => .r (.int .i64 r.2)) h4 (.inl rfl) (.t (.one (.nil))) (.t (.d rfl))
    · have h4 := ite_f hc2 h3
      refine AW.skip ?_
      refine hK6 _ ?_
      refine AW.seq_w fun K10 hK10 wK10 => ?_
      refine AW.region ?_
      refine AOps.step rfl rfl rfl (OpQ.spec (sp_move rfl (.inl rfl)) _) ?_
      refine AOps.step rfl rfl rfl (OpQ.spec (sp_move rfl (.inl rfl)) _) ?_
      refine ob2k h4 fun r1 r2 er1 h5 => ?_
      refine AOps.step rfl rfl rfl (sp_callS (r := .tup [.r (.sl (r1.map GDrawOp.row)), .r (.int .i64 r2)]) (caps := []) (bs := [.r (.sl (a1.map GDrawOp.row)), .r (.sl (b1.map GDrawOp.row))]) rfl (.inl rfl) rfl ⟨.inl ⟨(.inl rfl), rfl⟩, .inl ⟨(.inl rfl), rfl⟩, trivial⟩ (fun _ => w_replica_Both (er1))) ?_
      refine AOps.step rfl rfl rfl (OpQ.spec (sp_extract (a := .r (.sl (r1.map GDrawOp.row))) rfl (.inl rfl) rfl) _) ?_
      refine AOps.step rfl rfl rfl (OpQ.spec (sp_extract (a := .r (.int .i64 r2)) rfl (.inl rfl) rfl) _) ?_
      refine AOps.step rfl rfl rfl (OpQ.spec (sp_assign rfl (.inl rfl)) _) ?_
      refine AOps.step rfl rfl rfl (OpQ.spec (sp_assign rfl (.inl rfl)) _) ?_
      refine AOps.nil ?_
      refine hK10 _ ?_
      refine AW.ret ?_
      exact retf2 (P := Try.prog) (fun (r : (List GDrawOp) × Int) => .r (.sl (r.1.map GDrawOp.row))) (fun (r : (List GDrawOp) × Int) => .r (.int .i64 r.2)) h5 (.inl rfl) (.t (.d rfl)) (.t (.d rfl))
theorem w_ref_Union {a1 : List GDrawOp} {b1 : List GDrawOp} {r : (List GDrawOp) × Int} (h : ref_Union a1 b1 = some r) : ARO Try.prog 17 [.r (.sl (a1.map GDrawOp.row)), .r (.sl (b1.map GDrawOp.row))] (.tup [.r (.sl (r.1.map GDrawOp.row)), .r (.int .i64 r.2)]) := by
  unfold ref_Union at h
  refine ARO.mkF Try.func17 rfl rfl Try.ntmps17 rfl (Nat.le_of_ble_eq_true rfl) fun n0 => ?_
  refine AW.seq_w fun K1 hK1 wK1 => ?_
  refine AW.region ?_
  refine AOps.step rfl rfl rfl (OpQ.spec (sp_assign rfl (.inl rfl)) _) ?_
  refine AOps.step rfl rfl rfl (OpQ.spec (sp_assign rfl (.inl rfl)) _) ?_
  refine AOps.nil ?_
  refine hK1 _ ?_
  refine AW.seq_w fun K2 hK2 wK2 => ?_
  refine AW.region ?_
  refine AOps.step rfl rfl rfl (ms_lit 9 rfl tg_22 (f := GDrawOp.row) (l := ([] : List GDrawOp)) trivial rfl (fun _ => rfl) rfl) ?_
  refine AOps.step rfl rfl rfl (OpQ.spec (sp_move rfl (.inl rfl)) _) ?_
  refine ob1k h fun out1 eout1 h1 => ?_
  refine AOps.step rfl rfl rfl (ms_app rfl tg_22 (.inl rfl) rfl (.inl ⟨(.inl rfl), fun _ => rfl⟩) eout1) ?_
  refine AOps.step rfl rfl rfl (OpQ.spec (sp_assign rfl (.inl rfl)) _) ?_
  refine AOps.nil ?_
  refine hK2 _ ?_
  refine AW.seq_w fun K3 hK3 wK3 => ?_
  refine AW.seq_w fun K4 hK4 wK4 => ?_
  refine AW.region ?_
  refine AOps.step rfl rfl rfl (OpQ.spec (sp_move rfl (.inl rfl)) _) ?_
  refine AOps.step rfl rfl rfl (OpQ.spec (ms_len rfl tg_22.slice (.inl rfl)) _) ?_
  refine AOps.step rfl rfl rfl (OpQ.spec (sp_move rfl (.inl rfl)) _) ?_
  refine AOps.nil ?_
  refine hK4 _ ?_
  refine AW.block ?_
  refine jc1k h1 fun o1 hit1 hk1 he1 => ?_
  have J1 : ∀ (out5 : List GDrawOp) (i5 : Nat → Nat), o1 = .nrm out5 → K3 ⟨[(6, .r (.sl (out5.map GDrawOp.row)))], [], (i5 0), 75⟩ := by
    intro out5 i5 e
    have h2 := hk1 _ e
    refine hK3 _ ?_
    refine AW.seq_w fun K5 hK5 wK5 => ?_
    refine AW.region ?_
    refine AOps.step rfl rfl rfl (OpQ.spec (sp_move rfl (.inl rfl)) _) ?_
    refine AOps.step rfl rfl rfl (OpQ.spec (sp_assign rfl (.inl rfl)) _) ?_
    refine AOps.step rfl rfl rfl (OpQ.spec (sp_assign rfl (.inl rfl)) _) ?_
    refine AOps.nil ?_
    refine hK5 _ ?_
    refine AW.ret ?_
    exact retf2 (P := Try.prog) (fun (r : (List GDrawOp) × Int) => .r (.sl (r.1.map GDrawOp.row))) (fun (r : (List GDrawOp) × Int) => .r (.int .i64 r.2)) h2 (.inl rfl) (.t (.d rfl)) (.t (.d rfl))
  refine AW.iter2 (fun (out3 : List GDrawOp) (x2 : Int) i3 => ⟨[(1, .r (.sl (b1.map GDrawOp.row))), (6, .r (.sl (out3.map GDrawOp.row))), (13, .r (.int .i64 (b1.length : Int))), (14, .r (.int .i64 x2))], [], (i3 0), 75⟩) (vec [(n0 + 2)]) hit1 (Weak.trans (by exact Weak.frz (e' := [(0, .r (.sl (a1.map GDrawOp.row))), (1, .r (.sl (b1.map GDrawOp.row))), (4, .cst (.slice none 0 0)), (5, .r (.int .i64 0)), (6, .r (.sl (out1.map GDrawOp.row))), (10, .r (.sl (a1.map GDrawOp.row))), (11, .r (.sl (out1.map GDrawOp.row))), (12, .r (.sl (b1.map GDrawOp.row))), (13, .r (.int .i64 (b1.length : Int))), (14, .r (.int .i64 0))]) (h' := []) 9 rfl ⟨.inl (.inl rfl), .inl (.inl rfl), .inl (.inl rfl), .inl (.inl rfl), .inl (.inr (.inr ⟨rfl, rfl⟩)), .inl (.inl rfl), .inl (.inr (.inr ⟨rfl, rfl⟩)), .inl (.inl rfl), .inl (.inl rfl), .inl (.inl rfl), trivial⟩ trivial) (by exact Weak.cv ⟨.inl (.inl rfl), .inl (.inl rfl), .inl (.inl rfl), .inl (.inl rfl), trivial⟩ trivial (Nat.le_refl _))) ?_
  intro out3 x2 i3 v1 hv1 hx1
  have h3 : ref_Union_L1 b1 out3 x2 = some v1 := hv1; unfold ref_Union_L1 at h3
  refine AW.seq_w fun K6 hK6 wK6 => ?_
  refine AW.region ?_
  refine AOps.step rfl rfl rfl (OpQ.spec (sp_lss rfl (.inl rfl) (.inl rfl)) _) ?_
  refine AOps.nil ?_
  refine hK6 _ ?_
  refine AW.seq_w fun K7 hK7 wK7 => ?_
  refine AW.cond rfl (fun hc1 => ?_) (fun hc1 => ?_)
  · have h4 := ite_t hc1 h3
    refine AW.skip ?_
    refine hK7 _ ?_
    refine AW.seq_w fun K8 hK8 wK8 => ?_
    refine AW.block ?_
    refine jc1k h4 fun p1 hp1 hk2 he2 => ?_
    have J2 : ∀ (out6 : List GDrawOp) (i6 : Nat → Nat), p1 = .nrm out6 → K8 ⟨[(1, .r (.sl (b1.map GDrawOp.row))), (6, .r (.sl (out6.map GDrawOp.row))), (13, .r (.int .i64 (b1.length : Int))), (14, .r (.int .i64 x2))], [], (i6 0), 75⟩ := by
      intro out6 i6 e
      have h5 := hk2 _ e
      refine hK8 _ ?_
      refine AW.region ?_
      refine ob1k h5 fun x4 ex4 h6 => ?_
      refine AOps.step rfl rfl rfl (OpQ.spec (ms_add rfl (.inl rfl) (.inl rfl) (fun _ => ex4)) _) ?_
      refine AOps.step rfl rfl rfl (OpQ.spec (sp_move rfl (.inl rfl)) _) ?_
      refine AOps.nil ?_
      exact NextQ2.mk h6 (vec [(i6 0)]) ((by exact Weak.cv ⟨.inl (.inl rfl), .inl (.inl rfl), .inl (.inl rfl), .inl (.inl rfl), trivial⟩ trivial (Nat.le_refl _)))
    refine AW.seq_w fun K9 hK9 wK9 => ?_
    refine AW.region ?_
    refine AOps.step rfl rfl rfl (OpQ.spec (sp_move rfl (.inl rfl)) _) ?_
    refine AOps.step rfl rfl rfl (OpQ.spec (sp_assign rfl (.inl rfl)) _) ?_
    refine AOps.nil ?_
    refine hK9 _ ?_
    refine AW.seq_w fun K10 hK10 wK10 => ?_
    refine AW.region ?_
    refine AOps.step rfl rfl rfl (OpQ.spec (sp_assign rfl (.inl rfl)) _) ?_
    refine AOps.nil ?_
    refine hK10 _ ?_
    refine AW.seq_w fun K11 hK11 wK11 => ?_
    refine AW.block ?_
    refine jb1k hp1 fun o2 hit2 hk3 => ?_
    have J3 : ∀ (at4 : Int) (i11 : Nat → Nat), o2 = at4 → K11 ⟨[(1, .r (.sl (b1.map GDrawOp.row))), (6, .r (.sl (out3.map GDrawOp.row))), (7, .r (.int .i64 x2)), (8, .r (.int .i64 at4)), (13, .r (.int .i64 (b1.length : Int))), (14, .r (.int .i64 x2))], [], (i11 0), 75⟩ := by
      intro at4 i11 e
      have h7 := hk3 _ e
      refine hK11 _ ?_
      refine AW.seq_w fun K12 hK12 wK12 => ?_
      refine AW.seq_w fun K13 hK13 wK13 => ?_
      refine AW.regionQ hmix (by kernel_rfl) ?_
      refine AQ.step rfl rfl rfl (sp_move rfl (.inl rfl)) ?_
      refine AQ.step rfl rfl rfl (sp_move rfl (.inl rfl)) ?_
      refine AQ.step rfl rfl rfl (ms_len rfl tg_22.slice (.inl rfl)) ?_
      refine AQ.step rfl rfl rfl (sp_lss rfl (.inl rfl) (.inl rfl)) ?_
      refine AQ.step rfl rfl rfl (sp_move rfl (.inl rfl)) ?_
      refine AQ.stepW (.one rfl rfl rfl) rfl rfl (sp_move rfl (.inl rfl)) ?_
      refine AQ.stepW (.one rfl rfl rfl) rfl rfl (sp_move rfl (.inl rfl)) ?_
      refine ob1k h7 fun x5 ex5 h8 => ?_
      refine AQ.stepW (.one rfl rfl rfl) rfl rfl (ms_idx rfl tg_22.slice (.inr ⟨_, (by exact id), rfl⟩) (.inr ⟨_, (by exact id), rfl⟩) (fun _ => rfl) (gdt ex5)) ?_
      refine AQ.stepW (.one rfl rfl rfl) rfl rfl (ms_loadA (cs := [.r (.int .i64 x5.Clock), .r (.int .i64 x5.Site), .r (.int .i64 x5.Kind), .r (.int .i64 x5.Item), .r (.int .i64 x5.Parent), .r (.str x5.Place), .r (.str x5.Name), .r (.str x5.Value)]) rfl ta_46 (.inr ⟨_, (by exact id), rfl⟩) rfl rfl) ?_
      refine AQ.stepW (.one rfl rfl rfl) rfl rfl (sp_move rfl (.inl rfl)) ?_
      refine AQ.stepW (.one rfl rfl rfl) rfl rfl (sp_move rfl (.inl rfl)) ?_
      refine ob1k h8 fun x6 ex6 h9 => ?_
      refine AQ.stepW (.one rfl rfl rfl) rfl rfl (ms_idx rfl tg_22.slice (.inr ⟨_, (by exact id), rfl⟩) (.inr ⟨_, (by exact id), rfl⟩) (fun _ => rfl) (gdt ex6)) ?_
      refine AQ.stepW (.one rfl rfl rfl) rfl rfl (ms_loadA (cs := [.r (.int .i64 x6.Clock), .r (.int .i64 x6.Site), .r (.int .i64 x6.Kind), .r (.int .i64 x6.Item), .r (.int .i64 x6.Parent), .r (.str x6.Place), .r (.str x6.Name), .r (.str x6.Value)]) rfl ta_46 (.inr ⟨_, (by exact id), rfl⟩) rfl rfl) ?_
      refine ob1k h9 fun r1 er1 h10 => ?_
      refine AQ.stepWC (.one rfl rfl rfl) rfl rfl (r := .r (.bool r1)) (caps := []) (bs := [.agg [.r (.int .i64 x5.Clock), .r (.int .i64 x5.Site), .r (.int .i64 x5.Kind), .r (.int .i64 x5.Item), .r (.int .i64 x5.Parent), .r (.str x5.Place), .r (.str x5.Name), .r (.str x5.Value)], .agg [.r (.int .i64 x6.Clock), .r (.int .i64 x6.Site), .r (.int .i64 x6.Kind), .r (.int .i64 x6.Item), .r (.int .i64 x6.Parent), .r (.str x6.Place), .r (.str x6.Name), .r (.str x6.Value)]]) rfl (.inl rfl) rfl ⟨⟨_, (.inr ⟨_, (by exact id), rfl⟩), .g (cs := [.int .i64 x5.Clock, .int .i64 x5.Site, .int .i64 x5.Kind, .int .i64 x5.Item, .int .i64 x5.Parent, .str x5.Place, .str x5.Name, .str x5.Value]) rfl rfl⟩, ⟨_, (.inr ⟨_, (by exact id), rfl⟩), .g (cs := [.int .i64 x6.Clock, .int .i64 x6.Site, .int .i64 x6.Kind, .int .i64 x6.Item, .int .i64 x6.Parent, .str x6.Place, .str x6.Name, .str x6.Value]) rfl rfl⟩, trivial⟩ (fun hg => w_ref_Earlier (gdt er1 hg)) rfl ?_
      refine AQ.stepW (.one rfl rfl rfl) rfl rfl (sp_not rfl (.inr ⟨_, (by exact id), rfl⟩)) ?_
      refine AQ.step rfl rfl rfl (sp_and rfl (.inl rfl) (.inr ⟨_, (by exact id), rfl⟩)) ?_
      refine AQ.nil ?_
      refine hK13 _ ?_
      refine AW.cond rfl (fun hc2 => ?_) (fun hc2 => ?_)
      · have h11 := ite_t hc2 h10
        refine AW.seq_w fun K14 hK14 wK14 => ?_
        refine AW.seq_w fun K15 hK15 wK15 => ?_
        refine AW.regionQ hmix (by kernel_rfl) ?_
        refine AQ.step rfl rfl rfl (sp_move rfl (.inl rfl)) ?_
        refine AQ.step rfl rfl rfl (sp_move rfl (.inl rfl)) ?_
        refine ob1k h11 fun x7 ex7 h12 => ?_
        refine AQ.step rfl rfl rfl (ms_idx rfl tg_22.slice (.inl rfl) (.inl rfl) (fun _ => rfl) (fun _ => ex7)) ?_
        refine AQ.step rfl rfl rfl (ms_loadA (cs := [.r (.int .i64 x7.Clock), .r (.int .i64 x7.Site), .r (.int .i64 x7.Kind), .r (.int .i64 x7.Item), .r (.int .i64 x7.Parent), .r (.str x7.Place), .r (.str x7.Name), .r (.str x7.Value)]) rfl ta_46 (.inl rfl) rfl rfl) ?_
        refine AQ.step rfl rfl rfl (sp_move rfl (.inl rfl)) ?_
        refine AQ.step rfl rfl rfl (sp_move rfl (.inl rfl)) ?_
        refine ob1k h12 fun x8 ex8 h13 => ?_
        refine AQ.step rfl rfl rfl (ms_idx rfl tg_22.slice (.inl rfl) (.inl rfl) (fun _ => rfl) (fun _ => ex8)) ?_
        refine AQ.step rfl rfl rfl (ms_loadA (cs := [.r (.int .i64 x8.Clock), .r (.int .i64 x8.Site), .r (.int .i64 x8.Kind), .r (.int .i64 x8.Item), .r (.int .i64 x8.Parent), .r (.str x8.Place), .r (.str x8.Name), .r (.str x8.Value)]) rfl ta_46 (.inl rfl) rfl rfl) ?_
        refine AQ.step rfl rfl rfl (sp_aggneq rfl te_46 (.inl rfl) (.inl rfl) rfl) ?_
        refine AQ.nil ?_
        refine hK15 _ ?_
        refine AW.cond rfl (fun hc3 => ?_) (fun hc3 => ?_)
        · have h14 := ite_t hc3 h13
          refine AW.seq_w fun K16 hK16 wK16 => ?_
          refine AW.weak (s' := ⟨[], [], (i11 0), 75⟩) (by exact Weak.cv trivial trivial (Nat.le_refl _)) ?_
          refine AW.region ?_
          refine AOps.step rfl rfl rfl (OpQ.spec (sp_assign rfl (.inl rfl)) _) ?_
          refine AOps.step rfl rfl rfl (OpQ.spec (sp_assign rfl (.inl rfl)) _) ?_
          refine AOps.nil ?_
          refine hK16 _ ?_
          refine AW.ret ?_
          exact retf2 (P := Try.prog) (fun (r : (List GDrawOp) × Int) => .r (.sl (r.1.map GDrawOp.row))) (fun (r : (List GDrawOp) × Int) => .r (.int .i64 r.2)) (he1 _ (hx1 _ (Option.some.inj (he2 _ (Option.some.inj h14).symm)).symm)) (.inl rfl) (.t (.one (.nil))) (.t (.d rfl))
        · have h14 := ite_f hc3 h13
          refine AW.skip ?_
          refine hK14 _ ?_
          refine AW.exit ?_
          exact wK8 _ _ ((by exact Weak.cv ⟨.inl (.inl rfl), .inl (.inl rfl), .inl (.inl rfl), .inl (.inl rfl), trivial⟩ trivial (Nat.le_refl _))) (J2 _ (vec [(i11 0)]) (Option.some.inj h14).symm)
      · have h11 := ite_f hc2 h10
        refine AW.skip ?_
        refine hK12 _ ?_
        refine ob1k h11 fun l1 el1 h15 => ?_
        refine ob1k h15 fun x9 ex9 h16 => ?_
        refine ob1k h16 fun l2 el2 h17 => ?_
        refine ob1k h17 fun l3 el3 h18 => ?_
        refine AW.regionP 13 [⟨some 59, (fun _ => .r (.sl (out3.map GDrawOp.row))), none, []⟩, ⟨some 60, (fun _ => .r (.int .i64 at4)), none, []⟩, ⟨some 61, (fun _ => .r (.int .i64 at4)), none, []⟩, ⟨some 62, (fun _ => .full (l1.map GDrawOp.row)), none, []⟩, ⟨some 63, (fun _ => .r (.sl (b1.map GDrawOp.row))), none, []⟩, ⟨some 64, (fun _ => .r (.int .i64 x2)), none, []⟩, ⟨some 65, (fun _ => .rop (GDrawOp.row x9) 0), none, []⟩, ⟨some 66, (fun _ => .agg [.r (.int .i64 x9.Clock), .r (.int .i64 x9.Site), .r (.int .i64 x9.Kind), .r (.int .i64 x9.Item), .r (.int .i64 x9.Parent), .r (.str x9.Place), .r (.str x9.Name), .r (.str x9.Value)]), none, []⟩, ⟨some 67, (fun G1 => .own 67 (G1 8)), some (67, (fun G1 => some (.arr (G1 8) 46 8 ([x9].map GDrawOp.row)))), [8]⟩, ⟨some 68, (fun _ => .r (.sl (out3.map GDrawOp.row))), none, []⟩, ⟨some 69, (fun _ => .r (.int .i64 at4)), none, []⟩, ⟨some 70, (fun _ => .r (.sl (l2.map GDrawOp.row))), none, []⟩, ⟨some 71, (fun G1 => .own 67 (G1 12)), some (67, (fun G1 => some (.arr (G1 12) 46 8 (l3.map GDrawOp.row)))), [12]⟩] hmix (by kernel_rfl) (by exact ⟨fun _ _ h => ⟨rfl, fun _ _ e => by cases e⟩, fun _ _ h => ⟨rfl, fun _ _ e => by cases e⟩, fun _ _ h => ⟨rfl, fun _ _ e => by cases e⟩, fun _ _ h => ⟨rfl, fun _ _ e => by cases e⟩, fun _ _ h => ⟨rfl, fun _ _ e => by cases e⟩, fun _ _ h => ⟨rfl, fun _ _ e => by cases e⟩, fun _ _ h => ⟨rfl, fun _ _ e => by cases e⟩, fun _ _ h => ⟨rfl, fun _ _ e => by cases e⟩, fun _ _ h => ⟨by simp only [h 8 rfl], fun _ _ e => by cases e; simp only [h 8 rfl]⟩, fun _ _ h => ⟨rfl, fun _ _ e => by cases e⟩, fun _ _ h => ⟨rfl, fun _ _ e => by cases e⟩, fun _ _ h => ⟨rfl, fun _ _ e => by cases e⟩, fun _ _ h => ⟨by simp only [h 12 rfl], fun _ _ e => by cases e; simp only [h 12 rfl]⟩, trivial⟩) rfl (by exact ⟨Ob.quiet (n1 := fun n => n) rfl rfl (by intro d h; cases h; rfl) rfl (fun _ => [(6, .r (.sl (out3.map GDrawOp.row)))]) (fun _ => []) (fun D G1 hr => ⟨inE_base rfl rfl, trivial⟩) (fun D G1 hr => trivial) (fun _ _ => rfl) (fun G1 e h' n => OpQ.spec (v := .r (.sl (out3.map GDrawOp.row))) (sp_move rfl (.inl rfl)) _),
            Ob.quiet (n1 := fun n => n) rfl rfl (by intro d h; cases h; rfl) rfl (fun _ => [(8, .r (.int .i64 at4))]) (fun _ => []) (fun D G1 hr => ⟨inE_base rfl rfl, trivial⟩) (fun D G1 hr => trivial) (fun _ _ => rfl) (fun G1 e h' n => OpQ.spec (v := .r (.int .i64 at4)) (sp_move rfl (.inl rfl)) _),
            Ob.quiet (n1 := fun n => n) rfl rfl (by intro d h; cases h; rfl) rfl (fun _ => [(8, .r (.int .i64 at4))]) (fun _ => []) (fun D G1 hr => ⟨inE_base rfl rfl, trivial⟩) (fun D G1 hr => trivial) (fun _ _ => rfl) (fun G1 e h' n => OpQ.spec (v := .r (.int .i64 at4)) (sp_move rfl (.inl rfl)) _),
            Ob.quiet (n1 := fun n => n) rfl rfl (by intro d h; cases h; rfl) rfl (fun _ => [(59, .r (.sl (out3.map GDrawOp.row))), (60, .r (.int .i64 at4)), (61, .r (.int .i64 at4))]) (fun _ => []) (fun D G1 hr => ⟨inE_op hr 0 rfl rfl (by kernel_rfl) rfl rfl, inE_op hr 1 rfl rfl (by kernel_rfl) rfl rfl, inE_op hr 2 rfl rfl (by kernel_rfl) rfl rfl, trivial⟩) (fun D G1 hr => trivial) (fun _ _ => rfl) (fun G1 e h' n => OpQ.spec (v := .full (l1.map GDrawOp.row)) (ms_slice_full rfl tg_22.slice (.inl rfl) (.inl rfl) (.inl rfl) (fun _ => el1)) _),
            Ob.quiet (n1 := fun n => n) rfl rfl (by intro d h; cases h; rfl) rfl (fun _ => [(1, .r (.sl (b1.map GDrawOp.row)))]) (fun _ => []) (fun D G1 hr => ⟨inE_base rfl rfl, trivial⟩) (fun D G1 hr => trivial) (fun _ _ => rfl) (fun G1 e h' n => OpQ.spec (v := .r (.sl (b1.map GDrawOp.row))) (sp_move rfl (.inl rfl)) _),
            Ob.quiet (n1 := fun n => n) rfl rfl (by intro d h; cases h; rfl) rfl (fun _ => [(7, .r (.int .i64 x2))]) (fun _ => []) (fun D G1 hr => ⟨inE_base rfl rfl, trivial⟩) (fun D G1 hr => trivial) (fun _ _ => rfl) (fun G1 e h' n => OpQ.spec (v := .r (.int .i64 x2)) (sp_move rfl (.inl rfl)) _),
            Ob.quiet (n1 := fun n => n) rfl rfl (by intro d h; cases h; rfl) rfl (fun _ => [(63, .r (.sl (b1.map GDrawOp.row))), (64, .r (.int .i64 x2))]) (fun _ => []) (fun D G1 hr => ⟨inE_op hr 4 rfl rfl (by kernel_rfl) rfl rfl, inE_op hr 5 rfl rfl (by kernel_rfl) rfl rfl, trivial⟩) (fun D G1 hr => trivial) (fun _ _ => rfl) (fun G1 e h' n => OpQ.spec (v := .rop (GDrawOp.row x9) 0) (ms_idx rfl tg_22.slice (.inl rfl) (.inl rfl) (fun _ => rfl) (fun _ => ex9)) _),
            Ob.quiet (n1 := fun n => n) rfl rfl (by intro d h; cases h; rfl) rfl (fun _ => [(65, .rop (GDrawOp.row x9) 0)]) (fun _ => []) (fun D G1 hr => ⟨inE_op hr 6 rfl rfl (by kernel_rfl) rfl rfl, trivial⟩) (fun D G1 hr => trivial) (fun _ _ => rfl) (fun G1 e h' n => OpQ.spec (v := .agg [.r (.int .i64 x9.Clock), .r (.int .i64 x9.Site), .r (.int .i64 x9.Kind), .r (.int .i64 x9.Item), .r (.int .i64 x9.Parent), .r (.str x9.Place), .r (.str x9.Name), .r (.str x9.Value)]) (ms_loadA (cs := [.r (.int .i64 x9.Clock), .r (.int .i64 x9.Site), .r (.int .i64 x9.Kind), .r (.int .i64 x9.Item), .r (.int .i64 x9.Parent), .r (.str x9.Place), .r (.str x9.Name), .r (.str x9.Value)]) rfl ta_46 (.inl rfl) rfl rfl) _),
            Ob.make (n1 := fun n => n + 1) rfl rfl (by intro d h; cases h; rfl) rfl (fun _ => [(66, .agg [.r (.int .i64 x9.Clock), .r (.int .i64 x9.Site), .r (.int .i64 x9.Kind), .r (.int .i64 x9.Item), .r (.int .i64 x9.Parent), .r (.str x9.Place), .r (.str x9.Name), .r (.str x9.Value)])]) (fun _ => []) (fun D G1 hr => ⟨inE_op hr 7 rfl rfl (by kernel_rfl) rfl rfl, trivial⟩) (fun D G1 hr => trivial) (fun G1 e h' n => ms_lit 67 rfl tg_22 (f := GDrawOp.row) (l := ([x9] : List GDrawOp)) ⟨rfl, ⟨_, (.inl rfl), rfl⟩, trivial⟩ rfl (fun _ => rfl) rfl),
            Ob.quiet (n1 := fun n => n) rfl rfl (by intro d h; cases h; rfl) rfl (fun _ => [(6, .r (.sl (out3.map GDrawOp.row)))]) (fun _ => []) (fun D G1 hr => ⟨inE_base rfl rfl, trivial⟩) (fun D G1 hr => trivial) (fun _ _ => rfl) (fun G1 e h' n => OpQ.spec (v := .r (.sl (out3.map GDrawOp.row))) (sp_move rfl (.inl rfl)) _),
            Ob.quiet (n1 := fun n => n) rfl rfl (by intro d h; cases h; rfl) rfl (fun _ => [(8, .r (.int .i64 at4))]) (fun _ => []) (fun D G1 hr => ⟨inE_base rfl rfl, trivial⟩) (fun D G1 hr => trivial) (fun _ _ => rfl) (fun G1 e h' n => OpQ.spec (v := .r (.int .i64 at4)) (sp_move rfl (.inl rfl)) _),
            Ob.quiet (n1 := fun n => n) rfl rfl (by intro d h; cases h; rfl) rfl (fun _ => [(68, .r (.sl (out3.map GDrawOp.row))), (69, .r (.int .i64 at4))]) (fun _ => []) (fun D G1 hr => ⟨inE_op hr 9 rfl rfl (by kernel_rfl) rfl rfl, inE_op hr 10 rfl rfl (by kernel_rfl) rfl rfl, trivial⟩) (fun D G1 hr => trivial) (fun _ _ => rfl) (fun G1 e h' n => OpQ.spec (v := .r (.sl (l2.map GDrawOp.row))) (ms_slice rfl tg_22.slice (.inl rfl) (by exact ⟨_, (.inl rfl)⟩) (by exact rfl) (fun _ => rfl) (fun _ => el2)) _),
            Ob.make (n1 := fun n => n + 1) rfl rfl (by intro d h; cases h; rfl) rfl (fun G1 => [(67, .own 67 (G1 8)), (70, .r (.sl (l2.map GDrawOp.row)))]) (fun G1 => [(67, some (.arr (G1 8) 46 8 ([x9].map GDrawOp.row)))]) (fun D G1 hr => ⟨inE_op hr 8 rfl rfl (by kernel_rfl) rfl rfl, inE_op hr 11 rfl rfl (by kernel_rfl) rfl rfl, trivial⟩) (fun D G1 hr => ⟨inH_op hr 8 rfl rfl (by kernel_rfl) (by kernel_rfl) rfl, trivial⟩) (fun G1 e h' n => ms_app rfl tg_22 (.inl rfl) rfl (.inl ⟨(.inl rfl), fun _ => rfl⟩) el3),
            trivial⟩) fun G1 n1 => ?_
        refine AOps.weak (s' := ⟨[(1, .r (.sl (b1.map GDrawOp.row))), (6, .r (.sl (out3.map GDrawOp.row))), (7, .r (.int .i64 x2)), (8, .r (.int .i64 at4)), (13, .r (.int .i64 (b1.length : Int))), (14, .r (.int .i64 x2)), (34, .r (.int .i64 at4)), (35, .r (.sl (out3.map GDrawOp.row))), (36, .r (.int .i64 (out3.length : Int))), (37, .r (.bool (decide (at4 < (out3.length : Int))))), (38, .r (.bool (decide (at4 < (out3.length : Int))))), (49, .r (.bool ((decide (at4 < (out3.length : Int))) && (!r1)))), (59, .r (.sl (out3.map GDrawOp.row))), (60, .r (.int .i64 at4)), (61, .r (.int .i64 at4)), (62, .full (l1.map GDrawOp.row)), (63, .r (.sl (b1.map GDrawOp.row))), (64, .r (.int .i64 x2)), (65, .rop (GDrawOp.row x9) 0), (66, .agg [.r (.int .i64 x9.Clock), .r (.int .i64 x9.Site), .r (.int .i64 x9.Kind), .r (.int .i64 x9.Item), .r (.int .i64 x9.Parent), .r (.str x9.Place), .r (.str x9.Name), .r (.str x9.Value)]), (68, .r (.sl (out3.map GDrawOp.row))), (69, .r (.int .i64 at4)), (70, .r (.sl (l2.map GDrawOp.row))), (71, .own 67 (G1 12))], [(67, some (.arr (G1 12) 46 8 (l3.map GDrawOp.row)))], n1, 75⟩) (by exact Weak.cv ⟨.inl (.inl rfl), .inl (.inl rfl), .inl (.inl rfl), .inl (.inl rfl), .inl (.inl rfl), .inl (.inl rfl), .inl (.inl rfl), .inl (.inl rfl), .inl (.inl rfl), .inl (.inl rfl), .inl (.inl rfl), .inl (.inl rfl), .inl (.inl rfl), .inl (.inl rfl), .inl (.inl rfl), .inl (.inl rfl), .inl (.inl rfl), .inl (.inl rfl), .inl (.inl rfl), .inl (.inl rfl), .inl (.inl rfl), .inl (.inl rfl), .inl (.inl rfl), .inl (.inl rfl), trivial⟩ ⟨.inl rfl, trivial⟩ (Nat.le_refl _)) ?_
        refine ob1k h18 fun out7 eout7 h19 => ?_
        refine AOps.step rfl rfl rfl (ms_app_full 72 (f := GDrawOp.row) rfl tg_22 (.inl rfl) (.inr (.inl ⟨_, _, (.inl rfl), rfl⟩)) (fun _ => rfl) eout7) ?_
        refine AOps.step rfl rfl rfl (OpQ.spec (sp_assign rfl (.inl rfl)) _) ?_
        refine AOps.nil ?_
        exact wK8 _ _ (Weak.trans (by exact Weak.frz (e' := [(1, .r (.sl (b1.map GDrawOp.row))), (6, .r (.sl (out7.map GDrawOp.row))), (7, .r (.int .i64 x2)), (8, .r (.int .i64 at4)), (13, .r (.int .i64 (b1.length : Int))), (14, .r (.int .i64 x2)), (34, .r (.int .i64 at4)), (35, .r (.sl (out3.map GDrawOp.row))), (36, .r (.int .i64 (out3.length : Int))), (37, .r (.bool (decide (at4 < (out3.length : Int))))), (38, .r (.bool (decide (at4 < (out3.length : Int))))), (49, .r (.bool ((decide (at4 < (out3.length : Int))) && (!r1)))), (59, .r (.sl (out3.map GDrawOp.row))), (60, .r (.int .i64 at4)), (61, .r (.int .i64 at4)), (62, .full (l1.map GDrawOp.row)), (63, .r (.sl (b1.map GDrawOp.row))), (64, .r (.int .i64 x2)), (65, .rop (GDrawOp.row x9) 0), (66, .agg [.r (.int .i64 x9.Clock), .r (.int .i64 x9.Site), .r (.int .i64 x9.Kind), .r (.int .i64 x9.Item), .r (.int .i64 x9.Parent), .r (.str x9.Place), .r (.str x9.Name), .r (.str x9.Value)]), (68, .r (.sl (out3.map GDrawOp.row))), (69, .r (.int .i64 at4)), (70, .r (.sl (l2.map GDrawOp.row))), (71, .own 67 (G1 12)), (72, .r (.sl (out7.map GDrawOp.row)))]) (h' := [(67, some (.arr (G1 12) 46 8 (l3.map GDrawOp.row)))]) 72 rfl ⟨.inl (.inl rfl), .inl (.inr (.inr ⟨rfl, rfl⟩)), .inl (.inl rfl), .inl (.inl rfl), .inl (.inl rfl), .inl (.inl rfl), .inl (.inl rfl), .inl (.inl rfl), .inl (.inl rfl), .inl (.inl rfl), .inl (.inl rfl), .inl (.inl rfl), .inl (.inl rfl), .inl (.inl rfl), .inl (.inl rfl), .inl (.inl rfl), .inl (.inl rfl), .inl (.inl rfl), .inl (.inl rfl), .inl (.inl rfl), .inl (.inl rfl), .inl (.inl rfl), .inl (.inl rfl), .inl (.inl rfl), .inl (.inr (.inr ⟨rfl, rfl⟩)), trivial⟩ ⟨rfl, .inl rfl, trivial⟩) (by exact Weak.cv ⟨.inl (.inl rfl), .inl (.inl rfl), .inl (.inl rfl), .inl (.inl rfl), trivial⟩ trivial (Nat.le_refl _))) (J2 _ (vec [(n1 + 1)]) (Option.some.inj h19).symm)
    refine AW.iter1 (fun (at2 : Int) i9 => ⟨[(1, .r (.sl (b1.map GDrawOp.row))), (6, .r (.sl (out3.map GDrawOp.row))), (7, .r (.int .i64 x2)), (8, .r (.int .i64 at2)), (13, .r (.int .i64 (b1.length : Int))), (14, .r (.int .i64 x2))], [], (i9 0), 75⟩) (vec [(i3 0)]) hit2 ((by exact Weak.cv ⟨.inl (.inl rfl), .inl (.inl rfl), .inl (.inl rfl), .inl (.inl rfl), .inl (.inl rfl), .inl (.inl rfl), trivial⟩ trivial (Nat.le_refl _))) ?_
    intro at2 i9 v2 hv2 hx2
    have h20 : ref_Union_L2 b1 out3 x2 at2 = some v2 := hv2; unfold ref_Union_L2 at h20
    refine AW.seq_w fun K17 hK17 wK17 => ?_
    refine AW.seq_w fun K18 hK18 wK18 => ?_
    refine AW.regionQ hmix (by kernel_rfl) ?_
    refine AQ.step rfl rfl rfl (sp_move rfl (.inl rfl)) ?_
    refine AQ.step rfl rfl rfl (sp_move rfl (.inl rfl)) ?_
    refine AQ.step rfl rfl rfl (ms_len rfl tg_22.slice (.inl rfl)) ?_
    refine AQ.step rfl rfl rfl (sp_lss rfl (.inl rfl) (.inl rfl)) ?_
    refine AQ.step rfl rfl rfl (sp_move rfl (.inl rfl)) ?_
    refine AQ.stepW (.one rfl rfl rfl) rfl rfl (sp_move rfl (.inl rfl)) ?_
    refine AQ.stepW (.one rfl rfl rfl) rfl rfl (sp_move rfl (.inl rfl)) ?_
    refine ob1k h20 fun x10 ex10 h21 => ?_
    refine AQ.stepW (.one rfl rfl rfl) rfl rfl (ms_idx rfl tg_22.slice (.inr ⟨_, (by exact id), rfl⟩) (.inr ⟨_, (by exact id), rfl⟩) (fun _ => rfl) (gdt ex10)) ?_
    refine AQ.stepW (.one rfl rfl rfl) rfl rfl (ms_loadA (cs := [.r (.int .i64 x10.Clock), .r (.int .i64 x10.Site), .r (.int .i64 x10.Kind), .r (.int .i64 x10.Item), .r (.int .i64 x10.Parent), .r (.str x10.Place), .r (.str x10.Name), .r (.str x10.Value)]) rfl ta_46 (.inr ⟨_, (by exact id), rfl⟩) rfl rfl) ?_
    refine AQ.stepW (.one rfl rfl rfl) rfl rfl (sp_move rfl (.inl rfl)) ?_
    refine AQ.stepW (.one rfl rfl rfl) rfl rfl (sp_move rfl (.inl rfl)) ?_
    refine ob1k h21 fun x11 ex11 h22 => ?_
    refine AQ.stepW (.one rfl rfl rfl) rfl rfl (ms_idx rfl tg_22.slice (.inr ⟨_, (by exact id), rfl⟩) (.inr ⟨_, (by exact id), rfl⟩) (fun _ => rfl) (gdt ex11)) ?_
    refine AQ.stepW (.one rfl rfl rfl) rfl rfl (ms_loadA (cs := [.r (.int .i64 x11.Clock), .r (.int .i64 x11.Site), .r (.int .i64 x11.Kind), .r (.int .i64 x11.Item), .r (.int .i64 x11.Parent), .r (.str x11.Place), .r (.str x11.Name), .r (.str x11.Value)]) rfl ta_46 (.inr ⟨_, (by exact id), rfl⟩) rfl rfl) ?_
    refine ob1k h22 fun r2 er2 h23 => ?_
    refine AQ.stepWC (.one rfl rfl rfl) rfl rfl (r := .r (.bool r2)) (caps := []) (bs := [.agg [.r (.int .i64 x10.Clock), .r (.int .i64 x10.Site), .r (.int .i64 x10.Kind), .r (.int .i64 x10.Item), .r (.int .i64 x10.Parent), .r (.str x10.Place), .r (.str x10.Name), .r (.str x10.Value)], .agg [.r (.int .i64 x11.Clock), .r (.int .i64 x11.Site), .r (.int .i64 x11.Kind), .r (.int .i64 x11.Item), .r (.int .i64 x11.Parent), .r (.str x11.Place), .r (.str x11.Name), .r (.str x11.Value)]]) rfl (.inl rfl) rfl ⟨⟨_, (.inr ⟨_, (by exact id), rfl⟩), .g (cs := [.int .i64 x10.Clock, .int .i64 x10.Site, .int .i64 x10.Kind, .int .i64 x10.Item, .int .i64 x10.Parent, .str x10.Place, .str x10.Name, .str x10.Value]) rfl rfl⟩, ⟨_, (.inr ⟨_, (by exact id), rfl⟩), .g (cs := [.int .i64 x11.Clock, .int .i64 x11.Site, .int .i64 x11.Kind, .int .i64 x11.Item, .int .i64 x11.Parent, .str x11.Place, .str x11.Name, .str x11.Value]) rfl rfl⟩, trivial⟩ (fun hg => w_ref_Earlier (gdt er2 hg)) rfl ?_
    refine AQ.step rfl rfl rfl (sp_and rfl (.inl rfl) (.inr ⟨_, (by exact id), rfl⟩)) ?_
    refine AQ.nil ?_
    refine hK18 _ ?_
    refine AW.cond rfl (fun hc4 => ?_) (fun hc4 => ?_)
    · have h24 := ite_t hc4 h23
      refine AW.skip ?_
      refine hK17 _ ?_
      refine AW.block ?_
      refine AW.region ?_
      refine AOps.step rfl rfl rfl (OpQ.spec (sp_move rfl (.inl rfl)) _) ?_
      refine ob1k h24 fun at5 eat5 h25 => ?_
      refine AOps.step rfl rfl rfl (OpQ.spec (ms_add rfl (.inl rfl) (.inl rfl) (fun _ => eat5)) _) ?_
      refine AOps.step rfl rfl rfl (OpQ.spec (sp_assign rfl (.inl rfl)) _) ?_
      refine AOps.nil ?_
      exact NextQ1.mk h25 (vec [(i9 0)]) ((by exact Weak.cv ⟨.inl (.inl rfl), .inl (.inl rfl), .inl (.inl rfl), .inl (.inl rfl), .inl (.inl rfl), .inl (.inl rfl), trivial⟩ trivial (Nat.le_refl _)))
    · have h24 := ite_f hc4 h23
      refine AW.exit ?_
      exact wK11 _ _ ((by exact Weak.cv ⟨.inl (.inl rfl), .inl (.inl rfl), .inl (.inl rfl), .inl (.inl rfl), .inl (.inl rfl), .inl (.inl rfl), trivial⟩ trivial (Nat.le_refl _))) (J3 _ (vec [(i9 0)]) (hx2 _ (Option.some.inj h24).symm))
  · have h4 := ite_f hc1 h3
    refine AW.exit ?_
    exact wK3 _ _ ((by exact Weak.cv ⟨.inl (.inl rfl), trivial⟩ trivial (Nat.le_refl _))) (J1 _ (vec [(i3 0)]) (hx1 _ (Option.some.inj h4).symm))
theorem w_ref_SameOps {a1 : List GDrawOp} {b1 : List GDrawOp} {r : Bool} (h : ref_SameOps a1 b1 = some r) : ARO Try.prog 18 [.r (.sl (a1.map GDrawOp.row)), .r (.sl (b1.map GDrawOp.row))] (.r (.bool r)) := by
  unfold ref_SameOps at h
  refine ARO.mkF Try.func18 rfl rfl Try.ntmps18 rfl (Nat.le_of_ble_eq_true rfl) fun n0 => ?_
  refine AW.seq_w fun K1 hK1 wK1 => ?_
  refine AW.region ?_
  refine AOps.step rfl rfl rfl (OpQ.spec (sp_assign rfl (.inl rfl)) _) ?_
  refine AOps.nil ?_
  refine hK1 _ ?_
  refine AW.seq_w fun K2 hK2 wK2 => ?_
  refine AW.seq_w fun K3 hK3 wK3 => ?_
  refine AW.region ?_
  refine AOps.step rfl rfl rfl (OpQ.spec (sp_move rfl (.inl rfl)) _) ?_
  refine AOps.step rfl rfl rfl (OpQ.spec (ms_len rfl tg_22.slice (.inl rfl)) _) ?_
  refine AOps.step rfl rfl rfl (OpQ.spec (sp_move rfl (.inl rfl)) _) ?_
  refine AOps.step rfl rfl rfl (OpQ.spec (ms_len rfl tg_22.slice (.inl rfl)) _) ?_
  refine AOps.step rfl rfl rfl (OpQ.spec (sp_neq rfl (.inl rfl) (.inl rfl)) _) ?_
  refine AOps.nil ?_
  refine hK3 _ ?_
  refine AW.cond rfl (fun hc1 => ?_) (fun hc1 => ?_)
  · have h1 := ite_t hc1 h
    refine AW.seq_w fun K4 hK4 wK4 => ?_
    refine AW.region ?_
    refine AOps.step rfl rfl rfl (OpQ.spec (sp_assign rfl (.inl rfl)) _) ?_
    refine AOps.nil ?_
    refine hK4 _ ?_
    refine AW.ret ?_
    exact retf1 (P := Try.prog) (fun (r : Bool) => .r (.bool r)) h1 (.inl rfl) (.t (.d rfl))
  · have h1 := ite_f hc1 h
    refine AW.skip ?_
    refine hK2 _ ?_
    refine AW.seq_w fun K5 hK5 wK5 => ?_
    refine AW.seq_w fun K6 hK6 wK6 => ?_
    refine AW.region ?_
    refine AOps.step rfl rfl rfl (OpQ.spec (sp_move rfl (.inl rfl)) _) ?_
    refine AOps.step rfl rfl rfl (OpQ.spec (ms_len rfl tg_22.slice (.inl rfl)) _) ?_
    refine AOps.step rfl rfl rfl (OpQ.spec (sp_move rfl (.inl rfl)) _) ?_
    refine AOps.nil ?_
    refine hK6 _ ?_
    refine AW.block ?_
    refine jc1k h1 fun o1 hit1 hk1 he1 => ?_
    have J1 : ∀ (u2 : Unit) (i5 : Nat → Nat), o1 = .nrm u2 → K5 ⟨[], [], (i5 0), 26⟩ := by
      intro u2 i5 e
      have h2 := hk1 _ e
      refine hK5 _ ?_
      refine AW.seq_w fun K7 hK7 wK7 => ?_
      refine AW.region ?_
      refine AOps.step rfl rfl rfl (OpQ.spec (sp_assign rfl (.inl rfl)) _) ?_
      refine AOps.nil ?_
      refine hK7 _ ?_
      refine AW.ret ?_
      exact retf1 (P := Try.prog) (fun (r : Bool) => .r (.bool r)) h2 (.inl rfl) (.t (.d rfl))
    refine AW.iter1 (fun (x2 : Int) i3 => ⟨[(0, .r (.sl (a1.map GDrawOp.row))), (1, .r (.sl (b1.map GDrawOp.row))), (12, .r (.int .i64 (a1.length : Int))), (13, .r (.int .i64 x2))], [], (i3 0), 26⟩) (vec [n0]) hit1 ((by exact Weak.cv ⟨.inl (.inl rfl), .inl (.inl rfl), .inl (.inl rfl), .inl (.inl rfl), trivial⟩ trivial (Nat.le_refl _))) ?_
    intro x2 i3 v1 hv1 hx1
    have h3 : ref_SameOps_L1 a1 b1 x2 = some v1 := hv1; unfold ref_SameOps_L1 at h3
    refine AW.seq_w fun K8 hK8 wK8 => ?_
    refine AW.region ?_
    refine AOps.step rfl rfl rfl (OpQ.spec (sp_lss rfl (.inl rfl) (.inl rfl)) _) ?_
    refine AOps.nil ?_
    refine hK8 _ ?_
    refine AW.seq_w fun K9 hK9 wK9 => ?_
    refine AW.cond rfl (fun hc2 => ?_) (fun hc2 => ?_)
    · have h4 := ite_t hc2 h3
      refine AW.skip ?_
      refine hK9 _ ?_
      refine AW.seq_w fun K10 hK10 wK10 => ?_
      refine AW.block ?_
      refine AW.seq_w fun K11 hK11 wK11 => ?_
      refine AW.region ?_
      refine AOps.step rfl rfl rfl (OpQ.spec (sp_move rfl (.inl rfl)) _) ?_
      refine AOps.step rfl rfl rfl (OpQ.spec (sp_assign rfl (.inl rfl)) _) ?_
      refine AOps.nil ?_
      refine hK11 _ ?_
      refine AW.seq_w fun K12 hK12 wK12 => ?_
      refine AW.regionQ hmix (by kernel_rfl) ?_
      refine AQ.step rfl rfl rfl (sp_move rfl (.inl rfl)) ?_
      refine AQ.step rfl rfl rfl (sp_move rfl (.inl rfl)) ?_
      refine ob1k h4 fun x4 ex4 h5 => ?_
      refine AQ.step rfl rfl rfl (ms_idx rfl tg_22.slice (.inl rfl) (.inl rfl) (fun _ => rfl) (fun _ => ex4)) ?_
      refine AQ.step rfl rfl rfl (ms_loadA (cs := [.r (.int .i64 x4.Clock), .r (.int .i64 x4.Site), .r (.int .i64 x4.Kind), .r (.int .i64 x4.Item), .r (.int .i64 x4.Parent), .r (.str x4.Place), .r (.str x4.Name), .r (.str x4.Value)]) rfl ta_46 (.inl rfl) rfl rfl) ?_
      refine AQ.step rfl rfl rfl (sp_move rfl (.inl rfl)) ?_
      refine AQ.step rfl rfl rfl (sp_move rfl (.inl rfl)) ?_
      refine ob1k h5 fun x5 ex5 h6 => ?_
      refine AQ.step rfl rfl rfl (ms_idx rfl tg_22.slice (.inl rfl) (.inl rfl) (fun _ => rfl) (fun _ => ex5)) ?_
      refine AQ.step rfl rfl rfl (ms_loadA (cs := [.r (.int .i64 x5.Clock), .r (.int .i64 x5.Site), .r (.int .i64 x5.Kind), .r (.int .i64 x5.Item), .r (.int .i64 x5.Parent), .r (.str x5.Place), .r (.str x5.Name), .r (.str x5.Value)]) rfl ta_46 (.inl rfl) rfl rfl) ?_
      refine AQ.step rfl rfl rfl (sp_aggneq rfl te_46 (.inl rfl) (.inl rfl) rfl) ?_
      refine AQ.nil ?_
      refine hK12 _ ?_
      refine AW.cond rfl (fun hc3 => ?_) (fun hc3 => ?_)
      · have h7 := ite_t hc3 h6
        refine AW.seq_w fun K13 hK13 wK13 => ?_
        refine AW.weak (s' := ⟨[], [], (i3 0), 26⟩) (by exact Weak.cv trivial trivial (Nat.le_refl _)) ?_
        refine AW.region ?_
        refine AOps.step rfl rfl rfl (OpQ.spec (sp_assign rfl (.inl rfl)) _) ?_
        refine AOps.nil ?_
        refine hK13 _ ?_
        refine AW.ret ?_
        exact retf1 (P := Try.prog) (fun (r : Bool) => .r (.bool r)) (he1 _ (hx1 _ (Option.some.inj h7).symm)) (.inl rfl) (.t (.d rfl))
      · have h7 := ite_f hc3 h6
        refine AW.skip ?_
        refine hK10 _ ?_
        refine AW.weak (s' := ⟨[(0, .r (.sl (a1.map GDrawOp.row))), (1, .r (.sl (b1.map GDrawOp.row))), (12, .r (.int .i64 (a1.length : Int))), (13, .r (.int .i64 x2))], [], (i3 0), 26⟩) (by exact Weak.cv ⟨.inl (.inl rfl), .inl (.inl rfl), .inl (.inl rfl), .inl (.inl rfl), trivial⟩ trivial (Nat.le_refl _)) ?_
        refine AW.region ?_
        refine ob1k h7 fun x6 ex6 h8 => ?_
        refine AOps.step rfl rfl rfl (OpQ.spec (ms_add rfl (.inl rfl) (.inl rfl) (fun _ => ex6)) _) ?_
        refine AOps.step rfl rfl rfl (OpQ.spec (sp_move rfl (.inl rfl)) _) ?_
        refine AOps.nil ?_
        exact NextQ1.mk h8 (vec [(i3 0)]) ((by exact Weak.cv ⟨.inl (.inl rfl), .inl (.inl rfl), .inl (.inl rfl), .inl (.inl rfl), trivial⟩ trivial (Nat.le_refl _)))
    · have h4 := ite_f hc2 h3
      refine AW.exit ?_
      exact wK5 _ _ ((by exact Weak.cv trivial trivial (Nat.le_refl _))) (J1 _ (vec [(i3 0)]) (hx1 _ (Option.some.inj h4).symm))
theorem w_law_ReplicaCheckSays {s1 : List UInt8} {a1 : List GDrawOp} {b1 : List GDrawOp} {r : Bool} (h : law_ReplicaCheckSays s1 a1 b1 = some r) : ARO Try.prog 4 [.r (.str s1), .r (.sl (a1.map GDrawOp.row)), .r (.sl (b1.map GDrawOp.row))] (.r (.bool r)) := by
  unfold law_ReplicaCheckSays at h
  refine ARO.mkF Try.func4 rfl rfl Try.ntmps4 rfl (Nat.le_of_ble_eq_true rfl) fun n0 => ?_
  refine AW.seq_w fun K1 hK1 wK1 => ?_
  refine AW.region ?_
  refine AOps.step rfl rfl rfl (OpQ.spec (sp_assign rfl (.inl rfl)) _) ?_
  refine AOps.nil ?_
  refine hK1 _ ?_
  refine AW.seq_w fun K2 hK2 wK2 => ?_
  refine AW.seq_w fun K3 hK3 wK3 => ?_
  refine AW.region ?_
  refine ob1k h fun r1 er1 h1 => ?_
  refine AOps.step rfl rfl rfl (sp_call (r := .r (.bool r1)) (caps := []) (bs := []) rfl (.inl rfl) rfl trivial (fun _ => w_law_draws (er1)) rfl) ?_
  refine AOps.step rfl rfl rfl (OpQ.spec (sp_not rfl (.inl rfl)) _) ?_
  refine AOps.step rfl rfl rfl (OpQ.spec (sp_move rfl (.inl rfl)) _) ?_
  refine AOps.stepW (.one rfl rfl rfl) rfl rfl (OpQ.spec (sp_move rfl (.inl rfl)) _) ?_
  refine ob1k h1 fun r2 er2 h2 => ?_
  refine AOps.stepW (.one rfl rfl rfl) rfl rfl (sp_call (r := .r (.bool r2)) (caps := []) (bs := [.r (.str s1)]) rfl (.inl rfl) rfl ⟨⟨_, (.inr ⟨_, (by exact id), rfl⟩), .d rfl⟩, trivial⟩ (fun hg => w_replica_Place (gdt er2 hg)) rfl) ?_
  refine AOps.stepW (.one rfl rfl rfl) rfl rfl (OpQ.spec (sp_move rfl (.inl rfl)) _) ?_
  refine ob1k h2 fun r3 er3 h3 => ?_
  refine AOps.stepW (.one rfl rfl rfl) rfl rfl (sp_call (r := .r (.bool r3)) (caps := []) (bs := [.r (.str s1)]) rfl (.inl rfl) rfl ⟨⟨_, (.inr ⟨_, (by exact id), rfl⟩), .d rfl⟩, trivial⟩ (fun hg => w_ref_Place (gdt er3 hg)) rfl) ?_
  refine AOps.stepW (.one rfl rfl rfl) rfl rfl (OpQ.spec (sp_bneq rfl Try.underlying4 (.inr ⟨_, (by exact id), rfl⟩) (.inr ⟨_, (by exact id), rfl⟩)) _) ?_
  refine AOps.step rfl rfl rfl (OpQ.spec (sp_or rfl (.inl rfl) (.inr ⟨_, (by exact id), rfl⟩)) _) ?_
  refine AOps.step rfl rfl rfl (OpQ.spec (sp_move rfl (.inl rfl)) _) ?_
  refine AOps.stepW (.one rfl rfl rfl) rfl rfl (OpQ.spec (sp_move rfl (.inl rfl)) _) ?_
  refine ob1k h3 fun r4 er4 h4 => ?_
  refine AOps.stepW (.one rfl rfl rfl) rfl rfl (sp_call (r := .r (.int .i64 r4)) (caps := []) (bs := [.r (.sl (a1.map GDrawOp.row))]) rfl (.inl rfl) rfl ⟨⟨_, (.inr ⟨_, (by exact id), rfl⟩), .d rfl⟩, trivial⟩ (fun hg => w_replica_Check (gdt er4 hg)) rfl) ?_
  refine AOps.stepW (.one rfl rfl rfl) rfl rfl (OpQ.spec (sp_move rfl (.inl rfl)) _) ?_
  refine ob1k h4 fun r5 er5 h5 => ?_
  refine AOps.stepW (.one rfl rfl rfl) rfl rfl (sp_call (r := .r (.int .i64 r5)) (caps := []) (bs := [.r (.sl (a1.map GDrawOp.row))]) rfl (.inl rfl) rfl ⟨⟨_, (.inr ⟨_, (by exact id), rfl⟩), .d rfl⟩, trivial⟩ (fun hg => w_ref_DrawError (gdt er5 hg)) rfl) ?_
  refine AOps.stepW (.one rfl rfl rfl) rfl rfl (OpQ.spec (sp_neq rfl (.inr ⟨_, (by exact id), rfl⟩) (.inr ⟨_, (by exact id), rfl⟩)) _) ?_
  refine AOps.step rfl rfl rfl (OpQ.spec (sp_or rfl (.inl rfl) (.inr ⟨_, (by exact id), rfl⟩)) _) ?_
  refine AOps.nil ?_
  refine hK3 _ ?_
  refine AW.cond rfl (fun hc1 => ?_) (fun hc1 => ?_)
  · have h6 := ite_t hc1 h5
    refine AW.seq_w fun K4 hK4 wK4 => ?_
    refine AW.weak (s' := ⟨[], [], n0, 64⟩) (by exact Weak.cv trivial trivial (Nat.le_refl _)) ?_
    refine AW.region ?_
    refine AOps.step rfl rfl rfl (OpQ.spec (sp_assign rfl (.inl rfl)) _) ?_
    refine AOps.nil ?_
    refine hK4 _ ?_
    refine AW.ret ?_
    exact retf1 (P := Try.prog) (fun (r : Bool) => .r (.bool r)) h6 (.inl rfl) (.t (.d rfl))
  · have h6 := ite_f hc1 h5
    refine AW.skip ?_
    refine hK2 _ ?_
    refine AW.seq_w fun K5 hK5 wK5 => ?_
    refine AW.weak (s' := ⟨[(1, .r (.sl (a1.map GDrawOp.row))), (2, .r (.sl (b1.map GDrawOp.row)))], [], n0, 64⟩) (by exact Weak.cv ⟨.inl (.inl rfl), .inl (.inl rfl), trivial⟩ trivial (Nat.le_refl _)) ?_
    refine AW.region ?_
    refine AOps.step rfl rfl rfl (OpQ.spec (sp_move rfl (.inl rfl)) _) ?_
    refine AOps.step rfl rfl rfl (OpQ.spec (sp_move rfl (.inl rfl)) _) ?_
    refine ob2k h6 fun r6 r7 er6 h7 => ?_
    refine AOps.step rfl rfl rfl (sp_callS (r := .tup [.r (.sl (r6.map GDrawOp.row)), .r (.int .i64 r7)]) (caps := []) (bs := [.r (.sl (a1.map GDrawOp.row)), .r (.sl (b1.map GDrawOp.row))]) rfl (.inl rfl) rfl ⟨.inl ⟨(.inl rfl), rfl⟩, .inl ⟨(.inl rfl), rfl⟩, trivial⟩ (fun _ => w_replica_Join (er6))) ?_
    refine AOps.step rfl rfl rfl (OpQ.spec (sp_move rfl (.inl rfl)) _) ?_
    refine AOps.step rfl rfl rfl (OpQ.spec (sp_extract (a := .r (.sl (r6.map GDrawOp.row))) rfl (.inl rfl) rfl) _) ?_
    refine AOps.step rfl rfl rfl (OpQ.spec (sp_extract (a := .r (.int .i64 r7)) rfl (.inl rfl) rfl) _) ?_
    refine AOps.step rfl rfl rfl (OpQ.spec (sp_assign rfl (.inl rfl)) _) ?_
    refine AOps.step rfl rfl rfl (OpQ.spec (sp_assign rfl (.inl rfl)) _) ?_
    refine AOps.nil ?_
    refine hK5 _ ?_
    refine AW.seq_w fun K6 hK6 wK6 => ?_
    refine AW.region ?_
    refine AOps.step rfl rfl rfl (OpQ.spec (sp_move rfl (.inl rfl)) _) ?_
    refine ob1k h7 fun f1 ef1 h8 => ?_
    refine AOps.step rfl rfl rfl (sp_call (r := .r (.int .i64 f1)) (caps := []) (bs := [.r (.sl (a1.map GDrawOp.row))]) rfl (.inl rfl) rfl ⟨⟨_, (.inl rfl), .d rfl⟩, trivial⟩ (fun _ => w_ref_DrawError (ef1)) rfl) ?_
    refine AOps.step rfl rfl rfl (OpQ.spec (sp_assign rfl (.inl rfl)) _) ?_
    refine AOps.nil ?_
    refine hK6 _ ?_
    refine AW.seq_w fun K7 hK7 wK7 => ?_
    refine AW.seq_w fun K8 hK8 wK8 => ?_
    refine AW.region ?_
    refine AOps.step rfl rfl rfl (OpQ.spec (sp_move rfl (.inl rfl)) _) ?_
    refine AOps.step rfl rfl rfl (OpQ.spec (sp_eql rfl (.inl rfl) (.inl rfl)) _) ?_
    refine AOps.nil ?_
    refine hK8 _ ?_
    refine jb1k h8 fun p1 hp1 hk1 => ?_
    have J1 : ∀ (f2 : Int) (i1 : Nat → Nat), p1 = f2 → K7 ⟨[(1, .r (.sl (a1.map GDrawOp.row))), (2, .r (.sl (b1.map GDrawOp.row))), (7, .r (.sl (r6.map GDrawOp.row))), (8, .r (.int .i64 r7)), (9, .r (.int .i64 f2))], [], (i1 0), 64⟩ := by
      intro f2 i1 e
      have h9 := hk1 _ e
      refine hK7 _ ?_
      refine AW.seq_w fun K9 hK9 wK9 => ?_
      refine AW.seq_w fun K10 hK10 wK10 => ?_
      refine AW.region ?_
      refine AOps.step rfl rfl rfl (OpQ.spec (sp_move rfl (.inl rfl)) _) ?_
      refine AOps.step rfl rfl rfl (OpQ.spec (sp_neq rfl (.inl rfl) (.inl rfl)) _) ?_
      refine AOps.nil ?_
      refine hK10 _ ?_
      refine AW.cond rfl (fun hc2 => ?_) (fun hc2 => ?_)
      · have h10 := ite_t hc2 h9
        refine AW.seq_w fun K11 hK11 wK11 => ?_
        refine AW.region ?_
        refine AOps.step rfl rfl rfl (OpQ.spec (sp_move rfl (.inl rfl)) _) ?_
        refine AOps.step rfl rfl rfl (OpQ.spec (sp_move rfl (.inl rfl)) _) ?_
        refine AOps.step rfl rfl rfl (OpQ.spec (sp_eql rfl (.inl rfl) (.inl rfl)) _) ?_
        refine AOps.step rfl rfl rfl (OpQ.spec (sp_move rfl (.inl rfl)) _) ?_
        refine AOps.stepW (.one rfl rfl rfl) rfl rfl (OpQ.spec (sp_move rfl (.inl rfl)) _) ?_
        refine AOps.stepW (.one rfl rfl rfl) rfl rfl (OpQ.spec (ms_len rfl tg_22.slice (.inr ⟨_, (by exact id), rfl⟩)) _) ?_
        refine AOps.stepW (.one rfl rfl rfl) rfl rfl (OpQ.spec (sp_eql rfl (.inr ⟨_, (by exact id), rfl⟩) (.inl rfl)) _) ?_
        refine AOps.step rfl rfl rfl (OpQ.spec (sp_and rfl (.inl rfl) (.inr ⟨_, (by exact id), rfl⟩)) _) ?_
        refine AOps.step rfl rfl rfl (OpQ.spec (sp_assign rfl (.inl rfl)) _) ?_
        refine AOps.nil ?_
        refine hK11 _ ?_
        refine AW.ret ?_
        exact retf1 (P := Try.prog) (fun (r : Bool) => .r (.bool r)) h10 (.inl rfl) (.t (.d rfl))
      · have h10 := ite_f hc2 h9
        refine AW.skip ?_
        refine hK9 _ ?_
        refine AW.seq_w fun K12 hK12 wK12 => ?_
        refine AW.region ?_
        refine AOps.step rfl rfl rfl (OpQ.spec (sp_move rfl (.inl rfl)) _) ?_
        refine AOps.step rfl rfl rfl (OpQ.spec (sp_move rfl (.inl rfl)) _) ?_
        refine ob2k h10 fun r8 r9 er8 h11 => ?_
        refine AOps.step rfl rfl rfl (sp_callS (r := .tup [.r (.sl (r8.map GDrawOp.row)), .r (.int .i64 r9)]) (caps := []) (bs := [.r (.sl (a1.map GDrawOp.row)), .r (.sl (b1.map GDrawOp.row))]) rfl (.inl rfl) rfl ⟨.inl ⟨(.inl rfl), rfl⟩, .inl ⟨(.inl rfl), rfl⟩, trivial⟩ (fun _ => w_ref_Union (er8))) ?_
        refine AOps.step rfl rfl rfl (OpQ.spec (sp_move rfl (.inl rfl)) _) ?_
        refine AOps.step rfl rfl rfl (OpQ.spec (sp_extract (a := .r (.sl (r8.map GDrawOp.row))) rfl (.inl rfl) rfl) _) ?_
        refine AOps.step rfl rfl rfl (OpQ.spec (sp_extract (a := .r (.int .i64 r9)) rfl (.inl rfl) rfl) _) ?_
        refine AOps.step rfl rfl rfl (OpQ.spec (sp_assign rfl (.inl rfl)) _) ?_
        refine AOps.step rfl rfl rfl (OpQ.spec (sp_assign rfl (.inl rfl)) _) ?_
        refine AOps.nil ?_
        refine hK12 _ ?_
        refine AW.seq_w fun K13 hK13 wK13 => ?_
        refine AW.weak (s' := ⟨[(7, .r (.sl (r6.map GDrawOp.row))), (8, .r (.int .i64 r7)), (10, .r (.sl (r8.map GDrawOp.row))), (11, .r (.int .i64 r9))], [], (i1 0), 64⟩) (by exact Weak.cv ⟨.inl (.inl rfl), .inl (.inl rfl), .inl (.inl rfl), .inl (.inl rfl), trivial⟩ trivial (Nat.le_refl _)) ?_
        refine AW.region ?_
        refine AOps.step rfl rfl rfl (OpQ.spec (sp_move rfl (.inl rfl)) _) ?_
        refine AOps.step rfl rfl rfl (OpQ.spec (sp_move rfl (.inl rfl)) _) ?_
        refine AOps.step rfl rfl rfl (OpQ.spec (sp_eql rfl (.inl rfl) (.inl rfl)) _) ?_
        refine AOps.step rfl rfl rfl (OpQ.spec (sp_move rfl (.inl rfl)) _) ?_
        refine AOps.stepW (.one rfl rfl rfl) rfl rfl (OpQ.spec (sp_move rfl (.inl rfl)) _) ?_
        refine AOps.stepW (.one rfl rfl rfl) rfl rfl (OpQ.spec (sp_move rfl (.inl rfl)) _) ?_
        refine ob1k h11 fun r10 er10 h12 => ?_
        refine AOps.stepW (.one rfl rfl rfl) rfl rfl (sp_call (r := .r (.bool r10)) (caps := []) (bs := [.r (.sl (r6.map GDrawOp.row)), .r (.sl (r8.map GDrawOp.row))]) rfl (.inl rfl) rfl ⟨⟨_, (.inr ⟨_, (by exact id), rfl⟩), .d rfl⟩, ⟨_, (.inr ⟨_, (by exact id), rfl⟩), .d rfl⟩, trivial⟩ (fun hg => w_ref_SameOps (gdt er10 hg)) rfl) ?_
        refine AOps.step rfl rfl rfl (OpQ.spec (sp_and rfl (.inl rfl) (.inr ⟨_, (by exact id), rfl⟩)) _) ?_
        refine AOps.step rfl rfl rfl (OpQ.spec (sp_assign rfl (.inl rfl)) _) ?_
        refine AOps.nil ?_
        refine hK13 _ ?_
        refine AW.ret ?_
        exact retf1 (P := Try.prog) (fun (r : Bool) => .r (.bool r)) h12 (.inl rfl) (.t (.d rfl))
    refine AW.cond rfl (fun hc3 => ?_) (fun hc3 => ?_)
    · have h13 := ite_t hc3 hp1
      refine AW.weak (s' := ⟨[(1, .r (.sl (a1.map GDrawOp.row))), (2, .r (.sl (b1.map GDrawOp.row))), (7, .r (.sl (r6.map GDrawOp.row))), (8, .r (.int .i64 r7))], [], n0, 64⟩) (by exact Weak.cv ⟨.inl (.inl rfl), .inl (.inl rfl), .inl (.inl rfl), .inl (.inl rfl), trivial⟩ trivial (Nat.le_refl _)) ?_
      refine AW.region ?_
      refine AOps.step rfl rfl rfl (OpQ.spec (sp_move rfl (.inl rfl)) _) ?_
      refine ob1k h13 fun f3 ef3 h14 => ?_
      refine AOps.step rfl rfl rfl (sp_call (r := .r (.int .i64 f3)) (caps := []) (bs := [.r (.sl (b1.map GDrawOp.row))]) rfl (.inl rfl) rfl ⟨⟨_, (.inl rfl), .d rfl⟩, trivial⟩ (fun _ => w_ref_DrawError (ef3)) rfl) ?_
      refine AOps.step rfl rfl rfl (OpQ.spec (sp_assign rfl (.inl rfl)) _) ?_
      refine AOps.nil ?_
      exact wK7 _ _ ((by exact Weak.cv ⟨.inl (.inl rfl), .inl (.inl rfl), .inl (.inl rfl), .inl (.inl rfl), .inl (.inl rfl), trivial⟩ trivial (Nat.le_refl _))) (J1 _ (vec [n0]) (Option.some.inj h14).symm)
    · have h13 := ite_f hc3 hp1
      refine AW.skip ?_
      exact wK7 _ _ ((by exact Weak.cv ⟨.inl (.inl rfl), .inl (.inl rfl), .inl (.inl rfl), .inl (.inl rfl), .inl (.inl rfl), trivial⟩ trivial (Nat.le_refl _))) (J1 _ (vec [n0]) (Option.some.inj h13).symm)
end Go.Proofs.Ytelkfhdgmbahgaa.Al
