/- Walks, as printed. -/
import Derived.Test.YtfkolgjapajekaaDoorWlk61x2
import Derived.Test.YtfkolgjapajekaaDoorProg
set_option linter.unusedVariables false
namespace Go.Proofs.YtfkolgjapajekaaDoor.Al
open Go.Proofs
set_option maxHeartbeats 4000000 in
set_option maxRecDepth 20000 in
theorem w_ref_Value {s1 : List UInt8} {r : Bool} (h : ref_Value s1 = some r) : ARO Tryd.prog 114 [.r (.str s1)] (.r (.bool r)) := by
  unfold ref_Value at h
  refine ARO.mkF Tryd.func114 rfl rfl Tryd.ntmps114 rfl (Nat.le_of_ble_eq_true rfl) fun n0 => ?_
  refine AW.seq_w fun K1 hK1 wK1 => ?_
  refine AW.region ?_
  refine AOps.step rfl rfl rfl (OpQ.spec (sp_assign rfl (.inl rfl)) _) ?_
  refine AOps.nil ?_
  refine hK1 _ ?_
  refine AW.seq_w fun K2 hK2 wK2 => ?_
  refine AW.seq_w fun K3 hK3 wK3 => ?_
  refine AW.region ?_
  refine AOps.step rfl rfl rfl (OpQ.spec (sp_move rfl (.inl rfl)) _) ?_
  refine AOps.step rfl rfl rfl (OpQ.spec (sp_len_str rfl Tryd.underlying9 (.inl rfl)) _) ?_
  refine AOps.step rfl rfl rfl (OpQ.spec (sp_move rfl (.inl rfl)) _) ?_
  refine AOps.nil ?_
  refine hK3 _ ?_
  refine AW.block ?_
  refine jc1k h fun o1 hit1 hk1 he1 => ?_
  have J1 : ∀ (u2 : Unit) (i5 : Nat → Nat), o1 = .nrm u2 → K2 ⟨[(0, .r (.str s1))], [], (i5 0), 28⟩ := by
    intro u2 i5 e
    have h1 := hk1 _ e
    refine hK2 _ ?_
    refine AW.seq_w fun K4 hK4 wK4 => ?_
    refine AW.region ?_
    refine AOps.step rfl rfl rfl (OpQ.spec (sp_move rfl (.inl rfl)) _) ?_
    refine AOps.step rfl rfl rfl (OpQ.spec (sp_len_str rfl Tryd.underlying9 (.inl rfl)) _) ?_
    refine AOps.step rfl rfl rfl (OpQ.spec (sp_geq rfl (.inl rfl) (.inl rfl)) _) ?_
    refine AOps.step rfl rfl rfl (OpQ.spec (sp_move rfl (.inl rfl)) _) ?_
    refine AOps.stepW (.one rfl rfl rfl) rfl rfl (OpQ.spec (sp_move rfl (.inl rfl)) _) ?_
    refine AOps.stepW (.one rfl rfl rfl) rfl rfl (OpQ.spec (sp_len_str rfl Tryd.underlying9 (.inr ⟨_, (by exact id), rfl⟩)) _) ?_
    refine AOps.stepW (.one rfl rfl rfl) rfl rfl (OpQ.spec (sp_leq rfl (.inr ⟨_, (by exact id), rfl⟩) (.inl rfl)) _) ?_
    refine AOps.step rfl rfl rfl (OpQ.spec (sp_and rfl (.inl rfl) (.inr ⟨_, (by exact id), rfl⟩)) _) ?_
    refine AOps.step rfl rfl rfl (OpQ.spec (sp_assign rfl (.inl rfl)) _) ?_
    refine AOps.nil ?_
    refine hK4 _ ?_
    refine AW.ret ?_
    exact retf1 (P := Tryd.prog) (fun (r : Bool) => .r (.bool r)) h1 (.inl rfl) (.t (.d rfl))
  refine AW.iter1 (fun (x2 : Int) i3 => ⟨[(0, .r (.str s1)), (5, .r (.int .i64 (s1.length : Int))), (6, .r (.int .i64 x2))], [], (i3 0), 28⟩) (vec [n0]) hit1 ((by exact Weak.cv ⟨.inl (.inl rfl), .inl (.inl rfl), .inl (.inl rfl), trivial⟩ trivial (Nat.le_refl _))) ?_
  intro x2 i3 v1 hv1 hx1
  have h2 : ref_Value_L1 s1 x2 = some v1 := hv1; unfold ref_Value_L1 at h2
  refine AW.seq_w fun K5 hK5 wK5 => ?_
  refine AW.region ?_
  refine AOps.step rfl rfl rfl (OpQ.spec (sp_lss rfl (.inl rfl) (.inl rfl)) _) ?_
  refine AOps.nil ?_
  refine hK5 _ ?_
  refine AW.seq_w fun K6 hK6 wK6 => ?_
  refine AW.cond rfl (fun hc1 => ?_) (fun hc1 => ?_)
  · have h3 := ite_t hc1 h2
    refine AW.skip ?_
    refine hK6 _ ?_
    refine AW.seq_w fun K7 hK7 wK7 => ?_
    refine AW.block ?_
    refine AW.seq_w fun K8 hK8 wK8 => ?_
    refine AW.region ?_
    refine AOps.step rfl rfl rfl (OpQ.spec (sp_move rfl (.inl rfl)) _) ?_
    refine AOps.step rfl rfl rfl (OpQ.spec (sp_assign rfl (.inl rfl)) _) ?_
    refine AOps.nil ?_
    refine hK8 _ ?_
    refine AW.seq_w fun K9 hK9 wK9 => ?_
    refine AW.region ?_
    refine AOps.step rfl rfl rfl (OpQ.spec (sp_move rfl (.inl rfl)) _) ?_
    refine AOps.step rfl rfl rfl (OpQ.spec (sp_move rfl (.inl rfl)) _) ?_
    refine ob1k h3 fun ch1 ech1 h4 => ?_
    refine AOps.step rfl rfl rfl (OpQ.spec (ms_idx_str rfl Tryd.underlying9 (.inl rfl) (.inl rfl) (fun _ => ech1)) _) ?_
    refine AOps.step rfl rfl rfl (OpQ.spec (sp_lss rfl (.inl rfl) (.inl rfl)) _) ?_
    refine AOps.step rfl rfl rfl (OpQ.spec (sp_move rfl (.inl rfl)) _) ?_
    refine AOps.stepW (.one rfl rfl rfl) rfl rfl (OpQ.spec (sp_move rfl (.inl rfl)) _) ?_
    refine AOps.stepW (.one rfl rfl rfl) rfl rfl (OpQ.spec (sp_move rfl (.inl rfl)) _) ?_
    refine AOps.stepW (.one rfl rfl rfl) rfl rfl (OpQ.spec (ms_idx_str rfl Tryd.underlying9 (.inr ⟨_, (by exact id), rfl⟩) (.inr ⟨_, (by exact id), rfl⟩) (fun _ => ech1)) _) ?_
    refine AOps.stepW (.one rfl rfl rfl) rfl rfl (OpQ.spec (sp_gtr rfl (.inr ⟨_, (by exact id), rfl⟩) (.inl rfl)) _) ?_
    refine AOps.step rfl rfl rfl (OpQ.spec (sp_or rfl (.inl rfl) (.inr ⟨_, (by exact id), rfl⟩)) _) ?_
    refine AOps.nil ?_
    refine hK9 _ ?_
    refine AW.cond rfl (fun hc2 => ?_) (fun hc2 => ?_)
    · have h5 := ite_t hc2 h4
      refine AW.seq_w fun K10 hK10 wK10 => ?_
      refine AW.weak (s' := ⟨[], [], (i3 0), 28⟩) (by exact Weak.cv trivial trivial (Nat.le_refl _)) ?_
      refine AW.region ?_
      refine AOps.step rfl rfl rfl (OpQ.spec (sp_assign rfl (.inl rfl)) _) ?_
      refine AOps.nil ?_
      refine hK10 _ ?_
      refine AW.ret ?_
      exact retf1 (P := Tryd.prog) (fun (r : Bool) => .r (.bool r)) (he1 _ (hx1 _ (Option.some.inj h5).symm)) (.inl rfl) (.t (.d rfl))
    · have h5 := ite_f hc2 h4
      refine AW.skip ?_
      refine hK7 _ ?_
      refine AW.weak (s' := ⟨[(0, .r (.str s1)), (5, .r (.int .i64 (s1.length : Int))), (6, .r (.int .i64 x2))], [], (i3 0), 28⟩) (by exact Weak.cv ⟨.inl (.inl rfl), .inl (.inl rfl), .inl (.inl rfl), trivial⟩ trivial (Nat.le_refl _)) ?_
      refine AW.region ?_
      refine ob1k h5 fun x4 ex4 h6 => ?_
      refine AOps.step rfl rfl rfl (OpQ.spec (ms_add rfl (.inl rfl) (.inl rfl) (fun _ => ex4)) _) ?_
      refine AOps.step rfl rfl rfl (OpQ.spec (sp_move rfl (.inl rfl)) _) ?_
      refine AOps.nil ?_
      exact NextQ1.mk h6 (vec [(i3 0)]) ((by exact Weak.cv ⟨.inl (.inl rfl), .inl (.inl rfl), .inl (.inl rfl), trivial⟩ trivial (Nat.le_refl _)))
  · have h3 := ite_f hc1 h2
    refine AW.exit ?_
    exact wK2 _ _ ((by exact Weak.cv ⟨.inl (.inl rfl), trivial⟩ trivial (Nat.le_refl _))) (J1 _ (vec [(i3 0)]) (hx1 _ (Option.some.inj h3).symm))
set_option maxHeartbeats 4000000 in
set_option maxRecDepth 20000 in
theorem w_ref_AttrsError {l1 : List GAttr} {change1 : Bool} {r : Int} (h : ref_AttrsError l1 change1 = some r) : ARO Tryd.prog 62 [.r (.sl (l1.map GAttr.row)), .r (.bool change1)] (.r (.int .i64 r)) := by
  unfold ref_AttrsError at h
  refine ARO.mkF Tryd.func62 rfl rfl Tryd.ntmps62 rfl (Nat.le_of_ble_eq_true rfl) fun n0 => ?_
  refine AW.seq_w fun K1 hK1 wK1 => ?_
  refine AW.region ?_
  refine AOps.step rfl rfl rfl (OpQ.spec (sp_assign rfl (.inl rfl)) _) ?_
  refine AOps.nil ?_
  refine hK1 _ ?_
  refine AW.seq_w fun K2 hK2 wK2 => ?_
  refine AW.seq_w fun K3 hK3 wK3 => ?_
  refine AW.region ?_
  refine AOps.step rfl rfl rfl (OpQ.spec (sp_move rfl (.inl rfl)) _) ?_
  refine AOps.step rfl rfl rfl (OpQ.spec (ms_len rfl tg_27.slice (.inl rfl)) _) ?_
  refine AOps.step rfl rfl rfl (OpQ.spec (sp_move rfl (.inl rfl)) _) ?_
  refine AOps.nil ?_
  refine hK3 _ ?_
  refine AW.block ?_
  refine jc1k h fun o1 hit1 hk1 he1 => ?_
  have J1 : ∀ (u2 : Unit) (i5 : Nat → Nat), o1 = .nrm u2 → K2 ⟨[], [], (i5 0), 54⟩ := by
    intro u2 i5 e
    have h1 := hk1 _ e
    refine hK2 _ ?_
    refine AW.seq_w fun K4 hK4 wK4 => ?_
    refine AW.region ?_
    refine AOps.step rfl rfl rfl (OpQ.spec (sp_assign rfl (.inl rfl)) _) ?_
    refine AOps.nil ?_
    refine hK4 _ ?_
    refine AW.ret ?_
    exact retf1 (P := Tryd.prog) (fun (r : Int) => .r (.int .i64 r)) h1 (.inl rfl) (.t (.d rfl))
  refine AW.iter1 (fun (x2 : Int) i3 => ⟨[(0, .r (.sl (l1.map GAttr.row))), (1, .r (.bool change1)), (7, .r (.int .i64 (l1.length : Int))), (8, .r (.int .i64 x2))], [], (i3 0), 54⟩) (vec [n0]) hit1 ((by exact Weak.cv ⟨.inl (.inl rfl), .inl (.inl rfl), .inl (.inl rfl), .inl (.inl rfl), trivial⟩ trivial (Nat.le_refl _))) ?_
  intro x2 i3 v1 hv1 hx1
  have h2 : ref_AttrsError_L1 l1 change1 x2 = some v1 := hv1; unfold ref_AttrsError_L1 at h2
  refine AW.seq_w fun K5 hK5 wK5 => ?_
  refine AW.region ?_
  refine AOps.step rfl rfl rfl (OpQ.spec (sp_lss rfl (.inl rfl) (.inl rfl)) _) ?_
  refine AOps.nil ?_
  refine hK5 _ ?_
  refine AW.seq_w fun K6 hK6 wK6 => ?_
  refine AW.cond rfl (fun hc1 => ?_) (fun hc1 => ?_)
  · have h3 := ite_t hc1 h2
    refine AW.skip ?_
    refine hK6 _ ?_
    refine AW.seq_w fun K7 hK7 wK7 => ?_
    refine AW.block ?_
    refine AW.seq_w fun K8 hK8 wK8 => ?_
    refine AW.region ?_
    refine AOps.step rfl rfl rfl (OpQ.spec (sp_move rfl (.inl rfl)) _) ?_
    refine AOps.step rfl rfl rfl (OpQ.spec (sp_assign rfl (.inl rfl)) _) ?_
    refine AOps.nil ?_
    refine hK8 _ ?_
    refine AW.seq_w fun K9 hK9 wK9 => ?_
    refine AW.seq_w fun K10 hK10 wK10 => ?_
    refine AW.region ?_
    refine AOps.step rfl rfl rfl (OpQ.spec (sp_move rfl (.inl rfl)) _) ?_
    refine AOps.step rfl rfl rfl (OpQ.spec (sp_move rfl (.inl rfl)) _) ?_
    refine ob1k h3 fun x4 ex4 h4 => ?_
    refine AOps.step rfl rfl rfl (OpQ.spec (ms_idx rfl tg_27.slice (.inl rfl) (.inl rfl) (fun _ => rfl) (fun _ => ex4)) _) ?_
    refine AOps.step rfl rfl rfl (OpQ.spec (sp_fieldAddr_ro rfl tf_122_0 (.inl rfl)) _) ?_
    refine AOps.step rfl rfl rfl (OpQ.spec (ms_load (d := .str x4.Name) rfl ts_9 (.inl rfl) rfl) _) ?_
    refine ob1k h4 fun r1 er1 h5 => ?_
    refine AOps.step rfl rfl rfl (sp_call (r := .r (.bool r1)) (caps := []) (bs := [.r (.str x4.Name)]) rfl (.inl rfl) rfl ⟨⟨_, (.inl rfl), .d rfl⟩, trivial⟩ (fun _ => w_ref_Name (er1)) rfl) ?_
    refine AOps.step rfl rfl rfl (OpQ.spec (sp_not rfl (.inl rfl)) _) ?_
    refine AOps.nil ?_
    refine hK10 _ ?_
    refine AW.cond rfl (fun hc2 => ?_) (fun hc2 => ?_)
    · have h6 := ite_t hc2 h5
      refine AW.seq_w fun K11 hK11 wK11 => ?_
      refine AW.weak (s' := ⟨[], [], (i3 0), 54⟩) (by exact Weak.cv trivial trivial (Nat.le_refl _)) ?_
      refine AW.region ?_
      refine AOps.step rfl rfl rfl (OpQ.spec (sp_assign rfl (.inl rfl)) _) ?_
      refine AOps.nil ?_
      refine hK11 _ ?_
      refine AW.ret ?_
      exact retf1 (P := Tryd.prog) (fun (r : Int) => .r (.int .i64 r)) (he1 _ (hx1 _ (Option.some.inj h6).symm)) (.inl rfl) (.t (.d rfl))
    · have h6 := ite_f hc2 h5
      refine AW.skip ?_
      refine hK9 _ ?_
      refine AW.seq_w fun K12 hK12 wK12 => ?_
      refine AW.seq_w fun K13 hK13 wK13 => ?_
      refine AW.weak (s' := ⟨[(0, .r (.sl (l1.map GAttr.row))), (1, .r (.bool change1)), (5, .r (.int .i64 x2)), (7, .r (.int .i64 (l1.length : Int))), (8, .r (.int .i64 x2))], [], (i3 0), 54⟩) (by exact Weak.cv ⟨.inl (.inl rfl), .inl (.inl rfl), .inl (.inl rfl), .inl (.inl rfl), .inl (.inl rfl), trivial⟩ trivial (Nat.le_refl _)) ?_
      refine AW.region ?_
      refine AOps.step rfl rfl rfl (OpQ.spec (sp_move rfl (.inl rfl)) _) ?_
      refine AOps.step rfl rfl rfl (OpQ.spec (sp_move rfl (.inl rfl)) _) ?_
      refine AOps.step rfl rfl rfl (OpQ.spec (ms_idx rfl tg_27.slice (.inl rfl) (.inl rfl) (fun _ => rfl) (fun _ => ex4)) _) ?_
      refine AOps.step rfl rfl rfl (OpQ.spec (sp_fieldAddr_ro rfl tf_122_1 (.inl rfl)) _) ?_
      refine AOps.step rfl rfl rfl (OpQ.spec (ms_load (d := .str x4.Value) rfl ts_9 (.inl rfl) rfl) _) ?_
      refine ob1k h6 fun r2 er2 h7 => ?_
      refine AOps.step rfl rfl rfl (sp_call (r := .r (.bool r2)) (caps := []) (bs := [.r (.str x4.Value)]) rfl (.inl rfl) rfl ⟨⟨_, (.inl rfl), .d rfl⟩, trivial⟩ (fun _ => w_ref_Value (er2)) rfl) ?_
      refine AOps.step rfl rfl rfl (OpQ.spec (sp_not rfl (.inl rfl)) _) ?_
      refine AOps.step rfl rfl rfl (OpQ.spec (sp_move rfl (.inl rfl)) _) ?_
      refine AOps.stepW (.one rfl rfl rfl) rfl rfl (OpQ.spec (sp_move rfl (.inl rfl)) _) ?_
      refine AOps.stepW (.one rfl rfl rfl) rfl rfl (OpQ.spec (sp_move rfl (.inl rfl)) _) ?_
      refine AOps.stepW (.one rfl rfl rfl) rfl rfl (OpQ.spec (ms_idx rfl tg_27.slice (.inr ⟨_, (by exact id), rfl⟩) (.inr ⟨_, (by exact id), rfl⟩) (fun _ => rfl) (fun _ => ex4)) _) ?_
      refine AOps.stepW (.one rfl rfl rfl) rfl rfl (OpQ.spec (sp_fieldAddr_ro rfl tf_122_1 (.inr ⟨_, (by exact id), rfl⟩)) _) ?_
      refine AOps.stepW (.one rfl rfl rfl) rfl rfl (OpQ.spec (ms_load (d := .str x4.Value) rfl ts_9 (.inr ⟨_, (by exact id), rfl⟩) rfl) _) ?_
      refine AOps.stepW (.one rfl rfl rfl) rfl rfl (OpQ.spec (sp_sneq rfl (.inr ⟨_, (by exact id), rfl⟩) (.inl rfl)) _) ?_
      refine AOps.stepW (.one rfl rfl rfl) rfl rfl (OpQ.spec (sp_move rfl (.inr ⟨_, (by exact id), rfl⟩)) _) ?_
      refine AOps.stepW (.two rfl rfl rfl) rfl rfl (OpQ.spec (sp_move rfl (.inl rfl)) _) ?_
      refine AOps.stepW (.two rfl rfl rfl) rfl rfl (OpQ.spec (sp_not rfl (.inr ⟨_, (by exact id), rfl⟩)) _) ?_
      refine AOps.stepW (.one rfl rfl rfl) rfl rfl (OpQ.spec (sp_or rfl (.inr ⟨_, (by exact id), rfl⟩) (.inr ⟨_, (by exact id), rfl⟩)) _) ?_
      refine AOps.step rfl rfl rfl (OpQ.spec (sp_and rfl (.inl rfl) (.inr ⟨_, (by exact id), rfl⟩)) _) ?_
      refine AOps.nil ?_
      refine hK13 _ ?_
      refine AW.cond rfl (fun hc3 => ?_) (fun hc3 => ?_)
      · have h8 := ite_t hc3 h7
        refine AW.seq_w fun K14 hK14 wK14 => ?_
        refine AW.weak (s' := ⟨[], [], (i3 0), 54⟩) (by exact Weak.cv trivial trivial (Nat.le_refl _)) ?_
        refine AW.region ?_
        refine AOps.step rfl rfl rfl (OpQ.spec (sp_assign rfl (.inl rfl)) _) ?_
        refine AOps.nil ?_
        refine hK14 _ ?_
        refine AW.ret ?_
        exact retf1 (P := Tryd.prog) (fun (r : Int) => .r (.int .i64 r)) (he1 _ (hx1 _ (Option.some.inj h8).symm)) (.inl rfl) (.t (.d rfl))
      · have h8 := ite_f hc3 h7
        refine AW.skip ?_
        refine hK12 _ ?_
        refine AW.seq_w fun K15 hK15 wK15 => ?_
        refine AW.weak (s' := ⟨[(0, .r (.sl (l1.map GAttr.row))), (1, .r (.bool change1)), (5, .r (.int .i64 x2)), (7, .r (.int .i64 (l1.length : Int))), (8, .r (.int .i64 x2))], [], (i3 0), 54⟩) (by exact Weak.cv ⟨.inl (.inl rfl), .inl (.inl rfl), .inl (.inl rfl), .inl (.inl rfl), .inl (.inl rfl), trivial⟩ trivial (Nat.le_refl _)) ?_
        refine AW.regionQ hmix (by kernel_rfl) ?_
        refine AQ.step rfl rfl rfl (sp_move rfl (.inl rfl)) ?_
        refine AQ.step rfl rfl rfl (sp_gtr rfl (.inl rfl) (.inl rfl)) ?_
        refine AQ.step rfl rfl rfl (sp_move rfl (.inl rfl)) ?_
        refine AQ.stepW (.one rfl rfl rfl) rfl rfl (sp_move rfl (.inl rfl)) ?_
        refine AQ.stepW (.one rfl rfl rfl) rfl rfl (sp_move rfl (.inl rfl)) ?_
        refine ob1k h8 fun x5 ex5 h9 => ?_
        refine AQ.stepW (.one rfl rfl rfl) rfl rfl (ms_sub rfl (.inr ⟨_, (by exact id), rfl⟩) (.inl rfl) (gdt ex5)) ?_
        refine ob1k h9 fun x6 ex6 h10 => ?_
        refine AQ.stepW (.one rfl rfl rfl) rfl rfl (ms_idx rfl tg_27.slice (.inr ⟨_, (by exact id), rfl⟩) (.inr ⟨_, (by exact id), rfl⟩) (fun _ => rfl) (gdt ex6)) ?_
        refine AQ.stepW (.one rfl rfl rfl) rfl rfl (sp_fieldAddr_ro rfl tf_122_0 (.inr ⟨_, (by exact id), rfl⟩)) ?_
        refine AQ.stepW (.one rfl rfl rfl) rfl rfl (ms_load (d := .str x6.Name) rfl ts_9 (.inr ⟨_, (by exact id), rfl⟩) rfl) ?_
        refine AQ.stepW (.one rfl rfl rfl) rfl rfl (sp_move rfl (.inl rfl)) ?_
        refine AQ.stepW (.one rfl rfl rfl) rfl rfl (sp_move rfl (.inl rfl)) ?_
        refine AQ.stepW (.one rfl rfl rfl) rfl rfl (ms_idx rfl tg_27.slice (.inr ⟨_, (by exact id), rfl⟩) (.inr ⟨_, (by exact id), rfl⟩) (fun _ => rfl) (fun _ => ex4)) ?_
        refine AQ.stepW (.one rfl rfl rfl) rfl rfl (sp_fieldAddr_ro rfl tf_122_0 (.inr ⟨_, (by exact id), rfl⟩)) ?_
        refine AQ.stepW (.one rfl rfl rfl) rfl rfl (ms_load (d := .str x4.Name) rfl ts_9 (.inr ⟨_, (by exact id), rfl⟩) rfl) ?_
        refine AQ.stepW (.one rfl rfl rfl) rfl rfl (sp_sgeq rfl (.inr ⟨_, (by exact id), rfl⟩) (.inr ⟨_, (by exact id), rfl⟩)) ?_
        refine AQ.step rfl rfl rfl (sp_and rfl (.inl rfl) (.inr ⟨_, (by exact id), rfl⟩)) ?_
        refine AQ.nil ?_
        refine hK15 _ ?_
        refine AW.cond rfl (fun hc4 => ?_) (fun hc4 => ?_)
        · have h11 := ite_t hc4 h10
          refine AW.seq_w fun K16 hK16 wK16 => ?_
          refine AW.weak (s' := ⟨[], [], (i3 0), 54⟩) (by exact Weak.cv trivial trivial (Nat.le_refl _)) ?_
          refine AW.region ?_
          refine AOps.step rfl rfl rfl (OpQ.spec (sp_assign rfl (.inl rfl)) _) ?_
          refine AOps.nil ?_
          refine hK16 _ ?_
          refine AW.ret ?_
          exact retf1 (P := Tryd.prog) (fun (r : Int) => .r (.int .i64 r)) (he1 _ (hx1 _ (Option.some.inj h11).symm)) (.inl rfl) (.t (.d rfl))
        · have h11 := ite_f hc4 h10
          refine AW.skip ?_
          refine hK7 _ ?_
          refine AW.region ?_
          refine ob1k h11 fun x7 ex7 h12 => ?_
          refine AOps.step rfl rfl rfl (OpQ.spec (ms_add rfl (.inl rfl) (.inl rfl) (fun _ => ex7)) _) ?_
          refine AOps.step rfl rfl rfl (OpQ.spec (sp_move rfl (.inl rfl)) _) ?_
          refine AOps.nil ?_
          exact NextQ1.mk h12 (vec [(i3 0)]) ((by exact Weak.cv ⟨.inl (.inl rfl), .inl (.inl rfl), .inl (.inl rfl), .inl (.inl rfl), trivial⟩ trivial (Nat.le_refl _)))
  · have h3 := ite_f hc1 h2
    refine AW.exit ?_
    exact wK2 _ _ ((by exact Weak.cv trivial trivial (Nat.le_refl _))) (J1 _ (vec [(i3 0)]) (hx1 _ (Option.some.inj h3).symm))
set_option maxHeartbeats 4000000 in
set_option maxRecDepth 20000 in
theorem w_ref_HasList {kind1 : Int} {r : Bool} (h : ref_HasList kind1 = some r) : ARO Tryd.prog 63 [.r (.int .i64 kind1)] (.r (.bool r)) := by
  unfold ref_HasList at h
  refine ARO.mkF Tryd.func63 rfl rfl Tryd.ntmps63 rfl (Nat.le_of_ble_eq_true rfl) fun n0 => ?_
  refine AW.seq_w fun K1 hK1 wK1 => ?_
  refine AW.region ?_
  refine AOps.step rfl rfl rfl (OpQ.spec (sp_assign rfl (.inl rfl)) _) ?_
  refine AOps.nil ?_
  refine hK1 _ ?_
  refine AW.seq_w fun K2 hK2 wK2 => ?_
  refine AW.region ?_
  refine AOps.step rfl rfl rfl (OpQ.spec (sp_move rfl (.inl rfl)) _) ?_
  refine AOps.step rfl rfl rfl (OpQ.spec (sp_eql rfl (.inl rfl) (.inl rfl)) _) ?_
  refine AOps.step rfl rfl rfl (OpQ.spec (sp_move rfl (.inl rfl)) _) ?_
  refine AOps.stepW (.one rfl rfl rfl) rfl rfl (OpQ.spec (sp_move rfl (.inl rfl)) _) ?_
  refine AOps.stepW (.one rfl rfl rfl) rfl rfl (OpQ.spec (sp_eql rfl (.inr ⟨_, (by exact id), rfl⟩) (.inl rfl)) _) ?_
  refine AOps.step rfl rfl rfl (OpQ.spec (sp_or rfl (.inl rfl) (.inr ⟨_, (by exact id), rfl⟩)) _) ?_
  refine AOps.step rfl rfl rfl (OpQ.spec (sp_assign rfl (.inl rfl)) _) ?_
  refine AOps.nil ?_
  refine hK2 _ ?_
  refine AW.ret ?_
  exact retf1 (P := Tryd.prog) (fun (r : Bool) => .r (.bool r)) h (.inl rfl) (.t (.d rfl))
set_option maxHeartbeats 4000000 in
set_option maxRecDepth 20000 in
theorem w_ref_zeroGrid {g1 : GGrid} {r : Bool} (h : ref_zeroGrid g1 = some r) : ARO Tryd.prog 64 [.agg [.r (.int .i64 g1.Rows), .r (.int .i64 g1.Cols), .r (.sl (g1.Cells.map GCell.row)), .r (.sl (g1.Merges.map GRect.row))]] (.r (.bool r)) := by
  unfold ref_zeroGrid at h
  refine ARO.mkF Tryd.func64 rfl rfl Tryd.ntmps64 rfl (Nat.le_of_ble_eq_true rfl) fun n0 => ?_
  refine AW.seq_w fun K1 hK1 wK1 => ?_
  refine AW.region ?_
  refine AOps.step rfl rfl rfl (ms_box (cs := [.r (.int .i64 g1.Rows), .r (.int .i64 g1.Cols), .r (.sl (g1.Cells.map GCell.row)), .r (.sl (g1.Merges.map GRect.row))]) 1 rfl (.inl rfl) rfl rfl) ?_
  refine AOps.step rfl rfl rfl (OpQ.spec (sp_assign rfl (.inl rfl)) _) ?_
  refine AOps.nil ?_
  refine hK1 _ ?_
  refine AW.seq_w fun K2 hK2 wK2 => ?_
  refine AW.region ?_
  refine AOps.step rfl rfl rfl (OpQ.spec (sp_fieldAddr_own (ob := .box _ _ _) rfl tf_32_0 (.inl rfl) (fun _ => rfl) rfl) _) ?_
  refine AOps.step rfl rfl rfl (OpQ.spec (ms_load_box (a := .r (.int .i64 g1.Rows)) rfl ts_3 (.inl rfl) rfl rfl) _) ?_
  refine AOps.step rfl rfl rfl (OpQ.spec (sp_eql rfl (.inl rfl) (.inl rfl)) _) ?_
  refine AOps.step rfl rfl rfl (OpQ.spec (sp_move rfl (.inl rfl)) _) ?_
  refine AOps.stepW (.one rfl rfl rfl) rfl rfl (OpQ.spec (sp_fieldAddr_own (ob := .box _ _ _) rfl tf_32_1 (.inl rfl) (fun _ => rfl) rfl) _) ?_
  refine AOps.stepW (.one rfl rfl rfl) rfl rfl (OpQ.spec (ms_load_box (a := .r (.int .i64 g1.Cols)) rfl ts_3 (.inr ⟨_, (by exact id), rfl⟩) rfl rfl) _) ?_
  refine AOps.stepW (.one rfl rfl rfl) rfl rfl (OpQ.spec (sp_eql rfl (.inr ⟨_, (by exact id), rfl⟩) (.inl rfl)) _) ?_
  refine AOps.step rfl rfl rfl (OpQ.spec (sp_and rfl (.inl rfl) (.inr ⟨_, (by exact id), rfl⟩)) _) ?_
  refine AOps.step rfl rfl rfl (OpQ.spec (sp_move rfl (.inl rfl)) _) ?_
  refine AOps.stepW (.one rfl rfl rfl) rfl rfl (OpQ.spec (sp_fieldAddr_own (ob := .box _ _ _) rfl tf_32_2 (.inl rfl) (fun _ => rfl) rfl) _) ?_
  refine AOps.stepW (.one rfl rfl rfl) rfl rfl (OpQ.spec (ms_load_box (a := .r (.sl (g1.Cells.map GCell.row))) rfl ts_29 (.inr ⟨_, (by exact id), rfl⟩) rfl rfl) _) ?_
  refine AOps.stepW (.one rfl rfl rfl) rfl rfl (OpQ.spec (ms_len rfl tg_29.slice (.inr ⟨_, (by exact id), rfl⟩)) _) ?_
  refine AOps.stepW (.one rfl rfl rfl) rfl rfl (OpQ.spec (sp_eql rfl (.inr ⟨_, (by exact id), rfl⟩) (.inl rfl)) _) ?_
  refine AOps.step rfl rfl rfl (OpQ.spec (sp_and rfl (.inl rfl) (.inr ⟨_, (by exact id), rfl⟩)) _) ?_
  refine AOps.step rfl rfl rfl (OpQ.spec (sp_move rfl (.inl rfl)) _) ?_
  refine AOps.stepW (.one rfl rfl rfl) rfl rfl (OpQ.spec (sp_fieldAddr_own (ob := .box _ _ _) rfl tf_32_3 (.inl rfl) (fun _ => rfl) rfl) _) ?_
  refine AOps.stepW (.one rfl rfl rfl) rfl rfl (OpQ.spec (ms_load_box (a := .r (.sl (g1.Merges.map GRect.row))) rfl ts_30 (.inr ⟨_, (by exact id), rfl⟩) rfl rfl) _) ?_
  refine AOps.stepW (.one rfl rfl rfl) rfl rfl (OpQ.spec (ms_len rfl tg_30.slice (.inr ⟨_, (by exact id), rfl⟩)) _) ?_
  refine AOps.stepW (.one rfl rfl rfl) rfl rfl (OpQ.spec (sp_eql rfl (.inr ⟨_, (by exact id), rfl⟩) (.inl rfl)) _) ?_
  refine AOps.step rfl rfl rfl (OpQ.spec (sp_and rfl (.inl rfl) (.inr ⟨_, (by exact id), rfl⟩)) _) ?_
  refine AOps.step rfl rfl rfl (OpQ.spec (sp_assign rfl (.inl rfl)) _) ?_
  refine AOps.nil ?_
  refine hK2 _ ?_
  refine AW.ret ?_
  exact retf1 (P := Tryd.prog) (fun (r : Bool) => .r (.bool r)) h (.inl rfl) (.t (.d rfl))
set_option maxHeartbeats 4000000 in
set_option maxRecDepth 20000 in
theorem w_ref_HasGrid {kind1 : Int} {r : Bool} (h : ref_HasGrid kind1 = some r) : ARO Tryd.prog 65 [.r (.int .i64 kind1)] (.r (.bool r)) := by
  unfold ref_HasGrid at h
  refine ARO.mkF Tryd.func65 rfl rfl Tryd.ntmps65 rfl (Nat.le_of_ble_eq_true rfl) fun n0 => ?_
  refine AW.seq_w fun K1 hK1 wK1 => ?_
  refine AW.region ?_
  refine AOps.step rfl rfl rfl (OpQ.spec (sp_assign rfl (.inl rfl)) _) ?_
  refine AOps.nil ?_
  refine hK1 _ ?_
  refine AW.seq_w fun K2 hK2 wK2 => ?_
  refine AW.region ?_
  refine AOps.step rfl rfl rfl (OpQ.spec (sp_move rfl (.inl rfl)) _) ?_
  refine AOps.step rfl rfl rfl (OpQ.spec (sp_eql rfl (.inl rfl) (.inl rfl)) _) ?_
  refine AOps.step rfl rfl rfl (OpQ.spec (sp_move rfl (.inl rfl)) _) ?_
  refine AOps.stepW (.one rfl rfl rfl) rfl rfl (OpQ.spec (sp_move rfl (.inl rfl)) _) ?_
  refine AOps.stepW (.one rfl rfl rfl) rfl rfl (OpQ.spec (sp_eql rfl (.inr ⟨_, (by exact id), rfl⟩) (.inl rfl)) _) ?_
  refine AOps.step rfl rfl rfl (OpQ.spec (sp_or rfl (.inl rfl) (.inr ⟨_, (by exact id), rfl⟩)) _) ?_
  refine AOps.step rfl rfl rfl (OpQ.spec (sp_assign rfl (.inl rfl)) _) ?_
  refine AOps.nil ?_
  refine hK2 _ ?_
  refine AW.ret ?_
  exact retf1 (P := Tryd.prog) (fun (r : Bool) => .r (.bool r)) h (.inl rfl) (.t (.d rfl))
set_option maxHeartbeats 4000000 in
set_option maxRecDepth 20000 in
theorem w_ref_HasDraw {kind1 : Int} {r : Bool} (h : ref_HasDraw kind1 = some r) : ARO Tryd.prog 66 [.r (.int .i64 kind1)] (.r (.bool r)) := by
  unfold ref_HasDraw at h
  refine ARO.mkF Tryd.func66 rfl rfl Tryd.ntmps66 rfl (Nat.le_of_ble_eq_true rfl) fun n0 => ?_
  refine AW.seq_w fun K1 hK1 wK1 => ?_
  refine AW.region ?_
  refine AOps.step rfl rfl rfl (OpQ.spec (sp_assign rfl (.inl rfl)) _) ?_
  refine AOps.nil ?_
  refine hK1 _ ?_
  refine AW.seq_w fun K2 hK2 wK2 => ?_
  refine AW.region ?_
  refine AOps.step rfl rfl rfl (OpQ.spec (sp_move rfl (.inl rfl)) _) ?_
  refine AOps.step rfl rfl rfl (OpQ.spec (sp_eql rfl (.inl rfl) (.inl rfl)) _) ?_
  refine AOps.step rfl rfl rfl (OpQ.spec (sp_move rfl (.inl rfl)) _) ?_
  refine AOps.stepW (.one rfl rfl rfl) rfl rfl (OpQ.spec (sp_move rfl (.inl rfl)) _) ?_
  refine AOps.stepW (.one rfl rfl rfl) rfl rfl (OpQ.spec (sp_eql rfl (.inr ⟨_, (by exact id), rfl⟩) (.inl rfl)) _) ?_
  refine AOps.step rfl rfl rfl (OpQ.spec (sp_or rfl (.inl rfl) (.inr ⟨_, (by exact id), rfl⟩)) _) ?_
  refine AOps.step rfl rfl rfl (OpQ.spec (sp_move rfl (.inl rfl)) _) ?_
  refine AOps.stepW (.one rfl rfl rfl) rfl rfl (OpQ.spec (sp_move rfl (.inl rfl)) _) ?_
  refine AOps.stepW (.one rfl rfl rfl) rfl rfl (OpQ.spec (sp_eql rfl (.inr ⟨_, (by exact id), rfl⟩) (.inl rfl)) _) ?_
  refine AOps.step rfl rfl rfl (OpQ.spec (sp_or rfl (.inl rfl) (.inr ⟨_, (by exact id), rfl⟩)) _) ?_
  refine AOps.step rfl rfl rfl (OpQ.spec (sp_assign rfl (.inl rfl)) _) ?_
  refine AOps.nil ?_
  refine hK2 _ ?_
  refine AW.ret ?_
  exact retf1 (P := Tryd.prog) (fun (r : Bool) => .r (.bool r)) h (.inl rfl) (.t (.d rfl))
set_option maxHeartbeats 4000000 in
set_option maxRecDepth 20000 in
theorem w_ref_Char {c1 : Int} {r : Bool} (h : ref_Char c1 = some r) : ARO Tryd.prog 88 [.r (.int .i64 c1)] (.r (.bool r)) := by
  unfold ref_Char at h
  refine ARO.mkF Tryd.func88 rfl rfl Tryd.ntmps88 rfl (Nat.le_of_ble_eq_true rfl) fun n0 => ?_
  refine AW.seq_w fun K1 hK1 wK1 => ?_
  refine AW.region ?_
  refine AOps.step rfl rfl rfl (OpQ.spec (sp_assign rfl (.inl rfl)) _) ?_
  refine AOps.nil ?_
  refine hK1 _ ?_
  refine AW.seq_w fun K2 hK2 wK2 => ?_
  refine AW.region ?_
  refine AOps.step rfl rfl rfl (OpQ.spec (sp_move rfl (.inl rfl)) _) ?_
  refine AOps.step rfl rfl rfl (OpQ.spec (sp_eql rfl (.inl rfl) (.inl rfl)) _) ?_
  refine AOps.step rfl rfl rfl (OpQ.spec (sp_move rfl (.inl rfl)) _) ?_
  refine AOps.stepW (.one rfl rfl rfl) rfl rfl (OpQ.spec (sp_move rfl (.inl rfl)) _) ?_
  refine AOps.stepW (.one rfl rfl rfl) rfl rfl (OpQ.spec (sp_eql rfl (.inr ⟨_, (by exact id), rfl⟩) (.inl rfl)) _) ?_
  refine AOps.step rfl rfl rfl (OpQ.spec (sp_or rfl (.inl rfl) (.inr ⟨_, (by exact id), rfl⟩)) _) ?_
  refine AOps.step rfl rfl rfl (OpQ.spec (sp_move rfl (.inl rfl)) _) ?_
  refine AOps.stepW (.one rfl rfl rfl) rfl rfl (OpQ.spec (sp_move rfl (.inl rfl)) _) ?_
  refine ob1k h fun r1 er1 h1 => ?_
  refine AOps.stepW (.one rfl rfl rfl) rfl rfl (sp_call (r := .r (.bool r1)) (caps := []) (bs := [.r (.int .i64 c1), .r (.int .i64 32), .r (.int .i64 126)]) rfl (.inl rfl) rfl ⟨⟨_, (.inr ⟨_, (by exact id), rfl⟩), .d rfl⟩, ⟨_, (.inl rfl), .d rfl⟩, ⟨_, (.inl rfl), .d rfl⟩, trivial⟩ (fun hg => w_ref_In (gdt er1 hg)) rfl) ?_
  refine AOps.step rfl rfl rfl (OpQ.spec (sp_or rfl (.inl rfl) (.inr ⟨_, (by exact id), rfl⟩)) _) ?_
  refine AOps.step rfl rfl rfl (OpQ.spec (sp_move rfl (.inl rfl)) _) ?_
  refine AOps.stepW (.one rfl rfl rfl) rfl rfl (OpQ.spec (sp_move rfl (.inl rfl)) _) ?_
  refine ob1k h1 fun r2 er2 h2 => ?_
  refine AOps.stepW (.one rfl rfl rfl) rfl rfl (sp_call (r := .r (.bool r2)) (caps := []) (bs := [.r (.int .i64 c1), .r (.int .i64 160), .r (.int .i64 55295)]) rfl (.inl rfl) rfl ⟨⟨_, (.inr ⟨_, (by exact id), rfl⟩), .d rfl⟩, ⟨_, (.inl rfl), .d rfl⟩, ⟨_, (.inl rfl), .d rfl⟩, trivial⟩ (fun hg => w_ref_In (gdt er2 hg)) rfl) ?_
  refine AOps.step rfl rfl rfl (OpQ.spec (sp_or rfl (.inl rfl) (.inr ⟨_, (by exact id), rfl⟩)) _) ?_
  refine AOps.step rfl rfl rfl (OpQ.spec (sp_move rfl (.inl rfl)) _) ?_
  refine AOps.stepW (.one rfl rfl rfl) rfl rfl (OpQ.spec (sp_move rfl (.inl rfl)) _) ?_
  refine ob1k h2 fun r3 er3 h3 => ?_
  refine AOps.stepW (.one rfl rfl rfl) rfl rfl (sp_call (r := .r (.bool r3)) (caps := []) (bs := [.r (.int .i64 c1), .r (.int .i64 57344), .r (.int .i64 1114111)]) rfl (.inl rfl) rfl ⟨⟨_, (.inr ⟨_, (by exact id), rfl⟩), .d rfl⟩, ⟨_, (.inl rfl), .d rfl⟩, ⟨_, (.inl rfl), .d rfl⟩, trivial⟩ (fun hg => w_ref_In (gdt er3 hg)) rfl) ?_
  refine AOps.step rfl rfl rfl (OpQ.spec (sp_or rfl (.inl rfl) (.inr ⟨_, (by exact id), rfl⟩)) _) ?_
  refine AOps.step rfl rfl rfl (OpQ.spec (sp_assign rfl (.inl rfl)) _) ?_
  refine AOps.nil ?_
  refine hK2 _ ?_
  refine AW.ret ?_
  exact retf1 (P := Tryd.prog) (fun (r : Bool) => .r (.bool r)) h3 (.inl rfl) (.t (.d rfl))
set_option maxHeartbeats 4000000 in
set_option maxRecDepth 20000 in
theorem w_ref_ElemError {x1 : GElem} {r : Int} (h : ref_ElemError x1 = some r) : ARO Tryd.prog 115 [.agg [.r (.int .i64 x1.Char), .r (.int .i64 x1.Ref), .r (.sl (x1.Attrs.map GAttr.row))]] (.r (.int .i64 r)) := by
  unfold ref_ElemError at h
  refine ARO.mkF Tryd.func115 rfl rfl Tryd.ntmps115 rfl (Nat.le_of_ble_eq_true rfl) fun n0 => ?_
  refine AW.seq_w fun K1 hK1 wK1 => ?_
  refine AW.region ?_
  refine AOps.step rfl rfl rfl (ms_box (cs := [.r (.int .i64 x1.Char), .r (.int .i64 x1.Ref), .r (.sl (x1.Attrs.map GAttr.row))]) 1 rfl (.inl rfl) rfl rfl) ?_
  refine AOps.step rfl rfl rfl (OpQ.spec (sp_assign rfl (.inl rfl)) _) ?_
  refine AOps.nil ?_
  refine hK1 _ ?_
  refine AW.seq_w fun K2 hK2 wK2 => ?_
  refine AW.seq_w fun K3 hK3 wK3 => ?_
  refine AW.region ?_
  refine AOps.step rfl rfl rfl (OpQ.spec (sp_fieldAddr_own (ob := .box _ _ _) rfl tf_70_0 (.inl rfl) (fun _ => rfl) rfl) _) ?_
  refine AOps.step rfl rfl rfl (OpQ.spec (ms_load_box (a := .r (.int .i64 x1.Char)) rfl ts_3 (.inl rfl) rfl rfl) _) ?_
  refine AOps.step rfl rfl rfl (OpQ.spec (sp_eql rfl (.inl rfl) (.inl rfl)) _) ?_
  refine AOps.step rfl rfl rfl (OpQ.spec (sp_move rfl (.inl rfl)) _) ?_
  refine AOps.stepW (.one rfl rfl rfl) rfl rfl (OpQ.spec (sp_fieldAddr_own (ob := .box _ _ _) rfl tf_70_1 (.inl rfl) (fun _ => rfl) rfl) _) ?_
  refine AOps.stepW (.one rfl rfl rfl) rfl rfl (OpQ.spec (ms_load_box (a := .r (.int .i64 x1.Ref)) rfl ts_3 (.inr ⟨_, (by exact id), rfl⟩) rfl rfl) _) ?_
  refine AOps.stepW (.one rfl rfl rfl) rfl rfl (OpQ.spec (sp_eql rfl (.inr ⟨_, (by exact id), rfl⟩) (.inl rfl)) _) ?_
  refine AOps.step rfl rfl rfl (OpQ.spec (sp_and rfl (.inl rfl) (.inr ⟨_, (by exact id), rfl⟩)) _) ?_
  refine AOps.step rfl rfl rfl (OpQ.spec (sp_move rfl (.inl rfl)) _) ?_
  refine AOps.stepW (.one rfl rfl rfl) rfl rfl (OpQ.spec (sp_fieldAddr_own (ob := .box _ _ _) rfl tf_70_0 (.inl rfl) (fun _ => rfl) rfl) _) ?_
  refine AOps.stepW (.one rfl rfl rfl) rfl rfl (OpQ.spec (ms_load_box (a := .r (.int .i64 x1.Char)) rfl ts_3 (.inr ⟨_, (by exact id), rfl⟩) rfl rfl) _) ?_
  refine AOps.stepW (.one rfl rfl rfl) rfl rfl (OpQ.spec (sp_neq rfl (.inr ⟨_, (by exact id), rfl⟩) (.inl rfl)) _) ?_
  refine AOps.stepW (.one rfl rfl rfl) rfl rfl (OpQ.spec (sp_move rfl (.inr ⟨_, (by exact id), rfl⟩)) _) ?_
  refine AOps.stepW (.two rfl rfl rfl) rfl rfl (OpQ.spec (sp_fieldAddr_own (ob := .box _ _ _) rfl tf_70_1 (.inl rfl) (fun _ => rfl) rfl) _) ?_
  refine AOps.stepW (.two rfl rfl rfl) rfl rfl (OpQ.spec (ms_load_box (a := .r (.int .i64 x1.Ref)) rfl ts_3 (.inr ⟨_, (by exact id), rfl⟩) rfl rfl) _) ?_
  refine AOps.stepW (.two rfl rfl rfl) rfl rfl (OpQ.spec (sp_neq rfl (.inr ⟨_, (by exact id), rfl⟩) (.inl rfl)) _) ?_
  refine AOps.stepW (.one rfl rfl rfl) rfl rfl (OpQ.spec (sp_and rfl (.inr ⟨_, (by exact id), rfl⟩) (.inr ⟨_, (by exact id), rfl⟩)) _) ?_
  refine AOps.step rfl rfl rfl (OpQ.spec (sp_or rfl (.inl rfl) (.inr ⟨_, (by exact id), rfl⟩)) _) ?_
  refine AOps.nil ?_
  refine hK3 _ ?_
  refine AW.cond rfl (fun hc1 => ?_) (fun hc1 => ?_)
  · have h1 := ite_t hc1 h
    refine AW.seq_w fun K4 hK4 wK4 => ?_
    refine AW.weak (s' := ⟨[], [], (n0 + 1), 44⟩) (by exact Weak.cv trivial trivial (Nat.le_refl _)) ?_
    refine AW.region ?_
    refine AOps.step rfl rfl rfl (OpQ.spec (sp_assign rfl (.inl rfl)) _) ?_
    refine AOps.nil ?_
    refine hK4 _ ?_
    refine AW.ret ?_
    exact retf1 (P := Tryd.prog) (fun (r : Int) => .r (.int .i64 r)) h1 (.inl rfl) (.t (.d rfl))
  · have h1 := ite_f hc1 h
    refine AW.skip ?_
    refine hK2 _ ?_
    refine AW.seq_w fun K5 hK5 wK5 => ?_
    refine AW.seq_w fun K6 hK6 wK6 => ?_
    refine AW.weak (s' := ⟨[(1, .ptr 1 n0 0 0)], [(1, some (.box n0 70 [.r (.int .i64 x1.Char), .r (.int .i64 x1.Ref), .r (.sl (x1.Attrs.map GAttr.row))]))], (n0 + 1), 44⟩) (by exact Weak.cv ⟨.inl (.inl rfl), trivial⟩ ⟨.inl rfl, trivial⟩ (Nat.le_refl _)) ?_
    refine AW.region ?_
    refine AOps.step rfl rfl rfl (OpQ.spec (sp_fieldAddr_own (ob := .box _ _ _) rfl tf_70_0 (.inl rfl) (fun _ => rfl) rfl) _) ?_
    refine AOps.step rfl rfl rfl (OpQ.spec (ms_load_box (a := .r (.int .i64 x1.Char)) rfl ts_3 (.inl rfl) rfl rfl) _) ?_
    refine AOps.step rfl rfl rfl (OpQ.spec (sp_neq rfl (.inl rfl) (.inl rfl)) _) ?_
    refine AOps.step rfl rfl rfl (OpQ.spec (sp_move rfl (.inl rfl)) _) ?_
    refine AOps.stepW (.one rfl rfl rfl) rfl rfl (OpQ.spec (sp_fieldAddr_own (ob := .box _ _ _) rfl tf_70_0 (.inl rfl) (fun _ => rfl) rfl) _) ?_
    refine AOps.stepW (.one rfl rfl rfl) rfl rfl (OpQ.spec (ms_load_box (a := .r (.int .i64 x1.Char)) rfl ts_3 (.inr ⟨_, (by exact id), rfl⟩) rfl rfl) _) ?_
    refine ob1k h1 fun r1 er1 h2 => ?_
    refine AOps.stepW (.one rfl rfl rfl) rfl rfl (sp_call (r := .r (.bool r1)) (caps := []) (bs := [.r (.int .i64 x1.Char)]) rfl (.inl rfl) rfl ⟨⟨_, (.inr ⟨_, (by exact id), rfl⟩), .d rfl⟩, trivial⟩ (fun hg => w_ref_Char (gdt er1 hg)) rfl) ?_
    refine AOps.stepW (.one rfl rfl rfl) rfl rfl (OpQ.spec (sp_not rfl (.inr ⟨_, (by exact id), rfl⟩)) _) ?_
    refine AOps.step rfl rfl rfl (OpQ.spec (sp_and rfl (.inl rfl) (.inr ⟨_, (by exact id), rfl⟩)) _) ?_
    refine AOps.step rfl rfl rfl (OpQ.spec (sp_move rfl (.inl rfl)) _) ?_
    refine AOps.stepW (.one rfl rfl rfl) rfl rfl (OpQ.spec (sp_fieldAddr_own (ob := .box _ _ _) rfl tf_70_1 (.inl rfl) (fun _ => rfl) rfl) _) ?_
    refine AOps.stepW (.one rfl rfl rfl) rfl rfl (OpQ.spec (ms_load_box (a := .r (.int .i64 x1.Ref)) rfl ts_3 (.inr ⟨_, (by exact id), rfl⟩) rfl rfl) _) ?_
    refine AOps.stepW (.one rfl rfl rfl) rfl rfl (OpQ.spec (sp_neq rfl (.inr ⟨_, (by exact id), rfl⟩) (.inl rfl)) _) ?_
    refine AOps.stepW (.one rfl rfl rfl) rfl rfl (OpQ.spec (sp_move rfl (.inr ⟨_, (by exact id), rfl⟩)) _) ?_
    refine AOps.stepW (.two rfl rfl rfl) rfl rfl (OpQ.spec (sp_fieldAddr_own (ob := .box _ _ _) rfl tf_70_1 (.inl rfl) (fun _ => rfl) rfl) _) ?_
    refine AOps.stepW (.two rfl rfl rfl) rfl rfl (OpQ.spec (ms_load_box (a := .r (.int .i64 x1.Ref)) rfl ts_3 (.inr ⟨_, (by exact id), rfl⟩) rfl rfl) _) ?_
    refine ob1k h2 fun r2 er2 h3 => ?_
    refine AOps.stepW (.two rfl rfl rfl) rfl rfl (sp_call (r := .r (.bool r2)) (caps := []) (bs := [.r (.int .i64 x1.Ref), .r (.int .i64 1), .r (.int .i64 1073741824)]) rfl (.inl rfl) rfl ⟨⟨_, (.inr ⟨_, (by exact id), rfl⟩), .d rfl⟩, ⟨_, (.inl rfl), .d rfl⟩, ⟨_, (.inl rfl), .d rfl⟩, trivial⟩ (fun hg => w_ref_In (gdt er2 hg)) rfl) ?_
    refine AOps.stepW (.two rfl rfl rfl) rfl rfl (OpQ.spec (sp_not rfl (.inr ⟨_, (by exact id), rfl⟩)) _) ?_
    refine AOps.stepW (.one rfl rfl rfl) rfl rfl (OpQ.spec (sp_and rfl (.inr ⟨_, (by exact id), rfl⟩) (.inr ⟨_, (by exact id), rfl⟩)) _) ?_
    refine AOps.step rfl rfl rfl (OpQ.spec (sp_or rfl (.inl rfl) (.inr ⟨_, (by exact id), rfl⟩)) _) ?_
    refine AOps.nil ?_
    refine hK6 _ ?_
    refine AW.cond rfl (fun hc2 => ?_) (fun hc2 => ?_)
    · have h4 := ite_t hc2 h3
      refine AW.seq_w fun K7 hK7 wK7 => ?_
      refine AW.weak (s' := ⟨[], [], (n0 + 1), 44⟩) (by exact Weak.cv trivial trivial (Nat.le_refl _)) ?_
      refine AW.region ?_
      refine AOps.step rfl rfl rfl (OpQ.spec (sp_assign rfl (.inl rfl)) _) ?_
      refine AOps.nil ?_
      refine hK7 _ ?_
      refine AW.ret ?_
      exact retf1 (P := Tryd.prog) (fun (r : Int) => .r (.int .i64 r)) h4 (.inl rfl) (.t (.d rfl))
    · have h4 := ite_f hc2 h3
      refine AW.skip ?_
      refine hK5 _ ?_
      refine AW.seq_w fun K8 hK8 wK8 => ?_
      refine AW.weak (s' := ⟨[(1, .ptr 1 n0 0 0)], [(1, some (.box n0 70 [.r (.int .i64 x1.Char), .r (.int .i64 x1.Ref), .r (.sl (x1.Attrs.map GAttr.row))]))], (n0 + 1), 44⟩) (by exact Weak.cv ⟨.inl (.inl rfl), trivial⟩ ⟨.inl rfl, trivial⟩ (Nat.le_refl _)) ?_
      refine AW.region ?_
      refine AOps.step rfl rfl rfl (OpQ.spec (sp_fieldAddr_own (ob := .box _ _ _) rfl tf_70_2 (.inl rfl) (fun _ => rfl) rfl) _) ?_
      refine AOps.step rfl rfl rfl (OpQ.spec (ms_load_box (a := .r (.sl (x1.Attrs.map GAttr.row))) rfl ts_27 (.inl rfl) rfl rfl) _) ?_
      refine ob1k h4 fun r3 er3 h5 => ?_
      refine AOps.step rfl rfl rfl (sp_call (r := .r (.int .i64 r3)) (caps := []) (bs := [.r (.sl (x1.Attrs.map GAttr.row)), .r (.bool false)]) rfl (.inl rfl) rfl ⟨⟨_, (.inl rfl), .d rfl⟩, ⟨_, (.inl rfl), .d rfl⟩, trivial⟩ (fun _ => w_ref_AttrsError (er3)) rfl) ?_
      refine AOps.step rfl rfl rfl (OpQ.spec (sp_assign rfl (.inl rfl)) _) ?_
      refine AOps.nil ?_
      refine hK8 _ ?_
      refine AW.ret ?_
      exact retf1 (P := Tryd.prog) (fun (r : Int) => .r (.int .i64 r)) h5 (.inl rfl) (.t (.d rfl))
set_option maxHeartbeats 4000000 in
set_option maxRecDepth 20000 in
theorem w_ref_FlowError {f1 : List GElem} {text1 : Bool} {r : Int} (h : ref_FlowError f1 text1 = some r) : ARO Tryd.prog 67 [.r (.sl (f1.map GElem.row)), .r (.bool text1)] (.r (.int .i64 r)) := by
  unfold ref_FlowError at h
  refine ARO.mkF Tryd.func67 rfl rfl Tryd.ntmps67 rfl (Nat.le_of_ble_eq_true rfl) fun n0 => ?_
  refine AW.seq_w fun K1 hK1 wK1 => ?_
  refine AW.region ?_
  refine AOps.step rfl rfl rfl (OpQ.spec (sp_assign rfl (.inl rfl)) _) ?_
  refine AOps.nil ?_
  refine hK1 _ ?_
  refine AW.seq_w fun K2 hK2 wK2 => ?_
  refine AW.seq_w fun K3 hK3 wK3 => ?_
  refine AW.region ?_
  refine AOps.step rfl rfl rfl (OpQ.spec (sp_move rfl (.inl rfl)) _) ?_
  refine AOps.step rfl rfl rfl (OpQ.spec (ms_len rfl tg_28.slice (.inl rfl)) _) ?_
  refine AOps.step rfl rfl rfl (OpQ.spec (sp_move rfl (.inl rfl)) _) ?_
  refine AOps.nil ?_
  refine hK3 _ ?_
  refine AW.block ?_
  refine jc1k h fun o1 hit1 hk1 he1 => ?_
  have J1 : ∀ (u2 : Unit) (i5 : Nat → Nat), o1 = .nrm u2 → K2 ⟨[(0, .r (.sl (f1.map GElem.row))), (1, .r (.bool text1))], [], (i5 0), 47⟩ := by
    intro u2 i5 e
    have h1 := hk1 _ e
    refine hK2 _ ?_
    refine AW.seq_w fun K4 hK4 wK4 => ?_
    refine AW.seq_w fun K5 hK5 wK5 => ?_
    refine AW.region ?_
    refine AOps.step rfl rfl rfl (OpQ.spec (sp_move rfl (.inl rfl)) _) ?_
    refine AOps.step rfl rfl rfl (OpQ.spec (sp_move rfl (.inl rfl)) _) ?_
    refine AOps.stepW (.one rfl rfl rfl) rfl rfl (OpQ.spec (sp_move rfl (.inl rfl)) _) ?_
    refine AOps.stepW (.one rfl rfl rfl) rfl rfl (OpQ.spec (ms_len rfl tg_28.slice (.inr ⟨_, (by exact id), rfl⟩)) _) ?_
    refine AOps.stepW (.one rfl rfl rfl) rfl rfl (OpQ.spec (sp_eql rfl (.inr ⟨_, (by exact id), rfl⟩) (.inl rfl)) _) ?_
    refine AOps.stepW (.one rfl rfl rfl) rfl rfl (OpQ.spec (sp_move rfl (.inr ⟨_, (by exact id), rfl⟩)) _) ?_
    refine AOps.stepW (.two rfl rfl rfl) rfl rfl (OpQ.spec (sp_move rfl (.inl rfl)) _) ?_
    refine AOps.stepW (.two rfl rfl rfl) rfl rfl (OpQ.spec (sp_move rfl (.inl rfl)) _) ?_
    refine AOps.stepW (.two rfl rfl rfl) rfl rfl (OpQ.spec (ms_len rfl tg_28.slice (.inr ⟨_, (by exact id), rfl⟩)) _) ?_
    refine ob1k h1 fun x4 ex4 h2 => ?_
    refine AOps.stepW (.two rfl rfl rfl) rfl rfl (OpQ.spec (ms_sub rfl (.inr ⟨_, (by exact id), rfl⟩) (.inl rfl) (gdt ex4)) _) ?_
    refine ob1k h2 fun x5 ex5 h3 => ?_
    refine AOps.stepW (.two rfl rfl rfl) rfl rfl (OpQ.spec (ms_idx rfl tg_28.slice (.inr ⟨_, (by exact id), rfl⟩) (.inr ⟨_, (by exact id), rfl⟩) (fun _ => rfl) (gdt ex5)) _) ?_
    refine AOps.stepW (.two rfl rfl rfl) rfl rfl (OpQ.spec (sp_fieldAddr_ro rfl tf_70_0 (.inr ⟨_, (by exact id), rfl⟩)) _) ?_
    refine AOps.stepW (.two rfl rfl rfl) rfl rfl (OpQ.spec (ms_load (d := .int .i64 x5.Char) rfl ts_3 (.inr ⟨_, (by exact id), rfl⟩) rfl) _) ?_
    refine AOps.stepW (.two rfl rfl rfl) rfl rfl (OpQ.spec (sp_neq rfl (.inr ⟨_, (by exact id), rfl⟩) (.inl rfl)) _) ?_
    refine AOps.stepW (.one rfl rfl rfl) rfl rfl (OpQ.spec (sp_or rfl (.inr ⟨_, (by exact id), rfl⟩) (.inr ⟨_, (by exact id), rfl⟩)) _) ?_
    refine AOps.step rfl rfl rfl (OpQ.spec (sp_and rfl (.inl rfl) (.inr ⟨_, (by exact id), rfl⟩)) _) ?_
    refine AOps.nil ?_
    refine hK5 _ ?_
    refine AW.cond rfl (fun hc1 => ?_) (fun hc1 => ?_)
    · have h4 := ite_t hc1 h3
      refine AW.seq_w fun K6 hK6 wK6 => ?_
      refine AW.weak (s' := ⟨[], [], (i5 0), 47⟩) (by exact Weak.cv trivial trivial (Nat.le_refl _)) ?_
      refine AW.region ?_
      refine AOps.step rfl rfl rfl (OpQ.spec (sp_assign rfl (.inl rfl)) _) ?_
      refine AOps.nil ?_
      refine hK6 _ ?_
      refine AW.ret ?_
      exact retf1 (P := Tryd.prog) (fun (r : Int) => .r (.int .i64 r)) h4 (.inl rfl) (.t (.d rfl))
    · have h4 := ite_f hc1 h3
      refine AW.skip ?_
      refine hK4 _ ?_
      refine AW.seq_w fun K7 hK7 wK7 => ?_
      refine AW.weak (s' := ⟨[], [], (i5 0), 47⟩) (by exact Weak.cv trivial trivial (Nat.le_refl _)) ?_
      refine AW.region ?_
      refine AOps.step rfl rfl rfl (OpQ.spec (sp_assign rfl (.inl rfl)) _) ?_
      refine AOps.nil ?_
      refine hK7 _ ?_
      refine AW.ret ?_
      exact retf1 (P := Tryd.prog) (fun (r : Int) => .r (.int .i64 r)) h4 (.inl rfl) (.t (.d rfl))
  refine AW.iter1 (fun (x2 : Int) i3 => ⟨[(0, .r (.sl (f1.map GElem.row))), (1, .r (.bool text1)), (8, .r (.int .i64 (f1.length : Int))), (9, .r (.int .i64 x2))], [], (i3 0), 47⟩) (vec [n0]) hit1 ((by exact Weak.cv ⟨.inl (.inl rfl), .inl (.inl rfl), .inl (.inl rfl), .inl (.inl rfl), trivial⟩ trivial (Nat.le_refl _))) ?_
  intro x2 i3 v1 hv1 hx1
  have h5 : ref_FlowError_L1 f1 text1 x2 = some v1 := hv1; unfold ref_FlowError_L1 at h5
  refine AW.seq_w fun K8 hK8 wK8 => ?_
  refine AW.region ?_
  refine AOps.step rfl rfl rfl (OpQ.spec (sp_lss rfl (.inl rfl) (.inl rfl)) _) ?_
  refine AOps.nil ?_
  refine hK8 _ ?_
  refine AW.seq_w fun K9 hK9 wK9 => ?_
  refine AW.cond rfl (fun hc2 => ?_) (fun hc2 => ?_)
  · have h6 := ite_t hc2 h5
    refine AW.skip ?_
    refine hK9 _ ?_
    refine AW.seq_w fun K10 hK10 wK10 => ?_
    refine AW.block ?_
    refine AW.seq_w fun K11 hK11 wK11 => ?_
    refine AW.region ?_
    refine AOps.step rfl rfl rfl (OpQ.spec (sp_move rfl (.inl rfl)) _) ?_
    refine AOps.step rfl rfl rfl (OpQ.spec (sp_assign rfl (.inl rfl)) _) ?_
    refine AOps.nil ?_
    refine hK11 _ ?_
    refine AW.seq_w fun K12 hK12 wK12 => ?_
    refine AW.seq_w fun K13 hK13 wK13 => ?_
    refine AW.region ?_
    refine AOps.step rfl rfl rfl (OpQ.spec (sp_move rfl (.inl rfl)) _) ?_
    refine AOps.step rfl rfl rfl (OpQ.spec (sp_move rfl (.inl rfl)) _) ?_
    refine ob1k h6 fun x6 ex6 h7 => ?_
    refine AOps.step rfl rfl rfl (OpQ.spec (ms_idx rfl tg_28.slice (.inl rfl) (.inl rfl) (fun _ => rfl) (fun _ => ex6)) _) ?_
    refine AOps.step rfl rfl rfl (OpQ.spec (ms_loadA (cs := [.r (.int .i64 x6.Char), .r (.int .i64 x6.Ref), .r (.sl (x6.Attrs.map GAttr.row))]) rfl ta_70 (.inl rfl) rfl rfl) _) ?_
    refine ob1k h7 fun e1 ee1 h8 => ?_
    refine AOps.step rfl rfl rfl (sp_call (r := .r (.int .i64 e1)) (caps := []) (bs := [.agg [.r (.int .i64 x6.Char), .r (.int .i64 x6.Ref), .r (.sl (x6.Attrs.map GAttr.row))]]) rfl (.inl rfl) rfl ⟨⟨_, (.inl rfl), .g (cs := [.int .i64 x6.Char, .int .i64 x6.Ref, .sl (x6.Attrs.map GAttr.row)]) rfl rfl⟩, trivial⟩ (fun _ => w_ref_ElemError (ee1)) rfl) ?_
    refine AOps.step rfl rfl rfl (OpQ.spec (sp_assign rfl (.inl rfl)) _) ?_
    refine AOps.nil ?_
    refine hK13 _ ?_
    refine AW.seq_w fun K14 hK14 wK14 => ?_
    refine AW.region ?_
    refine AOps.step rfl rfl rfl (OpQ.spec (sp_move rfl (.inl rfl)) _) ?_
    refine AOps.step rfl rfl rfl (OpQ.spec (sp_neq rfl (.inl rfl) (.inl rfl)) _) ?_
    refine AOps.nil ?_
    refine hK14 _ ?_
    refine AW.cond rfl (fun hc3 => ?_) (fun hc3 => ?_)
    · have h9 := ite_t hc3 h8
      refine AW.seq_w fun K15 hK15 wK15 => ?_
      refine AW.weak (s' := ⟨[(6, .r (.int .i64 e1))], [], (i3 0), 47⟩) (by exact Weak.cv ⟨.inl (.inl rfl), trivial⟩ trivial (Nat.le_refl _)) ?_
      refine AW.region ?_
      refine AOps.step rfl rfl rfl (OpQ.spec (sp_move rfl (.inl rfl)) _) ?_
      refine AOps.step rfl rfl rfl (OpQ.spec (sp_assign rfl (.inl rfl)) _) ?_
      refine AOps.nil ?_
      refine hK15 _ ?_
      refine AW.ret ?_
      exact retf1 (P := Tryd.prog) (fun (r : Int) => .r (.int .i64 r)) (he1 _ (hx1 _ (Option.some.inj h9).symm)) (.inl rfl) (.t (.d rfl))
    · have h9 := ite_f hc3 h8
      refine AW.skip ?_
      refine hK12 _ ?_
      refine AW.seq_w fun K16 hK16 wK16 => ?_
      refine AW.weak (s' := ⟨[(0, .r (.sl (f1.map GElem.row))), (1, .r (.bool text1)), (5, .r (.int .i64 x2)), (8, .r (.int .i64 (f1.length : Int))), (9, .r (.int .i64 x2))], [], (i3 0), 47⟩) (by exact Weak.cv ⟨.inl (.inl rfl), .inl (.inl rfl), .inl (.inl rfl), .inl (.inl rfl), .inl (.inl rfl), trivial⟩ trivial (Nat.le_refl _)) ?_
      refine AW.region ?_
      refine AOps.step rfl rfl rfl (OpQ.spec (sp_move rfl (.inl rfl)) _) ?_
      refine AOps.step rfl rfl rfl (OpQ.spec (sp_not rfl (.inl rfl)) _) ?_
      refine AOps.step rfl rfl rfl (OpQ.spec (sp_move rfl (.inl rfl)) _) ?_
      refine AOps.stepW (.one rfl rfl rfl) rfl rfl (OpQ.spec (sp_move rfl (.inl rfl)) _) ?_
      refine AOps.stepW (.one rfl rfl rfl) rfl rfl (OpQ.spec (sp_move rfl (.inl rfl)) _) ?_
      refine AOps.stepW (.one rfl rfl rfl) rfl rfl (OpQ.spec (ms_idx rfl tg_28.slice (.inr ⟨_, (by exact id), rfl⟩) (.inr ⟨_, (by exact id), rfl⟩) (fun _ => rfl) (fun _ => ex6)) _) ?_
      refine AOps.stepW (.one rfl rfl rfl) rfl rfl (OpQ.spec (sp_fieldAddr_ro rfl tf_70_0 (.inr ⟨_, (by exact id), rfl⟩)) _) ?_
      refine AOps.stepW (.one rfl rfl rfl) rfl rfl (OpQ.spec (ms_load (d := .int .i64 x6.Char) rfl ts_3 (.inr ⟨_, (by exact id), rfl⟩) rfl) _) ?_
      refine AOps.stepW (.one rfl rfl rfl) rfl rfl (OpQ.spec (sp_neq rfl (.inr ⟨_, (by exact id), rfl⟩) (.inl rfl)) _) ?_
      refine AOps.step rfl rfl rfl (OpQ.spec (sp_and rfl (.inl rfl) (.inr ⟨_, (by exact id), rfl⟩)) _) ?_
      refine AOps.nil ?_
      refine hK16 _ ?_
      refine AW.cond rfl (fun hc4 => ?_) (fun hc4 => ?_)
      · have h10 := ite_t hc4 h9
        refine AW.seq_w fun K17 hK17 wK17 => ?_
        refine AW.weak (s' := ⟨[], [], (i3 0), 47⟩) (by exact Weak.cv trivial trivial (Nat.le_refl _)) ?_
        refine AW.region ?_
        refine AOps.step rfl rfl rfl (OpQ.spec (sp_assign rfl (.inl rfl)) _) ?_
        refine AOps.nil ?_
        refine hK17 _ ?_
        refine AW.ret ?_
        exact retf1 (P := Tryd.prog) (fun (r : Int) => .r (.int .i64 r)) (he1 _ (hx1 _ (Option.some.inj h10).symm)) (.inl rfl) (.t (.d rfl))
      · have h10 := ite_f hc4 h9
        refine AW.skip ?_
        refine hK10 _ ?_
        refine AW.region ?_
        refine ob1k h10 fun x7 ex7 h11 => ?_
        refine AOps.step rfl rfl rfl (OpQ.spec (ms_add rfl (.inl rfl) (.inl rfl) (fun _ => ex7)) _) ?_
        refine AOps.step rfl rfl rfl (OpQ.spec (sp_move rfl (.inl rfl)) _) ?_
        refine AOps.nil ?_
        exact NextQ1.mk h11 (vec [(i3 0)]) ((by exact Weak.cv ⟨.inl (.inl rfl), .inl (.inl rfl), .inl (.inl rfl), .inl (.inl rfl), trivial⟩ trivial (Nat.le_refl _)))
  · have h6 := ite_f hc2 h5
    refine AW.exit ?_
    exact wK2 _ _ ((by exact Weak.cv ⟨.inl (.inl rfl), .inl (.inl rfl), trivial⟩ trivial (Nat.le_refl _))) (J1 _ (vec [(i3 0)]) (hx1 _ (Option.some.inj h6).symm))
set_option maxHeartbeats 4000000 in
set_option maxRecDepth 20000 in
theorem w_unicode_utf8_ValidString {s1 : List UInt8} {r : Bool} (h : unicode_utf8_ValidString s1 = some r) : ARO Tryd.prog 87 [.r (.str s1)] (.r (.bool r)) := by
  unfold unicode_utf8_ValidString at h
  exact ARO.validString laysValid rfl rfl rfl ⟨_, Tryd.func87, rfl, rfl⟩ h
set_option maxHeartbeats 4000000 in
set_option maxRecDepth 20000 in
theorem w_ref_CellText {s1 : List UInt8} {r : Bool} (h : ref_CellText s1 = some r) : ARO Tryd.prog 30 [.r (.str s1)] (.r (.bool r)) := by
  unfold ref_CellText at h
  refine ARO.mkF Tryd.func30 rfl rfl Tryd.ntmps30 rfl (Nat.le_of_ble_eq_true rfl) fun n0 => ?_
  refine AW.seq_w fun K1 hK1 wK1 => ?_
  refine AW.region ?_
  refine AOps.step rfl rfl rfl (OpQ.spec (sp_assign rfl (.inl rfl)) _) ?_
  refine AOps.nil ?_
  refine hK1 _ ?_
  refine AW.seq_w fun K2 hK2 wK2 => ?_
  refine AW.seq_w fun K3 hK3 wK3 => ?_
  refine AW.region ?_
  refine AOps.step rfl rfl rfl (OpQ.spec (sp_move rfl (.inl rfl)) _) ?_
  refine ob1k h fun r1 er1 h1 => ?_
  refine AOps.step rfl rfl rfl (sp_call (r := .r (.bool r1)) (caps := []) (bs := [.r (.str s1)]) rfl (.inl rfl) rfl ⟨⟨_, (.inl rfl), .d rfl⟩, trivial⟩ (fun _ => w_unicode_utf8_ValidString (er1)) rfl) ?_
  refine AOps.step rfl rfl rfl (OpQ.spec (sp_not rfl (.inl rfl)) _) ?_
  refine AOps.nil ?_
  refine hK3 _ ?_
  refine AW.cond rfl (fun hc1 => ?_) (fun hc1 => ?_)
  · have h2 := ite_t hc1 h1
    refine AW.seq_w fun K4 hK4 wK4 => ?_
    refine AW.region ?_
    refine AOps.step rfl rfl rfl (OpQ.spec (sp_assign rfl (.inl rfl)) _) ?_
    refine AOps.nil ?_
    refine hK4 _ ?_
    refine AW.ret ?_
    exact retf1 (P := Tryd.prog) (fun (r : Bool) => .r (.bool r)) h2 (.inl rfl) (.t (.d rfl))
  · have h2 := ite_f hc1 h1
    refine AW.skip ?_
    refine hK2 _ ?_
    refine AW.seq_w fun K5 hK5 wK5 => ?_
    refine AW.seq_w fun K6 hK6 wK6 => ?_
    refine AW.region ?_
    refine AOps.step rfl rfl rfl (OpQ.spec (sp_move rfl (.inl rfl)) _) ?_
    refine AOps.step rfl rfl rfl (ms_range 9 rfl Tryd.underlying9 (.inl rfl)) ?_
    refine AOps.nil ?_
    refine hK6 _ ?_
    refine AW.block ?_
    refine jc1k h2 fun o1 hit1 hk1 he1 => ?_
    have J1 : ∀ (u2 : Unit) (i5 : Nat → Nat), o1 = .nrm u2 → K5 ⟨[], [], (i5 0), 21⟩ := by
      intro u2 i5 e
      have h3 := hk1 _ e
      refine hK5 _ ?_
      refine AW.seq_w fun K7 hK7 wK7 => ?_
      refine AW.region ?_
      refine AOps.step rfl rfl rfl (OpQ.spec (sp_assign rfl (.inl rfl)) _) ?_
      refine AOps.nil ?_
      refine hK7 _ ?_
      refine AW.ret ?_
      exact retf1 (P := Tryd.prog) (fun (r : Bool) => .r (.bool r)) h3 (.inl rfl) (.t (.d rfl))
    refine AW.iter1 (fun (p2 : (Nat)) i3 => ⟨[(9, .ptr 9 n0 0 0)], [(9, some (.it n0 s1 p2))], (i3 0), 21⟩) (vec [(n0 + 1)]) hit1 ((by exact Weak.cv ⟨.inl (.inl rfl), trivial⟩ ⟨.inl rfl, trivial⟩ (Nat.le_refl _))) ?_
    intro p2 i3 v1 hv1 hx1
    have h4 : ref_CellText_L1 s1 p2 = some v1 := hv1; unfold ref_CellText_L1 at h4
    refine AW.seq_w fun K8 hK8 wK8 => ?_
    refine AW.split (decide (p2 < s1.length)) (fun hg1 => ?_) (fun hg1 => ?_)
    · have h5 := ite_t hg1 h4
      refine AW.region ?_
      refine AOps.step rfl rfl rfl (ms_next_t rfl (.inl rfl) rfl (fun _ => hg1)) ?_
      refine AOps.step rfl rfl rfl (OpQ.spec (sp_extract (a := .r (.bool true)) rfl (.inl rfl) rfl) _) ?_
      refine AOps.nil ?_
      refine hK8 _ ?_
      refine AW.seq_w fun K9 hK9 wK9 => ?_
      refine AW.cond rfl (fun hc2 => ?_) (fun hc2 => by cases hc2)
      refine AW.skip ?_
      refine hK9 _ ?_
      refine AW.block ?_
      refine AW.seq_w fun K10 hK10 wK10 => ?_
      refine AW.region ?_
      refine AOps.step rfl rfl rfl (OpQ.spec (sp_extract (a := .r (.int .i32 ((runeAt s1 p2).1 : Int))) rfl (.inl rfl) rfl) _) ?_
      refine AOps.step rfl rfl rfl (OpQ.spec (sp_assign rfl (.inl rfl)) _) ?_
      refine AOps.nil ?_
      refine hK10 _ ?_
      refine AW.seq_w fun K11 hK11 wK11 => ?_
      refine AW.region ?_
      refine AOps.step rfl rfl rfl (OpQ.spec (sp_move rfl (.inl rfl)) _) ?_
      refine AOps.step rfl rfl rfl (OpQ.spec (sp_eql rfl (.inl rfl) (.inl rfl)) _) ?_
      refine AOps.step rfl rfl rfl (OpQ.spec (sp_move rfl (.inl rfl)) _) ?_
      refine AOps.stepW (.one rfl rfl rfl) rfl rfl (OpQ.spec (sp_move rfl (.inl rfl)) _) ?_
      refine AOps.stepW (.one rfl rfl rfl) rfl rfl (OpQ.spec (sp_convert_int rfl Tryd.underlying21 Tryd.underlying3 (.inr ⟨_, (by exact id), rfl⟩)) _) ?_
      refine ob1k h5 fun r2 er2 h6 => ?_
      refine AOps.stepW (.one rfl rfl rfl) rfl rfl (sp_call (r := .r (.bool r2)) (caps := []) (bs := [.r (.int .i64 (IntKind.i64.wrap ((runeAt s1 p2).1 : Int)))]) rfl (.inl rfl) rfl ⟨⟨_, (.inr ⟨_, (by exact id), rfl⟩), .d rfl⟩, trivial⟩ (fun hg => w_ref_Char (gdt er2 hg)) rfl) ?_
      refine AOps.stepW (.one rfl rfl rfl) rfl rfl (OpQ.spec (sp_not rfl (.inr ⟨_, (by exact id), rfl⟩)) _) ?_
      refine AOps.step rfl rfl rfl (OpQ.spec (sp_or rfl (.inl rfl) (.inr ⟨_, (by exact id), rfl⟩)) _) ?_
      refine AOps.nil ?_
      refine hK11 _ ?_
      refine AW.cond rfl (fun hc3 => ?_) (fun hc3 => ?_)
      · have h7 := ite_t hc3 h6
        refine AW.seq_w fun K12 hK12 wK12 => ?_
        refine AW.weak (s' := ⟨[], [], (i3 0), 21⟩) (by exact Weak.cv trivial trivial (Nat.le_refl _)) ?_
        refine AW.region ?_
        refine AOps.step rfl rfl rfl (OpQ.spec (sp_assign rfl (.inl rfl)) _) ?_
        refine AOps.nil ?_
        refine hK12 _ ?_
        refine AW.ret ?_
        exact retf1 (P := Tryd.prog) (fun (r : Bool) => .r (.bool r)) (he1 _ (hx1 _ (Option.some.inj h7).symm)) (.inl rfl) (.t (.d rfl))
      · have h7 := ite_f hc3 h6
        refine AW.skip ?_
        exact NextQ1.mk h7 (vec [(i3 0)]) ((by exact Weak.cv ⟨.inl (.inl rfl), trivial⟩ ⟨.inl rfl, trivial⟩ (Nat.le_refl _)))
    · have h5 := ite_f hg1 h4
      refine AW.region ?_
      refine AOps.step rfl rfl rfl (ms_next_f rfl (.inl rfl) rfl (fun _ => hg1)) ?_
      refine AOps.step rfl rfl rfl (OpQ.spec (sp_extract (a := .r (.bool false)) rfl (.inl rfl) rfl) _) ?_
      refine AOps.nil ?_
      refine hK8 _ ?_
      refine AW.seq_w fun K13 hK13 wK13 => ?_
      refine AW.cond rfl (fun hc4 => by cases hc4) (fun hc4 => ?_)
      refine AW.exit ?_
      exact wK5 _ _ ((by exact Weak.cv trivial trivial (Nat.le_refl _))) (J1 _ (vec [(i3 0)]) (hx1 _ (Option.some.inj h5).symm))
set_option maxHeartbeats 4000000 in
set_option maxRecDepth 20000 in
theorem w_ref_EmptyCell {c1 : GCell} {r : Bool} (h : ref_EmptyCell c1 = some r) : ARO Tryd.prog 83 [.agg [.r (.int .i64 c1.Row), .r (.int .i64 c1.Col), .r (.str c1.Text), .r (.int .i64 c1.Ref), .r (.sl (c1.Attrs.map GAttr.row))]] (.r (.bool r)) := by
  unfold ref_EmptyCell at h
  refine ARO.mkF Tryd.func83 rfl rfl Tryd.ntmps83 rfl (Nat.le_of_ble_eq_true rfl) fun n0 => ?_
  refine AW.seq_w fun K1 hK1 wK1 => ?_
  refine AW.region ?_
  refine AOps.step rfl rfl rfl (ms_box (cs := [.r (.int .i64 c1.Row), .r (.int .i64 c1.Col), .r (.str c1.Text), .r (.int .i64 c1.Ref), .r (.sl (c1.Attrs.map GAttr.row))]) 1 rfl (.inl rfl) rfl rfl) ?_
  refine AOps.step rfl rfl rfl (OpQ.spec (sp_assign rfl (.inl rfl)) _) ?_
  refine AOps.nil ?_
  refine hK1 _ ?_
  refine AW.seq_w fun K2 hK2 wK2 => ?_
  refine AW.region ?_
  refine AOps.step rfl rfl rfl (OpQ.spec (sp_fieldAddr_own (ob := .box _ _ _) rfl tf_60_2 (.inl rfl) (fun _ => rfl) rfl) _) ?_
  refine AOps.step rfl rfl rfl (OpQ.spec (ms_load_box (a := .r (.str c1.Text)) rfl ts_9 (.inl rfl) rfl rfl) _) ?_
  refine AOps.step rfl rfl rfl (OpQ.spec (sp_seql rfl (.inl rfl) (.inl rfl)) _) ?_
  refine AOps.step rfl rfl rfl (OpQ.spec (sp_move rfl (.inl rfl)) _) ?_
  refine AOps.stepW (.one rfl rfl rfl) rfl rfl (OpQ.spec (sp_fieldAddr_own (ob := .box _ _ _) rfl tf_60_3 (.inl rfl) (fun _ => rfl) rfl) _) ?_
  refine AOps.stepW (.one rfl rfl rfl) rfl rfl (OpQ.spec (ms_load_box (a := .r (.int .i64 c1.Ref)) rfl ts_3 (.inr ⟨_, (by exact id), rfl⟩) rfl rfl) _) ?_
  refine AOps.stepW (.one rfl rfl rfl) rfl rfl (OpQ.spec (sp_eql rfl (.inr ⟨_, (by exact id), rfl⟩) (.inl rfl)) _) ?_
  refine AOps.step rfl rfl rfl (OpQ.spec (sp_and rfl (.inl rfl) (.inr ⟨_, (by exact id), rfl⟩)) _) ?_
  refine AOps.step rfl rfl rfl (OpQ.spec (sp_move rfl (.inl rfl)) _) ?_
  refine AOps.stepW (.one rfl rfl rfl) rfl rfl (OpQ.spec (sp_fieldAddr_own (ob := .box _ _ _) rfl tf_60_4 (.inl rfl) (fun _ => rfl) rfl) _) ?_
  refine AOps.stepW (.one rfl rfl rfl) rfl rfl (OpQ.spec (ms_load_box (a := .r (.sl (c1.Attrs.map GAttr.row))) rfl ts_27 (.inr ⟨_, (by exact id), rfl⟩) rfl rfl) _) ?_
  refine AOps.stepW (.one rfl rfl rfl) rfl rfl (OpQ.spec (ms_len rfl tg_27.slice (.inr ⟨_, (by exact id), rfl⟩)) _) ?_
  refine AOps.stepW (.one rfl rfl rfl) rfl rfl (OpQ.spec (sp_eql rfl (.inr ⟨_, (by exact id), rfl⟩) (.inl rfl)) _) ?_
  refine AOps.step rfl rfl rfl (OpQ.spec (sp_and rfl (.inl rfl) (.inr ⟨_, (by exact id), rfl⟩)) _) ?_
  refine AOps.step rfl rfl rfl (OpQ.spec (sp_assign rfl (.inl rfl)) _) ?_
  refine AOps.nil ?_
  refine hK2 _ ?_
  refine AW.ret ?_
  exact retf1 (P := Tryd.prog) (fun (r : Bool) => .r (.bool r)) h (.inl rfl) (.t (.d rfl))
set_option maxHeartbeats 4000000 in
set_option maxRecDepth 20000 in
theorem w_ref_CellsError {l1 : List GCell} {rows1 : Int} {cols1 : Int} {none1 : Bool} {r : Int} (h : ref_CellsError l1 rows1 cols1 none1 = some r) : ARO Tryd.prog 72 [.r (.sl (l1.map GCell.row)), .r (.int .i64 rows1), .r (.int .i64 cols1), .r (.bool none1)] (.r (.int .i64 r)) := by
  unfold ref_CellsError at h
  refine ARO.mkF Tryd.func72 rfl rfl Tryd.ntmps72 rfl (Nat.le_of_ble_eq_true rfl) fun n0 => ?_
  refine AW.seq_w fun K1 hK1 wK1 => ?_
  refine AW.region ?_
  refine AOps.step rfl rfl rfl (OpQ.spec (sp_assign rfl (.inl rfl)) _) ?_
  refine AOps.nil ?_
  refine hK1 _ ?_
  refine AW.seq_w fun K2 hK2 wK2 => ?_
  refine AW.seq_w fun K3 hK3 wK3 => ?_
  refine AW.region ?_
  refine AOps.step rfl rfl rfl (OpQ.spec (sp_move rfl (.inl rfl)) _) ?_
  refine AOps.step rfl rfl rfl (OpQ.spec (ms_len rfl tg_29.slice (.inl rfl)) _) ?_
  refine AOps.step rfl rfl rfl (OpQ.spec (sp_move rfl (.inl rfl)) _) ?_
  refine AOps.nil ?_
  refine hK3 _ ?_
  refine AW.block ?_
  refine jc1k h fun o1 hit1 hk1 he1 => ?_
  have J1 : ∀ (u2 : Unit) (i5 : Nat → Nat), o1 = .nrm u2 → K2 ⟨[], [], (i5 0), 93⟩ := by
    intro u2 i5 e
    have h1 := hk1 _ e
    refine hK2 _ ?_
    refine AW.seq_w fun K4 hK4 wK4 => ?_
    refine AW.region ?_
    refine AOps.step rfl rfl rfl (OpQ.spec (sp_assign rfl (.inl rfl)) _) ?_
    refine AOps.nil ?_
    refine hK4 _ ?_
    refine AW.ret ?_
    exact retf1 (P := Tryd.prog) (fun (r : Int) => .r (.int .i64 r)) h1 (.inl rfl) (.t (.d rfl))
  refine AW.iter1 (fun (x2 : Int) i3 => ⟨[(0, .r (.sl (l1.map GCell.row))), (1, .r (.int .i64 rows1)), (2, .r (.int .i64 cols1)), (3, .r (.bool none1)), (13, .r (.int .i64 (l1.length : Int))), (14, .r (.int .i64 x2))], [], (i3 0), 93⟩) (vec [n0]) hit1 ((by exact Weak.cv ⟨.inl (.inl rfl), .inl (.inl rfl), .inl (.inl rfl), .inl (.inl rfl), .inl (.inl rfl), .inl (.inl rfl), trivial⟩ trivial (Nat.le_refl _))) ?_
  intro x2 i3 v1 hv1 hx1
  have h2 : ref_CellsError_L1 l1 rows1 cols1 none1 x2 = some v1 := hv1; unfold ref_CellsError_L1 at h2
  refine AW.seq_w fun K5 hK5 wK5 => ?_
  refine AW.region ?_
  refine AOps.step rfl rfl rfl (OpQ.spec (sp_lss rfl (.inl rfl) (.inl rfl)) _) ?_
  refine AOps.nil ?_
  refine hK5 _ ?_
  refine AW.seq_w fun K6 hK6 wK6 => ?_
  refine AW.cond rfl (fun hc1 => ?_) (fun hc1 => ?_)
  · have h3 := ite_t hc1 h2
    refine AW.skip ?_
    refine hK6 _ ?_
    refine AW.seq_w fun K7 hK7 wK7 => ?_
    refine AW.block ?_
    refine AW.seq_w fun K8 hK8 wK8 => ?_
    refine AW.region ?_
    refine AOps.step rfl rfl rfl (OpQ.spec (sp_move rfl (.inl rfl)) _) ?_
    refine AOps.step rfl rfl rfl (OpQ.spec (sp_assign rfl (.inl rfl)) _) ?_
    refine AOps.nil ?_
    refine hK8 _ ?_
    refine AW.seq_w fun K9 hK9 wK9 => ?_
    refine AW.region ?_
    refine AOps.step rfl rfl rfl (OpQ.spec (sp_move rfl (.inl rfl)) _) ?_
    refine AOps.step rfl rfl rfl (OpQ.spec (sp_move rfl (.inl rfl)) _) ?_
    refine ob1k h3 fun x4 ex4 h4 => ?_
    refine AOps.step rfl rfl rfl (OpQ.spec (ms_idx rfl tg_29.slice (.inl rfl) (.inl rfl) (fun _ => rfl) (fun _ => ex4)) _) ?_
    refine AOps.step rfl rfl rfl (OpQ.spec (ms_loadA (cs := [.r (.int .i64 x4.Row), .r (.int .i64 x4.Col), .r (.str x4.Text), .r (.int .i64 x4.Ref), .r (.sl (x4.Attrs.map GAttr.row))]) rfl ta_60 (.inl rfl) rfl rfl) _) ?_
    refine AOps.step rfl rfl rfl (ms_alloc (cs := [.r (.int .i64 0), .r (.int .i64 0), .r (.str []), .r (.int .i64 0), .cst (.slice none 0 0)]) 10 rfl t0_60 rfl rfl) ?_
    refine AOps.step0 rfl rfl (ms_store_box (ds := [.r (.int .i64 x4.Row), .r (.int .i64 x4.Col), .r (.str x4.Text), .r (.int .i64 x4.Ref), .r (.sl (x4.Attrs.map GAttr.row))]) rfl tz_60 (.inl rfl) rfl (.inl rfl) rfl rfl rfl rfl) ?_
    refine AOps.nil ?_
    refine hK9 _ ?_
    refine AW.seq_w fun K10 hK10 wK10 => ?_
    refine AW.seq_w fun K11 hK11 wK11 => ?_
    refine AW.region ?_
    refine AOps.step rfl rfl rfl (OpQ.spec (sp_fieldAddr_own (ob := .box _ _ _) rfl tf_60_0 (.inl rfl) (fun _ => rfl) rfl) _) ?_
    refine AOps.step rfl rfl rfl (OpQ.spec (ms_load_box (a := .r (.int .i64 x4.Row)) rfl ts_3 (.inl rfl) rfl rfl) _) ?_
    refine AOps.step rfl rfl rfl (OpQ.spec (sp_move rfl (.inl rfl)) _) ?_
    refine ob1k h4 fun x5 ex5 h5 => ?_
    refine AOps.step rfl rfl rfl (OpQ.spec (ms_sub rfl (.inl rfl) (.inl rfl) (fun _ => ex5)) _) ?_
    refine ob1k h5 fun r1 er1 h6 => ?_
    refine AOps.step rfl rfl rfl (sp_call (r := .r (.bool r1)) (caps := []) (bs := [.r (.int .i64 x4.Row), .r (.int .i64 0), .r (.int .i64 x5)]) rfl (.inl rfl) rfl ⟨⟨_, (.inl rfl), .d rfl⟩, ⟨_, (.inl rfl), .d rfl⟩, ⟨_, (.inl rfl), .d rfl⟩, trivial⟩ (fun _ => w_ref_In (er1)) rfl) ?_
    refine AOps.step rfl rfl rfl (OpQ.spec (sp_not rfl (.inl rfl)) _) ?_
    refine AOps.step rfl rfl rfl (OpQ.spec (sp_move rfl (.inl rfl)) _) ?_
    refine AOps.stepW (.one rfl rfl rfl) rfl rfl (OpQ.spec (sp_fieldAddr_own (ob := .box _ _ _) rfl tf_60_1 (.inl rfl) (fun _ => rfl) rfl) _) ?_
    refine AOps.stepW (.one rfl rfl rfl) rfl rfl (OpQ.spec (ms_load_box (a := .r (.int .i64 x4.Col)) rfl ts_3 (.inr ⟨_, (by exact id), rfl⟩) rfl rfl) _) ?_
    refine AOps.stepW (.one rfl rfl rfl) rfl rfl (OpQ.spec (sp_move rfl (.inl rfl)) _) ?_
    refine ob1k h6 fun x6 ex6 h7 => ?_
    refine AOps.stepW (.one rfl rfl rfl) rfl rfl (OpQ.spec (ms_sub rfl (.inr ⟨_, (by exact id), rfl⟩) (.inl rfl) (gdt ex6)) _) ?_
    refine ob1k h7 fun r2 er2 h8 => ?_
    refine AOps.stepW (.one rfl rfl rfl) rfl rfl (sp_call (r := .r (.bool r2)) (caps := []) (bs := [.r (.int .i64 x4.Col), .r (.int .i64 0), .r (.int .i64 x6)]) rfl (.inl rfl) rfl ⟨⟨_, (.inr ⟨_, (by exact id), rfl⟩), .d rfl⟩, ⟨_, (.inl rfl), .d rfl⟩, ⟨_, (.inr ⟨_, (by exact id), rfl⟩), .d rfl⟩, trivial⟩ (fun hg => w_ref_In (gdt er2 hg)) rfl) ?_
    refine AOps.stepW (.one rfl rfl rfl) rfl rfl (OpQ.spec (sp_not rfl (.inr ⟨_, (by exact id), rfl⟩)) _) ?_
    refine AOps.step rfl rfl rfl (OpQ.spec (sp_or rfl (.inl rfl) (.inr ⟨_, (by exact id), rfl⟩)) _) ?_
    refine AOps.step rfl rfl rfl (OpQ.spec (sp_move rfl (.inl rfl)) _) ?_
    refine AOps.stepW (.one rfl rfl rfl) rfl rfl (OpQ.spec (sp_fieldAddr_own (ob := .box _ _ _) rfl tf_60_3 (.inl rfl) (fun _ => rfl) rfl) _) ?_
    refine AOps.stepW (.one rfl rfl rfl) rfl rfl (OpQ.spec (ms_load_box (a := .r (.int .i64 x4.Ref)) rfl ts_3 (.inr ⟨_, (by exact id), rfl⟩) rfl rfl) _) ?_
    refine ob1k h8 fun r3 er3 h9 => ?_
    refine AOps.stepW (.one rfl rfl rfl) rfl rfl (sp_call (r := .r (.bool r3)) (caps := []) (bs := [.r (.int .i64 x4.Ref), .r (.int .i64 0), .r (.int .i64 1073741824)]) rfl (.inl rfl) rfl ⟨⟨_, (.inr ⟨_, (by exact id), rfl⟩), .d rfl⟩, ⟨_, (.inl rfl), .d rfl⟩, ⟨_, (.inl rfl), .d rfl⟩, trivial⟩ (fun hg => w_ref_In (gdt er3 hg)) rfl) ?_
    refine AOps.stepW (.one rfl rfl rfl) rfl rfl (OpQ.spec (sp_not rfl (.inr ⟨_, (by exact id), rfl⟩)) _) ?_
    refine AOps.step rfl rfl rfl (OpQ.spec (sp_or rfl (.inl rfl) (.inr ⟨_, (by exact id), rfl⟩)) _) ?_
    refine AOps.nil ?_
    refine hK11 _ ?_
    refine AW.cond rfl (fun hc2 => ?_) (fun hc2 => ?_)
    · have h10 := ite_t hc2 h9
      refine AW.seq_w fun K12 hK12 wK12 => ?_
      refine AW.weak (s' := ⟨[], [], ((i3 0) + 1), 93⟩) (by exact Weak.cv trivial trivial (Nat.le_refl _)) ?_
      refine AW.region ?_
      refine AOps.step rfl rfl rfl (OpQ.spec (sp_assign rfl (.inl rfl)) _) ?_
      refine AOps.nil ?_
      refine hK12 _ ?_
      refine AW.ret ?_
      exact retf1 (P := Tryd.prog) (fun (r : Int) => .r (.int .i64 r)) (he1 _ (hx1 _ (Option.some.inj h10).symm)) (.inl rfl) (.t (.d rfl))
    · have h10 := ite_f hc2 h9
      refine AW.skip ?_
      refine hK10 _ ?_
      refine AW.seq_w fun K13 hK13 wK13 => ?_
      refine AW.seq_w fun K14 hK14 wK14 => ?_
      refine AW.weak (s' := ⟨[(0, .r (.sl (l1.map GCell.row))), (1, .r (.int .i64 rows1)), (2, .r (.int .i64 cols1)), (3, .r (.bool none1)), (9, .r (.int .i64 x2)), (10, .ptr 10 (i3 0) 0 0), (13, .r (.int .i64 (l1.length : Int))), (14, .r (.int .i64 x2))], [(10, some (.box (i3 0) 60 [.r (.int .i64 x4.Row), .r (.int .i64 x4.Col), .r (.str x4.Text), .r (.int .i64 x4.Ref), .r (.sl (x4.Attrs.map GAttr.row))]))], ((i3 0) + 1), 93⟩) (by exact Weak.cv ⟨.inl (.inl rfl), .inl (.inl rfl), .inl (.inl rfl), .inl (.inl rfl), .inl (.inl rfl), .inl (.inl rfl), .inl (.inl rfl), .inl (.inl rfl), trivial⟩ ⟨.inl rfl, trivial⟩ (Nat.le_refl _)) ?_
      refine AW.region ?_
      refine AOps.step rfl rfl rfl (OpQ.spec (sp_fieldAddr_own (ob := .box _ _ _) rfl tf_60_2 (.inl rfl) (fun _ => rfl) rfl) _) ?_
      refine AOps.step rfl rfl rfl (OpQ.spec (ms_load_box (a := .r (.str x4.Text)) rfl ts_9 (.inl rfl) rfl rfl) _) ?_
      refine ob1k h10 fun r4 er4 h11 => ?_
      refine AOps.step rfl rfl rfl (sp_call (r := .r (.bool r4)) (caps := []) (bs := [.r (.str x4.Text)]) rfl (.inl rfl) rfl ⟨⟨_, (.inl rfl), .d rfl⟩, trivial⟩ (fun _ => w_ref_CellText (er4)) rfl) ?_
      refine AOps.step rfl rfl rfl (OpQ.spec (sp_not rfl (.inl rfl)) _) ?_
      refine AOps.nil ?_
      refine hK14 _ ?_
      refine AW.cond rfl (fun hc3 => ?_) (fun hc3 => ?_)
      · have h12 := ite_t hc3 h11
        refine AW.seq_w fun K15 hK15 wK15 => ?_
        refine AW.weak (s' := ⟨[], [], ((i3 0) + 1), 93⟩) (by exact Weak.cv trivial trivial (Nat.le_refl _)) ?_
        refine AW.region ?_
        refine AOps.step rfl rfl rfl (OpQ.spec (sp_assign rfl (.inl rfl)) _) ?_
        refine AOps.nil ?_
        refine hK15 _ ?_
        refine AW.ret ?_
        exact retf1 (P := Tryd.prog) (fun (r : Int) => .r (.int .i64 r)) (he1 _ (hx1 _ (Option.some.inj h12).symm)) (.inl rfl) (.t (.d rfl))
      · have h12 := ite_f hc3 h11
        refine AW.skip ?_
        refine hK13 _ ?_
        refine AW.seq_w fun K16 hK16 wK16 => ?_
        refine AW.seq_w fun K17 hK17 wK17 => ?_
        refine AW.region ?_
        refine AOps.step rfl rfl rfl (OpQ.spec (sp_fieldAddr_own (ob := .box _ _ _) rfl tf_60_4 (.inl rfl) (fun _ => rfl) rfl) _) ?_
        refine AOps.step rfl rfl rfl (OpQ.spec (ms_load_box (a := .r (.sl (x4.Attrs.map GAttr.row))) rfl ts_27 (.inl rfl) rfl rfl) _) ?_
        refine ob1k h12 fun e1 ee1 h13 => ?_
        refine AOps.step rfl rfl rfl (sp_call (r := .r (.int .i64 e1)) (caps := []) (bs := [.r (.sl (x4.Attrs.map GAttr.row)), .r (.bool false)]) rfl (.inl rfl) rfl ⟨⟨_, (.inl rfl), .d rfl⟩, ⟨_, (.inl rfl), .d rfl⟩, trivial⟩ (fun _ => w_ref_AttrsError (ee1)) rfl) ?_
        refine AOps.step rfl rfl rfl (OpQ.spec (sp_assign rfl (.inl rfl)) _) ?_
        refine AOps.nil ?_
        refine hK17 _ ?_
        refine AW.seq_w fun K18 hK18 wK18 => ?_
        refine AW.region ?_
        refine AOps.step rfl rfl rfl (OpQ.spec (sp_move rfl (.inl rfl)) _) ?_
        refine AOps.step rfl rfl rfl (OpQ.spec (sp_neq rfl (.inl rfl) (.inl rfl)) _) ?_
        refine AOps.nil ?_
        refine hK18 _ ?_
        refine AW.cond rfl (fun hc4 => ?_) (fun hc4 => ?_)
        · have h14 := ite_t hc4 h13
          refine AW.seq_w fun K19 hK19 wK19 => ?_
          refine AW.weak (s' := ⟨[(11, .r (.int .i64 e1))], [], ((i3 0) + 1), 93⟩) (by exact Weak.cv ⟨.inl (.inl rfl), trivial⟩ trivial (Nat.le_refl _)) ?_
          refine AW.region ?_
          refine AOps.step rfl rfl rfl (OpQ.spec (sp_move rfl (.inl rfl)) _) ?_
          refine AOps.step rfl rfl rfl (OpQ.spec (sp_assign rfl (.inl rfl)) _) ?_
          refine AOps.nil ?_
          refine hK19 _ ?_
          refine AW.ret ?_
          exact retf1 (P := Tryd.prog) (fun (r : Int) => .r (.int .i64 r)) (he1 _ (hx1 _ (Option.some.inj h14).symm)) (.inl rfl) (.t (.d rfl))
        · have h14 := ite_f hc4 h13
          refine AW.skip ?_
          refine hK16 _ ?_
          refine AW.seq_w fun K20 hK20 wK20 => ?_
          refine AW.seq_w fun K21 hK21 wK21 => ?_
          refine AW.weak (s' := ⟨[(0, .r (.sl (l1.map GCell.row))), (1, .r (.int .i64 rows1)), (2, .r (.int .i64 cols1)), (3, .r (.bool none1)), (9, .r (.int .i64 x2)), (10, .ptr 10 (i3 0) 0 0), (13, .r (.int .i64 (l1.length : Int))), (14, .r (.int .i64 x2))], [(10, some (.box (i3 0) 60 [.r (.int .i64 x4.Row), .r (.int .i64 x4.Col), .r (.str x4.Text), .r (.int .i64 x4.Ref), .r (.sl (x4.Attrs.map GAttr.row))]))], ((i3 0) + 1), 93⟩) (by exact Weak.cv ⟨.inl (.inl rfl), .inl (.inl rfl), .inl (.inl rfl), .inl (.inl rfl), .inl (.inl rfl), .inl (.inl rfl), .inl (.inl rfl), .inl (.inl rfl), trivial⟩ ⟨.inl rfl, trivial⟩ (Nat.le_refl _)) ?_
          refine AW.region ?_
          refine AOps.step rfl rfl rfl (OpQ.spec (sp_move rfl (.inl rfl)) _) ?_
          refine AOps.step rfl rfl rfl (OpQ.spec (sp_not rfl (.inl rfl)) _) ?_
          refine AOps.step rfl rfl rfl (OpQ.spec (sp_move rfl (.inl rfl)) _) ?_
          refine AOps.stepW (.one rfl rfl rfl) rfl rfl (OpQ.spec (ms_loadA_box rfl ta_60 (.inl rfl) rfl rfl) _) ?_
          refine ob1k h14 fun r5 er5 h15 => ?_
          refine AOps.stepW (.one rfl rfl rfl) rfl rfl (sp_call (r := .r (.bool r5)) (caps := []) (bs := [.agg [.r (.int .i64 x4.Row), .r (.int .i64 x4.Col), .r (.str x4.Text), .r (.int .i64 x4.Ref), .r (.sl (x4.Attrs.map GAttr.row))]]) rfl (.inl rfl) rfl ⟨⟨_, (.inr ⟨_, (by exact id), rfl⟩), .g (cs := [.int .i64 x4.Row, .int .i64 x4.Col, .str x4.Text, .int .i64 x4.Ref, .sl (x4.Attrs.map GAttr.row)]) rfl rfl⟩, trivial⟩ (fun hg => w_ref_EmptyCell (gdt er5 hg)) rfl) ?_
          refine AOps.step rfl rfl rfl (OpQ.spec (sp_and rfl (.inl rfl) (.inr ⟨_, (by exact id), rfl⟩)) _) ?_
          refine AOps.nil ?_
          refine hK21 _ ?_
          refine AW.cond rfl (fun hc5 => ?_) (fun hc5 => ?_)
          · have h16 := ite_t hc5 h15
            refine AW.seq_w fun K22 hK22 wK22 => ?_
            refine AW.weak (s' := ⟨[], [], ((i3 0) + 1), 93⟩) (by exact Weak.cv trivial trivial (Nat.le_refl _)) ?_
            refine AW.region ?_
            refine AOps.step rfl rfl rfl (OpQ.spec (sp_assign rfl (.inl rfl)) _) ?_
            refine AOps.nil ?_
            refine hK22 _ ?_
            refine AW.ret ?_
            exact retf1 (P := Tryd.prog) (fun (r : Int) => .r (.int .i64 r)) (he1 _ (hx1 _ (Option.some.inj h16).symm)) (.inl rfl) (.t (.d rfl))
          · have h16 := ite_f hc5 h15
            refine AW.skip ?_
            refine hK20 _ ?_
            refine AW.seq_w fun K23 hK23 wK23 => ?_
            refine AW.regionQ hmix (by kernel_rfl) ?_
            refine AQ.step rfl rfl rfl (sp_move rfl (.inl rfl)) ?_
            refine AQ.step rfl rfl rfl (sp_gtr rfl (.inl rfl) (.inl rfl)) ?_
            refine AQ.step rfl rfl rfl (sp_move rfl (.inl rfl)) ?_
            refine AQ.stepW (.one rfl rfl rfl) rfl rfl (sp_fieldAddr_own (ob := .box _ _ _) rfl tf_60_0 (.inl rfl) (fun _ => rfl) rfl) ?_
            refine AQ.stepW (.one rfl rfl rfl) rfl rfl (ms_load_box (a := .r (.int .i64 x4.Row)) rfl ts_3 (.inr ⟨_, (by exact id), rfl⟩) rfl rfl) ?_
            refine AQ.stepW (.one rfl rfl rfl) rfl rfl (sp_move rfl (.inl rfl)) ?_
            refine AQ.stepW (.one rfl rfl rfl) rfl rfl (sp_move rfl (.inl rfl)) ?_
            refine ob1k h16 fun x7 ex7 h17 => ?_
            refine AQ.stepW (.one rfl rfl rfl) rfl rfl (ms_sub rfl (.inr ⟨_, (by exact id), rfl⟩) (.inl rfl) (gdt ex7)) ?_
            refine ob1k h17 fun x8 ex8 h18 => ?_
            refine AQ.stepW (.one rfl rfl rfl) rfl rfl (ms_idx rfl tg_29.slice (.inr ⟨_, (by exact id), rfl⟩) (.inr ⟨_, (by exact id), rfl⟩) (fun _ => rfl) (gdt ex8)) ?_
            refine AQ.stepW (.one rfl rfl rfl) rfl rfl (sp_fieldAddr_ro rfl tf_60_0 (.inr ⟨_, (by exact id), rfl⟩)) ?_
            refine AQ.stepW (.one rfl rfl rfl) rfl rfl (ms_load (d := .int .i64 x8.Row) rfl ts_3 (.inr ⟨_, (by exact id), rfl⟩) rfl) ?_
            refine AQ.stepW (.one rfl rfl rfl) rfl rfl (sp_lss rfl (.inr ⟨_, (by exact id), rfl⟩) (.inr ⟨_, (by exact id), rfl⟩)) ?_
            refine AQ.stepW (.one rfl rfl rfl) rfl rfl (sp_move rfl (.inr ⟨_, (by exact id), rfl⟩)) ?_
            refine AQ.stepW (.two rfl rfl rfl) rfl rfl (sp_fieldAddr_own (ob := .box _ _ _) rfl tf_60_0 (.inl rfl) (fun _ => rfl) rfl) ?_
            refine AQ.stepW (.two rfl rfl rfl) rfl rfl (ms_load_box (a := .r (.int .i64 x4.Row)) rfl ts_3 (.inr ⟨_, (by exact id), rfl⟩) rfl rfl) ?_
            refine AQ.stepW (.two rfl rfl rfl) rfl rfl (sp_move rfl (.inl rfl)) ?_
            refine AQ.stepW (.two rfl rfl rfl) rfl rfl (sp_move rfl (.inl rfl)) ?_
            refine AQ.stepW (.two rfl rfl rfl) rfl rfl (ms_sub rfl (.inr ⟨_, (by exact id), rfl⟩) (.inl rfl) (fun h => gdt ex7 (Bool.and_eq_true_iff.1 h).1)) ?_
            refine AQ.stepW (.two rfl rfl rfl) rfl rfl (ms_idx rfl tg_29.slice (.inr ⟨_, (by exact id), rfl⟩) (.inr ⟨_, (by exact id), rfl⟩) (fun _ => rfl) (fun h => gdt ex8 (Bool.and_eq_true_iff.1 h).1)) ?_
            refine AQ.stepW (.two rfl rfl rfl) rfl rfl (sp_fieldAddr_ro rfl tf_60_0 (.inr ⟨_, (by exact id), rfl⟩)) ?_
            refine AQ.stepW (.two rfl rfl rfl) rfl rfl (ms_load (d := .int .i64 x8.Row) rfl ts_3 (.inr ⟨_, (by exact id), rfl⟩) rfl) ?_
            refine AQ.stepW (.two rfl rfl rfl) rfl rfl (sp_eql rfl (.inr ⟨_, (by exact id), rfl⟩) (.inr ⟨_, (by exact id), rfl⟩)) ?_
            refine AQ.stepW (.two rfl rfl rfl) rfl rfl (sp_move rfl (.inr ⟨_, (by exact id), rfl⟩)) ?_
            refine AQ.stepW (.two rfl rfl rfl) rfl rfl (sp_fieldAddr_own (ob := .box _ _ _) rfl tf_60_1 (.inl rfl) (fun _ => rfl) rfl) ?_
            refine AQ.stepW (.two rfl rfl rfl) rfl rfl (ms_load_box (a := .r (.int .i64 x4.Col)) rfl ts_3 (.inr ⟨_, (by exact id), rfl⟩) rfl rfl) ?_
            refine AQ.stepW (.two rfl rfl rfl) rfl rfl (sp_move rfl (.inl rfl)) ?_
            refine AQ.stepW (.two rfl rfl rfl) rfl rfl (sp_move rfl (.inl rfl)) ?_
            refine ob1k h18 fun x9 ex9 h19 => ?_
            refine AQ.stepW (.two rfl rfl rfl) rfl rfl (ms_sub rfl (.inr ⟨_, (by exact id), rfl⟩) (.inl rfl) (gdt ex9)) ?_
            refine ob1k h19 fun x10 ex10 h20 => ?_
            refine AQ.stepW (.two rfl rfl rfl) rfl rfl (ms_idx rfl tg_29.slice (.inr ⟨_, (by exact id), rfl⟩) (.inr ⟨_, (by exact id), rfl⟩) (fun _ => rfl) (gdt ex10)) ?_
            refine AQ.stepW (.two rfl rfl rfl) rfl rfl (sp_fieldAddr_ro rfl tf_60_1 (.inr ⟨_, (by exact id), rfl⟩)) ?_
            refine AQ.stepW (.two rfl rfl rfl) rfl rfl (ms_load (d := .int .i64 x10.Col) rfl ts_3 (.inr ⟨_, (by exact id), rfl⟩) rfl) ?_
            refine AQ.stepW (.two rfl rfl rfl) rfl rfl (sp_leq rfl (.inr ⟨_, (by exact id), rfl⟩) (.inr ⟨_, (by exact id), rfl⟩)) ?_
            refine AQ.stepW (.two rfl rfl rfl) rfl rfl (sp_and rfl (.inr ⟨_, (by exact id), rfl⟩) (.inr ⟨_, (by exact id), rfl⟩)) ?_
            refine AQ.stepW (.one rfl rfl rfl) rfl rfl (sp_or rfl (.inr ⟨_, (by exact id), rfl⟩) (.inr ⟨_, (by exact id), rfl⟩)) ?_
            refine AQ.step rfl rfl rfl (sp_and rfl (.inl rfl) (.inr ⟨_, (by exact id), rfl⟩)) ?_
            refine AQ.nil ?_
            refine hK23 _ ?_
            refine AW.cond rfl (fun hc6 => ?_) (fun hc6 => ?_)
            · have h21 := ite_t hc6 h20
              refine AW.seq_w fun K24 hK24 wK24 => ?_
              refine AW.weak (s' := ⟨[], [], ((i3 0) + 1), 93⟩) (by exact Weak.cv trivial trivial (Nat.le_refl _)) ?_
              refine AW.region ?_
              refine AOps.step rfl rfl rfl (OpQ.spec (sp_assign rfl (.inl rfl)) _) ?_
              refine AOps.nil ?_
              refine hK24 _ ?_
              refine AW.ret ?_
              exact retf1 (P := Tryd.prog) (fun (r : Int) => .r (.int .i64 r)) (he1 _ (hx1 _ (Option.some.inj h21).symm)) (.inl rfl) (.t (.d rfl))
            · have h21 := ite_f hc6 h20
              refine AW.skip ?_
              refine hK7 _ ?_
              refine AW.weak (s' := ⟨[(0, .r (.sl (l1.map GCell.row))), (1, .r (.int .i64 rows1)), (2, .r (.int .i64 cols1)), (3, .r (.bool none1)), (13, .r (.int .i64 (l1.length : Int))), (14, .r (.int .i64 x2))], [], ((i3 0) + 1), 93⟩) (by exact Weak.cv ⟨.inl (.inl rfl), .inl (.inl rfl), .inl (.inl rfl), .inl (.inl rfl), .inl (.inl rfl), .inl (.inl rfl), trivial⟩ trivial (Nat.le_refl _)) ?_
              refine AW.region ?_
              refine ob1k h21 fun x11 ex11 h22 => ?_
              refine AOps.step rfl rfl rfl (OpQ.spec (ms_add rfl (.inl rfl) (.inl rfl) (fun _ => ex11)) _) ?_
              refine AOps.step rfl rfl rfl (OpQ.spec (sp_move rfl (.inl rfl)) _) ?_
              refine AOps.nil ?_
              exact NextQ1.mk h22 (vec [((i3 0) + 1)]) ((by exact Weak.cv ⟨.inl (.inl rfl), .inl (.inl rfl), .inl (.inl rfl), .inl (.inl rfl), .inl (.inl rfl), .inl (.inl rfl), trivial⟩ trivial (Nat.le_refl _)))
  · have h3 := ite_f hc1 h2
    refine AW.exit ?_
    exact wK2 _ _ ((by exact Weak.cv trivial trivial (Nat.le_refl _))) (J1 _ (vec [(i3 0)]) (hx1 _ (Option.some.inj h3).symm))
set_option maxHeartbeats 4000000 in
set_option maxRecDepth 20000 in
theorem w_ref_Lies {r1 : GRect} {rows1 : Int} {cols1 : Int} {r : Bool} (h : ref_Lies r1 rows1 cols1 = some r) : ARO Tryd.prog 73 [.agg [.r (.int .i64 r1.Row), .r (.int .i64 r1.Col), .r (.int .i64 r1.H), .r (.int .i64 r1.W)], .r (.int .i64 rows1), .r (.int .i64 cols1)] (.r (.bool r)) := by
  unfold ref_Lies at h
  refine ARO.mkF Tryd.func73 rfl rfl Tryd.ntmps73 rfl (Nat.le_of_ble_eq_true rfl) fun n0 => ?_
  refine AW.seq_w fun K1 hK1 wK1 => ?_
  refine AW.region ?_
  refine AOps.step rfl rfl rfl (ms_box (cs := [.r (.int .i64 r1.Row), .r (.int .i64 r1.Col), .r (.int .i64 r1.H), .r (.int .i64 r1.W)]) 3 rfl (.inl rfl) rfl rfl) ?_
  refine AOps.step rfl rfl rfl (OpQ.spec (sp_assign rfl (.inl rfl)) _) ?_
  refine AOps.nil ?_
  refine hK1 _ ?_
  refine AW.seq_w fun K2 hK2 wK2 => ?_
  refine AW.region ?_
  refine AOps.step rfl rfl rfl (OpQ.spec (sp_fieldAddr_own (ob := .box _ _ _) rfl tf_64_0 (.inl rfl) (fun _ => rfl) rfl) _) ?_
  refine AOps.step rfl rfl rfl (OpQ.spec (ms_load_box (a := .r (.int .i64 r1.Row)) rfl ts_3 (.inl rfl) rfl rfl) _) ?_
  refine AOps.step rfl rfl rfl (OpQ.spec (sp_move rfl (.inl rfl)) _) ?_
  refine ob1k h fun x1 ex1 h1 => ?_
  refine AOps.step rfl rfl rfl (OpQ.spec (ms_sub rfl (.inl rfl) (.inl rfl) (fun _ => ex1)) _) ?_
  refine ob1k h1 fun r2 er2 h2 => ?_
  refine AOps.step rfl rfl rfl (sp_call (r := .r (.bool r2)) (caps := []) (bs := [.r (.int .i64 r1.Row), .r (.int .i64 0), .r (.int .i64 x1)]) rfl (.inl rfl) rfl ⟨⟨_, (.inl rfl), .d rfl⟩, ⟨_, (.inl rfl), .d rfl⟩, ⟨_, (.inl rfl), .d rfl⟩, trivial⟩ (fun _ => w_ref_In (er2)) rfl) ?_
  refine AOps.step rfl rfl rfl (OpQ.spec (sp_move rfl (.inl rfl)) _) ?_
  refine AOps.stepW (.one rfl rfl rfl) rfl rfl (OpQ.spec (sp_fieldAddr_own (ob := .box _ _ _) rfl tf_64_1 (.inl rfl) (fun _ => rfl) rfl) _) ?_
  refine AOps.stepW (.one rfl rfl rfl) rfl rfl (OpQ.spec (ms_load_box (a := .r (.int .i64 r1.Col)) rfl ts_3 (.inr ⟨_, (by exact id), rfl⟩) rfl rfl) _) ?_
  refine AOps.stepW (.one rfl rfl rfl) rfl rfl (OpQ.spec (sp_move rfl (.inl rfl)) _) ?_
  refine ob1k h2 fun x2 ex2 h3 => ?_
  refine AOps.stepW (.one rfl rfl rfl) rfl rfl (OpQ.spec (ms_sub rfl (.inr ⟨_, (by exact id), rfl⟩) (.inl rfl) (gdt ex2)) _) ?_
  refine ob1k h3 fun r3 er3 h4 => ?_
  refine AOps.stepW (.one rfl rfl rfl) rfl rfl (sp_call (r := .r (.bool r3)) (caps := []) (bs := [.r (.int .i64 r1.Col), .r (.int .i64 0), .r (.int .i64 x2)]) rfl (.inl rfl) rfl ⟨⟨_, (.inr ⟨_, (by exact id), rfl⟩), .d rfl⟩, ⟨_, (.inl rfl), .d rfl⟩, ⟨_, (.inr ⟨_, (by exact id), rfl⟩), .d rfl⟩, trivial⟩ (fun hg => w_ref_In (gdt er3 hg)) rfl) ?_
  refine AOps.step rfl rfl rfl (OpQ.spec (sp_and rfl (.inl rfl) (.inr ⟨_, (by exact id), rfl⟩)) _) ?_
  refine AOps.step rfl rfl rfl (OpQ.spec (sp_move rfl (.inl rfl)) _) ?_
  refine AOps.stepW (.one rfl rfl rfl) rfl rfl (OpQ.spec (sp_fieldAddr_own (ob := .box _ _ _) rfl tf_64_2 (.inl rfl) (fun _ => rfl) rfl) _) ?_
  refine AOps.stepW (.one rfl rfl rfl) rfl rfl (OpQ.spec (ms_load_box (a := .r (.int .i64 r1.H)) rfl ts_3 (.inr ⟨_, (by exact id), rfl⟩) rfl rfl) _) ?_
  refine AOps.stepW (.one rfl rfl rfl) rfl rfl (OpQ.spec (sp_move rfl (.inl rfl)) _) ?_
  refine AOps.stepW (.one rfl rfl rfl) rfl rfl (OpQ.spec (sp_fieldAddr_own (ob := .box _ _ _) rfl tf_64_0 (.inl rfl) (fun _ => rfl) rfl) _) ?_
  refine AOps.stepW (.one rfl rfl rfl) rfl rfl (OpQ.spec (ms_load_box (a := .r (.int .i64 r1.Row)) rfl ts_3 (.inr ⟨_, (by exact id), rfl⟩) rfl rfl) _) ?_
  refine ob1k h4 fun x3 ex3 h5 => ?_
  refine AOps.stepW (.one rfl rfl rfl) rfl rfl (OpQ.spec (ms_sub rfl (.inr ⟨_, (by exact id), rfl⟩) (.inr ⟨_, (by exact id), rfl⟩) (gdt ex3)) _) ?_
  refine ob1k h5 fun r4 er4 h6 => ?_
  refine AOps.stepW (.one rfl rfl rfl) rfl rfl (sp_call (r := .r (.bool r4)) (caps := []) (bs := [.r (.int .i64 r1.H), .r (.int .i64 1), .r (.int .i64 x3)]) rfl (.inl rfl) rfl ⟨⟨_, (.inr ⟨_, (by exact id), rfl⟩), .d rfl⟩, ⟨_, (.inl rfl), .d rfl⟩, ⟨_, (.inr ⟨_, (by exact id), rfl⟩), .d rfl⟩, trivial⟩ (fun hg => w_ref_In (gdt er4 hg)) rfl) ?_
  refine AOps.step rfl rfl rfl (OpQ.spec (sp_and rfl (.inl rfl) (.inr ⟨_, (by exact id), rfl⟩)) _) ?_
  refine AOps.step rfl rfl rfl (OpQ.spec (sp_move rfl (.inl rfl)) _) ?_
  refine AOps.stepW (.one rfl rfl rfl) rfl rfl (OpQ.spec (sp_fieldAddr_own (ob := .box _ _ _) rfl tf_64_3 (.inl rfl) (fun _ => rfl) rfl) _) ?_
  refine AOps.stepW (.one rfl rfl rfl) rfl rfl (OpQ.spec (ms_load_box (a := .r (.int .i64 r1.W)) rfl ts_3 (.inr ⟨_, (by exact id), rfl⟩) rfl rfl) _) ?_
  refine AOps.stepW (.one rfl rfl rfl) rfl rfl (OpQ.spec (sp_move rfl (.inl rfl)) _) ?_
  refine AOps.stepW (.one rfl rfl rfl) rfl rfl (OpQ.spec (sp_fieldAddr_own (ob := .box _ _ _) rfl tf_64_1 (.inl rfl) (fun _ => rfl) rfl) _) ?_
  refine AOps.stepW (.one rfl rfl rfl) rfl rfl (OpQ.spec (ms_load_box (a := .r (.int .i64 r1.Col)) rfl ts_3 (.inr ⟨_, (by exact id), rfl⟩) rfl rfl) _) ?_
  refine ob1k h6 fun x4 ex4 h7 => ?_
  refine AOps.stepW (.one rfl rfl rfl) rfl rfl (OpQ.spec (ms_sub rfl (.inr ⟨_, (by exact id), rfl⟩) (.inr ⟨_, (by exact id), rfl⟩) (gdt ex4)) _) ?_
  refine ob1k h7 fun r5 er5 h8 => ?_
  refine AOps.stepW (.one rfl rfl rfl) rfl rfl (sp_call (r := .r (.bool r5)) (caps := []) (bs := [.r (.int .i64 r1.W), .r (.int .i64 1), .r (.int .i64 x4)]) rfl (.inl rfl) rfl ⟨⟨_, (.inr ⟨_, (by exact id), rfl⟩), .d rfl⟩, ⟨_, (.inl rfl), .d rfl⟩, ⟨_, (.inr ⟨_, (by exact id), rfl⟩), .d rfl⟩, trivial⟩ (fun hg => w_ref_In (gdt er5 hg)) rfl) ?_
  refine AOps.step rfl rfl rfl (OpQ.spec (sp_and rfl (.inl rfl) (.inr ⟨_, (by exact id), rfl⟩)) _) ?_
  refine AOps.step rfl rfl rfl (OpQ.spec (sp_assign rfl (.inl rfl)) _) ?_
  refine AOps.nil ?_
  refine hK2 _ ?_
  refine AW.ret ?_
  exact retf1 (P := Tryd.prog) (fun (r : Bool) => .r (.bool r)) h8 (.inl rfl) (.t (.d rfl))
set_option maxHeartbeats 4000000 in
set_option maxRecDepth 20000 in
theorem w_ref_Share {a1 : GRect} {b1 : GRect} {r : Bool} (h : ref_Share a1 b1 = some r) : ARO Tryd.prog 74 [.agg [.r (.int .i64 a1.Row), .r (.int .i64 a1.Col), .r (.int .i64 a1.H), .r (.int .i64 a1.W)], .agg [.r (.int .i64 b1.Row), .r (.int .i64 b1.Col), .r (.int .i64 b1.H), .r (.int .i64 b1.W)]] (.r (.bool r)) := by
  unfold ref_Share at h
  refine ARO.mkF Tryd.func74 rfl rfl Tryd.ntmps74 rfl (Nat.le_of_ble_eq_true rfl) fun n0 => ?_
  refine AW.seq_w fun K1 hK1 wK1 => ?_
  refine AW.region ?_
  refine AOps.step rfl rfl rfl (ms_box (cs := [.r (.int .i64 a1.Row), .r (.int .i64 a1.Col), .r (.int .i64 a1.H), .r (.int .i64 a1.W)]) 2 rfl (.inl rfl) rfl rfl) ?_
  refine AOps.step rfl rfl rfl (ms_box (cs := [.r (.int .i64 b1.Row), .r (.int .i64 b1.Col), .r (.int .i64 b1.H), .r (.int .i64 b1.W)]) 3 rfl (.inl rfl) rfl rfl) ?_
  refine AOps.step rfl rfl rfl (OpQ.spec (sp_assign rfl (.inl rfl)) _) ?_
  refine AOps.nil ?_
  refine hK1 _ ?_
  refine AW.seq_w fun K2 hK2 wK2 => ?_
  refine AW.regionQ hmix (by kernel_rfl) ?_
  refine AQ.step rfl rfl rfl (sp_fieldAddr_own (ob := .box _ _ _) rfl tf_64_0 (.inl rfl) (fun _ => rfl) rfl) ?_
  refine AQ.step rfl rfl rfl (ms_load_box (a := .r (.int .i64 a1.Row)) rfl ts_3 (.inl rfl) rfl rfl) ?_
  refine AQ.step rfl rfl rfl (sp_fieldAddr_own (ob := .box _ _ _) rfl tf_64_0 (.inl rfl) (fun _ => rfl) rfl) ?_
  refine AQ.step rfl rfl rfl (ms_load_box (a := .r (.int .i64 b1.Row)) rfl ts_3 (.inl rfl) rfl rfl) ?_
  refine AQ.step rfl rfl rfl (sp_max rfl (.inl rfl) (.inl rfl)) ?_
  refine AQ.step rfl rfl rfl (sp_fieldAddr_own (ob := .box _ _ _) rfl tf_64_1 (.inl rfl) (fun _ => rfl) rfl) ?_
  refine AQ.step rfl rfl rfl (ms_load_box (a := .r (.int .i64 a1.Col)) rfl ts_3 (.inl rfl) rfl rfl) ?_
  refine AQ.step rfl rfl rfl (sp_fieldAddr_own (ob := .box _ _ _) rfl tf_64_1 (.inl rfl) (fun _ => rfl) rfl) ?_
  refine AQ.step rfl rfl rfl (ms_load_box (a := .r (.int .i64 b1.Col)) rfl ts_3 (.inl rfl) rfl rfl) ?_
  refine AQ.step rfl rfl rfl (sp_max rfl (.inl rfl) (.inl rfl)) ?_
  refine AQ.step rfl rfl rfl (sp_assign rfl (.inl rfl)) ?_
  refine AQ.step rfl rfl rfl (sp_assign rfl (.inl rfl)) ?_
  refine AQ.nil ?_
  refine hK2 _ ?_
  refine AW.seq_w fun K3 hK3 wK3 => ?_
  refine AW.weak (s' := ⟨[(2, .ptr 2 n0 0 0), (3, .ptr 3 (n0 + 1) 0 0), (5, .r (.int .i64 (max a1.Row b1.Row))), (6, .r (.int .i64 (max a1.Col b1.Col)))], [(2, some (.box n0 64 [.r (.int .i64 a1.Row), .r (.int .i64 a1.Col), .r (.int .i64 a1.H), .r (.int .i64 a1.W)])), (3, some (.box (n0 + 1) 64 [.r (.int .i64 b1.Row), .r (.int .i64 b1.Col), .r (.int .i64 b1.H), .r (.int .i64 b1.W)]))], (n0 + 2), 45⟩) (by exact Weak.cv ⟨.inl (.inl rfl), .inl (.inl rfl), .inl (.inl rfl), .inl (.inl rfl), trivial⟩ ⟨.inl rfl, .inl rfl, trivial⟩ (Nat.le_refl _)) ?_
  refine AW.region ?_
  refine AOps.step rfl rfl rfl (OpQ.spec (sp_move rfl (.inl rfl)) _) ?_
  refine AOps.step rfl rfl rfl (OpQ.spec (sp_fieldAddr_own (ob := .box _ _ _) rfl tf_64_0 (.inl rfl) (fun _ => rfl) rfl) _) ?_
  refine AOps.step rfl rfl rfl (OpQ.spec (ms_load_box (a := .r (.int .i64 a1.Row)) rfl ts_3 (.inl rfl) rfl rfl) _) ?_
  refine AOps.step rfl rfl rfl (OpQ.spec (sp_fieldAddr_own (ob := .box _ _ _) rfl tf_64_2 (.inl rfl) (fun _ => rfl) rfl) _) ?_
  refine AOps.step rfl rfl rfl (OpQ.spec (ms_load_box (a := .r (.int .i64 a1.H)) rfl ts_3 (.inl rfl) rfl rfl) _) ?_
  refine ob1k h fun x1 ex1 h1 => ?_
  refine AOps.step rfl rfl rfl (OpQ.spec (ms_add rfl (.inl rfl) (.inl rfl) (fun _ => ex1)) _) ?_
  refine AOps.step rfl rfl rfl (OpQ.spec (sp_fieldAddr_own (ob := .box _ _ _) rfl tf_64_0 (.inl rfl) (fun _ => rfl) rfl) _) ?_
  refine AOps.step rfl rfl rfl (OpQ.spec (ms_load_box (a := .r (.int .i64 b1.Row)) rfl ts_3 (.inl rfl) rfl rfl) _) ?_
  refine AOps.step rfl rfl rfl (OpQ.spec (sp_fieldAddr_own (ob := .box _ _ _) rfl tf_64_2 (.inl rfl) (fun _ => rfl) rfl) _) ?_
  refine AOps.step rfl rfl rfl (OpQ.spec (ms_load_box (a := .r (.int .i64 b1.H)) rfl ts_3 (.inl rfl) rfl rfl) _) ?_
  refine ob1k h1 fun x2 ex2 h2 => ?_
  refine AOps.step rfl rfl rfl (OpQ.spec (ms_add rfl (.inl rfl) (.inl rfl) (fun _ => ex2)) _) ?_
  refine AOps.step rfl rfl rfl (OpQ.spec (sp_min rfl (.inl rfl) (.inl rfl)) _) ?_
  refine AOps.step rfl rfl rfl (OpQ.spec (sp_lss rfl (.inl rfl) (.inl rfl)) _) ?_
  refine AOps.step rfl rfl rfl (OpQ.spec (sp_move rfl (.inl rfl)) _) ?_
  refine AOps.stepW (.one rfl rfl rfl) rfl rfl (OpQ.spec (sp_move rfl (.inl rfl)) _) ?_
  refine AOps.stepW (.one rfl rfl rfl) rfl rfl (OpQ.spec (sp_fieldAddr_own (ob := .box _ _ _) rfl tf_64_1 (.inl rfl) (fun _ => rfl) rfl) _) ?_
  refine AOps.stepW (.one rfl rfl rfl) rfl rfl (OpQ.spec (ms_load_box (a := .r (.int .i64 a1.Col)) rfl ts_3 (.inr ⟨_, (by exact id), rfl⟩) rfl rfl) _) ?_
  refine AOps.stepW (.one rfl rfl rfl) rfl rfl (OpQ.spec (sp_fieldAddr_own (ob := .box _ _ _) rfl tf_64_3 (.inl rfl) (fun _ => rfl) rfl) _) ?_
  refine AOps.stepW (.one rfl rfl rfl) rfl rfl (OpQ.spec (ms_load_box (a := .r (.int .i64 a1.W)) rfl ts_3 (.inr ⟨_, (by exact id), rfl⟩) rfl rfl) _) ?_
  refine ob1k h2 fun x3 ex3 h3 => ?_
  refine AOps.stepW (.one rfl rfl rfl) rfl rfl (OpQ.spec (ms_add rfl (.inr ⟨_, (by exact id), rfl⟩) (.inr ⟨_, (by exact id), rfl⟩) (gdt ex3)) _) ?_
  refine AOps.stepW (.one rfl rfl rfl) rfl rfl (OpQ.spec (sp_fieldAddr_own (ob := .box _ _ _) rfl tf_64_1 (.inl rfl) (fun _ => rfl) rfl) _) ?_
  refine AOps.stepW (.one rfl rfl rfl) rfl rfl (OpQ.spec (ms_load_box (a := .r (.int .i64 b1.Col)) rfl ts_3 (.inr ⟨_, (by exact id), rfl⟩) rfl rfl) _) ?_
  refine AOps.stepW (.one rfl rfl rfl) rfl rfl (OpQ.spec (sp_fieldAddr_own (ob := .box _ _ _) rfl tf_64_3 (.inl rfl) (fun _ => rfl) rfl) _) ?_
  refine AOps.stepW (.one rfl rfl rfl) rfl rfl (OpQ.spec (ms_load_box (a := .r (.int .i64 b1.W)) rfl ts_3 (.inr ⟨_, (by exact id), rfl⟩) rfl rfl) _) ?_
  refine ob1k h3 fun x4 ex4 h4 => ?_
  refine AOps.stepW (.one rfl rfl rfl) rfl rfl (OpQ.spec (ms_add rfl (.inr ⟨_, (by exact id), rfl⟩) (.inr ⟨_, (by exact id), rfl⟩) (gdt ex4)) _) ?_
  refine AOps.stepW (.one rfl rfl rfl) rfl rfl (OpQ.spec (sp_min rfl (.inr ⟨_, (by exact id), rfl⟩) (.inr ⟨_, (by exact id), rfl⟩)) _) ?_
  refine AOps.stepW (.one rfl rfl rfl) rfl rfl (OpQ.spec (sp_lss rfl (.inr ⟨_, (by exact id), rfl⟩) (.inr ⟨_, (by exact id), rfl⟩)) _) ?_
  refine AOps.step rfl rfl rfl (OpQ.spec (sp_and rfl (.inl rfl) (.inr ⟨_, (by exact id), rfl⟩)) _) ?_
  refine AOps.step rfl rfl rfl (OpQ.spec (sp_assign rfl (.inl rfl)) _) ?_
  refine AOps.nil ?_
  refine hK3 _ ?_
  refine AW.ret ?_
  exact retf1 (P := Tryd.prog) (fun (r : Bool) => .r (.bool r)) h4 (.inl rfl) (.t (.d rfl))
set_option maxHeartbeats 4000000 in
set_option maxRecDepth 20000 in
theorem w_ref_GridError {g1 : GGrid} {r : Int} (h : ref_GridError g1 = some r) : ARO Tryd.prog 23 [.agg [.r (.int .i64 g1.Rows), .r (.int .i64 g1.Cols), .r (.sl (g1.Cells.map GCell.row)), .r (.sl (g1.Merges.map GRect.row))]] (.r (.int .i64 r)) := by
  unfold ref_GridError at h
  refine ARO.mkF Tryd.func23 rfl rfl Tryd.ntmps23 rfl (Nat.le_of_ble_eq_true rfl) fun n0 => ?_
  refine AW.seq_w fun K1 hK1 wK1 => ?_
  refine AW.region ?_
  refine AOps.step rfl rfl rfl (ms_box (cs := [.r (.int .i64 g1.Rows), .r (.int .i64 g1.Cols), .r (.sl (g1.Cells.map GCell.row)), .r (.sl (g1.Merges.map GRect.row))]) 1 rfl (.inl rfl) rfl rfl) ?_
  refine AOps.step rfl rfl rfl (OpQ.spec (sp_assign rfl (.inl rfl)) _) ?_
  refine AOps.nil ?_
  refine hK1 _ ?_
  refine AW.seq_w fun K2 hK2 wK2 => ?_
  refine AW.seq_w fun K3 hK3 wK3 => ?_
  refine AW.region ?_
  refine AOps.step rfl rfl rfl (OpQ.spec (sp_fieldAddr_own (ob := .box _ _ _) rfl tf_32_0 (.inl rfl) (fun _ => rfl) rfl) _) ?_
  refine AOps.step rfl rfl rfl (OpQ.spec (ms_load_box (a := .r (.int .i64 g1.Rows)) rfl ts_3 (.inl rfl) rfl rfl) _) ?_
  refine ob1k h fun r1 er1 h1 => ?_
  refine AOps.step rfl rfl rfl (sp_call (r := .r (.bool r1)) (caps := []) (bs := [.r (.int .i64 g1.Rows), .r (.int .i64 0), .r (.int .i64 2147483647)]) rfl (.inl rfl) rfl ⟨⟨_, (.inl rfl), .d rfl⟩, ⟨_, (.inl rfl), .d rfl⟩, ⟨_, (.inl rfl), .d rfl⟩, trivial⟩ (fun _ => w_ref_In (er1)) rfl) ?_
  refine AOps.step rfl rfl rfl (OpQ.spec (sp_not rfl (.inl rfl)) _) ?_
  refine AOps.step rfl rfl rfl (OpQ.spec (sp_move rfl (.inl rfl)) _) ?_
  refine AOps.stepW (.one rfl rfl rfl) rfl rfl (OpQ.spec (sp_fieldAddr_own (ob := .box _ _ _) rfl tf_32_1 (.inl rfl) (fun _ => rfl) rfl) _) ?_
  refine AOps.stepW (.one rfl rfl rfl) rfl rfl (OpQ.spec (ms_load_box (a := .r (.int .i64 g1.Cols)) rfl ts_3 (.inr ⟨_, (by exact id), rfl⟩) rfl rfl) _) ?_
  refine ob1k h1 fun r2 er2 h2 => ?_
  refine AOps.stepW (.one rfl rfl rfl) rfl rfl (sp_call (r := .r (.bool r2)) (caps := []) (bs := [.r (.int .i64 g1.Cols), .r (.int .i64 0), .r (.int .i64 2147483647)]) rfl (.inl rfl) rfl ⟨⟨_, (.inr ⟨_, (by exact id), rfl⟩), .d rfl⟩, ⟨_, (.inl rfl), .d rfl⟩, ⟨_, (.inl rfl), .d rfl⟩, trivial⟩ (fun hg => w_ref_In (gdt er2 hg)) rfl) ?_
  refine AOps.stepW (.one rfl rfl rfl) rfl rfl (OpQ.spec (sp_not rfl (.inr ⟨_, (by exact id), rfl⟩)) _) ?_
  refine AOps.step rfl rfl rfl (OpQ.spec (sp_or rfl (.inl rfl) (.inr ⟨_, (by exact id), rfl⟩)) _) ?_
  refine AOps.nil ?_
  refine hK3 _ ?_
  refine AW.cond rfl (fun hc1 => ?_) (fun hc1 => ?_)
  · have h3 := ite_t hc1 h2
    refine AW.seq_w fun K4 hK4 wK4 => ?_
    refine AW.weak (s' := ⟨[], [], (n0 + 1), 104⟩) (by exact Weak.cv trivial trivial (Nat.le_refl _)) ?_
    refine AW.region ?_
    refine AOps.step rfl rfl rfl (OpQ.spec (sp_assign rfl (.inl rfl)) _) ?_
    refine AOps.nil ?_
    refine hK4 _ ?_
    refine AW.ret ?_
    exact retf1 (P := Tryd.prog) (fun (r : Int) => .r (.int .i64 r)) h3 (.inl rfl) (.t (.d rfl))
  · have h3 := ite_f hc1 h2
    refine AW.skip ?_
    refine hK2 _ ?_
    refine AW.seq_w fun K5 hK5 wK5 => ?_
    refine AW.seq_w fun K6 hK6 wK6 => ?_
    refine AW.weak (s' := ⟨[(1, .ptr 1 n0 0 0)], [(1, some (.box n0 32 [.r (.int .i64 g1.Rows), .r (.int .i64 g1.Cols), .r (.sl (g1.Cells.map GCell.row)), .r (.sl (g1.Merges.map GRect.row))]))], (n0 + 1), 104⟩) (by exact Weak.cv ⟨.inl (.inl rfl), trivial⟩ ⟨.inl rfl, trivial⟩ (Nat.le_refl _)) ?_
    refine AW.region ?_
    refine AOps.step rfl rfl rfl (OpQ.spec (sp_fieldAddr_own (ob := .box _ _ _) rfl tf_32_2 (.inl rfl) (fun _ => rfl) rfl) _) ?_
    refine AOps.step rfl rfl rfl (OpQ.spec (ms_load_box (a := .r (.sl (g1.Cells.map GCell.row))) rfl ts_29 (.inl rfl) rfl rfl) _) ?_
    refine AOps.step rfl rfl rfl (OpQ.spec (sp_fieldAddr_own (ob := .box _ _ _) rfl tf_32_0 (.inl rfl) (fun _ => rfl) rfl) _) ?_
    refine AOps.step rfl rfl rfl (OpQ.spec (ms_load_box (a := .r (.int .i64 g1.Rows)) rfl ts_3 (.inl rfl) rfl rfl) _) ?_
    refine AOps.step rfl rfl rfl (OpQ.spec (sp_fieldAddr_own (ob := .box _ _ _) rfl tf_32_1 (.inl rfl) (fun _ => rfl) rfl) _) ?_
    refine AOps.step rfl rfl rfl (OpQ.spec (ms_load_box (a := .r (.int .i64 g1.Cols)) rfl ts_3 (.inl rfl) rfl rfl) _) ?_
    refine ob1k h3 fun e1 ee1 h4 => ?_
    refine AOps.step rfl rfl rfl (sp_call (r := .r (.int .i64 e1)) (caps := []) (bs := [.r (.sl (g1.Cells.map GCell.row)), .r (.int .i64 g1.Rows), .r (.int .i64 g1.Cols), .r (.bool false)]) rfl (.inl rfl) rfl ⟨⟨_, (.inl rfl), .d rfl⟩, ⟨_, (.inl rfl), .d rfl⟩, ⟨_, (.inl rfl), .d rfl⟩, ⟨_, (.inl rfl), .d rfl⟩, trivial⟩ (fun _ => w_ref_CellsError (ee1)) rfl) ?_
    refine AOps.step rfl rfl rfl (OpQ.spec (sp_assign rfl (.inl rfl)) _) ?_
    refine AOps.nil ?_
    refine hK6 _ ?_
    refine AW.seq_w fun K7 hK7 wK7 => ?_
    refine AW.region ?_
    refine AOps.step rfl rfl rfl (OpQ.spec (sp_move rfl (.inl rfl)) _) ?_
    refine AOps.step rfl rfl rfl (OpQ.spec (sp_neq rfl (.inl rfl) (.inl rfl)) _) ?_
    refine AOps.nil ?_
    refine hK7 _ ?_
    refine AW.cond rfl (fun hc2 => ?_) (fun hc2 => ?_)
    · have h5 := ite_t hc2 h4
      refine AW.seq_w fun K8 hK8 wK8 => ?_
      refine AW.weak (s' := ⟨[(3, .r (.int .i64 e1))], [], (n0 + 1), 104⟩) (by exact Weak.cv ⟨.inl (.inl rfl), trivial⟩ trivial (Nat.le_refl _)) ?_
      refine AW.region ?_
      refine AOps.step rfl rfl rfl (OpQ.spec (sp_move rfl (.inl rfl)) _) ?_
      refine AOps.step rfl rfl rfl (OpQ.spec (sp_assign rfl (.inl rfl)) _) ?_
      refine AOps.nil ?_
      refine hK8 _ ?_
      refine AW.ret ?_
      exact retf1 (P := Tryd.prog) (fun (r : Int) => .r (.int .i64 r)) h5 (.inl rfl) (.t (.d rfl))
    · have h5 := ite_f hc2 h4
      refine AW.skip ?_
      refine hK5 _ ?_
      refine AW.seq_w fun K9 hK9 wK9 => ?_
      refine AW.seq_w fun K10 hK10 wK10 => ?_
      refine AW.weak (s' := ⟨[(1, .ptr 1 n0 0 0)], [(1, some (.box n0 32 [.r (.int .i64 g1.Rows), .r (.int .i64 g1.Cols), .r (.sl (g1.Cells.map GCell.row)), .r (.sl (g1.Merges.map GRect.row))]))], (n0 + 1), 104⟩) (by exact Weak.cv ⟨.inl (.inl rfl), trivial⟩ ⟨.inl rfl, trivial⟩ (Nat.le_refl _)) ?_
      refine AW.region ?_
      refine AOps.step rfl rfl rfl (OpQ.spec (sp_fieldAddr_own (ob := .box _ _ _) rfl tf_32_3 (.inl rfl) (fun _ => rfl) rfl) _) ?_
      refine AOps.step rfl rfl rfl (OpQ.spec (ms_load_box (a := .r (.sl (g1.Merges.map GRect.row))) rfl ts_30 (.inl rfl) rfl rfl) _) ?_
      refine AOps.step rfl rfl rfl (OpQ.spec (ms_len rfl tg_30.slice (.inl rfl)) _) ?_
      refine AOps.step rfl rfl rfl (OpQ.spec (sp_move rfl (.inl rfl)) _) ?_
      refine AOps.nil ?_
      refine hK10 _ ?_
      refine AW.block ?_
      refine jc1k h5 fun o1 hit1 hk1 he1 => ?_
      have J1 : ∀ (u2 : Unit) (i5 : Nat → Nat), o1 = .nrm u2 → K9 ⟨[], [], (i5 0), 104⟩ := by
        intro u2 i5 e
        have h6 := hk1 _ e
        refine hK9 _ ?_
        refine AW.seq_w fun K11 hK11 wK11 => ?_
        refine AW.region ?_
        refine AOps.step rfl rfl rfl (OpQ.spec (sp_assign rfl (.inl rfl)) _) ?_
        refine AOps.nil ?_
        refine hK11 _ ?_
        refine AW.ret ?_
        exact retf1 (P := Tryd.prog) (fun (r : Int) => .r (.int .i64 r)) h6 (.inl rfl) (.t (.d rfl))
      refine AW.iter1 (fun (x2 : Int) i3 => ⟨[(1, .ptr 1 n0 0 0), (29, .r (.int .i64 (g1.Merges.length : Int))), (30, .r (.int .i64 x2))], [(1, some (.box n0 32 [.r (.int .i64 g1.Rows), .r (.int .i64 g1.Cols), .r (.sl (g1.Cells.map GCell.row)), .r (.sl (g1.Merges.map GRect.row))]))], (i3 0), 104⟩) (vec [(n0 + 1)]) hit1 ((by exact Weak.cv ⟨.inl (.inl rfl), .inl (.inl rfl), .inl (.inl rfl), trivial⟩ ⟨.inl rfl, trivial⟩ (Nat.le_refl _))) ?_
      intro x2 i3 v1 hv1 hx1
      have h7 : ref_GridError_L1 g1 x2 = some v1 := hv1; unfold ref_GridError_L1 at h7
      refine AW.seq_w fun K12 hK12 wK12 => ?_
      refine AW.region ?_
      refine AOps.step rfl rfl rfl (OpQ.spec (sp_lss rfl (.inl rfl) (.inl rfl)) _) ?_
      refine AOps.nil ?_
      refine hK12 _ ?_
      refine AW.seq_w fun K13 hK13 wK13 => ?_
      refine AW.cond rfl (fun hc3 => ?_) (fun hc3 => ?_)
      · have h8 := ite_t hc3 h7
        refine AW.skip ?_
        refine hK13 _ ?_
        refine AW.seq_w fun K14 hK14 wK14 => ?_
        refine AW.block ?_
        refine AW.seq_w fun K15 hK15 wK15 => ?_
        refine AW.region ?_
        refine AOps.step rfl rfl rfl (OpQ.spec (sp_move rfl (.inl rfl)) _) ?_
        refine AOps.step rfl rfl rfl (OpQ.spec (sp_assign rfl (.inl rfl)) _) ?_
        refine AOps.nil ?_
        refine hK15 _ ?_
        refine AW.seq_w fun K16 hK16 wK16 => ?_
        refine AW.region ?_
        refine AOps.step rfl rfl rfl (OpQ.spec (sp_fieldAddr_own (ob := .box _ _ _) rfl tf_32_3 (.inl rfl) (fun _ => rfl) rfl) _) ?_
        refine AOps.step rfl rfl rfl (OpQ.spec (ms_load_box (a := .r (.sl (g1.Merges.map GRect.row))) rfl ts_30 (.inl rfl) rfl rfl) _) ?_
        refine AOps.step rfl rfl rfl (OpQ.spec (sp_move rfl (.inl rfl)) _) ?_
        refine ob1k h8 fun x4 ex4 h9 => ?_
        refine AOps.step rfl rfl rfl (OpQ.spec (ms_idx rfl tg_30.slice (.inl rfl) (.inl rfl) (fun _ => rfl) (fun _ => ex4)) _) ?_
        refine AOps.step rfl rfl rfl (OpQ.spec (ms_loadA (cs := [.r (.int .i64 x4.Row), .r (.int .i64 x4.Col), .r (.int .i64 x4.H), .r (.int .i64 x4.W)]) rfl ta_64 (.inl rfl) rfl rfl) _) ?_
        refine AOps.step rfl rfl rfl (ms_alloc (cs := [.r (.int .i64 0), .r (.int .i64 0), .r (.int .i64 0), .r (.int .i64 0)]) 5 rfl t0_64 rfl rfl) ?_
        refine AOps.step0 rfl rfl (ms_store_box (ds := [.r (.int .i64 x4.Row), .r (.int .i64 x4.Col), .r (.int .i64 x4.H), .r (.int .i64 x4.W)]) rfl tz_64 (.inl rfl) rfl (.inl rfl) rfl rfl rfl rfl) ?_
        refine AOps.nil ?_
        refine hK16 _ ?_
        refine AW.seq_w fun K17 hK17 wK17 => ?_
        refine AW.seq_w fun K18 hK18 wK18 => ?_
        refine AW.region ?_
        refine AOps.step rfl rfl rfl (OpQ.spec (ms_loadA_box rfl ta_64 (.inl rfl) rfl rfl) _) ?_
        refine AOps.step rfl rfl rfl (OpQ.spec (sp_fieldAddr_own (ob := .box _ _ _) rfl tf_32_0 (.inl rfl) (fun _ => rfl) rfl) _) ?_
        refine AOps.step rfl rfl rfl (OpQ.spec (ms_load_box (a := .r (.int .i64 g1.Rows)) rfl ts_3 (.inl rfl) rfl rfl) _) ?_
        refine AOps.step rfl rfl rfl (OpQ.spec (sp_fieldAddr_own (ob := .box _ _ _) rfl tf_32_1 (.inl rfl) (fun _ => rfl) rfl) _) ?_
        refine AOps.step rfl rfl rfl (OpQ.spec (ms_load_box (a := .r (.int .i64 g1.Cols)) rfl ts_3 (.inl rfl) rfl rfl) _) ?_
        refine ob1k h9 fun r3 er3 h10 => ?_
        refine AOps.step rfl rfl rfl (sp_call (r := .r (.bool r3)) (caps := []) (bs := [.agg [.r (.int .i64 x4.Row), .r (.int .i64 x4.Col), .r (.int .i64 x4.H), .r (.int .i64 x4.W)], .r (.int .i64 g1.Rows), .r (.int .i64 g1.Cols)]) rfl (.inl rfl) rfl ⟨⟨_, (.inl rfl), .g (cs := [.int .i64 x4.Row, .int .i64 x4.Col, .int .i64 x4.H, .int .i64 x4.W]) rfl rfl⟩, ⟨_, (.inl rfl), .d rfl⟩, ⟨_, (.inl rfl), .d rfl⟩, trivial⟩ (fun _ => w_ref_Lies (er3)) rfl) ?_
        refine AOps.step rfl rfl rfl (OpQ.spec (sp_not rfl (.inl rfl)) _) ?_
        refine AOps.nil ?_
        refine hK18 _ ?_
        refine AW.cond rfl (fun hc4 => ?_) (fun hc4 => ?_)
        · have h11 := ite_t hc4 h10
          refine AW.seq_w fun K19 hK19 wK19 => ?_
          refine AW.weak (s' := ⟨[], [], ((i3 0) + 1), 104⟩) (by exact Weak.cv trivial trivial (Nat.le_refl _)) ?_
          refine AW.region ?_
          refine AOps.step rfl rfl rfl (OpQ.spec (sp_assign rfl (.inl rfl)) _) ?_
          refine AOps.nil ?_
          refine hK19 _ ?_
          refine AW.ret ?_
          exact retf1 (P := Tryd.prog) (fun (r : Int) => .r (.int .i64 r)) (he1 _ (hx1 _ (Option.some.inj h11).symm)) (.inl rfl) (.t (.d rfl))
        · have h11 := ite_f hc4 h10
          refine AW.skip ?_
          refine hK17 _ ?_
          refine AW.seq_w fun K20 hK20 wK20 => ?_
          refine AW.seq_w fun K21 hK21 wK21 => ?_
          refine AW.weak (s' := ⟨[(1, .ptr 1 n0 0 0), (4, .r (.int .i64 x2)), (5, .ptr 5 (i3 0) 0 0), (29, .r (.int .i64 (g1.Merges.length : Int))), (30, .r (.int .i64 x2))], [(1, some (.box n0 32 [.r (.int .i64 g1.Rows), .r (.int .i64 g1.Cols), .r (.sl (g1.Cells.map GCell.row)), .r (.sl (g1.Merges.map GRect.row))])), (5, some (.box (i3 0) 64 [.r (.int .i64 x4.Row), .r (.int .i64 x4.Col), .r (.int .i64 x4.H), .r (.int .i64 x4.W)]))], ((i3 0) + 1), 104⟩) (by exact Weak.cv ⟨.inl (.inl rfl), .inl (.inl rfl), .inl (.inl rfl), .inl (.inl rfl), .inl (.inl rfl), trivial⟩ ⟨.inl rfl, .inl rfl, trivial⟩ (Nat.le_refl _)) ?_
          refine AW.region ?_
          refine AOps.step rfl rfl rfl (OpQ.spec (sp_fieldAddr_own (ob := .box _ _ _) rfl tf_64_2 (.inl rfl) (fun _ => rfl) rfl) _) ?_
          refine AOps.step rfl rfl rfl (OpQ.spec (ms_load_box (a := .r (.int .i64 x4.H)) rfl ts_3 (.inl rfl) rfl rfl) _) ?_
          refine AOps.step rfl rfl rfl (OpQ.spec (sp_eql rfl (.inl rfl) (.inl rfl)) _) ?_
          refine AOps.step rfl rfl rfl (OpQ.spec (sp_move rfl (.inl rfl)) _) ?_
          refine AOps.stepW (.one rfl rfl rfl) rfl rfl (OpQ.spec (sp_fieldAddr_own (ob := .box _ _ _) rfl tf_64_3 (.inl rfl) (fun _ => rfl) rfl) _) ?_
          refine AOps.stepW (.one rfl rfl rfl) rfl rfl (OpQ.spec (ms_load_box (a := .r (.int .i64 x4.W)) rfl ts_3 (.inr ⟨_, (by exact id), rfl⟩) rfl rfl) _) ?_
          refine AOps.stepW (.one rfl rfl rfl) rfl rfl (OpQ.spec (sp_eql rfl (.inr ⟨_, (by exact id), rfl⟩) (.inl rfl)) _) ?_
          refine AOps.step rfl rfl rfl (OpQ.spec (sp_and rfl (.inl rfl) (.inr ⟨_, (by exact id), rfl⟩)) _) ?_
          refine AOps.nil ?_
          refine hK21 _ ?_
          refine AW.cond rfl (fun hc5 => ?_) (fun hc5 => ?_)
          · have h12 := ite_t hc5 h11
            refine AW.seq_w fun K22 hK22 wK22 => ?_
            refine AW.weak (s' := ⟨[], [], ((i3 0) + 1), 104⟩) (by exact Weak.cv trivial trivial (Nat.le_refl _)) ?_
            refine AW.region ?_
            refine AOps.step rfl rfl rfl (OpQ.spec (sp_assign rfl (.inl rfl)) _) ?_
            refine AOps.nil ?_
            refine hK22 _ ?_
            refine AW.ret ?_
            exact retf1 (P := Tryd.prog) (fun (r : Int) => .r (.int .i64 r)) (he1 _ (hx1 _ (Option.some.inj h12).symm)) (.inl rfl) (.t (.d rfl))
          · have h12 := ite_f hc5 h11
            refine AW.skip ?_
            refine hK20 _ ?_
            refine AW.seq_w fun K23 hK23 wK23 => ?_
            refine AW.seq_w fun K24 hK24 wK24 => ?_
            refine AW.regionQ hmix (by kernel_rfl) ?_
            refine AQ.step rfl rfl rfl (sp_move rfl (.inl rfl)) ?_
            refine AQ.step rfl rfl rfl (sp_gtr rfl (.inl rfl) (.inl rfl)) ?_
            refine AQ.step rfl rfl rfl (sp_move rfl (.inl rfl)) ?_
            refine AQ.stepW (.one rfl rfl rfl) rfl rfl (sp_fieldAddr_own (ob := .box _ _ _) rfl tf_64_0 (.inl rfl) (fun _ => rfl) rfl) ?_
            refine AQ.stepW (.one rfl rfl rfl) rfl rfl (ms_load_box (a := .r (.int .i64 x4.Row)) rfl ts_3 (.inr ⟨_, (by exact id), rfl⟩) rfl rfl) ?_
            refine AQ.stepW (.one rfl rfl rfl) rfl rfl (sp_fieldAddr_own (ob := .box _ _ _) rfl tf_32_3 (.inl rfl) (fun _ => rfl) rfl) ?_
            refine AQ.stepW (.one rfl rfl rfl) rfl rfl (ms_load_box (a := .r (.sl (g1.Merges.map GRect.row))) rfl ts_30 (.inr ⟨_, (by exact id), rfl⟩) rfl rfl) ?_
            refine AQ.stepW (.one rfl rfl rfl) rfl rfl (sp_move rfl (.inl rfl)) ?_
            refine ob1k h12 fun x5 ex5 h13 => ?_
            refine AQ.stepW (.one rfl rfl rfl) rfl rfl (ms_sub rfl (.inr ⟨_, (by exact id), rfl⟩) (.inl rfl) (gdt ex5)) ?_
            refine ob1k h13 fun x6 ex6 h14 => ?_
            refine AQ.stepW (.one rfl rfl rfl) rfl rfl (ms_idx rfl tg_30.slice (.inr ⟨_, (by exact id), rfl⟩) (.inr ⟨_, (by exact id), rfl⟩) (fun _ => rfl) (gdt ex6)) ?_
            refine AQ.stepW (.one rfl rfl rfl) rfl rfl (sp_fieldAddr_ro rfl tf_64_0 (.inr ⟨_, (by exact id), rfl⟩)) ?_
            refine AQ.stepW (.one rfl rfl rfl) rfl rfl (ms_load (d := .int .i64 x6.Row) rfl ts_3 (.inr ⟨_, (by exact id), rfl⟩) rfl) ?_
            refine AQ.stepW (.one rfl rfl rfl) rfl rfl (sp_lss rfl (.inr ⟨_, (by exact id), rfl⟩) (.inr ⟨_, (by exact id), rfl⟩)) ?_
            refine AQ.stepW (.one rfl rfl rfl) rfl rfl (sp_move rfl (.inr ⟨_, (by exact id), rfl⟩)) ?_
            refine AQ.stepW (.two rfl rfl rfl) rfl rfl (sp_fieldAddr_own (ob := .box _ _ _) rfl tf_64_0 (.inl rfl) (fun _ => rfl) rfl) ?_
            refine AQ.stepW (.two rfl rfl rfl) rfl rfl (ms_load_box (a := .r (.int .i64 x4.Row)) rfl ts_3 (.inr ⟨_, (by exact id), rfl⟩) rfl rfl) ?_
            refine AQ.stepW (.two rfl rfl rfl) rfl rfl (sp_fieldAddr_own (ob := .box _ _ _) rfl tf_32_3 (.inl rfl) (fun _ => rfl) rfl) ?_
            refine AQ.stepW (.two rfl rfl rfl) rfl rfl (ms_load_box (a := .r (.sl (g1.Merges.map GRect.row))) rfl ts_30 (.inr ⟨_, (by exact id), rfl⟩) rfl rfl) ?_
            refine AQ.stepW (.two rfl rfl rfl) rfl rfl (sp_move rfl (.inl rfl)) ?_
            refine AQ.stepW (.two rfl rfl rfl) rfl rfl (ms_sub rfl (.inr ⟨_, (by exact id), rfl⟩) (.inl rfl) (fun h => gdt ex5 (Bool.and_eq_true_iff.1 h).1)) ?_
            refine AQ.stepW (.two rfl rfl rfl) rfl rfl (ms_idx rfl tg_30.slice (.inr ⟨_, (by exact id), rfl⟩) (.inr ⟨_, (by exact id), rfl⟩) (fun _ => rfl) (fun h => gdt ex6 (Bool.and_eq_true_iff.1 h).1)) ?_
            refine AQ.stepW (.two rfl rfl rfl) rfl rfl (sp_fieldAddr_ro rfl tf_64_0 (.inr ⟨_, (by exact id), rfl⟩)) ?_
            refine AQ.stepW (.two rfl rfl rfl) rfl rfl (ms_load (d := .int .i64 x6.Row) rfl ts_3 (.inr ⟨_, (by exact id), rfl⟩) rfl) ?_
            refine AQ.stepW (.two rfl rfl rfl) rfl rfl (sp_eql rfl (.inr ⟨_, (by exact id), rfl⟩) (.inr ⟨_, (by exact id), rfl⟩)) ?_
            refine AQ.stepW (.two rfl rfl rfl) rfl rfl (sp_move rfl (.inr ⟨_, (by exact id), rfl⟩)) ?_
            refine AQ.stepW (.two rfl rfl rfl) rfl rfl (sp_fieldAddr_own (ob := .box _ _ _) rfl tf_64_1 (.inl rfl) (fun _ => rfl) rfl) ?_
            refine AQ.stepW (.two rfl rfl rfl) rfl rfl (ms_load_box (a := .r (.int .i64 x4.Col)) rfl ts_3 (.inr ⟨_, (by exact id), rfl⟩) rfl rfl) ?_
            refine AQ.stepW (.two rfl rfl rfl) rfl rfl (sp_fieldAddr_own (ob := .box _ _ _) rfl tf_32_3 (.inl rfl) (fun _ => rfl) rfl) ?_
            refine AQ.stepW (.two rfl rfl rfl) rfl rfl (ms_load_box (a := .r (.sl (g1.Merges.map GRect.row))) rfl ts_30 (.inr ⟨_, (by exact id), rfl⟩) rfl rfl) ?_
            refine AQ.stepW (.two rfl rfl rfl) rfl rfl (sp_move rfl (.inl rfl)) ?_
            refine ob1k h14 fun x7 ex7 h15 => ?_
            refine AQ.stepW (.two rfl rfl rfl) rfl rfl (ms_sub rfl (.inr ⟨_, (by exact id), rfl⟩) (.inl rfl) (gdt ex7)) ?_
            refine ob1k h15 fun x8 ex8 h16 => ?_
            refine AQ.stepW (.two rfl rfl rfl) rfl rfl (ms_idx rfl tg_30.slice (.inr ⟨_, (by exact id), rfl⟩) (.inr ⟨_, (by exact id), rfl⟩) (fun _ => rfl) (gdt ex8)) ?_
            refine AQ.stepW (.two rfl rfl rfl) rfl rfl (sp_fieldAddr_ro rfl tf_64_1 (.inr ⟨_, (by exact id), rfl⟩)) ?_
            refine AQ.stepW (.two rfl rfl rfl) rfl rfl (ms_load (d := .int .i64 x8.Col) rfl ts_3 (.inr ⟨_, (by exact id), rfl⟩) rfl) ?_
            refine AQ.stepW (.two rfl rfl rfl) rfl rfl (sp_leq rfl (.inr ⟨_, (by exact id), rfl⟩) (.inr ⟨_, (by exact id), rfl⟩)) ?_
            refine AQ.stepW (.two rfl rfl rfl) rfl rfl (sp_and rfl (.inr ⟨_, (by exact id), rfl⟩) (.inr ⟨_, (by exact id), rfl⟩)) ?_
            refine AQ.stepW (.one rfl rfl rfl) rfl rfl (sp_or rfl (.inr ⟨_, (by exact id), rfl⟩) (.inr ⟨_, (by exact id), rfl⟩)) ?_
            refine AQ.step rfl rfl rfl (sp_and rfl (.inl rfl) (.inr ⟨_, (by exact id), rfl⟩)) ?_
            refine AQ.nil ?_
            refine hK24 _ ?_
            refine AW.cond rfl (fun hc6 => ?_) (fun hc6 => ?_)
            · have h17 := ite_t hc6 h16
              refine AW.seq_w fun K25 hK25 wK25 => ?_
              refine AW.weak (s' := ⟨[], [], ((i3 0) + 1), 104⟩) (by exact Weak.cv trivial trivial (Nat.le_refl _)) ?_
              refine AW.region ?_
              refine AOps.step rfl rfl rfl (OpQ.spec (sp_assign rfl (.inl rfl)) _) ?_
              refine AOps.nil ?_
              refine hK25 _ ?_
              refine AW.ret ?_
              exact retf1 (P := Tryd.prog) (fun (r : Int) => .r (.int .i64 r)) (he1 _ (hx1 _ (Option.some.inj h17).symm)) (.inl rfl) (.t (.d rfl))
            · have h17 := ite_f hc6 h16
              refine AW.skip ?_
              refine hK23 _ ?_
              refine AW.seq_w fun K26 hK26 wK26 => ?_
              refine AW.weak (s' := ⟨[(1, .ptr 1 n0 0 0), (4, .r (.int .i64 x2)), (5, .ptr 5 (i3 0) 0 0), (29, .r (.int .i64 (g1.Merges.length : Int))), (30, .r (.int .i64 x2))], [(1, some (.box n0 32 [.r (.int .i64 g1.Rows), .r (.int .i64 g1.Cols), .r (.sl (g1.Cells.map GCell.row)), .r (.sl (g1.Merges.map GRect.row))])), (5, some (.box (i3 0) 64 [.r (.int .i64 x4.Row), .r (.int .i64 x4.Col), .r (.int .i64 x4.H), .r (.int .i64 x4.W)]))], ((i3 0) + 1), 104⟩) (by exact Weak.cv ⟨.inl (.inl rfl), .inl (.inl rfl), .inl (.inl rfl), .inl (.inl rfl), .inl (.inl rfl), trivial⟩ ⟨.inl rfl, .inl rfl, trivial⟩ (Nat.le_refl _)) ?_
              refine AW.region ?_
              refine AOps.step rfl rfl rfl (OpQ.spec (sp_move rfl (.inl rfl)) _) ?_
              refine AOps.step rfl rfl rfl (OpQ.spec (sp_move rfl (.inl rfl)) _) ?_
              refine AOps.nil ?_
              refine hK26 _ ?_
              refine AW.block ?_
              refine jc1k h17 fun o2 hit2 hk2 he2 => ?_
              have J2 : ∀ (u4 : Unit) (i10 : Nat → Nat), o2 = .nrm u4 → K14 ⟨[(1, .ptr 1 n0 0 0), (29, .r (.int .i64 (g1.Merges.length : Int))), (30, .r (.int .i64 x2))], [(1, some (.box n0 32 [.r (.int .i64 g1.Rows), .r (.int .i64 g1.Cols), .r (.sl (g1.Cells.map GCell.row)), .r (.sl (g1.Merges.map GRect.row))]))], (i10 0), 104⟩ := by
                intro u4 i10 e
                have h18 := hk2 _ e
                refine hK14 _ ?_
                refine AW.region ?_
                refine ob1k h18 fun x12 ex12 h19 => ?_
                refine AOps.step rfl rfl rfl (OpQ.spec (ms_add rfl (.inl rfl) (.inl rfl) (fun _ => ex12)) _) ?_
                refine AOps.step rfl rfl rfl (OpQ.spec (sp_move rfl (.inl rfl)) _) ?_
                refine AOps.nil ?_
                exact NextQ1.mk h19 (vec [(i10 0)]) ((by exact Weak.cv ⟨.inl (.inl rfl), .inl (.inl rfl), .inl (.inl rfl), trivial⟩ ⟨.inl rfl, trivial⟩ (Nat.le_refl _)))
              refine AW.iter1 (fun (x10 : Int) i8 => ⟨[(1, .ptr 1 n0 0 0), (5, .ptr 5 (i3 0) 0 0), (29, .r (.int .i64 (g1.Merges.length : Int))), (30, .r (.int .i64 x2)), (91, .r (.int .i64 x2)), (92, .r (.int .i64 x10))], [(1, some (.box n0 32 [.r (.int .i64 g1.Rows), .r (.int .i64 g1.Cols), .r (.sl (g1.Cells.map GCell.row)), .r (.sl (g1.Merges.map GRect.row))])), (5, some (.box (i3 0) 64 [.r (.int .i64 x4.Row), .r (.int .i64 x4.Col), .r (.int .i64 x4.H), .r (.int .i64 x4.W)]))], (i8 0), 104⟩) (vec [((i3 0) + 1)]) hit2 ((by exact Weak.cv ⟨.inl (.inl rfl), .inl (.inl rfl), .inl (.inl rfl), .inl (.inl rfl), .inl (.inl rfl), .inl (.inl rfl), trivial⟩ ⟨.inl rfl, .inl rfl, trivial⟩ (Nat.le_refl _))) ?_
              intro x10 i8 v2 hv2 hx2
              have h20 : ref_GridError_L2 g1 x2 x4 x10 = some v2 := hv2; unfold ref_GridError_L2 at h20
              refine AW.seq_w fun K27 hK27 wK27 => ?_
              refine AW.region ?_
              refine AOps.step rfl rfl rfl (OpQ.spec (sp_lss rfl (.inl rfl) (.inl rfl)) _) ?_
              refine AOps.nil ?_
              refine hK27 _ ?_
              refine AW.seq_w fun K28 hK28 wK28 => ?_
              refine AW.cond rfl (fun hc7 => ?_) (fun hc7 => ?_)
              · have h21 := ite_t hc7 h20
                refine AW.skip ?_
                refine hK28 _ ?_
                refine AW.seq_w fun K29 hK29 wK29 => ?_
                refine AW.block ?_
                refine AW.seq_w fun K30 hK30 wK30 => ?_
                refine AW.region ?_
                refine AOps.step rfl rfl rfl (OpQ.spec (sp_move rfl (.inl rfl)) _) ?_
                refine AOps.step rfl rfl rfl (OpQ.spec (sp_assign rfl (.inl rfl)) _) ?_
                refine AOps.nil ?_
                refine hK30 _ ?_
                refine AW.seq_w fun K31 hK31 wK31 => ?_
                refine AW.regionQ hmix (by kernel_rfl) ?_
                refine AQ.step rfl rfl rfl (ms_loadA_box rfl ta_64 (.inl rfl) rfl rfl) ?_
                refine AQ.step rfl rfl rfl (sp_fieldAddr_own (ob := .box _ _ _) rfl tf_32_3 (.inl rfl) (fun _ => rfl) rfl) ?_
                refine AQ.step rfl rfl rfl (ms_load_box (a := .r (.sl (g1.Merges.map GRect.row))) rfl ts_30 (.inl rfl) rfl rfl) ?_
                refine AQ.step rfl rfl rfl (sp_move rfl (.inl rfl)) ?_
                refine ob1k h21 fun x13 ex13 h22 => ?_
                refine AQ.step rfl rfl rfl (ms_idx rfl tg_30.slice (.inl rfl) (.inl rfl) (fun _ => rfl) (fun _ => ex13)) ?_
                refine AQ.step rfl rfl rfl (ms_loadA (cs := [.r (.int .i64 x13.Row), .r (.int .i64 x13.Col), .r (.int .i64 x13.H), .r (.int .i64 x13.W)]) rfl ta_64 (.inl rfl) rfl rfl) ?_
                refine ob1k h22 fun r4 er4 h23 => ?_
                refine AQ.stepC rfl rfl rfl (r := .r (.bool r4)) (caps := []) (bs := [.agg [.r (.int .i64 x4.Row), .r (.int .i64 x4.Col), .r (.int .i64 x4.H), .r (.int .i64 x4.W)], .agg [.r (.int .i64 x13.Row), .r (.int .i64 x13.Col), .r (.int .i64 x13.H), .r (.int .i64 x13.W)]]) rfl (.inl rfl) rfl ⟨⟨_, (.inl rfl), .g (cs := [.int .i64 x4.Row, .int .i64 x4.Col, .int .i64 x4.H, .int .i64 x4.W]) rfl rfl⟩, ⟨_, (.inl rfl), .g (cs := [.int .i64 x13.Row, .int .i64 x13.Col, .int .i64 x13.H, .int .i64 x13.W]) rfl rfl⟩, trivial⟩ (fun _ => w_ref_Share (er4)) rfl ?_
                refine AQ.nil ?_
                refine hK31 _ ?_
                refine AW.cond rfl (fun hc8 => ?_) (fun hc8 => ?_)
                · have h24 := ite_t hc8 h23
                  refine AW.seq_w fun K32 hK32 wK32 => ?_
                  refine AW.weak (s' := ⟨[], [], (i8 0), 104⟩) (by exact Weak.cv trivial trivial (Nat.le_refl _)) ?_
                  refine AW.region ?_
                  refine AOps.step rfl rfl rfl (OpQ.spec (sp_assign rfl (.inl rfl)) _) ?_
                  refine AOps.nil ?_
                  refine hK32 _ ?_
                  refine AW.ret ?_
                  exact retf1 (P := Tryd.prog) (fun (r : Int) => .r (.int .i64 r)) (he1 _ (hx1 _ (Option.some.inj (he2 _ (hx2 _ (Option.some.inj h24).symm))).symm)) (.inl rfl) (.t (.d rfl))
                · have h24 := ite_f hc8 h23
                  refine AW.skip ?_
                  refine hK29 _ ?_
                  refine AW.weak (s' := ⟨[(1, .ptr 1 n0 0 0), (5, .ptr 5 (i3 0) 0 0), (29, .r (.int .i64 (g1.Merges.length : Int))), (30, .r (.int .i64 x2)), (91, .r (.int .i64 x2)), (92, .r (.int .i64 x10))], [(1, some (.box n0 32 [.r (.int .i64 g1.Rows), .r (.int .i64 g1.Cols), .r (.sl (g1.Cells.map GCell.row)), .r (.sl (g1.Merges.map GRect.row))])), (5, some (.box (i3 0) 64 [.r (.int .i64 x4.Row), .r (.int .i64 x4.Col), .r (.int .i64 x4.H), .r (.int .i64 x4.W)]))], (i8 0), 104⟩) (by exact Weak.cv ⟨.inl (.inl rfl), .inl (.inl rfl), .inl (.inl rfl), .inl (.inl rfl), .inl (.inl rfl), .inl (.inl rfl), trivial⟩ ⟨.inl rfl, .inl rfl, trivial⟩ (Nat.le_refl _)) ?_
                  refine AW.region ?_
                  refine ob1k h24 fun x14 ex14 h25 => ?_
                  refine AOps.step rfl rfl rfl (OpQ.spec (ms_add rfl (.inl rfl) (.inl rfl) (fun _ => ex14)) _) ?_
                  refine AOps.step rfl rfl rfl (OpQ.spec (sp_move rfl (.inl rfl)) _) ?_
                  refine AOps.nil ?_
                  exact NextQ1.mk h25 (vec [(i8 0)]) ((by exact Weak.cv ⟨.inl (.inl rfl), .inl (.inl rfl), .inl (.inl rfl), .inl (.inl rfl), .inl (.inl rfl), .inl (.inl rfl), trivial⟩ ⟨.inl rfl, .inl rfl, trivial⟩ (Nat.le_refl _)))
              · have h21 := ite_f hc7 h20
                refine AW.exit ?_
                exact wK14 _ _ ((by exact Weak.cv ⟨.inl (.inl rfl), .inl (.inl rfl), .inl (.inl rfl), trivial⟩ ⟨.inl rfl, trivial⟩ (Nat.le_refl _))) (J2 _ (vec [(i8 0)]) (hx2 _ (Option.some.inj h21).symm))
      · have h8 := ite_f hc3 h7
        refine AW.exit ?_
        exact wK9 _ _ ((by exact Weak.cv trivial trivial (Nat.le_refl _))) (J1 _ (vec [(i3 0)]) (hx1 _ (Option.some.inj h8).symm))
set_option maxHeartbeats 4000000 in
set_option maxRecDepth 20000 in
theorem w_ref_CellKinds {kind1 : Int} {l1 : List GCell} {r : Int} (h : ref_CellKinds kind1 l1 = some r) : ARO Tryd.prog 68 [.r (.int .i64 kind1), .r (.sl (l1.map GCell.row))] (.r (.int .i64 r)) := by
  unfold ref_CellKinds at h
  refine ARO.mkF Tryd.func68 rfl rfl Tryd.ntmps68 rfl (Nat.le_of_ble_eq_true rfl) fun n0 => ?_
  refine AW.seq_w fun K1 hK1 wK1 => ?_
  refine AW.region ?_
  refine AOps.step rfl rfl rfl (OpQ.spec (sp_assign rfl (.inl rfl)) _) ?_
  refine AOps.nil ?_
  refine hK1 _ ?_
  refine AW.seq_w fun K2 hK2 wK2 => ?_
  refine AW.seq_w fun K3 hK3 wK3 => ?_
  refine AW.region ?_
  refine AOps.step rfl rfl rfl (OpQ.spec (sp_move rfl (.inl rfl)) _) ?_
  refine AOps.step rfl rfl rfl (OpQ.spec (ms_len rfl tg_29.slice (.inl rfl)) _) ?_
  refine AOps.step rfl rfl rfl (OpQ.spec (sp_move rfl (.inl rfl)) _) ?_
  refine AOps.nil ?_
  refine hK3 _ ?_
  refine AW.block ?_
  refine jc1k h fun o1 hit1 hk1 he1 => ?_
  have J1 : ∀ (u2 : Unit) (i5 : Nat → Nat), o1 = .nrm u2 → K2 ⟨[], [], (i5 0), 43⟩ := by
    intro u2 i5 e
    have h1 := hk1 _ e
    refine hK2 _ ?_
    refine AW.seq_w fun K4 hK4 wK4 => ?_
    refine AW.region ?_
    refine AOps.step rfl rfl rfl (OpQ.spec (sp_assign rfl (.inl rfl)) _) ?_
    refine AOps.nil ?_
    refine hK4 _ ?_
    refine AW.ret ?_
    exact retf1 (P := Tryd.prog) (fun (r : Int) => .r (.int .i64 r)) h1 (.inl rfl) (.t (.d rfl))
  refine AW.iter1 (fun (x2 : Int) i3 => ⟨[(0, .r (.int .i64 kind1)), (1, .r (.sl (l1.map GCell.row))), (7, .r (.int .i64 (l1.length : Int))), (8, .r (.int .i64 x2))], [], (i3 0), 43⟩) (vec [n0]) hit1 ((by exact Weak.cv ⟨.inl (.inl rfl), .inl (.inl rfl), .inl (.inl rfl), .inl (.inl rfl), trivial⟩ trivial (Nat.le_refl _))) ?_
  intro x2 i3 v1 hv1 hx1
  have h2 : ref_CellKinds_L1 kind1 l1 x2 = some v1 := hv1; unfold ref_CellKinds_L1 at h2
  refine AW.seq_w fun K5 hK5 wK5 => ?_
  refine AW.region ?_
  refine AOps.step rfl rfl rfl (OpQ.spec (sp_lss rfl (.inl rfl) (.inl rfl)) _) ?_
  refine AOps.nil ?_
  refine hK5 _ ?_
  refine AW.seq_w fun K6 hK6 wK6 => ?_
  refine AW.cond rfl (fun hc1 => ?_) (fun hc1 => ?_)
  · have h3 := ite_t hc1 h2
    refine AW.skip ?_
    refine hK6 _ ?_
    refine AW.seq_w fun K7 hK7 wK7 => ?_
    refine AW.block ?_
    refine AW.seq_w fun K8 hK8 wK8 => ?_
    refine AW.region ?_
    refine AOps.step rfl rfl rfl (OpQ.spec (sp_move rfl (.inl rfl)) _) ?_
    refine AOps.step rfl rfl rfl (OpQ.spec (sp_assign rfl (.inl rfl)) _) ?_
    refine AOps.nil ?_
    refine hK8 _ ?_
    refine AW.seq_w fun K9 hK9 wK9 => ?_
    refine AW.region ?_
    refine AOps.step rfl rfl rfl (OpQ.spec (sp_move rfl (.inl rfl)) _) ?_
    refine AOps.step rfl rfl rfl (OpQ.spec (sp_eql rfl (.inl rfl) (.inl rfl)) _) ?_
    refine AOps.step rfl rfl rfl (OpQ.spec (sp_move rfl (.inl rfl)) _) ?_
    refine AOps.stepW (.one rfl rfl rfl) rfl rfl (OpQ.spec (sp_move rfl (.inl rfl)) _) ?_
    refine AOps.stepW (.one rfl rfl rfl) rfl rfl (OpQ.spec (sp_move rfl (.inl rfl)) _) ?_
    refine ob1k h3 fun x4 ex4 h4 => ?_
    refine AOps.stepW (.one rfl rfl rfl) rfl rfl (OpQ.spec (ms_idx rfl tg_29.slice (.inr ⟨_, (by exact id), rfl⟩) (.inr ⟨_, (by exact id), rfl⟩) (fun _ => rfl) (gdt ex4)) _) ?_
    refine AOps.stepW (.one rfl rfl rfl) rfl rfl (OpQ.spec (sp_fieldAddr_ro rfl tf_60_2 (.inr ⟨_, (by exact id), rfl⟩)) _) ?_
    refine AOps.stepW (.one rfl rfl rfl) rfl rfl (OpQ.spec (ms_load (d := .str x4.Text) rfl ts_9 (.inr ⟨_, (by exact id), rfl⟩) rfl) _) ?_
    refine AOps.stepW (.one rfl rfl rfl) rfl rfl (OpQ.spec (sp_sneq rfl (.inr ⟨_, (by exact id), rfl⟩) (.inl rfl)) _) ?_
    refine AOps.stepW (.one rfl rfl rfl) rfl rfl (OpQ.spec (sp_move rfl (.inr ⟨_, (by exact id), rfl⟩)) _) ?_
    refine AOps.stepW (.two rfl rfl rfl) rfl rfl (OpQ.spec (sp_move rfl (.inl rfl)) _) ?_
    refine AOps.stepW (.two rfl rfl rfl) rfl rfl (OpQ.spec (sp_move rfl (.inl rfl)) _) ?_
    refine AOps.stepW (.two rfl rfl rfl) rfl rfl (OpQ.spec (ms_idx rfl tg_29.slice (.inr ⟨_, (by exact id), rfl⟩) (.inr ⟨_, (by exact id), rfl⟩) (fun _ => rfl) (fun h => gdt ex4 (Bool.and_eq_true_iff.1 h).1)) _) ?_
    refine AOps.stepW (.two rfl rfl rfl) rfl rfl (OpQ.spec (sp_fieldAddr_ro rfl tf_60_4 (.inr ⟨_, (by exact id), rfl⟩)) _) ?_
    refine AOps.stepW (.two rfl rfl rfl) rfl rfl (OpQ.spec (ms_load (d := .sl (x4.Attrs.map GAttr.row)) rfl ts_27 (.inr ⟨_, (by exact id), rfl⟩) rfl) _) ?_
    refine AOps.stepW (.two rfl rfl rfl) rfl rfl (OpQ.spec (ms_len rfl tg_27.slice (.inr ⟨_, (by exact id), rfl⟩)) _) ?_
    refine AOps.stepW (.two rfl rfl rfl) rfl rfl (OpQ.spec (sp_gtr rfl (.inr ⟨_, (by exact id), rfl⟩) (.inl rfl)) _) ?_
    refine AOps.stepW (.one rfl rfl rfl) rfl rfl (OpQ.spec (sp_or rfl (.inr ⟨_, (by exact id), rfl⟩) (.inr ⟨_, (by exact id), rfl⟩)) _) ?_
    refine AOps.step rfl rfl rfl (OpQ.spec (sp_and rfl (.inl rfl) (.inr ⟨_, (by exact id), rfl⟩)) _) ?_
    refine AOps.step rfl rfl rfl (OpQ.spec (sp_move rfl (.inl rfl)) _) ?_
    refine AOps.stepW (.one rfl rfl rfl) rfl rfl (OpQ.spec (sp_move rfl (.inl rfl)) _) ?_
    refine AOps.stepW (.one rfl rfl rfl) rfl rfl (OpQ.spec (sp_eql rfl (.inr ⟨_, (by exact id), rfl⟩) (.inl rfl)) _) ?_
    refine AOps.stepW (.one rfl rfl rfl) rfl rfl (OpQ.spec (sp_move rfl (.inr ⟨_, (by exact id), rfl⟩)) _) ?_
    refine AOps.stepW (.two rfl rfl rfl) rfl rfl (OpQ.spec (sp_move rfl (.inl rfl)) _) ?_
    refine AOps.stepW (.two rfl rfl rfl) rfl rfl (OpQ.spec (sp_move rfl (.inl rfl)) _) ?_
    refine ob1k h4 fun x5 ex5 h5 => ?_
    refine AOps.stepW (.two rfl rfl rfl) rfl rfl (OpQ.spec (ms_idx rfl tg_29.slice (.inr ⟨_, (by exact id), rfl⟩) (.inr ⟨_, (by exact id), rfl⟩) (fun _ => rfl) (gdt ex5)) _) ?_
    refine AOps.stepW (.two rfl rfl rfl) rfl rfl (OpQ.spec (sp_fieldAddr_ro rfl tf_60_3 (.inr ⟨_, (by exact id), rfl⟩)) _) ?_
    refine AOps.stepW (.two rfl rfl rfl) rfl rfl (OpQ.spec (ms_load (d := .int .i64 x5.Ref) rfl ts_3 (.inr ⟨_, (by exact id), rfl⟩) rfl) _) ?_
    refine AOps.stepW (.two rfl rfl rfl) rfl rfl (OpQ.spec (sp_neq rfl (.inr ⟨_, (by exact id), rfl⟩) (.inl rfl)) _) ?_
    refine AOps.stepW (.one rfl rfl rfl) rfl rfl (OpQ.spec (sp_and rfl (.inr ⟨_, (by exact id), rfl⟩) (.inr ⟨_, (by exact id), rfl⟩)) _) ?_
    refine AOps.step rfl rfl rfl (OpQ.spec (sp_or rfl (.inl rfl) (.inr ⟨_, (by exact id), rfl⟩)) _) ?_
    refine AOps.nil ?_
    refine hK9 _ ?_
    refine AW.cond rfl (fun hc2 => ?_) (fun hc2 => ?_)
    · have h6 := ite_t hc2 h5
      refine AW.seq_w fun K10 hK10 wK10 => ?_
      refine AW.weak (s' := ⟨[], [], (i3 0), 43⟩) (by exact Weak.cv trivial trivial (Nat.le_refl _)) ?_
      refine AW.region ?_
      refine AOps.step rfl rfl rfl (OpQ.spec (sp_assign rfl (.inl rfl)) _) ?_
      refine AOps.nil ?_
      refine hK10 _ ?_
      refine AW.ret ?_
      exact retf1 (P := Tryd.prog) (fun (r : Int) => .r (.int .i64 r)) (he1 _ (hx1 _ (Option.some.inj h6).symm)) (.inl rfl) (.t (.d rfl))
    · have h6 := ite_f hc2 h5
      refine AW.skip ?_
      refine hK7 _ ?_
      refine AW.weak (s' := ⟨[(0, .r (.int .i64 kind1)), (1, .r (.sl (l1.map GCell.row))), (7, .r (.int .i64 (l1.length : Int))), (8, .r (.int .i64 x2))], [], (i3 0), 43⟩) (by exact Weak.cv ⟨.inl (.inl rfl), .inl (.inl rfl), .inl (.inl rfl), .inl (.inl rfl), trivial⟩ trivial (Nat.le_refl _)) ?_
      refine AW.region ?_
      refine ob1k h6 fun x6 ex6 h7 => ?_
      refine AOps.step rfl rfl rfl (OpQ.spec (ms_add rfl (.inl rfl) (.inl rfl) (fun _ => ex6)) _) ?_
      refine AOps.step rfl rfl rfl (OpQ.spec (sp_move rfl (.inl rfl)) _) ?_
      refine AOps.nil ?_
      exact NextQ1.mk h7 (vec [(i3 0)]) ((by exact Weak.cv ⟨.inl (.inl rfl), .inl (.inl rfl), .inl (.inl rfl), .inl (.inl rfl), trivial⟩ trivial (Nat.le_refl _)))
  · have h3 := ite_f hc1 h2
    refine AW.exit ?_
    exact wK2 _ _ ((by exact Weak.cv trivial trivial (Nat.le_refl _))) (J1 _ (vec [(i3 0)]) (hx1 _ (Option.some.inj h3).symm))
set_option maxHeartbeats 4000000 in
set_option maxRecDepth 20000 in
theorem w_ref_Place {s1 : List UInt8} {r : Bool} (h : ref_Place s1 = some r) : ARO Tryd.prog 116 [.r (.str s1)] (.r (.bool r)) := by
  unfold ref_Place at h
  refine ARO.mkF Tryd.func116 rfl rfl Tryd.ntmps116 rfl (Nat.le_of_ble_eq_true rfl) fun n0 => ?_
  refine AW.seq_w fun K1 hK1 wK1 => ?_
  refine AW.region ?_
  refine AOps.step rfl rfl rfl (OpQ.spec (sp_assign rfl (.inl rfl)) _) ?_
  refine AOps.nil ?_
  refine hK1 _ ?_
  refine AW.seq_w fun K2 hK2 wK2 => ?_
  refine AW.seq_w fun K3 hK3 wK3 => ?_
  refine AW.region ?_
  refine AOps.step rfl rfl rfl (OpQ.spec (sp_move rfl (.inl rfl)) _) ?_
  refine AOps.step rfl rfl rfl (OpQ.spec (sp_len_str rfl Tryd.underlying9 (.inl rfl)) _) ?_
  refine AOps.step rfl rfl rfl (OpQ.spec (sp_move rfl (.inl rfl)) _) ?_
  refine AOps.nil ?_
  refine hK3 _ ?_
  refine AW.block ?_
  refine jc1k h fun o1 hit1 hk1 he1 => ?_
  have J1 : ∀ (u2 : Unit) (i5 : Nat → Nat), o1 = .nrm u2 → K2 ⟨[(0, .r (.str s1))], [], (i5 0), 36⟩ := by
    intro u2 i5 e
    have h1 := hk1 _ e
    refine hK2 _ ?_
    refine AW.seq_w fun K4 hK4 wK4 => ?_
    refine AW.region ?_
    refine AOps.step rfl rfl rfl (OpQ.spec (sp_move rfl (.inl rfl)) _) ?_
    refine AOps.step rfl rfl rfl (OpQ.spec (sp_len_str rfl Tryd.underlying9 (.inl rfl)) _) ?_
    refine AOps.step rfl rfl rfl (OpQ.spec (sp_geq rfl (.inl rfl) (.inl rfl)) _) ?_
    refine AOps.step rfl rfl rfl (OpQ.spec (sp_move rfl (.inl rfl)) _) ?_
    refine AOps.stepW (.one rfl rfl rfl) rfl rfl (OpQ.spec (sp_move rfl (.inl rfl)) _) ?_
    refine AOps.stepW (.one rfl rfl rfl) rfl rfl (OpQ.spec (sp_len_str rfl Tryd.underlying9 (.inr ⟨_, (by exact id), rfl⟩)) _) ?_
    refine AOps.stepW (.one rfl rfl rfl) rfl rfl (OpQ.spec (sp_leq rfl (.inr ⟨_, (by exact id), rfl⟩) (.inl rfl)) _) ?_
    refine AOps.step rfl rfl rfl (OpQ.spec (sp_and rfl (.inl rfl) (.inr ⟨_, (by exact id), rfl⟩)) _) ?_
    refine AOps.step rfl rfl rfl (OpQ.spec (sp_move rfl (.inl rfl)) _) ?_
    refine AOps.stepW (.one rfl rfl rfl) rfl rfl (OpQ.spec (sp_move rfl (.inl rfl)) _) ?_
    refine AOps.stepW (.one rfl rfl rfl) rfl rfl (OpQ.spec (sp_move rfl (.inl rfl)) _) ?_
    refine AOps.stepW (.one rfl rfl rfl) rfl rfl (OpQ.spec (sp_len_str rfl Tryd.underlying9 (.inr ⟨_, (by exact id), rfl⟩)) _) ?_
    refine ob1k h1 fun x4 ex4 h2 => ?_
    refine AOps.stepW (.one rfl rfl rfl) rfl rfl (OpQ.spec (ms_sub rfl (.inr ⟨_, (by exact id), rfl⟩) (.inl rfl) (gdt ex4)) _) ?_
    refine ob1k h2 fun ch1 ech1 h3 => ?_
    refine AOps.stepW (.one rfl rfl rfl) rfl rfl (OpQ.spec (ms_idx_str rfl Tryd.underlying9 (.inr ⟨_, (by exact id), rfl⟩) (.inr ⟨_, (by exact id), rfl⟩) (gdt ech1)) _) ?_
    refine AOps.stepW (.one rfl rfl rfl) rfl rfl (OpQ.spec (sp_neq rfl (.inr ⟨_, (by exact id), rfl⟩) (.inl rfl)) _) ?_
    refine AOps.step rfl rfl rfl (OpQ.spec (sp_and rfl (.inl rfl) (.inr ⟨_, (by exact id), rfl⟩)) _) ?_
    refine AOps.step rfl rfl rfl (OpQ.spec (sp_assign rfl (.inl rfl)) _) ?_
    refine AOps.nil ?_
    refine hK4 _ ?_
    refine AW.ret ?_
    exact retf1 (P := Tryd.prog) (fun (r : Bool) => .r (.bool r)) h3 (.inl rfl) (.t (.d rfl))
  refine AW.iter1 (fun (x2 : Int) i3 => ⟨[(0, .r (.str s1)), (5, .r (.int .i64 (s1.length : Int))), (6, .r (.int .i64 x2))], [], (i3 0), 36⟩) (vec [n0]) hit1 ((by exact Weak.cv ⟨.inl (.inl rfl), .inl (.inl rfl), .inl (.inl rfl), trivial⟩ trivial (Nat.le_refl _))) ?_
  intro x2 i3 v1 hv1 hx1
  have h4 : ref_Place_L1 s1 x2 = some v1 := hv1; unfold ref_Place_L1 at h4
  refine AW.seq_w fun K5 hK5 wK5 => ?_
  refine AW.region ?_
  refine AOps.step rfl rfl rfl (OpQ.spec (sp_lss rfl (.inl rfl) (.inl rfl)) _) ?_
  refine AOps.nil ?_
  refine hK5 _ ?_
  refine AW.seq_w fun K6 hK6 wK6 => ?_
  refine AW.cond rfl (fun hc1 => ?_) (fun hc1 => ?_)
  · have h5 := ite_t hc1 h4
    refine AW.skip ?_
    refine hK6 _ ?_
    refine AW.seq_w fun K7 hK7 wK7 => ?_
    refine AW.block ?_
    refine AW.seq_w fun K8 hK8 wK8 => ?_
    refine AW.region ?_
    refine AOps.step rfl rfl rfl (OpQ.spec (sp_move rfl (.inl rfl)) _) ?_
    refine AOps.step rfl rfl rfl (OpQ.spec (sp_assign rfl (.inl rfl)) _) ?_
    refine AOps.nil ?_
    refine hK8 _ ?_
    refine AW.seq_w fun K9 hK9 wK9 => ?_
    refine AW.region ?_
    refine AOps.step rfl rfl rfl (OpQ.spec (sp_move rfl (.inl rfl)) _) ?_
    refine AOps.step rfl rfl rfl (OpQ.spec (sp_move rfl (.inl rfl)) _) ?_
    refine ob1k h5 fun ch2 ech2 h6 => ?_
    refine AOps.step rfl rfl rfl (OpQ.spec (ms_idx_str rfl Tryd.underlying9 (.inl rfl) (.inl rfl) (fun _ => ech2)) _) ?_
    refine AOps.step rfl rfl rfl (OpQ.spec (sp_lss rfl (.inl rfl) (.inl rfl)) _) ?_
    refine AOps.step rfl rfl rfl (OpQ.spec (sp_move rfl (.inl rfl)) _) ?_
    refine AOps.stepW (.one rfl rfl rfl) rfl rfl (OpQ.spec (sp_move rfl (.inl rfl)) _) ?_
    refine AOps.stepW (.one rfl rfl rfl) rfl rfl (OpQ.spec (sp_move rfl (.inl rfl)) _) ?_
    refine AOps.stepW (.one rfl rfl rfl) rfl rfl (OpQ.spec (ms_idx_str rfl Tryd.underlying9 (.inr ⟨_, (by exact id), rfl⟩) (.inr ⟨_, (by exact id), rfl⟩) (fun _ => ech2)) _) ?_
    refine AOps.stepW (.one rfl rfl rfl) rfl rfl (OpQ.spec (sp_gtr rfl (.inr ⟨_, (by exact id), rfl⟩) (.inl rfl)) _) ?_
    refine AOps.step rfl rfl rfl (OpQ.spec (sp_or rfl (.inl rfl) (.inr ⟨_, (by exact id), rfl⟩)) _) ?_
    refine AOps.nil ?_
    refine hK9 _ ?_
    refine AW.cond rfl (fun hc2 => ?_) (fun hc2 => ?_)
    · have h7 := ite_t hc2 h6
      refine AW.seq_w fun K10 hK10 wK10 => ?_
      refine AW.weak (s' := ⟨[], [], (i3 0), 36⟩) (by exact Weak.cv trivial trivial (Nat.le_refl _)) ?_
      refine AW.region ?_
      refine AOps.step rfl rfl rfl (OpQ.spec (sp_assign rfl (.inl rfl)) _) ?_
      refine AOps.nil ?_
      refine hK10 _ ?_
      refine AW.ret ?_
      exact retf1 (P := Tryd.prog) (fun (r : Bool) => .r (.bool r)) (he1 _ (hx1 _ (Option.some.inj h7).symm)) (.inl rfl) (.t (.d rfl))
    · have h7 := ite_f hc2 h6
      refine AW.skip ?_
      refine hK7 _ ?_
      refine AW.weak (s' := ⟨[(0, .r (.str s1)), (5, .r (.int .i64 (s1.length : Int))), (6, .r (.int .i64 x2))], [], (i3 0), 36⟩) (by exact Weak.cv ⟨.inl (.inl rfl), .inl (.inl rfl), .inl (.inl rfl), trivial⟩ trivial (Nat.le_refl _)) ?_
      refine AW.region ?_
      refine ob1k h7 fun x5 ex5 h8 => ?_
      refine AOps.step rfl rfl rfl (OpQ.spec (ms_add rfl (.inl rfl) (.inl rfl) (fun _ => ex5)) _) ?_
      refine AOps.step rfl rfl rfl (OpQ.spec (sp_move rfl (.inl rfl)) _) ?_
      refine AOps.nil ?_
      exact NextQ1.mk h8 (vec [(i3 0)]) ((by exact Weak.cv ⟨.inl (.inl rfl), .inl (.inl rfl), .inl (.inl rfl), trivial⟩ trivial (Nat.le_refl _)))
  · have h5 := ite_f hc1 h4
    refine AW.exit ?_
    exact wK2 _ _ ((by exact Weak.cv ⟨.inl (.inl rfl), trivial⟩ trivial (Nat.le_refl _))) (J1 _ (vec [(i3 0)]) (hx1 _ (Option.some.inj h5).symm))
set_option maxHeartbeats 4000000 in
set_option maxRecDepth 20000 in
theorem w_ref_Earlier {a1 : GDrawOp} {b1 : GDrawOp} {r : Bool} (h : ref_Earlier a1 b1 = some r) : ARO Tryd.prog 117 [.agg [.r (.int .i64 a1.Clock), .r (.int .i64 a1.Site), .r (.int .i64 a1.Kind), .r (.int .i64 a1.Item), .r (.int .i64 a1.Parent), .r (.str a1.Place), .r (.str a1.Name), .r (.str a1.Value)], .agg [.r (.int .i64 b1.Clock), .r (.int .i64 b1.Site), .r (.int .i64 b1.Kind), .r (.int .i64 b1.Item), .r (.int .i64 b1.Parent), .r (.str b1.Place), .r (.str b1.Name), .r (.str b1.Value)]] (.r (.bool r)) := by
  unfold ref_Earlier at h
  refine ARO.mkF Tryd.func117 rfl rfl Tryd.ntmps117 rfl (Nat.le_of_ble_eq_true rfl) fun n0 => ?_
  refine AW.seq_w fun K1 hK1 wK1 => ?_
  refine AW.region ?_
  refine AOps.step rfl rfl rfl (ms_box (cs := [.r (.int .i64 a1.Clock), .r (.int .i64 a1.Site), .r (.int .i64 a1.Kind), .r (.int .i64 a1.Item), .r (.int .i64 a1.Parent), .r (.str a1.Place), .r (.str a1.Name), .r (.str a1.Value)]) 2 rfl (.inl rfl) rfl rfl) ?_
  refine AOps.step rfl rfl rfl (ms_box (cs := [.r (.int .i64 b1.Clock), .r (.int .i64 b1.Site), .r (.int .i64 b1.Kind), .r (.int .i64 b1.Item), .r (.int .i64 b1.Parent), .r (.str b1.Place), .r (.str b1.Name), .r (.str b1.Value)]) 3 rfl (.inl rfl) rfl rfl) ?_
  refine AOps.step rfl rfl rfl (OpQ.spec (sp_assign rfl (.inl rfl)) _) ?_
  refine AOps.nil ?_
  refine hK1 _ ?_
  refine AW.seq_w fun K2 hK2 wK2 => ?_
  refine AW.region ?_
  refine AOps.step rfl rfl rfl (OpQ.spec (sp_fieldAddr_own (ob := .box _ _ _) rfl tf_119_0 (.inl rfl) (fun _ => rfl) rfl) _) ?_
  refine AOps.step rfl rfl rfl (OpQ.spec (ms_load_box (a := .r (.int .i64 a1.Clock)) rfl ts_3 (.inl rfl) rfl rfl) _) ?_
  refine AOps.step rfl rfl rfl (OpQ.spec (sp_fieldAddr_own (ob := .box _ _ _) rfl tf_119_0 (.inl rfl) (fun _ => rfl) rfl) _) ?_
  refine AOps.step rfl rfl rfl (OpQ.spec (ms_load_box (a := .r (.int .i64 b1.Clock)) rfl ts_3 (.inl rfl) rfl rfl) _) ?_
  refine AOps.step rfl rfl rfl (OpQ.spec (sp_lss rfl (.inl rfl) (.inl rfl)) _) ?_
  refine AOps.step rfl rfl rfl (OpQ.spec (sp_move rfl (.inl rfl)) _) ?_
  refine AOps.stepW (.one rfl rfl rfl) rfl rfl (OpQ.spec (sp_fieldAddr_own (ob := .box _ _ _) rfl tf_119_0 (.inl rfl) (fun _ => rfl) rfl) _) ?_
  refine AOps.stepW (.one rfl rfl rfl) rfl rfl (OpQ.spec (ms_load_box (a := .r (.int .i64 a1.Clock)) rfl ts_3 (.inr ⟨_, (by exact id), rfl⟩) rfl rfl) _) ?_
  refine AOps.stepW (.one rfl rfl rfl) rfl rfl (OpQ.spec (sp_fieldAddr_own (ob := .box _ _ _) rfl tf_119_0 (.inl rfl) (fun _ => rfl) rfl) _) ?_
  refine AOps.stepW (.one rfl rfl rfl) rfl rfl (OpQ.spec (ms_load_box (a := .r (.int .i64 b1.Clock)) rfl ts_3 (.inr ⟨_, (by exact id), rfl⟩) rfl rfl) _) ?_
  refine AOps.stepW (.one rfl rfl rfl) rfl rfl (OpQ.spec (sp_eql rfl (.inr ⟨_, (by exact id), rfl⟩) (.inr ⟨_, (by exact id), rfl⟩)) _) ?_
  refine AOps.stepW (.one rfl rfl rfl) rfl rfl (OpQ.spec (sp_move rfl (.inr ⟨_, (by exact id), rfl⟩)) _) ?_
  refine AOps.stepW (.two rfl rfl rfl) rfl rfl (OpQ.spec (sp_fieldAddr_own (ob := .box _ _ _) rfl tf_119_1 (.inl rfl) (fun _ => rfl) rfl) _) ?_
  refine AOps.stepW (.two rfl rfl rfl) rfl rfl (OpQ.spec (ms_load_box (a := .r (.int .i64 a1.Site)) rfl ts_3 (.inr ⟨_, (by exact id), rfl⟩) rfl rfl) _) ?_
  refine AOps.stepW (.two rfl rfl rfl) rfl rfl (OpQ.spec (sp_fieldAddr_own (ob := .box _ _ _) rfl tf_119_1 (.inl rfl) (fun _ => rfl) rfl) _) ?_
  refine AOps.stepW (.two rfl rfl rfl) rfl rfl (OpQ.spec (ms_load_box (a := .r (.int .i64 b1.Site)) rfl ts_3 (.inr ⟨_, (by exact id), rfl⟩) rfl rfl) _) ?_
  refine AOps.stepW (.two rfl rfl rfl) rfl rfl (OpQ.spec (sp_lss rfl (.inr ⟨_, (by exact id), rfl⟩) (.inr ⟨_, (by exact id), rfl⟩)) _) ?_
  refine AOps.stepW (.one rfl rfl rfl) rfl rfl (OpQ.spec (sp_and rfl (.inr ⟨_, (by exact id), rfl⟩) (.inr ⟨_, (by exact id), rfl⟩)) _) ?_
  refine AOps.step rfl rfl rfl (OpQ.spec (sp_or rfl (.inl rfl) (.inr ⟨_, (by exact id), rfl⟩)) _) ?_
  refine AOps.step rfl rfl rfl (OpQ.spec (sp_assign rfl (.inl rfl)) _) ?_
  refine AOps.nil ?_
  refine hK2 _ ?_
  refine AW.ret ?_
  exact retf1 (P := Tryd.prog) (fun (r : Bool) => .r (.bool r)) h (.inl rfl) (.t (.d rfl))
set_option maxHeartbeats 4000000 in
set_option maxRecDepth 20000 in
theorem w_ref_DrawError {l1 : List GDrawOp} {r : Int} (h : ref_DrawError l1 = some r) : ARO Tryd.prog 69 [.r (.sl (l1.map GDrawOp.row))] (.r (.int .i64 r)) := by
  unfold ref_DrawError at h
  refine ARO.mkF Tryd.func69 rfl rfl Tryd.ntmps69 rfl (Nat.le_of_ble_eq_true rfl) fun n0 => ?_
  refine AW.seq_w fun K1 hK1 wK1 => ?_
  refine AW.region ?_
  refine AOps.step rfl rfl rfl (OpQ.spec (sp_assign rfl (.inl rfl)) _) ?_
  refine AOps.nil ?_
  refine hK1 _ ?_
  refine AW.seq_w fun K2 hK2 wK2 => ?_
  refine AW.seq_w fun K3 hK3 wK3 => ?_
  refine AW.region ?_
  refine AOps.step rfl rfl rfl (OpQ.spec (sp_move rfl (.inl rfl)) _) ?_
  refine AOps.step rfl rfl rfl (OpQ.spec (ms_len rfl tg_33.slice (.inl rfl)) _) ?_
  refine AOps.step rfl rfl rfl (OpQ.spec (sp_move rfl (.inl rfl)) _) ?_
  refine AOps.nil ?_
  refine hK3 _ ?_
  refine AW.block ?_
  refine jc1k h fun o1 hit1 hk1 he1 => ?_
  have J1 : ∀ (u2 : Unit) (i5 : Nat → Nat), o1 = .nrm u2 → K2 ⟨[], [], (i5 0), 91⟩ := by
    intro u2 i5 e
    have h1 := hk1 _ e
    refine hK2 _ ?_
    refine AW.seq_w fun K4 hK4 wK4 => ?_
    refine AW.region ?_
    refine AOps.step rfl rfl rfl (OpQ.spec (sp_assign rfl (.inl rfl)) _) ?_
    refine AOps.nil ?_
    refine hK4 _ ?_
    refine AW.ret ?_
    exact retf1 (P := Tryd.prog) (fun (r : Int) => .r (.int .i64 r)) h1 (.inl rfl) (.t (.d rfl))
  refine AW.iter1 (fun (x2 : Int) i3 => ⟨[(0, .r (.sl (l1.map GDrawOp.row))), (6, .r (.int .i64 (l1.length : Int))), (7, .r (.int .i64 x2))], [], (i3 0), 91⟩) (vec [n0]) hit1 ((by exact Weak.cv ⟨.inl (.inl rfl), .inl (.inl rfl), .inl (.inl rfl), trivial⟩ trivial (Nat.le_refl _))) ?_
  intro x2 i3 v1 hv1 hx1
  have h2 : ref_DrawError_L1 l1 x2 = some v1 := hv1; unfold ref_DrawError_L1 at h2
  refine AW.seq_w fun K5 hK5 wK5 => ?_
  refine AW.region ?_
  refine AOps.step rfl rfl rfl (OpQ.spec (sp_lss rfl (.inl rfl) (.inl rfl)) _) ?_
  refine AOps.nil ?_
  refine hK5 _ ?_
  refine AW.seq_w fun K6 hK6 wK6 => ?_
  refine AW.cond rfl (fun hc1 => ?_) (fun hc1 => ?_)
  · have h3 := ite_t hc1 h2
    refine AW.skip ?_
    refine hK6 _ ?_
    refine AW.seq_w fun K7 hK7 wK7 => ?_
    refine AW.block ?_
    refine AW.seq_w fun K8 hK8 wK8 => ?_
    refine AW.region ?_
    refine AOps.step rfl rfl rfl (OpQ.spec (sp_move rfl (.inl rfl)) _) ?_
    refine AOps.step rfl rfl rfl (OpQ.spec (sp_assign rfl (.inl rfl)) _) ?_
    refine AOps.nil ?_
    refine hK8 _ ?_
    refine AW.seq_w fun K9 hK9 wK9 => ?_
    refine AW.region ?_
    refine AOps.step rfl rfl rfl (OpQ.spec (sp_move rfl (.inl rfl)) _) ?_
    refine AOps.step rfl rfl rfl (OpQ.spec (sp_move rfl (.inl rfl)) _) ?_
    refine ob1k h3 fun x4 ex4 h4 => ?_
    refine AOps.step rfl rfl rfl (OpQ.spec (ms_idx rfl tg_33.slice (.inl rfl) (.inl rfl) (fun _ => rfl) (fun _ => ex4)) _) ?_
    refine AOps.step rfl rfl rfl (OpQ.spec (ms_loadA (cs := [.r (.int .i64 x4.Clock), .r (.int .i64 x4.Site), .r (.int .i64 x4.Kind), .r (.int .i64 x4.Item), .r (.int .i64 x4.Parent), .r (.str x4.Place), .r (.str x4.Name), .r (.str x4.Value)]) rfl ta_119 (.inl rfl) rfl rfl) _) ?_
    refine AOps.step rfl rfl rfl (ms_alloc (cs := [.r (.int .i64 0), .r (.int .i64 0), .r (.int .i64 0), .r (.int .i64 0), .r (.int .i64 0), .r (.str []), .r (.str []), .r (.str [])]) 4 rfl t0_119 rfl rfl) ?_
    refine AOps.step0 rfl rfl (ms_store_box (ds := [.r (.int .i64 x4.Clock), .r (.int .i64 x4.Site), .r (.int .i64 x4.Kind), .r (.int .i64 x4.Item), .r (.int .i64 x4.Parent), .r (.str x4.Place), .r (.str x4.Name), .r (.str x4.Value)]) rfl tz_119 (.inl rfl) rfl (.inl rfl) rfl rfl rfl rfl) ?_
    refine AOps.nil ?_
    refine hK9 _ ?_
    refine AW.seq_w fun K10 hK10 wK10 => ?_
    refine AW.seq_w fun K11 hK11 wK11 => ?_
    refine AW.region ?_
    refine AOps.step rfl rfl rfl (OpQ.spec (sp_fieldAddr_own (ob := .box _ _ _) rfl tf_119_2 (.inl rfl) (fun _ => rfl) rfl) _) ?_
    refine AOps.step rfl rfl rfl (OpQ.spec (ms_load_box (a := .r (.int .i64 x4.Kind)) rfl ts_3 (.inl rfl) rfl rfl) _) ?_
    refine AOps.step rfl rfl rfl (OpQ.spec (sp_neq rfl (.inl rfl) (.inl rfl)) _) ?_
    refine AOps.step rfl rfl rfl (OpQ.spec (sp_move rfl (.inl rfl)) _) ?_
    refine AOps.stepW (.one rfl rfl rfl) rfl rfl (OpQ.spec (sp_fieldAddr_own (ob := .box _ _ _) rfl tf_119_2 (.inl rfl) (fun _ => rfl) rfl) _) ?_
    refine AOps.stepW (.one rfl rfl rfl) rfl rfl (OpQ.spec (ms_load_box (a := .r (.int .i64 x4.Kind)) rfl ts_3 (.inr ⟨_, (by exact id), rfl⟩) rfl rfl) _) ?_
    refine AOps.stepW (.one rfl rfl rfl) rfl rfl (OpQ.spec (sp_neq rfl (.inr ⟨_, (by exact id), rfl⟩) (.inl rfl)) _) ?_
    refine AOps.step rfl rfl rfl (OpQ.spec (sp_and rfl (.inl rfl) (.inr ⟨_, (by exact id), rfl⟩)) _) ?_
    refine AOps.nil ?_
    refine hK11 _ ?_
    refine AW.cond rfl (fun hc2 => ?_) (fun hc2 => ?_)
    · have h5 := ite_t hc2 h4
      refine AW.seq_w fun K12 hK12 wK12 => ?_
      refine AW.weak (s' := ⟨[], [], ((i3 0) + 1), 91⟩) (by exact Weak.cv trivial trivial (Nat.le_refl _)) ?_
      refine AW.region ?_
      refine AOps.step rfl rfl rfl (OpQ.spec (sp_assign rfl (.inl rfl)) _) ?_
      refine AOps.nil ?_
      refine hK12 _ ?_
      refine AW.ret ?_
      exact retf1 (P := Tryd.prog) (fun (r : Int) => .r (.int .i64 r)) (he1 _ (hx1 _ (Option.some.inj h5).symm)) (.inl rfl) (.t (.d rfl))
    · have h5 := ite_f hc2 h4
      refine AW.skip ?_
      refine hK10 _ ?_
      refine AW.seq_w fun K13 hK13 wK13 => ?_
      refine AW.seq_w fun K14 hK14 wK14 => ?_
      refine AW.weak (s' := ⟨[(0, .r (.sl (l1.map GDrawOp.row))), (3, .r (.int .i64 x2)), (4, .ptr 4 (i3 0) 0 0), (6, .r (.int .i64 (l1.length : Int))), (7, .r (.int .i64 x2))], [(4, some (.box (i3 0) 119 [.r (.int .i64 x4.Clock), .r (.int .i64 x4.Site), .r (.int .i64 x4.Kind), .r (.int .i64 x4.Item), .r (.int .i64 x4.Parent), .r (.str x4.Place), .r (.str x4.Name), .r (.str x4.Value)]))], ((i3 0) + 1), 91⟩) (by exact Weak.cv ⟨.inl (.inl rfl), .inl (.inl rfl), .inl (.inl rfl), .inl (.inl rfl), .inl (.inl rfl), trivial⟩ ⟨.inl rfl, trivial⟩ (Nat.le_refl _)) ?_
      refine AW.region ?_
      refine AOps.step rfl rfl rfl (OpQ.spec (sp_fieldAddr_own (ob := .box _ _ _) rfl tf_119_0 (.inl rfl) (fun _ => rfl) rfl) _) ?_
      refine AOps.step rfl rfl rfl (OpQ.spec (ms_load_box (a := .r (.int .i64 x4.Clock)) rfl ts_3 (.inl rfl) rfl rfl) _) ?_
      refine ob1k h5 fun r1 er1 h6 => ?_
      refine AOps.step rfl rfl rfl (sp_call (r := .r (.bool r1)) (caps := []) (bs := [.r (.int .i64 x4.Clock), .r (.int .i64 1), .r (.int .i64 1073741824)]) rfl (.inl rfl) rfl ⟨⟨_, (.inl rfl), .d rfl⟩, ⟨_, (.inl rfl), .d rfl⟩, ⟨_, (.inl rfl), .d rfl⟩, trivial⟩ (fun _ => w_ref_In (er1)) rfl) ?_
      refine AOps.step rfl rfl rfl (OpQ.spec (sp_not rfl (.inl rfl)) _) ?_
      refine AOps.step rfl rfl rfl (OpQ.spec (sp_move rfl (.inl rfl)) _) ?_
      refine AOps.stepW (.one rfl rfl rfl) rfl rfl (OpQ.spec (sp_fieldAddr_own (ob := .box _ _ _) rfl tf_119_1 (.inl rfl) (fun _ => rfl) rfl) _) ?_
      refine AOps.stepW (.one rfl rfl rfl) rfl rfl (OpQ.spec (ms_load_box (a := .r (.int .i64 x4.Site)) rfl ts_3 (.inr ⟨_, (by exact id), rfl⟩) rfl rfl) _) ?_
      refine ob1k h6 fun r2 er2 h7 => ?_
      refine AOps.stepW (.one rfl rfl rfl) rfl rfl (sp_call (r := .r (.bool r2)) (caps := []) (bs := [.r (.int .i64 x4.Site), .r (.int .i64 0), .r (.int .i64 1000)]) rfl (.inl rfl) rfl ⟨⟨_, (.inr ⟨_, (by exact id), rfl⟩), .d rfl⟩, ⟨_, (.inl rfl), .d rfl⟩, ⟨_, (.inl rfl), .d rfl⟩, trivial⟩ (fun hg => w_ref_In (gdt er2 hg)) rfl) ?_
      refine AOps.stepW (.one rfl rfl rfl) rfl rfl (OpQ.spec (sp_not rfl (.inr ⟨_, (by exact id), rfl⟩)) _) ?_
      refine AOps.step rfl rfl rfl (OpQ.spec (sp_or rfl (.inl rfl) (.inr ⟨_, (by exact id), rfl⟩)) _) ?_
      refine AOps.step rfl rfl rfl (OpQ.spec (sp_move rfl (.inl rfl)) _) ?_
      refine AOps.stepW (.one rfl rfl rfl) rfl rfl (OpQ.spec (sp_fieldAddr_own (ob := .box _ _ _) rfl tf_119_3 (.inl rfl) (fun _ => rfl) rfl) _) ?_
      refine AOps.stepW (.one rfl rfl rfl) rfl rfl (OpQ.spec (ms_load_box (a := .r (.int .i64 x4.Item)) rfl ts_3 (.inr ⟨_, (by exact id), rfl⟩) rfl rfl) _) ?_
      refine ob1k h7 fun r3 er3 h8 => ?_
      refine AOps.stepW (.one rfl rfl rfl) rfl rfl (sp_call (r := .r (.bool r3)) (caps := []) (bs := [.r (.int .i64 x4.Item), .r (.int .i64 1), .r (.int .i64 1073741824)]) rfl (.inl rfl) rfl ⟨⟨_, (.inr ⟨_, (by exact id), rfl⟩), .d rfl⟩, ⟨_, (.inl rfl), .d rfl⟩, ⟨_, (.inl rfl), .d rfl⟩, trivial⟩ (fun hg => w_ref_In (gdt er3 hg)) rfl) ?_
      refine AOps.stepW (.one rfl rfl rfl) rfl rfl (OpQ.spec (sp_not rfl (.inr ⟨_, (by exact id), rfl⟩)) _) ?_
      refine AOps.step rfl rfl rfl (OpQ.spec (sp_or rfl (.inl rfl) (.inr ⟨_, (by exact id), rfl⟩)) _) ?_
      refine AOps.nil ?_
      refine hK14 _ ?_
      refine AW.cond rfl (fun hc3 => ?_) (fun hc3 => ?_)
      · have h9 := ite_t hc3 h8
        refine AW.seq_w fun K15 hK15 wK15 => ?_
        refine AW.weak (s' := ⟨[], [], ((i3 0) + 1), 91⟩) (by exact Weak.cv trivial trivial (Nat.le_refl _)) ?_
        refine AW.region ?_
        refine AOps.step rfl rfl rfl (OpQ.spec (sp_assign rfl (.inl rfl)) _) ?_
        refine AOps.nil ?_
        refine hK15 _ ?_
        refine AW.ret ?_
        exact retf1 (P := Tryd.prog) (fun (r : Int) => .r (.int .i64 r)) (he1 _ (hx1 _ (Option.some.inj h9).symm)) (.inl rfl) (.t (.d rfl))
      · have h9 := ite_f hc3 h8
        refine AW.skip ?_
        refine hK13 _ ?_
        refine AW.seq_w fun K16 hK16 wK16 => ?_
        refine AW.seq_w fun K17 hK17 wK17 => ?_
        refine AW.region ?_
        refine AOps.step rfl rfl rfl (OpQ.spec (sp_fieldAddr_own (ob := .box _ _ _) rfl tf_119_2 (.inl rfl) (fun _ => rfl) rfl) _) ?_
        refine AOps.step rfl rfl rfl (OpQ.spec (ms_load_box (a := .r (.int .i64 x4.Kind)) rfl ts_3 (.inl rfl) rfl rfl) _) ?_
        refine AOps.step rfl rfl rfl (OpQ.spec (sp_eql rfl (.inl rfl) (.inl rfl)) _) ?_
        refine AOps.nil ?_
        refine hK17 _ ?_
        refine jc1k h9 fun p1 hp1 hk2 he2 => ?_
        have J2 : ∀ (u3 : Unit) (i6 : Nat → Nat), p1 = .nrm u3 → K16 ⟨[(0, .r (.sl (l1.map GDrawOp.row))), (3, .r (.int .i64 x2)), (4, .ptr 4 (i3 0) 0 0), (6, .r (.int .i64 (l1.length : Int))), (7, .r (.int .i64 x2))], [(4, some (.box (i3 0) 119 [.r (.int .i64 x4.Clock), .r (.int .i64 x4.Site), .r (.int .i64 x4.Kind), .r (.int .i64 x4.Item), .r (.int .i64 x4.Parent), .r (.str x4.Place), .r (.str x4.Name), .r (.str x4.Value)]))], (i6 0), 91⟩ := by
          intro u3 i6 e
          have h10 := hk2 _ e
          refine hK16 _ ?_
          refine AW.seq_w fun K18 hK18 wK18 => ?_
          refine AW.regionQ hmix (by kernel_rfl) ?_
          refine AQ.step rfl rfl rfl (sp_move rfl (.inl rfl)) ?_
          refine AQ.step rfl rfl rfl (sp_gtr rfl (.inl rfl) (.inl rfl)) ?_
          refine AQ.step rfl rfl rfl (sp_move rfl (.inl rfl)) ?_
          refine AQ.stepW (.one rfl rfl rfl) rfl rfl (sp_move rfl (.inl rfl)) ?_
          refine AQ.stepW (.one rfl rfl rfl) rfl rfl (sp_move rfl (.inl rfl)) ?_
          refine ob1k h10 fun x5 ex5 h11 => ?_
          refine AQ.stepW (.one rfl rfl rfl) rfl rfl (ms_sub rfl (.inr ⟨_, (by exact id), rfl⟩) (.inl rfl) (gdt ex5)) ?_
          refine ob1k h11 fun x6 ex6 h12 => ?_
          refine AQ.stepW (.one rfl rfl rfl) rfl rfl (ms_idx rfl tg_33.slice (.inr ⟨_, (by exact id), rfl⟩) (.inr ⟨_, (by exact id), rfl⟩) (fun _ => rfl) (gdt ex6)) ?_
          refine AQ.stepW (.one rfl rfl rfl) rfl rfl (ms_loadA (cs := [.r (.int .i64 x6.Clock), .r (.int .i64 x6.Site), .r (.int .i64 x6.Kind), .r (.int .i64 x6.Item), .r (.int .i64 x6.Parent), .r (.str x6.Place), .r (.str x6.Name), .r (.str x6.Value)]) rfl ta_119 (.inr ⟨_, (by exact id), rfl⟩) rfl rfl) ?_
          refine AQ.stepW (.one rfl rfl rfl) rfl rfl (ms_loadA_box rfl ta_119 (.inl rfl) rfl rfl) ?_
          refine ob1k h12 fun r4 er4 h13 => ?_
          refine AQ.stepWC (.one rfl rfl rfl) rfl rfl (r := .r (.bool r4)) (caps := []) (bs := [.agg [.r (.int .i64 x6.Clock), .r (.int .i64 x6.Site), .r (.int .i64 x6.Kind), .r (.int .i64 x6.Item), .r (.int .i64 x6.Parent), .r (.str x6.Place), .r (.str x6.Name), .r (.str x6.Value)], .agg [.r (.int .i64 x4.Clock), .r (.int .i64 x4.Site), .r (.int .i64 x4.Kind), .r (.int .i64 x4.Item), .r (.int .i64 x4.Parent), .r (.str x4.Place), .r (.str x4.Name), .r (.str x4.Value)]]) rfl (.inl rfl) rfl ⟨⟨_, (.inr ⟨_, (by exact id), rfl⟩), .g (cs := [.int .i64 x6.Clock, .int .i64 x6.Site, .int .i64 x6.Kind, .int .i64 x6.Item, .int .i64 x6.Parent, .str x6.Place, .str x6.Name, .str x6.Value]) rfl rfl⟩, ⟨_, (.inr ⟨_, (by exact id), rfl⟩), .g (cs := [.int .i64 x4.Clock, .int .i64 x4.Site, .int .i64 x4.Kind, .int .i64 x4.Item, .int .i64 x4.Parent, .str x4.Place, .str x4.Name, .str x4.Value]) rfl rfl⟩, trivial⟩ (fun hg => w_ref_Earlier (gdt er4 hg)) rfl ?_
          refine AQ.stepW (.one rfl rfl rfl) rfl rfl (sp_not rfl (.inr ⟨_, (by exact id), rfl⟩)) ?_
          refine AQ.step rfl rfl rfl (sp_and rfl (.inl rfl) (.inr ⟨_, (by exact id), rfl⟩)) ?_
          refine AQ.nil ?_
          refine hK18 _ ?_
          refine AW.cond rfl (fun hc4 => ?_) (fun hc4 => ?_)
          · have h14 := ite_t hc4 h13
            refine AW.seq_w fun K19 hK19 wK19 => ?_
            refine AW.weak (s' := ⟨[], [], (i6 0), 91⟩) (by exact Weak.cv trivial trivial (Nat.le_refl _)) ?_
            refine AW.region ?_
            refine AOps.step rfl rfl rfl (OpQ.spec (sp_assign rfl (.inl rfl)) _) ?_
            refine AOps.nil ?_
            refine hK19 _ ?_
            refine AW.ret ?_
            exact retf1 (P := Tryd.prog) (fun (r : Int) => .r (.int .i64 r)) (he1 _ (hx1 _ (Option.some.inj h14).symm)) (.inl rfl) (.t (.d rfl))
          · have h14 := ite_f hc4 h13
            refine AW.skip ?_
            refine hK7 _ ?_
            refine AW.region ?_
            refine ob1k h14 fun x7 ex7 h15 => ?_
            refine AOps.step rfl rfl rfl (OpQ.spec (ms_add rfl (.inl rfl) (.inl rfl) (fun _ => ex7)) _) ?_
            refine AOps.step rfl rfl rfl (OpQ.spec (sp_move rfl (.inl rfl)) _) ?_
            refine AOps.nil ?_
            exact NextQ1.mk h15 (vec [(i6 0)]) ((by exact Weak.cv ⟨.inl (.inl rfl), .inl (.inl rfl), .inl (.inl rfl), trivial⟩ trivial (Nat.le_refl _)))
        refine AW.cond rfl (fun hc5 => ?_) (fun hc5 => ?_)
        · have h16 := ite_t hc5 hp1
          refine AW.seq_w fun K20 hK20 wK20 => ?_
          refine AW.seq_w fun K21 hK21 wK21 => ?_
          refine AW.weak (s' := ⟨[(0, .r (.sl (l1.map GDrawOp.row))), (3, .r (.int .i64 x2)), (4, .ptr 4 (i3 0) 0 0), (6, .r (.int .i64 (l1.length : Int))), (7, .r (.int .i64 x2))], [(4, some (.box (i3 0) 119 [.r (.int .i64 x4.Clock), .r (.int .i64 x4.Site), .r (.int .i64 x4.Kind), .r (.int .i64 x4.Item), .r (.int .i64 x4.Parent), .r (.str x4.Place), .r (.str x4.Name), .r (.str x4.Value)]))], ((i3 0) + 1), 91⟩) (by exact Weak.cv ⟨.inl (.inl rfl), .inl (.inl rfl), .inl (.inl rfl), .inl (.inl rfl), .inl (.inl rfl), trivial⟩ ⟨.inl rfl, trivial⟩ (Nat.le_refl _)) ?_
          refine AW.region ?_
          refine AOps.step rfl rfl rfl (OpQ.spec (sp_fieldAddr_own (ob := .box _ _ _) rfl tf_119_6 (.inl rfl) (fun _ => rfl) rfl) _) ?_
          refine AOps.step rfl rfl rfl (OpQ.spec (ms_load_box (a := .r (.str x4.Name)) rfl ts_9 (.inl rfl) rfl rfl) _) ?_
          refine AOps.step rfl rfl rfl (OpQ.spec (sp_sneq rfl (.inl rfl) (.inl rfl)) _) ?_
          refine AOps.step rfl rfl rfl (OpQ.spec (sp_move rfl (.inl rfl)) _) ?_
          refine AOps.stepW (.one rfl rfl rfl) rfl rfl (OpQ.spec (sp_fieldAddr_own (ob := .box _ _ _) rfl tf_119_7 (.inl rfl) (fun _ => rfl) rfl) _) ?_
          refine AOps.stepW (.one rfl rfl rfl) rfl rfl (OpQ.spec (ms_load_box (a := .r (.str x4.Value)) rfl ts_9 (.inr ⟨_, (by exact id), rfl⟩) rfl rfl) _) ?_
          refine AOps.stepW (.one rfl rfl rfl) rfl rfl (OpQ.spec (sp_sneq rfl (.inr ⟨_, (by exact id), rfl⟩) (.inl rfl)) _) ?_
          refine AOps.step rfl rfl rfl (OpQ.spec (sp_or rfl (.inl rfl) (.inr ⟨_, (by exact id), rfl⟩)) _) ?_
          refine AOps.nil ?_
          refine hK21 _ ?_
          refine AW.cond rfl (fun hc6 => ?_) (fun hc6 => ?_)
          · have h17 := ite_t hc6 h16
            refine AW.seq_w fun K22 hK22 wK22 => ?_
            refine AW.weak (s' := ⟨[], [], ((i3 0) + 1), 91⟩) (by exact Weak.cv trivial trivial (Nat.le_refl _)) ?_
            refine AW.region ?_
            refine AOps.step rfl rfl rfl (OpQ.spec (sp_assign rfl (.inl rfl)) _) ?_
            refine AOps.nil ?_
            refine hK22 _ ?_
            refine AW.ret ?_
            exact retf1 (P := Tryd.prog) (fun (r : Int) => .r (.int .i64 r)) (he1 _ (hx1 _ (Option.some.inj (he2 _ (Option.some.inj h17).symm)).symm)) (.inl rfl) (.t (.d rfl))
          · have h17 := ite_f hc6 h16
            refine AW.skip ?_
            refine hK20 _ ?_
            refine AW.seq_w fun K23 hK23 wK23 => ?_
            refine AW.seq_w fun K24 hK24 wK24 => ?_
            refine AW.region ?_
            refine AOps.step rfl rfl rfl (OpQ.spec (sp_fieldAddr_own (ob := .box _ _ _) rfl tf_119_4 (.inl rfl) (fun _ => rfl) rfl) _) ?_
            refine AOps.step rfl rfl rfl (OpQ.spec (ms_load_box (a := .r (.int .i64 x4.Parent)) rfl ts_3 (.inl rfl) rfl rfl) _) ?_
            refine ob1k h17 fun r5 er5 h18 => ?_
            refine AOps.step rfl rfl rfl (sp_call (r := .r (.bool r5)) (caps := []) (bs := [.r (.int .i64 x4.Parent), .r (.int .i64 (-1)), .r (.int .i64 1073741824)]) rfl (.inl rfl) rfl ⟨⟨_, (.inl rfl), .d rfl⟩, ⟨_, (.inl rfl), .d rfl⟩, ⟨_, (.inl rfl), .d rfl⟩, trivial⟩ (fun _ => w_ref_In (er5)) rfl) ?_
            refine AOps.step rfl rfl rfl (OpQ.spec (sp_not rfl (.inl rfl)) _) ?_
            refine AOps.nil ?_
            refine hK24 _ ?_
            refine AW.cond rfl (fun hc7 => ?_) (fun hc7 => ?_)
            · have h19 := ite_t hc7 h18
              refine AW.seq_w fun K25 hK25 wK25 => ?_
              refine AW.weak (s' := ⟨[], [], ((i3 0) + 1), 91⟩) (by exact Weak.cv trivial trivial (Nat.le_refl _)) ?_
              refine AW.region ?_
              refine AOps.step rfl rfl rfl (OpQ.spec (sp_assign rfl (.inl rfl)) _) ?_
              refine AOps.nil ?_
              refine hK25 _ ?_
              refine AW.ret ?_
              exact retf1 (P := Tryd.prog) (fun (r : Int) => .r (.int .i64 r)) (he1 _ (hx1 _ (Option.some.inj (he2 _ (Option.some.inj h19).symm)).symm)) (.inl rfl) (.t (.d rfl))
            · have h19 := ite_f hc7 h18
              refine AW.skip ?_
              refine hK23 _ ?_
              refine AW.seq_w fun K26 hK26 wK26 => ?_
              refine AW.weak (s' := ⟨[(0, .r (.sl (l1.map GDrawOp.row))), (3, .r (.int .i64 x2)), (4, .ptr 4 (i3 0) 0 0), (6, .r (.int .i64 (l1.length : Int))), (7, .r (.int .i64 x2))], [(4, some (.box (i3 0) 119 [.r (.int .i64 x4.Clock), .r (.int .i64 x4.Site), .r (.int .i64 x4.Kind), .r (.int .i64 x4.Item), .r (.int .i64 x4.Parent), .r (.str x4.Place), .r (.str x4.Name), .r (.str x4.Value)]))], ((i3 0) + 1), 91⟩) (by exact Weak.cv ⟨.inl (.inl rfl), .inl (.inl rfl), .inl (.inl rfl), .inl (.inl rfl), .inl (.inl rfl), trivial⟩ ⟨.inl rfl, trivial⟩ (Nat.le_refl _)) ?_
              refine AW.region ?_
              refine AOps.step rfl rfl rfl (OpQ.spec (sp_fieldAddr_own (ob := .box _ _ _) rfl tf_119_5 (.inl rfl) (fun _ => rfl) rfl) _) ?_
              refine AOps.step rfl rfl rfl (OpQ.spec (ms_load_box (a := .r (.str x4.Place)) rfl ts_9 (.inl rfl) rfl rfl) _) ?_
              refine ob1k h19 fun r6 er6 h20 => ?_
              refine AOps.step rfl rfl rfl (sp_call (r := .r (.bool r6)) (caps := []) (bs := [.r (.str x4.Place)]) rfl (.inl rfl) rfl ⟨⟨_, (.inl rfl), .d rfl⟩, trivial⟩ (fun _ => w_ref_Place (er6)) rfl) ?_
              refine AOps.step rfl rfl rfl (OpQ.spec (sp_not rfl (.inl rfl)) _) ?_
              refine AOps.nil ?_
              refine hK26 _ ?_
              refine AW.cond rfl (fun hc8 => ?_) (fun hc8 => ?_)
              · have h21 := ite_t hc8 h20
                refine AW.seq_w fun K27 hK27 wK27 => ?_
                refine AW.weak (s' := ⟨[], [], ((i3 0) + 1), 91⟩) (by exact Weak.cv trivial trivial (Nat.le_refl _)) ?_
                refine AW.region ?_
                refine AOps.step rfl rfl rfl (OpQ.spec (sp_assign rfl (.inl rfl)) _) ?_
                refine AOps.nil ?_
                refine hK27 _ ?_
                refine AW.ret ?_
                exact retf1 (P := Tryd.prog) (fun (r : Int) => .r (.int .i64 r)) (he1 _ (hx1 _ (Option.some.inj (he2 _ (Option.some.inj h21).symm)).symm)) (.inl rfl) (.t (.d rfl))
              · have h21 := ite_f hc8 h20
                refine AW.skip ?_
                exact wK16 _ _ ((by exact Weak.cv ⟨.inl (.inl rfl), .inl (.inl rfl), .inl (.inl rfl), .inl (.inl rfl), .inl (.inl rfl), trivial⟩ ⟨.inl rfl, trivial⟩ (Nat.le_refl _))) (J2 _ (vec [((i3 0) + 1)]) (Option.some.inj h21).symm)
        · have h16 := ite_f hc5 hp1
          refine AW.seq_w fun K28 hK28 wK28 => ?_
          refine AW.seq_w fun K29 hK29 wK29 => ?_
          refine AW.weak (s' := ⟨[(0, .r (.sl (l1.map GDrawOp.row))), (3, .r (.int .i64 x2)), (4, .ptr 4 (i3 0) 0 0), (6, .r (.int .i64 (l1.length : Int))), (7, .r (.int .i64 x2))], [(4, some (.box (i3 0) 119 [.r (.int .i64 x4.Clock), .r (.int .i64 x4.Site), .r (.int .i64 x4.Kind), .r (.int .i64 x4.Item), .r (.int .i64 x4.Parent), .r (.str x4.Place), .r (.str x4.Name), .r (.str x4.Value)]))], ((i3 0) + 1), 91⟩) (by exact Weak.cv ⟨.inl (.inl rfl), .inl (.inl rfl), .inl (.inl rfl), .inl (.inl rfl), .inl (.inl rfl), trivial⟩ ⟨.inl rfl, trivial⟩ (Nat.le_refl _)) ?_
          refine AW.region ?_
          refine AOps.step rfl rfl rfl (OpQ.spec (sp_fieldAddr_own (ob := .box _ _ _) rfl tf_119_4 (.inl rfl) (fun _ => rfl) rfl) _) ?_
          refine AOps.step rfl rfl rfl (OpQ.spec (ms_load_box (a := .r (.int .i64 x4.Parent)) rfl ts_3 (.inl rfl) rfl rfl) _) ?_
          refine AOps.step rfl rfl rfl (OpQ.spec (sp_neq rfl (.inl rfl) (.inl rfl)) _) ?_
          refine AOps.step rfl rfl rfl (OpQ.spec (sp_move rfl (.inl rfl)) _) ?_
          refine AOps.stepW (.one rfl rfl rfl) rfl rfl (OpQ.spec (sp_fieldAddr_own (ob := .box _ _ _) rfl tf_119_5 (.inl rfl) (fun _ => rfl) rfl) _) ?_
          refine AOps.stepW (.one rfl rfl rfl) rfl rfl (OpQ.spec (ms_load_box (a := .r (.str x4.Place)) rfl ts_9 (.inr ⟨_, (by exact id), rfl⟩) rfl rfl) _) ?_
          refine AOps.stepW (.one rfl rfl rfl) rfl rfl (OpQ.spec (sp_sneq rfl (.inr ⟨_, (by exact id), rfl⟩) (.inl rfl)) _) ?_
          refine AOps.step rfl rfl rfl (OpQ.spec (sp_or rfl (.inl rfl) (.inr ⟨_, (by exact id), rfl⟩)) _) ?_
          refine AOps.nil ?_
          refine hK29 _ ?_
          refine AW.cond rfl (fun hc9 => ?_) (fun hc9 => ?_)
          · have h22 := ite_t hc9 h16
            refine AW.seq_w fun K30 hK30 wK30 => ?_
            refine AW.weak (s' := ⟨[], [], ((i3 0) + 1), 91⟩) (by exact Weak.cv trivial trivial (Nat.le_refl _)) ?_
            refine AW.region ?_
            refine AOps.step rfl rfl rfl (OpQ.spec (sp_assign rfl (.inl rfl)) _) ?_
            refine AOps.nil ?_
            refine hK30 _ ?_
            refine AW.ret ?_
            exact retf1 (P := Tryd.prog) (fun (r : Int) => .r (.int .i64 r)) (he1 _ (hx1 _ (Option.some.inj (he2 _ (Option.some.inj h22).symm)).symm)) (.inl rfl) (.t (.d rfl))
          · have h22 := ite_f hc9 h16
            refine AW.skip ?_
            refine hK28 _ ?_
            refine AW.seq_w fun K31 hK31 wK31 => ?_
            refine AW.seq_w fun K32 hK32 wK32 => ?_
            refine AW.region ?_
            refine AOps.step rfl rfl rfl (OpQ.spec (sp_fieldAddr_own (ob := .box _ _ _) rfl tf_119_6 (.inl rfl) (fun _ => rfl) rfl) _) ?_
            refine AOps.step rfl rfl rfl (OpQ.spec (ms_load_box (a := .r (.str x4.Name)) rfl ts_9 (.inl rfl) rfl rfl) _) ?_
            refine ob1k h22 fun r7 er7 h23 => ?_
            refine AOps.step rfl rfl rfl (sp_call (r := .r (.bool r7)) (caps := []) (bs := [.r (.str x4.Name)]) rfl (.inl rfl) rfl ⟨⟨_, (.inl rfl), .d rfl⟩, trivial⟩ (fun _ => w_ref_Name (er7)) rfl) ?_
            refine AOps.step rfl rfl rfl (OpQ.spec (sp_not rfl (.inl rfl)) _) ?_
            refine AOps.nil ?_
            refine hK32 _ ?_
            refine AW.cond rfl (fun hc10 => ?_) (fun hc10 => ?_)
            · have h24 := ite_t hc10 h23
              refine AW.seq_w fun K33 hK33 wK33 => ?_
              refine AW.weak (s' := ⟨[], [], ((i3 0) + 1), 91⟩) (by exact Weak.cv trivial trivial (Nat.le_refl _)) ?_
              refine AW.region ?_
              refine AOps.step rfl rfl rfl (OpQ.spec (sp_assign rfl (.inl rfl)) _) ?_
              refine AOps.nil ?_
              refine hK33 _ ?_
              refine AW.ret ?_
              exact retf1 (P := Tryd.prog) (fun (r : Int) => .r (.int .i64 r)) (he1 _ (hx1 _ (Option.some.inj (he2 _ (Option.some.inj h24).symm)).symm)) (.inl rfl) (.t (.d rfl))
            · have h24 := ite_f hc10 h23
              refine AW.skip ?_
              refine hK31 _ ?_
              refine AW.seq_w fun K34 hK34 wK34 => ?_
              refine AW.weak (s' := ⟨[(0, .r (.sl (l1.map GDrawOp.row))), (3, .r (.int .i64 x2)), (4, .ptr 4 (i3 0) 0 0), (6, .r (.int .i64 (l1.length : Int))), (7, .r (.int .i64 x2))], [(4, some (.box (i3 0) 119 [.r (.int .i64 x4.Clock), .r (.int .i64 x4.Site), .r (.int .i64 x4.Kind), .r (.int .i64 x4.Item), .r (.int .i64 x4.Parent), .r (.str x4.Place), .r (.str x4.Name), .r (.str x4.Value)]))], ((i3 0) + 1), 91⟩) (by exact Weak.cv ⟨.inl (.inl rfl), .inl (.inl rfl), .inl (.inl rfl), .inl (.inl rfl), .inl (.inl rfl), trivial⟩ ⟨.inl rfl, trivial⟩ (Nat.le_refl _)) ?_
              refine AW.region ?_
              refine AOps.step rfl rfl rfl (OpQ.spec (sp_fieldAddr_own (ob := .box _ _ _) rfl tf_119_7 (.inl rfl) (fun _ => rfl) rfl) _) ?_
              refine AOps.step rfl rfl rfl (OpQ.spec (ms_load_box (a := .r (.str x4.Value)) rfl ts_9 (.inl rfl) rfl rfl) _) ?_
              refine AOps.step rfl rfl rfl (OpQ.spec (sp_sneq rfl (.inl rfl) (.inl rfl)) _) ?_
              refine AOps.step rfl rfl rfl (OpQ.spec (sp_move rfl (.inl rfl)) _) ?_
              refine AOps.stepW (.one rfl rfl rfl) rfl rfl (OpQ.spec (sp_fieldAddr_own (ob := .box _ _ _) rfl tf_119_7 (.inl rfl) (fun _ => rfl) rfl) _) ?_
              refine AOps.stepW (.one rfl rfl rfl) rfl rfl (OpQ.spec (ms_load_box (a := .r (.str x4.Value)) rfl ts_9 (.inr ⟨_, (by exact id), rfl⟩) rfl rfl) _) ?_
              refine ob1k h24 fun r8 er8 h25 => ?_
              refine AOps.stepW (.one rfl rfl rfl) rfl rfl (sp_call (r := .r (.bool r8)) (caps := []) (bs := [.r (.str x4.Value)]) rfl (.inl rfl) rfl ⟨⟨_, (.inr ⟨_, (by exact id), rfl⟩), .d rfl⟩, trivial⟩ (fun hg => w_ref_Value (gdt er8 hg)) rfl) ?_
              refine AOps.stepW (.one rfl rfl rfl) rfl rfl (OpQ.spec (sp_not rfl (.inr ⟨_, (by exact id), rfl⟩)) _) ?_
              refine AOps.step rfl rfl rfl (OpQ.spec (sp_and rfl (.inl rfl) (.inr ⟨_, (by exact id), rfl⟩)) _) ?_
              refine AOps.nil ?_
              refine hK34 _ ?_
              refine AW.cond rfl (fun hc11 => ?_) (fun hc11 => ?_)
              · have h26 := ite_t hc11 h25
                refine AW.seq_w fun K35 hK35 wK35 => ?_
                refine AW.weak (s' := ⟨[], [], ((i3 0) + 1), 91⟩) (by exact Weak.cv trivial trivial (Nat.le_refl _)) ?_
                refine AW.region ?_
                refine AOps.step rfl rfl rfl (OpQ.spec (sp_assign rfl (.inl rfl)) _) ?_
                refine AOps.nil ?_
                refine hK35 _ ?_
                refine AW.ret ?_
                exact retf1 (P := Tryd.prog) (fun (r : Int) => .r (.int .i64 r)) (he1 _ (hx1 _ (Option.some.inj (he2 _ (Option.some.inj h26).symm)).symm)) (.inl rfl) (.t (.d rfl))
              · have h26 := ite_f hc11 h25
                refine AW.skip ?_
                exact wK16 _ _ ((by exact Weak.cv ⟨.inl (.inl rfl), .inl (.inl rfl), .inl (.inl rfl), .inl (.inl rfl), .inl (.inl rfl), trivial⟩ ⟨.inl rfl, trivial⟩ (Nat.le_refl _))) (J2 _ (vec [((i3 0) + 1)]) (Option.some.inj h26).symm)
  · have h3 := ite_f hc1 h2
    refine AW.exit ?_
    exact wK2 _ _ ((by exact Weak.cv trivial trivial (Nat.le_refl _))) (J1 _ (vec [(i3 0)]) (hx1 _ (Option.some.inj h3).symm))
set_option maxHeartbeats 4000000 in
set_option maxRecDepth 20000 in
theorem w_ref_NodeError {n1 : GNode} {r : Int} (h : ref_NodeError n1 = some r) : ARO Tryd.prog 20 [.agg [.r (.int .i64 n1.ID), .r (.int .i64 n1.Kind), .r (.sl (n1.Attrs.map GAttr.row)), .r (.sl (n1.Flow.map GElem.row)), .r (.int .i64 n1.Grid.Rows), .r (.int .i64 n1.Grid.Cols), .r (.sl (n1.Grid.Cells.map GCell.row)), .r (.sl (n1.Grid.Merges.map GRect.row)), .r (.sl (n1.Draw.map GDrawOp.row))]] (.r (.int .i64 r)) := by
  unfold ref_NodeError at h
  refine ARO.mkF Tryd.func20 rfl rfl Tryd.ntmps20 rfl (Nat.le_of_ble_eq_true rfl) fun n0 => ?_
  refine AW.seq_w fun K1 hK1 wK1 => ?_
  refine AW.region ?_
  refine AOps.step rfl rfl rfl (ms_box (cs := [.r (.int .i64 n1.ID), .r (.int .i64 n1.Kind), .r (.sl (n1.Attrs.map GAttr.row)), .r (.sl (n1.Flow.map GElem.row)), .r (.int .i64 n1.Grid.Rows), .r (.int .i64 n1.Grid.Cols), .r (.sl (n1.Grid.Cells.map GCell.row)), .r (.sl (n1.Grid.Merges.map GRect.row)), .r (.sl (n1.Draw.map GDrawOp.row))]) 1 rfl (.inl rfl) rfl rfl) ?_
  refine AOps.step rfl rfl rfl (OpQ.spec (sp_assign rfl (.inl rfl)) _) ?_
  refine AOps.nil ?_
  refine hK1 _ ?_
  refine AW.seq_w fun K2 hK2 wK2 => ?_
  refine AW.seq_w fun K3 hK3 wK3 => ?_
  refine AW.region ?_
  refine AOps.step rfl rfl rfl (OpQ.spec (sp_fieldAddr_own (ob := .box _ _ _) rfl tf_35_0 (.inl rfl) (fun _ => rfl) rfl) _) ?_
  refine AOps.step rfl rfl rfl (OpQ.spec (ms_load_box (a := .r (.int .i64 n1.ID)) rfl ts_3 (.inl rfl) rfl rfl) _) ?_
  refine ob1k h fun r1 er1 h1 => ?_
  refine AOps.step rfl rfl rfl (sp_call (r := .r (.bool r1)) (caps := []) (bs := [.r (.int .i64 n1.ID), .r (.int .i64 1), .r (.int .i64 1073741824)]) rfl (.inl rfl) rfl ⟨⟨_, (.inl rfl), .d rfl⟩, ⟨_, (.inl rfl), .d rfl⟩, ⟨_, (.inl rfl), .d rfl⟩, trivial⟩ (fun _ => w_ref_In (er1)) rfl) ?_
  refine AOps.step rfl rfl rfl (OpQ.spec (sp_not rfl (.inl rfl)) _) ?_
  refine AOps.nil ?_
  refine hK3 _ ?_
  refine AW.cond rfl (fun hc1 => ?_) (fun hc1 => ?_)
  · have h2 := ite_t hc1 h1
    refine AW.seq_w fun K4 hK4 wK4 => ?_
    refine AW.region ?_
    refine AOps.step rfl rfl rfl (OpQ.spec (sp_assign rfl (.inl rfl)) _) ?_
    refine AOps.nil ?_
    refine hK4 _ ?_
    refine AW.ret ?_
    exact retf1 (P := Tryd.prog) (fun (r : Int) => .r (.int .i64 r)) h2 (.inl rfl) (.t (.d rfl))
  · have h2 := ite_f hc1 h1
    refine AW.skip ?_
    refine hK2 _ ?_
    refine AW.seq_w fun K5 hK5 wK5 => ?_
    refine AW.seq_w fun K6 hK6 wK6 => ?_
    refine AW.region ?_
    refine AOps.step rfl rfl rfl (OpQ.spec (sp_fieldAddr_own (ob := .box _ _ _) rfl tf_35_1 (.inl rfl) (fun _ => rfl) rfl) _) ?_
    refine AOps.step rfl rfl rfl (OpQ.spec (ms_load_box (a := .r (.int .i64 n1.Kind)) rfl ts_3 (.inl rfl) rfl rfl) _) ?_
    refine ob1k h2 fun r2 er2 h3 => ?_
    refine AOps.step rfl rfl rfl (sp_call (r := .r (.bool r2)) (caps := []) (bs := [.r (.int .i64 n1.Kind), .r (.int .i64 0), .r (.int .i64 12)]) rfl (.inl rfl) rfl ⟨⟨_, (.inl rfl), .d rfl⟩, ⟨_, (.inl rfl), .d rfl⟩, ⟨_, (.inl rfl), .d rfl⟩, trivial⟩ (fun _ => w_ref_In (er2)) rfl) ?_
    refine AOps.step rfl rfl rfl (OpQ.spec (sp_not rfl (.inl rfl)) _) ?_
    refine AOps.step rfl rfl rfl (OpQ.spec (sp_move rfl (.inl rfl)) _) ?_
    refine AOps.stepW (.one rfl rfl rfl) rfl rfl (OpQ.spec (sp_fieldAddr_own (ob := .box _ _ _) rfl tf_35_0 (.inl rfl) (fun _ => rfl) rfl) _) ?_
    refine AOps.stepW (.one rfl rfl rfl) rfl rfl (OpQ.spec (ms_load_box (a := .r (.int .i64 n1.ID)) rfl ts_3 (.inr ⟨_, (by exact id), rfl⟩) rfl rfl) _) ?_
    refine AOps.stepW (.one rfl rfl rfl) rfl rfl (OpQ.spec (sp_eql rfl (.inr ⟨_, (by exact id), rfl⟩) (.inl rfl)) _) ?_
    refine AOps.stepW (.one rfl rfl rfl) rfl rfl (OpQ.spec (sp_move rfl (.inr ⟨_, (by exact id), rfl⟩)) _) ?_
    refine AOps.stepW (.two rfl rfl rfl) rfl rfl (OpQ.spec (sp_fieldAddr_own (ob := .box _ _ _) rfl tf_35_1 (.inl rfl) (fun _ => rfl) rfl) _) ?_
    refine AOps.stepW (.two rfl rfl rfl) rfl rfl (OpQ.spec (ms_load_box (a := .r (.int .i64 n1.Kind)) rfl ts_3 (.inr ⟨_, (by exact id), rfl⟩) rfl rfl) _) ?_
    refine AOps.stepW (.two rfl rfl rfl) rfl rfl (OpQ.spec (sp_neq rfl (.inr ⟨_, (by exact id), rfl⟩) (.inl rfl)) _) ?_
    refine AOps.stepW (.one rfl rfl rfl) rfl rfl (OpQ.spec (sp_and rfl (.inr ⟨_, (by exact id), rfl⟩) (.inr ⟨_, (by exact id), rfl⟩)) _) ?_
    refine AOps.step rfl rfl rfl (OpQ.spec (sp_or rfl (.inl rfl) (.inr ⟨_, (by exact id), rfl⟩)) _) ?_
    refine AOps.step rfl rfl rfl (OpQ.spec (sp_move rfl (.inl rfl)) _) ?_
    refine AOps.stepW (.one rfl rfl rfl) rfl rfl (OpQ.spec (sp_fieldAddr_own (ob := .box _ _ _) rfl tf_35_0 (.inl rfl) (fun _ => rfl) rfl) _) ?_
    refine AOps.stepW (.one rfl rfl rfl) rfl rfl (OpQ.spec (ms_load_box (a := .r (.int .i64 n1.ID)) rfl ts_3 (.inr ⟨_, (by exact id), rfl⟩) rfl rfl) _) ?_
    refine AOps.stepW (.one rfl rfl rfl) rfl rfl (OpQ.spec (sp_neq rfl (.inr ⟨_, (by exact id), rfl⟩) (.inl rfl)) _) ?_
    refine AOps.stepW (.one rfl rfl rfl) rfl rfl (OpQ.spec (sp_move rfl (.inr ⟨_, (by exact id), rfl⟩)) _) ?_
    refine AOps.stepW (.two rfl rfl rfl) rfl rfl (OpQ.spec (sp_fieldAddr_own (ob := .box _ _ _) rfl tf_35_1 (.inl rfl) (fun _ => rfl) rfl) _) ?_
    refine AOps.stepW (.two rfl rfl rfl) rfl rfl (OpQ.spec (ms_load_box (a := .r (.int .i64 n1.Kind)) rfl ts_3 (.inr ⟨_, (by exact id), rfl⟩) rfl rfl) _) ?_
    refine AOps.stepW (.two rfl rfl rfl) rfl rfl (OpQ.spec (sp_eql rfl (.inr ⟨_, (by exact id), rfl⟩) (.inl rfl)) _) ?_
    refine AOps.stepW (.one rfl rfl rfl) rfl rfl (OpQ.spec (sp_and rfl (.inr ⟨_, (by exact id), rfl⟩) (.inr ⟨_, (by exact id), rfl⟩)) _) ?_
    refine AOps.step rfl rfl rfl (OpQ.spec (sp_or rfl (.inl rfl) (.inr ⟨_, (by exact id), rfl⟩)) _) ?_
    refine AOps.nil ?_
    refine hK6 _ ?_
    refine AW.cond rfl (fun hc2 => ?_) (fun hc2 => ?_)
    · have h4 := ite_t hc2 h3
      refine AW.seq_w fun K7 hK7 wK7 => ?_
      refine AW.weak (s' := ⟨[], [], (n0 + 1), 105⟩) (by exact Weak.cv trivial trivial (Nat.le_refl _)) ?_
      refine AW.region ?_
      refine AOps.step rfl rfl rfl (OpQ.spec (sp_assign rfl (.inl rfl)) _) ?_
      refine AOps.nil ?_
      refine hK7 _ ?_
      refine AW.ret ?_
      exact retf1 (P := Tryd.prog) (fun (r : Int) => .r (.int .i64 r)) h4 (.inl rfl) (.t (.d rfl))
    · have h4 := ite_f hc2 h3
      refine AW.skip ?_
      refine hK5 _ ?_
      refine AW.seq_w fun K8 hK8 wK8 => ?_
      refine AW.seq_w fun K9 hK9 wK9 => ?_
      refine AW.weak (s' := ⟨[(1, .ptr 1 n0 0 0)], [(1, some (.box n0 35 [.r (.int .i64 n1.ID), .r (.int .i64 n1.Kind), .r (.sl (n1.Attrs.map GAttr.row)), .r (.sl (n1.Flow.map GElem.row)), .r (.int .i64 n1.Grid.Rows), .r (.int .i64 n1.Grid.Cols), .r (.sl (n1.Grid.Cells.map GCell.row)), .r (.sl (n1.Grid.Merges.map GRect.row)), .r (.sl (n1.Draw.map GDrawOp.row))]))], (n0 + 1), 105⟩) (by exact Weak.cv ⟨.inl (.inl rfl), trivial⟩ ⟨.inl rfl, trivial⟩ (Nat.le_refl _)) ?_
      refine AW.region ?_
      refine AOps.step rfl rfl rfl (OpQ.spec (sp_fieldAddr_own (ob := .box _ _ _) rfl tf_35_2 (.inl rfl) (fun _ => rfl) rfl) _) ?_
      refine AOps.step rfl rfl rfl (OpQ.spec (ms_load_box (a := .r (.sl (n1.Attrs.map GAttr.row))) rfl ts_27 (.inl rfl) rfl rfl) _) ?_
      refine ob1k h4 fun e1 ee1 h5 => ?_
      refine AOps.step rfl rfl rfl (sp_call (r := .r (.int .i64 e1)) (caps := []) (bs := [.r (.sl (n1.Attrs.map GAttr.row)), .r (.bool false)]) rfl (.inl rfl) rfl ⟨⟨_, (.inl rfl), .d rfl⟩, ⟨_, (.inl rfl), .d rfl⟩, trivial⟩ (fun _ => w_ref_AttrsError (ee1)) rfl) ?_
      refine AOps.step rfl rfl rfl (OpQ.spec (sp_assign rfl (.inl rfl)) _) ?_
      refine AOps.nil ?_
      refine hK9 _ ?_
      refine AW.seq_w fun K10 hK10 wK10 => ?_
      refine AW.region ?_
      refine AOps.step rfl rfl rfl (OpQ.spec (sp_move rfl (.inl rfl)) _) ?_
      refine AOps.step rfl rfl rfl (OpQ.spec (sp_neq rfl (.inl rfl) (.inl rfl)) _) ?_
      refine AOps.nil ?_
      refine hK10 _ ?_
      refine AW.cond rfl (fun hc3 => ?_) (fun hc3 => ?_)
      · have h6 := ite_t hc3 h5
        refine AW.seq_w fun K11 hK11 wK11 => ?_
        refine AW.region ?_
        refine AOps.step rfl rfl rfl (OpQ.spec (sp_move rfl (.inl rfl)) _) ?_
        refine AOps.step rfl rfl rfl (OpQ.spec (sp_assign rfl (.inl rfl)) _) ?_
        refine AOps.nil ?_
        refine hK11 _ ?_
        refine AW.ret ?_
        exact retf1 (P := Tryd.prog) (fun (r : Int) => .r (.int .i64 r)) h6 (.inl rfl) (.t (.d rfl))
      · have h6 := ite_f hc3 h5
        refine AW.skip ?_
        refine hK8 _ ?_
        refine AW.seq_w fun K12 hK12 wK12 => ?_
        refine AW.region ?_
        refine AOps.step rfl rfl rfl (OpQ.spec (sp_fieldAddr_own (ob := .box _ _ _) rfl tf_35_1 (.inl rfl) (fun _ => rfl) rfl) _) ?_
        refine AOps.step rfl rfl rfl (OpQ.spec (ms_load_box (a := .r (.int .i64 n1.Kind)) rfl ts_3 (.inl rfl) rfl rfl) _) ?_
        refine ob1k h6 fun r3 er3 h7 => ?_
        refine AOps.step rfl rfl rfl (sp_call (r := .r (.bool r3)) (caps := []) (bs := [.r (.int .i64 n1.Kind)]) rfl (.inl rfl) rfl ⟨⟨_, (.inl rfl), .d rfl⟩, trivial⟩ (fun _ => w_ref_HasText (er3)) rfl) ?_
        refine AOps.step rfl rfl rfl (OpQ.spec (sp_move rfl (.inl rfl)) _) ?_
        refine AOps.stepW (.one rfl rfl rfl) rfl rfl (OpQ.spec (sp_fieldAddr_own (ob := .box _ _ _) rfl tf_35_1 (.inl rfl) (fun _ => rfl) rfl) _) ?_
        refine AOps.stepW (.one rfl rfl rfl) rfl rfl (OpQ.spec (ms_load_box (a := .r (.int .i64 n1.Kind)) rfl ts_3 (.inr ⟨_, (by exact id), rfl⟩) rfl rfl) _) ?_
        refine ob1k h7 fun r4 er4 h8 => ?_
        refine AOps.stepW (.one rfl rfl rfl) rfl rfl (sp_call (r := .r (.bool r4)) (caps := []) (bs := [.r (.int .i64 n1.Kind)]) rfl (.inl rfl) rfl ⟨⟨_, (.inr ⟨_, (by exact id), rfl⟩), .d rfl⟩, trivial⟩ (fun hg => w_ref_HasList (gdt er4 hg)) rfl) ?_
        refine AOps.step rfl rfl rfl (OpQ.spec (sp_or rfl (.inl rfl) (.inr ⟨_, (by exact id), rfl⟩)) _) ?_
        refine AOps.step rfl rfl rfl (OpQ.spec (sp_assign rfl (.inl rfl)) _) ?_
        refine AOps.nil ?_
        refine hK12 _ ?_
        refine AW.seq_w fun K13 hK13 wK13 => ?_
        refine AW.seq_w fun K14 hK14 wK14 => ?_
        refine AW.weak (s' := ⟨[(1, .ptr 1 n0 0 0), (4, .r (.bool (r3 || r4)))], [(1, some (.box n0 35 [.r (.int .i64 n1.ID), .r (.int .i64 n1.Kind), .r (.sl (n1.Attrs.map GAttr.row)), .r (.sl (n1.Flow.map GElem.row)), .r (.int .i64 n1.Grid.Rows), .r (.int .i64 n1.Grid.Cols), .r (.sl (n1.Grid.Cells.map GCell.row)), .r (.sl (n1.Grid.Merges.map GRect.row)), .r (.sl (n1.Draw.map GDrawOp.row))]))], (n0 + 1), 105⟩) (by exact Weak.cv ⟨.inl (.inl rfl), .inl (.inl rfl), trivial⟩ ⟨.inl rfl, trivial⟩ (Nat.le_refl _)) ?_
        refine AW.region ?_
        refine AOps.step rfl rfl rfl (OpQ.spec (sp_fieldAddr_own (ob := .box _ _ _) rfl tf_35_3 (.inl rfl) (fun _ => rfl) rfl) _) ?_
        refine AOps.step rfl rfl rfl (OpQ.spec (ms_load_box (a := .r (.sl (n1.Flow.map GElem.row))) rfl ts_28 (.inl rfl) rfl rfl) _) ?_
        refine AOps.step rfl rfl rfl (OpQ.spec (ms_len rfl tg_28.slice (.inl rfl)) _) ?_
        refine AOps.step rfl rfl rfl (OpQ.spec (sp_gtr rfl (.inl rfl) (.inl rfl)) _) ?_
        refine AOps.step rfl rfl rfl (OpQ.spec (sp_move rfl (.inl rfl)) _) ?_
        refine AOps.stepW (.one rfl rfl rfl) rfl rfl (OpQ.spec (sp_move rfl (.inl rfl)) _) ?_
        refine AOps.stepW (.one rfl rfl rfl) rfl rfl (OpQ.spec (sp_not rfl (.inr ⟨_, (by exact id), rfl⟩)) _) ?_
        refine AOps.step rfl rfl rfl (OpQ.spec (sp_and rfl (.inl rfl) (.inr ⟨_, (by exact id), rfl⟩)) _) ?_
        refine AOps.step rfl rfl rfl (OpQ.spec (sp_move rfl (.inl rfl)) _) ?_
        refine AOps.stepW (.one rfl rfl rfl) rfl rfl (OpQ.spec (sp_fieldAddr_own (ob := .box _ _ _) rfl tf_35_4 (.inl rfl) (fun _ => rfl) rfl) _) ?_
        refine AOps.stepW (.one rfl rfl rfl) rfl rfl (OpQ.spec (ms_loadA_box_at (ds := [.r (.int .i64 n1.Grid.Rows), .r (.int .i64 n1.Grid.Cols), .r (.sl (n1.Grid.Cells.map GCell.row)), .r (.sl (n1.Grid.Merges.map GRect.row))]) rfl ta_32 (.inr ⟨_, (by exact id), rfl⟩) rfl rfl rfl) _) ?_
        refine ob1k h8 fun r5 er5 h9 => ?_
        refine AOps.stepW (.one rfl rfl rfl) rfl rfl (sp_call (r := .r (.bool r5)) (caps := []) (bs := [.agg [.r (.int .i64 n1.Grid.Rows), .r (.int .i64 n1.Grid.Cols), .r (.sl (n1.Grid.Cells.map GCell.row)), .r (.sl (n1.Grid.Merges.map GRect.row))]]) rfl (.inl rfl) rfl ⟨⟨_, (.inr ⟨_, (by exact id), rfl⟩), .g (cs := [.int .i64 n1.Grid.Rows, .int .i64 n1.Grid.Cols, .sl (n1.Grid.Cells.map GCell.row), .sl (n1.Grid.Merges.map GRect.row)]) rfl rfl⟩, trivial⟩ (fun hg => w_ref_zeroGrid (gdt er5 hg)) rfl) ?_
        refine AOps.stepW (.one rfl rfl rfl) rfl rfl (OpQ.spec (sp_not rfl (.inr ⟨_, (by exact id), rfl⟩)) _) ?_
        refine AOps.stepW (.one rfl rfl rfl) rfl rfl (OpQ.spec (sp_move rfl (.inr ⟨_, (by exact id), rfl⟩)) _) ?_
        refine AOps.stepW (.two rfl rfl rfl) rfl rfl (OpQ.spec (sp_fieldAddr_own (ob := .box _ _ _) rfl tf_35_1 (.inl rfl) (fun _ => rfl) rfl) _) ?_
        refine AOps.stepW (.two rfl rfl rfl) rfl rfl (OpQ.spec (ms_load_box (a := .r (.int .i64 n1.Kind)) rfl ts_3 (.inr ⟨_, (by exact id), rfl⟩) rfl rfl) _) ?_
        refine ob1k h9 fun r6 er6 h10 => ?_
        refine AOps.stepW (.two rfl rfl rfl) rfl rfl (sp_call (r := .r (.bool r6)) (caps := []) (bs := [.r (.int .i64 n1.Kind)]) rfl (.inl rfl) rfl ⟨⟨_, (.inr ⟨_, (by exact id), rfl⟩), .d rfl⟩, trivial⟩ (fun hg => w_ref_HasGrid (gdt er6 hg)) rfl) ?_
        refine AOps.stepW (.two rfl rfl rfl) rfl rfl (OpQ.spec (sp_not rfl (.inr ⟨_, (by exact id), rfl⟩)) _) ?_
        refine AOps.stepW (.one rfl rfl rfl) rfl rfl (OpQ.spec (sp_and rfl (.inr ⟨_, (by exact id), rfl⟩) (.inr ⟨_, (by exact id), rfl⟩)) _) ?_
        refine AOps.step rfl rfl rfl (OpQ.spec (sp_or rfl (.inl rfl) (.inr ⟨_, (by exact id), rfl⟩)) _) ?_
        refine AOps.step rfl rfl rfl (OpQ.spec (sp_move rfl (.inl rfl)) _) ?_
        refine AOps.stepW (.one rfl rfl rfl) rfl rfl (OpQ.spec (sp_fieldAddr_own (ob := .box _ _ _) rfl tf_35_5 (.inl rfl) (fun _ => rfl) rfl) _) ?_
        refine AOps.stepW (.one rfl rfl rfl) rfl rfl (OpQ.spec (ms_load_box (a := .r (.sl (n1.Draw.map GDrawOp.row))) rfl ts_33 (.inr ⟨_, (by exact id), rfl⟩) rfl rfl) _) ?_
        refine AOps.stepW (.one rfl rfl rfl) rfl rfl (OpQ.spec (ms_len rfl tg_33.slice (.inr ⟨_, (by exact id), rfl⟩)) _) ?_
        refine AOps.stepW (.one rfl rfl rfl) rfl rfl (OpQ.spec (sp_gtr rfl (.inr ⟨_, (by exact id), rfl⟩) (.inl rfl)) _) ?_
        refine AOps.stepW (.one rfl rfl rfl) rfl rfl (OpQ.spec (sp_move rfl (.inr ⟨_, (by exact id), rfl⟩)) _) ?_
        refine AOps.stepW (.two rfl rfl rfl) rfl rfl (OpQ.spec (sp_fieldAddr_own (ob := .box _ _ _) rfl tf_35_1 (.inl rfl) (fun _ => rfl) rfl) _) ?_
        refine AOps.stepW (.two rfl rfl rfl) rfl rfl (OpQ.spec (ms_load_box (a := .r (.int .i64 n1.Kind)) rfl ts_3 (.inr ⟨_, (by exact id), rfl⟩) rfl rfl) _) ?_
        refine ob1k h10 fun r7 er7 h11 => ?_
        refine AOps.stepW (.two rfl rfl rfl) rfl rfl (sp_call (r := .r (.bool r7)) (caps := []) (bs := [.r (.int .i64 n1.Kind)]) rfl (.inl rfl) rfl ⟨⟨_, (.inr ⟨_, (by exact id), rfl⟩), .d rfl⟩, trivial⟩ (fun hg => w_ref_HasDraw (gdt er7 hg)) rfl) ?_
        refine AOps.stepW (.two rfl rfl rfl) rfl rfl (OpQ.spec (sp_not rfl (.inr ⟨_, (by exact id), rfl⟩)) _) ?_
        refine AOps.stepW (.one rfl rfl rfl) rfl rfl (OpQ.spec (sp_and rfl (.inr ⟨_, (by exact id), rfl⟩) (.inr ⟨_, (by exact id), rfl⟩)) _) ?_
        refine AOps.step rfl rfl rfl (OpQ.spec (sp_or rfl (.inl rfl) (.inr ⟨_, (by exact id), rfl⟩)) _) ?_
        refine AOps.nil ?_
        refine hK14 _ ?_
        refine AW.cond rfl (fun hc4 => ?_) (fun hc4 => ?_)
        · have h12 := ite_t hc4 h11
          refine AW.seq_w fun K15 hK15 wK15 => ?_
          refine AW.weak (s' := ⟨[], [], (n0 + 1), 105⟩) (by exact Weak.cv trivial trivial (Nat.le_refl _)) ?_
          refine AW.region ?_
          refine AOps.step rfl rfl rfl (OpQ.spec (sp_assign rfl (.inl rfl)) _) ?_
          refine AOps.nil ?_
          refine hK15 _ ?_
          refine AW.ret ?_
          exact retf1 (P := Tryd.prog) (fun (r : Int) => .r (.int .i64 r)) h12 (.inl rfl) (.t (.d rfl))
        · have h12 := ite_f hc4 h11
          refine AW.skip ?_
          refine hK13 _ ?_
          refine AW.seq_w fun K16 hK16 wK16 => ?_
          refine AW.seq_w fun K17 hK17 wK17 => ?_
          refine AW.weak (s' := ⟨[(1, .ptr 1 n0 0 0), (4, .r (.bool (r3 || r4)))], [(1, some (.box n0 35 [.r (.int .i64 n1.ID), .r (.int .i64 n1.Kind), .r (.sl (n1.Attrs.map GAttr.row)), .r (.sl (n1.Flow.map GElem.row)), .r (.int .i64 n1.Grid.Rows), .r (.int .i64 n1.Grid.Cols), .r (.sl (n1.Grid.Cells.map GCell.row)), .r (.sl (n1.Grid.Merges.map GRect.row)), .r (.sl (n1.Draw.map GDrawOp.row))]))], (n0 + 1), 105⟩) (by exact Weak.cv ⟨.inl (.inl rfl), .inl (.inl rfl), trivial⟩ ⟨.inl rfl, trivial⟩ (Nat.le_refl _)) ?_
          refine AW.region ?_
          refine AOps.step rfl rfl rfl (OpQ.spec (sp_move rfl (.inl rfl)) _) ?_
          refine AOps.nil ?_
          refine hK17 _ ?_
          refine AW.cond rfl (fun hc5 => ?_) (fun hc5 => ?_)
          · have h13 := ite_t hc5 h12
            refine AW.seq_w fun K18 hK18 wK18 => ?_
            refine AW.regionQ hmix (by kernel_rfl) ?_
            refine AQ.step rfl rfl rfl (sp_fieldAddr_own (ob := .box _ _ _) rfl tf_35_3 (.inl rfl) (fun _ => rfl) rfl) ?_
            refine AQ.step rfl rfl rfl (ms_load_box (a := .r (.sl (n1.Flow.map GElem.row))) rfl ts_28 (.inl rfl) rfl rfl) ?_
            refine AQ.step rfl rfl rfl (sp_fieldAddr_own (ob := .box _ _ _) rfl tf_35_1 (.inl rfl) (fun _ => rfl) rfl) ?_
            refine AQ.step rfl rfl rfl (ms_load_box (a := .r (.int .i64 n1.Kind)) rfl ts_3 (.inl rfl) rfl rfl) ?_
            refine AQ.stepC rfl rfl rfl (r := .r (.bool r3)) (caps := []) (bs := [.r (.int .i64 n1.Kind)]) rfl (.inl rfl) rfl ⟨⟨_, (.inl rfl), .d rfl⟩, trivial⟩ (fun _ => w_ref_HasText (er3)) rfl ?_
            refine ob1k h13 fun r9 er9 h14 => ?_
            refine AQ.stepC rfl rfl rfl (r := .r (.int .i64 r9)) (caps := []) (bs := [.r (.sl (n1.Flow.map GElem.row)), .r (.bool r3)]) rfl (.inl rfl) rfl ⟨⟨_, (.inl rfl), .d rfl⟩, ⟨_, (.inl rfl), .d rfl⟩, trivial⟩ (fun _ => w_ref_FlowError (er9)) rfl ?_
            refine AQ.step rfl rfl rfl (sp_assign rfl (.inl rfl)) ?_
            refine AQ.nil ?_
            refine hK18 _ ?_
            refine AW.ret ?_
            exact retf1 (P := Tryd.prog) (fun (r : Int) => .r (.int .i64 r)) h14 (.inl rfl) (.t (.d rfl))
          · have h13 := ite_f hc5 h12
            refine AW.skip ?_
            refine hK16 _ ?_
            refine AW.seq_w fun K19 hK19 wK19 => ?_
            refine AW.seq_w fun K20 hK20 wK20 => ?_
            refine AW.region ?_
            refine AOps.step rfl rfl rfl (OpQ.spec (sp_fieldAddr_own (ob := .box _ _ _) rfl tf_35_1 (.inl rfl) (fun _ => rfl) rfl) _) ?_
            refine AOps.step rfl rfl rfl (OpQ.spec (ms_load_box (a := .r (.int .i64 n1.Kind)) rfl ts_3 (.inl rfl) rfl rfl) _) ?_
            refine ob1k h13 fun r10 er10 h15 => ?_
            refine AOps.step rfl rfl rfl (sp_call (r := .r (.bool r10)) (caps := []) (bs := [.r (.int .i64 n1.Kind)]) rfl (.inl rfl) rfl ⟨⟨_, (.inl rfl), .d rfl⟩, trivial⟩ (fun _ => w_ref_HasGrid (er10)) rfl) ?_
            refine AOps.nil ?_
            refine hK20 _ ?_
            refine AW.cond rfl (fun hc6 => ?_) (fun hc6 => ?_)
            · have h16 := ite_t hc6 h15
              refine AW.seq_w fun K21 hK21 wK21 => ?_
              refine AW.seq_w fun K22 hK22 wK22 => ?_
              refine AW.region ?_
              refine AOps.step rfl rfl rfl (OpQ.spec (sp_fieldAddr_own (ob := .box _ _ _) rfl tf_35_4 (.inl rfl) (fun _ => rfl) rfl) _) ?_
              refine AOps.step rfl rfl rfl (OpQ.spec (ms_loadA_box_at (ds := [.r (.int .i64 n1.Grid.Rows), .r (.int .i64 n1.Grid.Cols), .r (.sl (n1.Grid.Cells.map GCell.row)), .r (.sl (n1.Grid.Merges.map GRect.row))]) rfl ta_32 (.inl rfl) rfl rfl rfl) _) ?_
              refine ob1k h16 fun e2 ee2 h17 => ?_
              refine AOps.step rfl rfl rfl (sp_call (r := .r (.int .i64 e2)) (caps := []) (bs := [.agg [.r (.int .i64 n1.Grid.Rows), .r (.int .i64 n1.Grid.Cols), .r (.sl (n1.Grid.Cells.map GCell.row)), .r (.sl (n1.Grid.Merges.map GRect.row))]]) rfl (.inl rfl) rfl ⟨⟨_, (.inl rfl), .g (cs := [.int .i64 n1.Grid.Rows, .int .i64 n1.Grid.Cols, .sl (n1.Grid.Cells.map GCell.row), .sl (n1.Grid.Merges.map GRect.row)]) rfl rfl⟩, trivial⟩ (fun _ => w_ref_GridError (ee2)) rfl) ?_
              refine AOps.step rfl rfl rfl (OpQ.spec (sp_assign rfl (.inl rfl)) _) ?_
              refine AOps.nil ?_
              refine hK22 _ ?_
              refine AW.seq_w fun K23 hK23 wK23 => ?_
              refine AW.region ?_
              refine AOps.step rfl rfl rfl (OpQ.spec (sp_move rfl (.inl rfl)) _) ?_
              refine AOps.step rfl rfl rfl (OpQ.spec (sp_neq rfl (.inl rfl) (.inl rfl)) _) ?_
              refine AOps.nil ?_
              refine hK23 _ ?_
              refine AW.cond rfl (fun hc7 => ?_) (fun hc7 => ?_)
              · have h18 := ite_t hc7 h17
                refine AW.seq_w fun K24 hK24 wK24 => ?_
                refine AW.weak (s' := ⟨[(5, .r (.int .i64 e2))], [], (n0 + 1), 105⟩) (by exact Weak.cv ⟨.inl (.inl rfl), trivial⟩ trivial (Nat.le_refl _)) ?_
                refine AW.region ?_
                refine AOps.step rfl rfl rfl (OpQ.spec (sp_move rfl (.inl rfl)) _) ?_
                refine AOps.step rfl rfl rfl (OpQ.spec (sp_assign rfl (.inl rfl)) _) ?_
                refine AOps.nil ?_
                refine hK24 _ ?_
                refine AW.ret ?_
                exact retf1 (P := Tryd.prog) (fun (r : Int) => .r (.int .i64 r)) h18 (.inl rfl) (.t (.d rfl))
              · have h18 := ite_f hc7 h17
                refine AW.skip ?_
                refine hK21 _ ?_
                refine AW.seq_w fun K25 hK25 wK25 => ?_
                refine AW.weak (s' := ⟨[(1, .ptr 1 n0 0 0)], [(1, some (.box n0 35 [.r (.int .i64 n1.ID), .r (.int .i64 n1.Kind), .r (.sl (n1.Attrs.map GAttr.row)), .r (.sl (n1.Flow.map GElem.row)), .r (.int .i64 n1.Grid.Rows), .r (.int .i64 n1.Grid.Cols), .r (.sl (n1.Grid.Cells.map GCell.row)), .r (.sl (n1.Grid.Merges.map GRect.row)), .r (.sl (n1.Draw.map GDrawOp.row))]))], (n0 + 1), 105⟩) (by exact Weak.cv ⟨.inl (.inl rfl), trivial⟩ ⟨.inl rfl, trivial⟩ (Nat.le_refl _)) ?_
                refine AW.region ?_
                refine AOps.step rfl rfl rfl (OpQ.spec (sp_fieldAddr_own (ob := .box _ _ _) rfl tf_35_1 (.inl rfl) (fun _ => rfl) rfl) _) ?_
                refine AOps.step rfl rfl rfl (OpQ.spec (ms_load_box (a := .r (.int .i64 n1.Kind)) rfl ts_3 (.inl rfl) rfl rfl) _) ?_
                refine AOps.step rfl rfl rfl (OpQ.spec (sp_fieldAddr_own (ob := .box _ _ _) rfl tf_35_4 (.inl rfl) (fun _ => rfl) rfl) _) ?_
                refine AOps.step rfl rfl rfl (OpQ.spec (sp_fieldAddr_own (ob := .box _ _ _) rfl tf_32_2 (.inl rfl) (fun _ => rfl) rfl) _) ?_
                refine AOps.step rfl rfl rfl (OpQ.spec (ms_load_box (a := .r (.sl (n1.Grid.Cells.map GCell.row))) rfl ts_29 (.inl rfl) rfl rfl) _) ?_
                refine ob1k h18 fun r11 er11 h19 => ?_
                refine AOps.step rfl rfl rfl (sp_call (r := .r (.int .i64 r11)) (caps := []) (bs := [.r (.int .i64 n1.Kind), .r (.sl (n1.Grid.Cells.map GCell.row))]) rfl (.inl rfl) rfl ⟨⟨_, (.inl rfl), .d rfl⟩, ⟨_, (.inl rfl), .d rfl⟩, trivial⟩ (fun _ => w_ref_CellKinds (er11)) rfl) ?_
                refine AOps.step rfl rfl rfl (OpQ.spec (sp_assign rfl (.inl rfl)) _) ?_
                refine AOps.nil ?_
                refine hK25 _ ?_
                refine AW.ret ?_
                exact retf1 (P := Tryd.prog) (fun (r : Int) => .r (.int .i64 r)) h19 (.inl rfl) (.t (.d rfl))
            · have h16 := ite_f hc6 h15
              refine AW.skip ?_
              refine hK19 _ ?_
              refine AW.seq_w fun K26 hK26 wK26 => ?_
              refine AW.region ?_
              refine AOps.step rfl rfl rfl (OpQ.spec (sp_fieldAddr_own (ob := .box _ _ _) rfl tf_35_5 (.inl rfl) (fun _ => rfl) rfl) _) ?_
              refine AOps.step rfl rfl rfl (OpQ.spec (ms_load_box (a := .r (.sl (n1.Draw.map GDrawOp.row))) rfl ts_33 (.inl rfl) rfl rfl) _) ?_
              refine ob1k h16 fun r12 er12 h20 => ?_
              refine AOps.step rfl rfl rfl (sp_call (r := .r (.int .i64 r12)) (caps := []) (bs := [.r (.sl (n1.Draw.map GDrawOp.row))]) rfl (.inl rfl) rfl ⟨⟨_, (.inl rfl), .d rfl⟩, trivial⟩ (fun _ => w_ref_DrawError (er12)) rfl) ?_
              refine AOps.step rfl rfl rfl (OpQ.spec (sp_assign rfl (.inl rfl)) _) ?_
              refine AOps.nil ?_
              refine hK26 _ ?_
              refine AW.ret ?_
              exact retf1 (P := Tryd.prog) (fun (r : Int) => .r (.int .i64 r)) h20 (.inl rfl) (.t (.d rfl))
set_option maxHeartbeats 4000000 in
set_option maxRecDepth 20000 in
theorem w_ref_RefsOf {n1 : GNode} {r : (List Int)} (h : ref_RefsOf n1 = some r) : ARO Tryd.prog 51 [.agg [.r (.int .i64 n1.ID), .r (.int .i64 n1.Kind), .r (.sl (n1.Attrs.map GAttr.row)), .r (.sl (n1.Flow.map GElem.row)), .r (.int .i64 n1.Grid.Rows), .r (.int .i64 n1.Grid.Cols), .r (.sl (n1.Grid.Cells.map GCell.row)), .r (.sl (n1.Grid.Merges.map GRect.row)), .r (.sl (n1.Draw.map GDrawOp.row))]] (.r (.sl (r.map (rInt .i64)))) := by
  unfold ref_RefsOf at h
  refine ARO.mkF Tryd.func51 rfl rfl Tryd.ntmps51 rfl (Nat.le_of_ble_eq_true rfl) fun n0 => ?_
  refine AW.seq_w fun K1 hK1 wK1 => ?_
  refine AW.region ?_
  refine AOps.step rfl rfl rfl (ms_box (cs := [.r (.int .i64 n1.ID), .r (.int .i64 n1.Kind), .r (.sl (n1.Attrs.map GAttr.row)), .r (.sl (n1.Flow.map GElem.row)), .r (.int .i64 n1.Grid.Rows), .r (.int .i64 n1.Grid.Cols), .r (.sl (n1.Grid.Cells.map GCell.row)), .r (.sl (n1.Grid.Merges.map GRect.row)), .r (.sl (n1.Draw.map GDrawOp.row))]) 1 rfl (.inl rfl) rfl rfl) ?_
  refine AOps.step rfl rfl rfl (OpQ.spec (sp_assign rfl (.inl rfl)) _) ?_
  refine AOps.nil ?_
  refine hK1 _ ?_
  refine AW.seq_w fun K2 hK2 wK2 => ?_
  refine AW.region ?_
  refine AOps.step rfl rfl rfl (OpQ.spec (sp_assign rfl (.inl rfl)) _) ?_
  refine AOps.nil ?_
  refine hK2 _ ?_
  refine AW.seq_w fun K3 hK3 wK3 => ?_
  refine AW.seq_w fun K4 hK4 wK4 => ?_
  refine AW.region ?_
  refine AOps.step rfl rfl rfl (OpQ.spec (sp_fieldAddr_own (ob := .box _ _ _) rfl tf_35_3 (.inl rfl) (fun _ => rfl) rfl) _) ?_
  refine AOps.step rfl rfl rfl (OpQ.spec (ms_load_box (a := .r (.sl (n1.Flow.map GElem.row))) rfl ts_28 (.inl rfl) rfl rfl) _) ?_
  refine AOps.step rfl rfl rfl (OpQ.spec (ms_len rfl tg_28.slice (.inl rfl)) _) ?_
  refine AOps.step rfl rfl rfl (OpQ.spec (sp_move rfl (.inl rfl)) _) ?_
  refine AOps.nil ?_
  refine hK4 _ ?_
  refine AW.block ?_
  refine jb1k h fun o1 hit1 hk1 => ?_
  have J1 : ∀ (out4 : List Int) (i5 : Nat → Nat), o1 = out4 → K3 ⟨[(1, .ptr 1 n0 0 0), (3, .own 5003 (i5 0))], [(1, some (.box n0 35 [.r (.int .i64 n1.ID), .r (.int .i64 n1.Kind), .r (.sl (n1.Attrs.map GAttr.row)), .r (.sl (n1.Flow.map GElem.row)), .r (.int .i64 n1.Grid.Rows), .r (.int .i64 n1.Grid.Cols), .r (.sl (n1.Grid.Cells.map GCell.row)), .r (.sl (n1.Grid.Merges.map GRect.row)), .r (.sl (n1.Draw.map GDrawOp.row))])), (5003, some (.arr (i5 0) 3 1 (out4.map (rInt .i64))))], (i5 1), 56⟩ := by
    intro out4 i5 e
    have h1 := hk1 _ e
    refine hK3 _ ?_
    refine AW.seq_w fun K5 hK5 wK5 => ?_
    refine AW.seq_w fun K6 hK6 wK6 => ?_
    refine AW.region ?_
    refine AOps.step rfl rfl rfl (OpQ.spec (sp_fieldAddr_own (ob := .box _ _ _) rfl tf_35_4 (.inl rfl) (fun _ => rfl) rfl) _) ?_
    refine AOps.step rfl rfl rfl (OpQ.spec (sp_fieldAddr_own (ob := .box _ _ _) rfl tf_32_2 (.inl rfl) (fun _ => rfl) rfl) _) ?_
    refine AOps.step rfl rfl rfl (OpQ.spec (ms_load_box (a := .r (.sl (n1.Grid.Cells.map GCell.row))) rfl ts_29 (.inl rfl) rfl rfl) _) ?_
    refine AOps.step rfl rfl rfl (OpQ.spec (ms_len rfl tg_29.slice (.inl rfl)) _) ?_
    refine AOps.step rfl rfl rfl (OpQ.spec (sp_move rfl (.inl rfl)) _) ?_
    refine AOps.nil ?_
    refine hK6 _ ?_
    refine AW.block ?_
    refine jb1k h1 fun o2 hit2 hk2 => ?_
    have J2 : ∀ (out8 : List Int) (i10 : Nat → Nat), o2 = out8 → K5 ⟨[(3, .own 5003 (i10 0))], [(5003, some (.arr (i10 0) 3 1 (out8.map (rInt .i64))))], (i10 1), 56⟩ := by
      intro out8 i10 e
      have h2 := hk2 _ e
      refine hK5 _ ?_
      refine AW.seq_w fun K7 hK7 wK7 => ?_
      refine AW.region ?_
      refine AOps.step rfl rfl rfl (OpQ.spec (sp_move rfl (.inl rfl)) _) ?_
      refine AOps.step rfl rfl rfl (OpQ.spec (sp_assign rfl (.inl rfl)) _) ?_
      refine AOps.nil ?_
      refine hK7 _ ?_
      refine AW.ret ?_
      exact retf1 (P := Tryd.prog) (fun (r : (List Int)) => .r (.sl (r.map (rInt .i64)))) h2 (.inl rfl) (.t (.one (.own rfl)))
    refine AW.iter2 (fun (x5 : Int) (out6 : List Int) i8 => ⟨[(1, .ptr 1 n0 0 0), (3, .own 5003 (i8 0)), (32, .r (.int .i64 (n1.Grid.Cells.length : Int))), (33, .r (.int .i64 x5))], [(1, some (.box n0 35 [.r (.int .i64 n1.ID), .r (.int .i64 n1.Kind), .r (.sl (n1.Attrs.map GAttr.row)), .r (.sl (n1.Flow.map GElem.row)), .r (.int .i64 n1.Grid.Rows), .r (.int .i64 n1.Grid.Cols), .r (.sl (n1.Grid.Cells.map GCell.row)), .r (.sl (n1.Grid.Merges.map GRect.row)), .r (.sl (n1.Draw.map GDrawOp.row))])), (5003, some (.arr (i8 0) 3 1 (out6.map (rInt .i64))))], (i8 1), 56⟩) (vec [(i5 0), (i5 1)]) hit2 ((by exact Weak.cv ⟨.inl (.inl rfl), .inl (.inl rfl), .inl (.inl rfl), .inl (.inl rfl), trivial⟩ ⟨.inl rfl, .inl rfl, trivial⟩ (Nat.le_refl _))) ?_
    intro x5 out6 i8 v1 hv1 hx2
    have h3 : ref_RefsOf_L2 n1 x5 out6 = some v1 := hv1; unfold ref_RefsOf_L2 at h3
    refine AW.seq_w fun K8 hK8 wK8 => ?_
    refine AW.region ?_
    refine AOps.step rfl rfl rfl (OpQ.spec (sp_lss rfl (.inl rfl) (.inl rfl)) _) ?_
    refine AOps.nil ?_
    refine hK8 _ ?_
    refine AW.seq_w fun K9 hK9 wK9 => ?_
    refine AW.cond rfl (fun hc1 => ?_) (fun hc1 => ?_)
    · have h4 := ite_t hc1 h3
      refine AW.skip ?_
      refine hK9 _ ?_
      refine AW.seq_w fun K10 hK10 wK10 => ?_
      refine AW.block ?_
      refine jb1k h4 fun p1 hp1 hk3 => ?_
      have J3 : ∀ (out9 : List Int) (i11 : Nat → Nat), p1 = out9 → K10 ⟨[(1, .ptr 1 n0 0 0), (3, .own 5003 (i11 0)), (32, .r (.int .i64 (n1.Grid.Cells.length : Int))), (33, .r (.int .i64 x5))], [(1, some (.box n0 35 [.r (.int .i64 n1.ID), .r (.int .i64 n1.Kind), .r (.sl (n1.Attrs.map GAttr.row)), .r (.sl (n1.Flow.map GElem.row)), .r (.int .i64 n1.Grid.Rows), .r (.int .i64 n1.Grid.Cols), .r (.sl (n1.Grid.Cells.map GCell.row)), .r (.sl (n1.Grid.Merges.map GRect.row)), .r (.sl (n1.Draw.map GDrawOp.row))])), (5003, some (.arr (i11 0) 3 1 (out9.map (rInt .i64))))], (i11 1), 56⟩ := by
        intro out9 i11 e
        have h5 := hk3 _ e
        refine hK10 _ ?_
        refine AW.region ?_
        refine ob1k h5 fun x7 ex7 h6 => ?_
        refine AOps.step rfl rfl rfl (OpQ.spec (ms_add rfl (.inl rfl) (.inl rfl) (fun _ => ex7)) _) ?_
        refine AOps.step rfl rfl rfl (OpQ.spec (sp_move rfl (.inl rfl)) _) ?_
        refine AOps.nil ?_
        exact NextQ2.mk h6 (vec [(i11 0), (i11 1)]) ((by exact Weak.cv ⟨.inl (.inl rfl), .inl (.inl rfl), .inl (.inl rfl), .inl (.inl rfl), trivial⟩ ⟨.inl rfl, .inl rfl, trivial⟩ (Nat.le_refl _)))
      refine AW.seq_w fun K11 hK11 wK11 => ?_
      refine AW.region ?_
      refine AOps.step rfl rfl rfl (OpQ.spec (sp_move rfl (.inl rfl)) _) ?_
      refine AOps.step rfl rfl rfl (OpQ.spec (sp_assign rfl (.inl rfl)) _) ?_
      refine AOps.nil ?_
      refine hK11 _ ?_
      refine AW.seq_w fun K12 hK12 wK12 => ?_
      refine AW.region ?_
      refine AOps.step rfl rfl rfl (OpQ.spec (sp_fieldAddr_own (ob := .box _ _ _) rfl tf_35_4 (.inl rfl) (fun _ => rfl) rfl) _) ?_
      refine AOps.step rfl rfl rfl (OpQ.spec (sp_fieldAddr_own (ob := .box _ _ _) rfl tf_32_2 (.inl rfl) (fun _ => rfl) rfl) _) ?_
      refine AOps.step rfl rfl rfl (OpQ.spec (ms_load_box (a := .r (.sl (n1.Grid.Cells.map GCell.row))) rfl ts_29 (.inl rfl) rfl rfl) _) ?_
      refine AOps.step rfl rfl rfl (OpQ.spec (sp_move rfl (.inl rfl)) _) ?_
      refine ob1k hp1 fun x8 ex8 h7 => ?_
      refine AOps.step rfl rfl rfl (OpQ.spec (ms_idx rfl tg_29.slice (.inl rfl) (.inl rfl) (fun _ => rfl) (fun _ => ex8)) _) ?_
      refine AOps.step rfl rfl rfl (OpQ.spec (sp_fieldAddr_ro rfl tf_60_3 (.inl rfl)) _) ?_
      refine AOps.step rfl rfl rfl (OpQ.spec (ms_load (d := .int .i64 x8.Ref) rfl ts_3 (.inl rfl) rfl) _) ?_
      refine AOps.step rfl rfl rfl (OpQ.spec (sp_neq rfl (.inl rfl) (.inl rfl)) _) ?_
      refine AOps.nil ?_
      refine hK12 _ ?_
      refine AW.cond rfl (fun hc2 => ?_) (fun hc2 => ?_)
      · have h8 := ite_t hc2 h7
        refine AW.weak (s' := ⟨[(1, .ptr 1 n0 0 0), (3, .own 5003 (i8 0)), (5, .r (.int .i64 x5)), (32, .r (.int .i64 (n1.Grid.Cells.length : Int))), (33, .r (.int .i64 x5))], [(1, some (.box n0 35 [.r (.int .i64 n1.ID), .r (.int .i64 n1.Kind), .r (.sl (n1.Attrs.map GAttr.row)), .r (.sl (n1.Flow.map GElem.row)), .r (.int .i64 n1.Grid.Rows), .r (.int .i64 n1.Grid.Cols), .r (.sl (n1.Grid.Cells.map GCell.row)), .r (.sl (n1.Grid.Merges.map GRect.row)), .r (.sl (n1.Draw.map GDrawOp.row))])), (5003, some (.arr (i8 0) 3 1 (out6.map (rInt .i64))))], (i8 1), 56⟩) (by exact Weak.cv ⟨.inl (.inl rfl), .inl (.inl rfl), .inl (.inl rfl), .inl (.inl rfl), .inl (.inl rfl), trivial⟩ ⟨.inl rfl, .inl rfl, trivial⟩ (Nat.le_refl _)) ?_
        refine AW.region ?_
        refine AOps.step rfl rfl rfl (OpQ.spec (sp_move rfl (.inl rfl)) _) ?_
        refine AOps.step rfl rfl rfl (OpQ.spec (sp_fieldAddr_own (ob := .box _ _ _) rfl tf_35_4 (.inl rfl) (fun _ => rfl) rfl) _) ?_
        refine AOps.step rfl rfl rfl (OpQ.spec (sp_fieldAddr_own (ob := .box _ _ _) rfl tf_32_2 (.inl rfl) (fun _ => rfl) rfl) _) ?_
        refine AOps.step rfl rfl rfl (OpQ.spec (ms_load_box (a := .r (.sl (n1.Grid.Cells.map GCell.row))) rfl ts_29 (.inl rfl) rfl rfl) _) ?_
        refine AOps.step rfl rfl rfl (OpQ.spec (sp_move rfl (.inl rfl)) _) ?_
        refine AOps.step rfl rfl rfl (OpQ.spec (ms_idx rfl tg_29.slice (.inl rfl) (.inl rfl) (fun _ => rfl) (fun _ => ex8)) _) ?_
        refine AOps.step rfl rfl rfl (OpQ.spec (sp_fieldAddr_ro rfl tf_60_3 (.inl rfl)) _) ?_
        refine AOps.step rfl rfl rfl (OpQ.spec (ms_load (d := .int .i64 x8.Ref) rfl ts_3 (.inl rfl) rfl) _) ?_
        refine AOps.step rfl rfl rfl (ms_lit 52 rfl tg_78 (f := (rInt .i64)) (l := ([x8.Ref] : List Int)) ⟨rfl, ⟨_, (.inl rfl), rfl⟩, trivial⟩ rfl (fun _ => rfl) rfl) ?_
        refine ob1k h8 fun out10 eout10 h9 => ?_
        refine AOps.step rfl rfl rfl (ms_app rfl tg_78 (.inl rfl) rfl (.inr (.inl ⟨_, _, (.inl rfl), rfl⟩)) eout10) ?_
        refine AOps.step rfl rfl rfl (OpQ.spec (sp_assign rfl (.inl rfl)) _) ?_
        refine AOps.nil ?_
        exact wK10 _ _ ((by exact Weak.cv ⟨.inl (.inl rfl), .inl (.inl rfl), .inl (.inl rfl), .inl (.inl rfl), trivial⟩ ⟨.inl rfl, .inl rfl, trivial⟩ (Nat.le_refl _))) (J3 _ (vec [((i8 1) + 1), ((i8 1) + 2)]) (Option.some.inj h9).symm)
      · have h8 := ite_f hc2 h7
        refine AW.skip ?_
        exact wK10 _ _ ((by exact Weak.cv ⟨.inl (.inl rfl), .inl (.inl rfl), .inl (.inl rfl), .inl (.inl rfl), trivial⟩ ⟨.inl rfl, .inl rfl, trivial⟩ (Nat.le_refl _))) (J3 _ (vec [(i8 0), (i8 1)]) (Option.some.inj h8).symm)
    · have h4 := ite_f hc1 h3
      refine AW.exit ?_
      exact wK5 _ _ ((by exact Weak.cv ⟨.inl (.inl rfl), trivial⟩ ⟨.inl rfl, trivial⟩ (Nat.le_refl _))) (J2 _ (vec [(i8 0), (i8 1)]) (hx2 _ (Option.some.inj h4).symm))
  refine AW.iter2 (fun (x2 : Int) (out2 : List Int) i3 => ⟨[(1, .ptr 1 n0 0 0), (3, .own 5003 (i3 0)), (8, .r (.int .i64 (n1.Flow.length : Int))), (9, .r (.int .i64 x2))], [(1, some (.box n0 35 [.r (.int .i64 n1.ID), .r (.int .i64 n1.Kind), .r (.sl (n1.Attrs.map GAttr.row)), .r (.sl (n1.Flow.map GElem.row)), .r (.int .i64 n1.Grid.Rows), .r (.int .i64 n1.Grid.Cols), .r (.sl (n1.Grid.Cells.map GCell.row)), .r (.sl (n1.Grid.Merges.map GRect.row)), .r (.sl (n1.Draw.map GDrawOp.row))])), (5003, some (.arr (i3 0) 3 1 (out2.map (rInt .i64))))], (i3 1), 56⟩) (vec [(n0 + 1), (n0 + 2)]) hit1 (Weak.trans (Weak.trans (Weak.adopt 3 5003 3 1 (by decide) rfl) (by exact Weak.cv (e' := [(0, .agg [.r (.int .i64 n1.ID), .r (.int .i64 n1.Kind), .r (.sl (n1.Attrs.map GAttr.row)), .r (.sl (n1.Flow.map GElem.row)), .r (.int .i64 n1.Grid.Rows), .r (.int .i64 n1.Grid.Cols), .r (.sl (n1.Grid.Cells.map GCell.row)), .r (.sl (n1.Grid.Merges.map GRect.row)), .r (.sl (n1.Draw.map GDrawOp.row))]), (1, .ptr 1 n0 0 0), (2, .cst (.slice none 0 0)), (3, .own 5003 (n0 + 1)), (6, .ptr 1 n0 0 3), (7, .r (.sl (n1.Flow.map GElem.row))), (8, .r (.int .i64 (n1.Flow.length : Int))), (9, .r (.int .i64 0))]) (h' := [(1, some (.box n0 35 [.r (.int .i64 n1.ID), .r (.int .i64 n1.Kind), .r (.sl (n1.Attrs.map GAttr.row)), .r (.sl (n1.Flow.map GElem.row)), .r (.int .i64 n1.Grid.Rows), .r (.int .i64 n1.Grid.Cols), .r (.sl (n1.Grid.Cells.map GCell.row)), .r (.sl (n1.Grid.Merges.map GRect.row)), .r (.sl (n1.Draw.map GDrawOp.row))])), (5003, some (.arr (n0 + 1) 3 1 (([] : List Int).map (rInt .i64))))]) ⟨.inl (.inl rfl), .inl (.inl rfl), .inl (.inl rfl), .inl (.inl rfl), .inl (.inl rfl), .inl (.inl rfl), .inl (.inl rfl), .inl (.inl rfl), trivial⟩ ⟨.inl rfl, .inl rfl, trivial⟩ (Nat.le_refl _))) (by exact Weak.cv ⟨.inl (.inl rfl), .inl (.inl rfl), .inl (.inl rfl), .inl (.inl rfl), trivial⟩ ⟨.inl rfl, .inl rfl, trivial⟩ (Nat.le_refl _))) ?_
  intro x2 out2 i3 v2 hv2 hx1
  have h10 : ref_RefsOf_L1 n1 x2 out2 = some v2 := hv2; unfold ref_RefsOf_L1 at h10
  refine AW.seq_w fun K13 hK13 wK13 => ?_
  refine AW.region ?_
  refine AOps.step rfl rfl rfl (OpQ.spec (sp_lss rfl (.inl rfl) (.inl rfl)) _) ?_
  refine AOps.nil ?_
  refine hK13 _ ?_
  refine AW.seq_w fun K14 hK14 wK14 => ?_
  refine AW.cond rfl (fun hc3 => ?_) (fun hc3 => ?_)
  · have h11 := ite_t hc3 h10
    refine AW.skip ?_
    refine hK14 _ ?_
    refine AW.seq_w fun K15 hK15 wK15 => ?_
    refine AW.block ?_
    refine jb1k h11 fun p2 hp2 hk4 => ?_
    have J4 : ∀ (out11 : List Int) (i12 : Nat → Nat), p2 = out11 → K15 ⟨[(1, .ptr 1 n0 0 0), (3, .own 5003 (i12 0)), (8, .r (.int .i64 (n1.Flow.length : Int))), (9, .r (.int .i64 x2))], [(1, some (.box n0 35 [.r (.int .i64 n1.ID), .r (.int .i64 n1.Kind), .r (.sl (n1.Attrs.map GAttr.row)), .r (.sl (n1.Flow.map GElem.row)), .r (.int .i64 n1.Grid.Rows), .r (.int .i64 n1.Grid.Cols), .r (.sl (n1.Grid.Cells.map GCell.row)), .r (.sl (n1.Grid.Merges.map GRect.row)), .r (.sl (n1.Draw.map GDrawOp.row))])), (5003, some (.arr (i12 0) 3 1 (out11.map (rInt .i64))))], (i12 1), 56⟩ := by
      intro out11 i12 e
      have h12 := hk4 _ e
      refine hK15 _ ?_
      refine AW.region ?_
      refine ob1k h12 fun x9 ex9 h13 => ?_
      refine AOps.step rfl rfl rfl (OpQ.spec (ms_add rfl (.inl rfl) (.inl rfl) (fun _ => ex9)) _) ?_
      refine AOps.step rfl rfl rfl (OpQ.spec (sp_move rfl (.inl rfl)) _) ?_
      refine AOps.nil ?_
      exact NextQ2.mk h13 (vec [(i12 0), (i12 1)]) ((by exact Weak.cv ⟨.inl (.inl rfl), .inl (.inl rfl), .inl (.inl rfl), .inl (.inl rfl), trivial⟩ ⟨.inl rfl, .inl rfl, trivial⟩ (Nat.le_refl _)))
    refine AW.seq_w fun K16 hK16 wK16 => ?_
    refine AW.region ?_
    refine AOps.step rfl rfl rfl (OpQ.spec (sp_move rfl (.inl rfl)) _) ?_
    refine AOps.step rfl rfl rfl (OpQ.spec (sp_assign rfl (.inl rfl)) _) ?_
    refine AOps.nil ?_
    refine hK16 _ ?_
    refine AW.seq_w fun K17 hK17 wK17 => ?_
    refine AW.region ?_
    refine AOps.step rfl rfl rfl (OpQ.spec (sp_fieldAddr_own (ob := .box _ _ _) rfl tf_35_3 (.inl rfl) (fun _ => rfl) rfl) _) ?_
    refine AOps.step rfl rfl rfl (OpQ.spec (ms_load_box (a := .r (.sl (n1.Flow.map GElem.row))) rfl ts_28 (.inl rfl) rfl rfl) _) ?_
    refine AOps.step rfl rfl rfl (OpQ.spec (sp_move rfl (.inl rfl)) _) ?_
    refine ob1k hp2 fun x10 ex10 h14 => ?_
    refine AOps.step rfl rfl rfl (OpQ.spec (ms_idx rfl tg_28.slice (.inl rfl) (.inl rfl) (fun _ => rfl) (fun _ => ex10)) _) ?_
    refine AOps.step rfl rfl rfl (OpQ.spec (sp_fieldAddr_ro rfl tf_70_1 (.inl rfl)) _) ?_
    refine AOps.step rfl rfl rfl (OpQ.spec (ms_load (d := .int .i64 x10.Ref) rfl ts_3 (.inl rfl) rfl) _) ?_
    refine AOps.step rfl rfl rfl (OpQ.spec (sp_neq rfl (.inl rfl) (.inl rfl)) _) ?_
    refine AOps.nil ?_
    refine hK17 _ ?_
    refine AW.cond rfl (fun hc4 => ?_) (fun hc4 => ?_)
    · have h15 := ite_t hc4 h14
      refine AW.weak (s' := ⟨[(1, .ptr 1 n0 0 0), (3, .own 5003 (i3 0)), (4, .r (.int .i64 x2)), (8, .r (.int .i64 (n1.Flow.length : Int))), (9, .r (.int .i64 x2))], [(1, some (.box n0 35 [.r (.int .i64 n1.ID), .r (.int .i64 n1.Kind), .r (.sl (n1.Attrs.map GAttr.row)), .r (.sl (n1.Flow.map GElem.row)), .r (.int .i64 n1.Grid.Rows), .r (.int .i64 n1.Grid.Cols), .r (.sl (n1.Grid.Cells.map GCell.row)), .r (.sl (n1.Grid.Merges.map GRect.row)), .r (.sl (n1.Draw.map GDrawOp.row))])), (5003, some (.arr (i3 0) 3 1 (out2.map (rInt .i64))))], (i3 1), 56⟩) (by exact Weak.cv ⟨.inl (.inl rfl), .inl (.inl rfl), .inl (.inl rfl), .inl (.inl rfl), .inl (.inl rfl), trivial⟩ ⟨.inl rfl, .inl rfl, trivial⟩ (Nat.le_refl _)) ?_
      refine AW.region ?_
      refine AOps.step rfl rfl rfl (OpQ.spec (sp_move rfl (.inl rfl)) _) ?_
      refine AOps.step rfl rfl rfl (OpQ.spec (sp_fieldAddr_own (ob := .box _ _ _) rfl tf_35_3 (.inl rfl) (fun _ => rfl) rfl) _) ?_
      refine AOps.step rfl rfl rfl (OpQ.spec (ms_load_box (a := .r (.sl (n1.Flow.map GElem.row))) rfl ts_28 (.inl rfl) rfl rfl) _) ?_
      refine AOps.step rfl rfl rfl (OpQ.spec (sp_move rfl (.inl rfl)) _) ?_
      refine AOps.step rfl rfl rfl (OpQ.spec (ms_idx rfl tg_28.slice (.inl rfl) (.inl rfl) (fun _ => rfl) (fun _ => ex10)) _) ?_
      refine AOps.step rfl rfl rfl (OpQ.spec (sp_fieldAddr_ro rfl tf_70_1 (.inl rfl)) _) ?_
      refine AOps.step rfl rfl rfl (OpQ.spec (ms_load (d := .int .i64 x10.Ref) rfl ts_3 (.inl rfl) rfl) _) ?_
      refine AOps.step rfl rfl rfl (ms_lit 26 rfl tg_78 (f := (rInt .i64)) (l := ([x10.Ref] : List Int)) ⟨rfl, ⟨_, (.inl rfl), rfl⟩, trivial⟩ rfl (fun _ => rfl) rfl) ?_
      refine ob1k h15 fun out12 eout12 h16 => ?_
      refine AOps.step rfl rfl rfl (ms_app rfl tg_78 (.inl rfl) rfl (.inr (.inl ⟨_, _, (.inl rfl), rfl⟩)) eout12) ?_
      refine AOps.step rfl rfl rfl (OpQ.spec (sp_assign rfl (.inl rfl)) _) ?_
      refine AOps.nil ?_
      exact wK15 _ _ ((by exact Weak.cv ⟨.inl (.inl rfl), .inl (.inl rfl), .inl (.inl rfl), .inl (.inl rfl), trivial⟩ ⟨.inl rfl, .inl rfl, trivial⟩ (Nat.le_refl _))) (J4 _ (vec [((i3 1) + 1), ((i3 1) + 2)]) (Option.some.inj h16).symm)
    · have h15 := ite_f hc4 h14
      refine AW.skip ?_
      exact wK15 _ _ ((by exact Weak.cv ⟨.inl (.inl rfl), .inl (.inl rfl), .inl (.inl rfl), .inl (.inl rfl), trivial⟩ ⟨.inl rfl, .inl rfl, trivial⟩ (Nat.le_refl _))) (J4 _ (vec [(i3 0), (i3 1)]) (Option.some.inj h15).symm)
  · have h11 := ite_f hc3 h10
    refine AW.exit ?_
    exact wK3 _ _ ((by exact Weak.cv ⟨.inl (.inl rfl), .inl (.inl rfl), trivial⟩ ⟨.inl rfl, .inl rfl, trivial⟩ (Nat.le_refl _))) (J1 _ (vec [(i3 0), (i3 1)]) (hx1 _ (Option.some.inj h11).symm))
set_option maxHeartbeats 4000000 in
set_option maxRecDepth 20000 in
theorem w_ref_Find {d1 : GDoc} {id1 : Int} {r : Int} (h : ref_Find d1 id1 = some r) : ARO Tryd.prog 12 [.agg [.r (.sl (d1.Nodes.map GNode.row))], .r (.int .i64 id1)] (.r (.int .i64 r)) := by
  unfold ref_Find at h
  refine ARO.mkF Tryd.func12 rfl rfl Tryd.ntmps12 rfl (Nat.le_of_ble_eq_true rfl) fun n0 => ?_
  refine AW.seq_w fun K1 hK1 wK1 => ?_
  refine AW.region ?_
  refine AOps.step rfl rfl rfl (ms_box (cs := [.r (.sl (d1.Nodes.map GNode.row))]) 2 rfl (.inl rfl) rfl rfl) ?_
  refine AOps.step rfl rfl rfl (OpQ.spec (sp_assign rfl (.inl rfl)) _) ?_
  refine AOps.nil ?_
  refine hK1 _ ?_
  refine AW.seq_w fun K2 hK2 wK2 => ?_
  refine AW.seq_w fun K3 hK3 wK3 => ?_
  refine AW.region ?_
  refine AOps.step rfl rfl rfl (OpQ.spec (sp_fieldAddr_own (ob := .box _ _ _) rfl tf_24_0 (.inl rfl) (fun _ => rfl) rfl) _) ?_
  refine AOps.step rfl rfl rfl (OpQ.spec (ms_load_box (a := .r (.sl (d1.Nodes.map GNode.row))) rfl ts_22 (.inl rfl) rfl rfl) _) ?_
  refine AOps.step rfl rfl rfl (OpQ.spec (ms_len rfl tg_22.slice (.inl rfl)) _) ?_
  refine AOps.step rfl rfl rfl (OpQ.spec (sp_move rfl (.inl rfl)) _) ?_
  refine AOps.nil ?_
  refine hK3 _ ?_
  refine AW.block ?_
  refine jc1k h fun o1 hit1 hk1 he1 => ?_
  have J1 : ∀ (u2 : Unit) (i5 : Nat → Nat), o1 = .nrm u2 → K2 ⟨[], [], (i5 0), 22⟩ := by
    intro u2 i5 e
    have h1 := hk1 _ e
    refine hK2 _ ?_
    refine AW.seq_w fun K4 hK4 wK4 => ?_
    refine AW.region ?_
    refine AOps.step rfl rfl rfl (OpQ.spec (sp_assign rfl (.inl rfl)) _) ?_
    refine AOps.nil ?_
    refine hK4 _ ?_
    refine AW.ret ?_
    exact retf1 (P := Tryd.prog) (fun (r : Int) => .r (.int .i64 r)) h1 (.inl rfl) (.t (.d rfl))
  refine AW.iter1 (fun (x2 : Int) i3 => ⟨[(1, .r (.int .i64 id1)), (2, .ptr 2 n0 0 0), (8, .r (.int .i64 (d1.Nodes.length : Int))), (9, .r (.int .i64 x2))], [(2, some (.box n0 24 [.r (.sl (d1.Nodes.map GNode.row))]))], (i3 0), 22⟩) (vec [(n0 + 1)]) hit1 ((by exact Weak.cv ⟨.inl (.inl rfl), .inl (.inl rfl), .inl (.inl rfl), .inl (.inl rfl), trivial⟩ ⟨.inl rfl, trivial⟩ (Nat.le_refl _))) ?_
  intro x2 i3 v1 hv1 hx1
  have h2 : ref_Find_L1 d1 id1 x2 = some v1 := hv1; unfold ref_Find_L1 at h2
  refine AW.seq_w fun K5 hK5 wK5 => ?_
  refine AW.region ?_
  refine AOps.step rfl rfl rfl (OpQ.spec (sp_lss rfl (.inl rfl) (.inl rfl)) _) ?_
  refine AOps.nil ?_
  refine hK5 _ ?_
  refine AW.seq_w fun K6 hK6 wK6 => ?_
  refine AW.cond rfl (fun hc1 => ?_) (fun hc1 => ?_)
  · have h3 := ite_t hc1 h2
    refine AW.skip ?_
    refine hK6 _ ?_
    refine AW.seq_w fun K7 hK7 wK7 => ?_
    refine AW.block ?_
    refine AW.seq_w fun K8 hK8 wK8 => ?_
    refine AW.region ?_
    refine AOps.step rfl rfl rfl (OpQ.spec (sp_move rfl (.inl rfl)) _) ?_
    refine AOps.step rfl rfl rfl (OpQ.spec (sp_assign rfl (.inl rfl)) _) ?_
    refine AOps.nil ?_
    refine hK8 _ ?_
    refine AW.seq_w fun K9 hK9 wK9 => ?_
    refine AW.region ?_
    refine AOps.step rfl rfl rfl (OpQ.spec (sp_fieldAddr_own (ob := .box _ _ _) rfl tf_24_0 (.inl rfl) (fun _ => rfl) rfl) _) ?_
    refine AOps.step rfl rfl rfl (OpQ.spec (ms_load_box (a := .r (.sl (d1.Nodes.map GNode.row))) rfl ts_22 (.inl rfl) rfl rfl) _) ?_
    refine AOps.step rfl rfl rfl (OpQ.spec (sp_move rfl (.inl rfl)) _) ?_
    refine ob1k h3 fun x4 ex4 h4 => ?_
    refine AOps.step rfl rfl rfl (OpQ.spec (ms_idx rfl tg_22.slice (.inl rfl) (.inl rfl) (fun _ => rfl) (fun _ => ex4)) _) ?_
    refine AOps.step rfl rfl rfl (OpQ.spec (sp_fieldAddr_ro rfl tf_35_0 (.inl rfl)) _) ?_
    refine AOps.step rfl rfl rfl (OpQ.spec (ms_load (d := .int .i64 x4.ID) rfl ts_3 (.inl rfl) rfl) _) ?_
    refine AOps.step rfl rfl rfl (OpQ.spec (sp_move rfl (.inl rfl)) _) ?_
    refine AOps.step rfl rfl rfl (OpQ.spec (sp_eql rfl (.inl rfl) (.inl rfl)) _) ?_
    refine AOps.nil ?_
    refine hK9 _ ?_
    refine AW.cond rfl (fun hc2 => ?_) (fun hc2 => ?_)
    · have h5 := ite_t hc2 h4
      refine AW.seq_w fun K10 hK10 wK10 => ?_
      refine AW.weak (s' := ⟨[(5, .r (.int .i64 x2))], [], (i3 0), 22⟩) (by exact Weak.cv ⟨.inl (.inl rfl), trivial⟩ trivial (Nat.le_refl _)) ?_
      refine AW.region ?_
      refine AOps.step rfl rfl rfl (OpQ.spec (sp_move rfl (.inl rfl)) _) ?_
      refine AOps.step rfl rfl rfl (OpQ.spec (sp_assign rfl (.inl rfl)) _) ?_
      refine AOps.nil ?_
      refine hK10 _ ?_
      refine AW.ret ?_
      exact retf1 (P := Tryd.prog) (fun (r : Int) => .r (.int .i64 r)) (he1 _ (hx1 _ (Option.some.inj h5).symm)) (.inl rfl) (.t (.d rfl))
    · have h5 := ite_f hc2 h4
      refine AW.skip ?_
      refine hK7 _ ?_
      refine AW.weak (s' := ⟨[(1, .r (.int .i64 id1)), (2, .ptr 2 n0 0 0), (8, .r (.int .i64 (d1.Nodes.length : Int))), (9, .r (.int .i64 x2))], [(2, some (.box n0 24 [.r (.sl (d1.Nodes.map GNode.row))]))], (i3 0), 22⟩) (by exact Weak.cv ⟨.inl (.inl rfl), .inl (.inl rfl), .inl (.inl rfl), .inl (.inl rfl), trivial⟩ ⟨.inl rfl, trivial⟩ (Nat.le_refl _)) ?_
      refine AW.region ?_
      refine ob1k h5 fun x5 ex5 h6 => ?_
      refine AOps.step rfl rfl rfl (OpQ.spec (ms_add rfl (.inl rfl) (.inl rfl) (fun _ => ex5)) _) ?_
      refine AOps.step rfl rfl rfl (OpQ.spec (sp_move rfl (.inl rfl)) _) ?_
      refine AOps.nil ?_
      exact NextQ1.mk h6 (vec [(i3 0)]) ((by exact Weak.cv ⟨.inl (.inl rfl), .inl (.inl rfl), .inl (.inl rfl), .inl (.inl rfl), trivial⟩ ⟨.inl rfl, trivial⟩ (Nat.le_refl _)))
  · have h3 := ite_f hc1 h2
    refine AW.exit ?_
    exact wK2 _ _ ((by exact Weak.cv trivial trivial (Nat.le_refl _))) (J1 _ (vec [(i3 0)]) (hx1 _ (Option.some.inj h3).symm))
set_option maxHeartbeats 4000000 in
set_option maxRecDepth 20000 in
theorem w_ref_RefsError {d1 : GDoc} {kind1 : Int} {refs1 : List Int} {r : Int} (h : ref_RefsError d1 kind1 refs1 = some r) : ARO Tryd.prog 50 [.agg [.r (.sl (d1.Nodes.map GNode.row))], .r (.int .i64 kind1), .r (.sl (refs1.map (rInt .i64)))] (.r (.int .i64 r)) := by
  unfold ref_RefsError at h
  refine ARO.mkF Tryd.func50 rfl rfl Tryd.ntmps50 rfl (Nat.le_of_ble_eq_true rfl) fun n0 => ?_
  refine AW.seq_w fun K1 hK1 wK1 => ?_
  refine AW.region ?_
  refine AOps.step rfl rfl rfl (ms_box (cs := [.r (.sl (d1.Nodes.map GNode.row))]) 3 rfl (.inl rfl) rfl rfl) ?_
  refine AOps.step rfl rfl rfl (OpQ.spec (sp_assign rfl (.inl rfl)) _) ?_
  refine AOps.nil ?_
  refine hK1 _ ?_
  refine AW.seq_w fun K2 hK2 wK2 => ?_
  refine AW.seq_w fun K3 hK3 wK3 => ?_
  refine AW.region ?_
  refine AOps.step rfl rfl rfl (OpQ.spec (sp_move rfl (.inl rfl)) _) ?_
  refine AOps.step rfl rfl rfl (OpQ.spec (ms_len rfl tg_78.slice (.inl rfl)) _) ?_
  refine AOps.step rfl rfl rfl (OpQ.spec (sp_move rfl (.inl rfl)) _) ?_
  refine AOps.nil ?_
  refine hK3 _ ?_
  refine AW.block ?_
  refine jc1k h fun o1 hit1 hk1 he1 => ?_
  have J1 : ∀ (u2 : Unit) (i5 : Nat → Nat), o1 = .nrm u2 → K2 ⟨[], [], (i5 0), 32⟩ := by
    intro u2 i5 e
    have h1 := hk1 _ e
    refine hK2 _ ?_
    refine AW.seq_w fun K4 hK4 wK4 => ?_
    refine AW.region ?_
    refine AOps.step rfl rfl rfl (OpQ.spec (sp_assign rfl (.inl rfl)) _) ?_
    refine AOps.nil ?_
    refine hK4 _ ?_
    refine AW.ret ?_
    exact retf1 (P := Tryd.prog) (fun (r : Int) => .r (.int .i64 r)) h1 (.inl rfl) (.t (.d rfl))
  refine AW.iter1 (fun (x2 : Int) i3 => ⟨[(1, .r (.int .i64 kind1)), (2, .r (.sl (refs1.map (rInt .i64)))), (3, .ptr 3 n0 0 0), (10, .r (.int .i64 (refs1.length : Int))), (11, .r (.int .i64 x2))], [(3, some (.box n0 24 [.r (.sl (d1.Nodes.map GNode.row))]))], (i3 0), 32⟩) (vec [(n0 + 1)]) hit1 ((by exact Weak.cv ⟨.inl (.inl rfl), .inl (.inl rfl), .inl (.inl rfl), .inl (.inl rfl), .inl (.inl rfl), trivial⟩ ⟨.inl rfl, trivial⟩ (Nat.le_refl _))) ?_
  intro x2 i3 v1 hv1 hx1
  have h2 : ref_RefsError_L1 d1 kind1 refs1 x2 = some v1 := hv1; unfold ref_RefsError_L1 at h2
  refine AW.seq_w fun K5 hK5 wK5 => ?_
  refine AW.region ?_
  refine AOps.step rfl rfl rfl (OpQ.spec (sp_lss rfl (.inl rfl) (.inl rfl)) _) ?_
  refine AOps.nil ?_
  refine hK5 _ ?_
  refine AW.seq_w fun K6 hK6 wK6 => ?_
  refine AW.cond rfl (fun hc1 => ?_) (fun hc1 => ?_)
  · have h3 := ite_t hc1 h2
    refine AW.skip ?_
    refine hK6 _ ?_
    refine AW.seq_w fun K7 hK7 wK7 => ?_
    refine AW.block ?_
    refine AW.seq_w fun K8 hK8 wK8 => ?_
    refine AW.region ?_
    refine AOps.step rfl rfl rfl (OpQ.spec (sp_move rfl (.inl rfl)) _) ?_
    refine AOps.step rfl rfl rfl (OpQ.spec (sp_assign rfl (.inl rfl)) _) ?_
    refine AOps.nil ?_
    refine hK8 _ ?_
    refine AW.seq_w fun K9 hK9 wK9 => ?_
    refine AW.regionQ hmix (by kernel_rfl) ?_
    refine AQ.step rfl rfl rfl (ms_loadA_box rfl ta_24 (.inl rfl) rfl rfl) ?_
    refine AQ.step rfl rfl rfl (sp_move rfl (.inl rfl)) ?_
    refine AQ.step rfl rfl rfl (sp_move rfl (.inl rfl)) ?_
    refine ob1k h3 fun x4 ex4 h4 => ?_
    refine AQ.step rfl rfl rfl (ms_idx rfl tg_78.slice (.inl rfl) (.inl rfl) (fun _ => rfl) (fun _ => ex4)) ?_
    refine AQ.step rfl rfl rfl (ms_load (d := .int .i64 x4) rfl ts_3 (.inl rfl) rfl) ?_
    refine ob1k h4 fun k1 ek1 h5 => ?_
    refine AQ.stepC rfl rfl rfl (r := .r (.int .i64 k1)) (caps := []) (bs := [.agg [.r (.sl (d1.Nodes.map GNode.row))], .r (.int .i64 x4)]) rfl (.inl rfl) rfl ⟨⟨_, (.inl rfl), .g (cs := [.sl (d1.Nodes.map GNode.row)]) rfl rfl⟩, ⟨_, (.inl rfl), .d rfl⟩, trivial⟩ (fun _ => w_ref_Find (ek1)) rfl ?_
    refine AQ.step rfl rfl rfl (sp_assign rfl (.inl rfl)) ?_
    refine AQ.nil ?_
    refine hK9 _ ?_
    refine AW.seq_w fun K10 hK10 wK10 => ?_
    refine AW.seq_w fun K11 hK11 wK11 => ?_
    refine AW.weak (s' := ⟨[(1, .r (.int .i64 kind1)), (2, .r (.sl (refs1.map (rInt .i64)))), (3, .ptr 3 n0 0 0), (8, .r (.int .i64 k1)), (10, .r (.int .i64 (refs1.length : Int))), (11, .r (.int .i64 x2))], [(3, some (.box n0 24 [.r (.sl (d1.Nodes.map GNode.row))]))], (i3 0), 32⟩) (by exact Weak.cv ⟨.inl (.inl rfl), .inl (.inl rfl), .inl (.inl rfl), .inl (.inl rfl), .inl (.inl rfl), .inl (.inl rfl), trivial⟩ ⟨.inl rfl, trivial⟩ (Nat.le_refl _)) ?_
    refine AW.region ?_
    refine AOps.step rfl rfl rfl (OpQ.spec (sp_move rfl (.inl rfl)) _) ?_
    refine AOps.step rfl rfl rfl (OpQ.spec (sp_lss rfl (.inl rfl) (.inl rfl)) _) ?_
    refine AOps.nil ?_
    refine hK11 _ ?_
    refine AW.cond rfl (fun hc2 => ?_) (fun hc2 => ?_)
    · have h6 := ite_t hc2 h5
      refine AW.seq_w fun K12 hK12 wK12 => ?_
      refine AW.region ?_
      refine AOps.step rfl rfl rfl (OpQ.spec (sp_assign rfl (.inl rfl)) _) ?_
      refine AOps.nil ?_
      refine hK12 _ ?_
      refine AW.ret ?_
      exact retf1 (P := Tryd.prog) (fun (r : Int) => .r (.int .i64 r)) (he1 _ (hx1 _ (Option.some.inj h6).symm)) (.inl rfl) (.t (.d rfl))
    · have h6 := ite_f hc2 h5
      refine AW.skip ?_
      refine hK10 _ ?_
      refine AW.seq_w fun K13 hK13 wK13 => ?_
      refine AW.region ?_
      refine AOps.step rfl rfl rfl (OpQ.spec (sp_move rfl (.inl rfl)) _) ?_
      refine AOps.step rfl rfl rfl (OpQ.spec (sp_fieldAddr_own (ob := .box _ _ _) rfl tf_24_0 (.inl rfl) (fun _ => rfl) rfl) _) ?_
      refine AOps.step rfl rfl rfl (OpQ.spec (ms_load_box (a := .r (.sl (d1.Nodes.map GNode.row))) rfl ts_22 (.inl rfl) rfl rfl) _) ?_
      refine AOps.step rfl rfl rfl (OpQ.spec (sp_move rfl (.inl rfl)) _) ?_
      refine ob1k h6 fun x5 ex5 h7 => ?_
      refine AOps.step rfl rfl rfl (OpQ.spec (ms_idx rfl tg_22.slice (.inl rfl) (.inl rfl) (fun _ => rfl) (fun _ => ex5)) _) ?_
      refine AOps.step rfl rfl rfl (OpQ.spec (sp_fieldAddr_ro rfl tf_35_1 (.inl rfl)) _) ?_
      refine AOps.step rfl rfl rfl (OpQ.spec (ms_load (d := .int .i64 x5.Kind) rfl ts_3 (.inl rfl) rfl) _) ?_
      refine ob1k h7 fun r1 er1 h8 => ?_
      refine AOps.step rfl rfl rfl (sp_call (r := .r (.bool r1)) (caps := []) (bs := [.r (.int .i64 kind1), .r (.int .i64 x5.Kind)]) rfl (.inl rfl) rfl ⟨⟨_, (.inl rfl), .d rfl⟩, ⟨_, (.inl rfl), .d rfl⟩, trivial⟩ (fun _ => w_ref_Permitted (er1)) rfl) ?_
      refine AOps.step rfl rfl rfl (OpQ.spec (sp_not rfl (.inl rfl)) _) ?_
      refine AOps.nil ?_
      refine hK13 _ ?_
      refine AW.cond rfl (fun hc3 => ?_) (fun hc3 => ?_)
      · have h9 := ite_t hc3 h8
        refine AW.seq_w fun K14 hK14 wK14 => ?_
        refine AW.weak (s' := ⟨[], [], (i3 0), 32⟩) (by exact Weak.cv trivial trivial (Nat.le_refl _)) ?_
        refine AW.region ?_
        refine AOps.step rfl rfl rfl (OpQ.spec (sp_assign rfl (.inl rfl)) _) ?_
        refine AOps.nil ?_
        refine hK14 _ ?_
        refine AW.ret ?_
        exact retf1 (P := Tryd.prog) (fun (r : Int) => .r (.int .i64 r)) (he1 _ (hx1 _ (Option.some.inj h9).symm)) (.inl rfl) (.t (.d rfl))
      · have h9 := ite_f hc3 h8
        refine AW.skip ?_
        refine hK7 _ ?_
        refine AW.weak (s' := ⟨[(1, .r (.int .i64 kind1)), (2, .r (.sl (refs1.map (rInt .i64)))), (3, .ptr 3 n0 0 0), (10, .r (.int .i64 (refs1.length : Int))), (11, .r (.int .i64 x2))], [(3, some (.box n0 24 [.r (.sl (d1.Nodes.map GNode.row))]))], (i3 0), 32⟩) (by exact Weak.cv ⟨.inl (.inl rfl), .inl (.inl rfl), .inl (.inl rfl), .inl (.inl rfl), .inl (.inl rfl), trivial⟩ ⟨.inl rfl, trivial⟩ (Nat.le_refl _)) ?_
        refine AW.region ?_
        refine ob1k h9 fun x6 ex6 h10 => ?_
        refine AOps.step rfl rfl rfl (OpQ.spec (ms_add rfl (.inl rfl) (.inl rfl) (fun _ => ex6)) _) ?_
        refine AOps.step rfl rfl rfl (OpQ.spec (sp_move rfl (.inl rfl)) _) ?_
        refine AOps.nil ?_
        exact NextQ1.mk h10 (vec [(i3 0)]) ((by exact Weak.cv ⟨.inl (.inl rfl), .inl (.inl rfl), .inl (.inl rfl), .inl (.inl rfl), .inl (.inl rfl), trivial⟩ ⟨.inl rfl, trivial⟩ (Nat.le_refl _)))
  · have h3 := ite_f hc1 h2
    refine AW.exit ?_
    exact wK2 _ _ ((by exact Weak.cv trivial trivial (Nat.le_refl _))) (J1 _ (vec [(i3 0)]) (hx1 _ (Option.some.inj h3).symm))
set_option maxHeartbeats 4000000 in
set_option maxRecDepth 20000 in
theorem w_ref_DocError {d1 : GDoc} {r : Int} (h : ref_DocError d1 = some r) : ARO Tryd.prog 18 [.agg [.r (.sl (d1.Nodes.map GNode.row))]] (.r (.int .i64 r)) := by
  unfold ref_DocError at h
  refine ARO.mkF Tryd.func18 rfl rfl Tryd.ntmps18 rfl (Nat.le_of_ble_eq_true rfl) fun n0 => ?_
  refine AW.seq_w fun K1 hK1 wK1 => ?_
  refine AW.region ?_
  refine AOps.step rfl rfl rfl (ms_box (cs := [.r (.sl (d1.Nodes.map GNode.row))]) 1 rfl (.inl rfl) rfl rfl) ?_
  refine AOps.step rfl rfl rfl (OpQ.spec (sp_assign rfl (.inl rfl)) _) ?_
  refine AOps.nil ?_
  refine hK1 _ ?_
  refine AW.seq_w fun K2 hK2 wK2 => ?_
  refine AW.seq_w fun K3 hK3 wK3 => ?_
  refine AW.region ?_
  refine AOps.step rfl rfl rfl (OpQ.spec (sp_fieldAddr_own (ob := .box _ _ _) rfl tf_24_0 (.inl rfl) (fun _ => rfl) rfl) _) ?_
  refine AOps.step rfl rfl rfl (OpQ.spec (ms_load_box (a := .r (.sl (d1.Nodes.map GNode.row))) rfl ts_22 (.inl rfl) rfl rfl) _) ?_
  refine AOps.step rfl rfl rfl (OpQ.spec (ms_len rfl tg_22.slice (.inl rfl)) _) ?_
  refine AOps.step rfl rfl rfl (OpQ.spec (sp_eql rfl (.inl rfl) (.inl rfl)) _) ?_
  refine AOps.nil ?_
  refine hK3 _ ?_
  refine AW.cond rfl (fun hc1 => ?_) (fun hc1 => ?_)
  · have h1 := ite_t hc1 h
    refine AW.seq_w fun K4 hK4 wK4 => ?_
    refine AW.region ?_
    refine AOps.step rfl rfl rfl (OpQ.spec (sp_assign rfl (.inl rfl)) _) ?_
    refine AOps.nil ?_
    refine hK4 _ ?_
    refine AW.ret ?_
    exact retf1 (P := Tryd.prog) (fun (r : Int) => .r (.int .i64 r)) h1 (.inl rfl) (.t (.d rfl))
  · have h1 := ite_f hc1 h
    refine AW.skip ?_
    refine hK2 _ ?_
    refine AW.seq_w fun K5 hK5 wK5 => ?_
    refine AW.seq_w fun K6 hK6 wK6 => ?_
    refine AW.region ?_
    refine AOps.step rfl rfl rfl (OpQ.spec (sp_fieldAddr_own (ob := .box _ _ _) rfl tf_24_0 (.inl rfl) (fun _ => rfl) rfl) _) ?_
    refine AOps.step rfl rfl rfl (OpQ.spec (ms_load_box (a := .r (.sl (d1.Nodes.map GNode.row))) rfl ts_22 (.inl rfl) rfl rfl) _) ?_
    refine AOps.step rfl rfl rfl (OpQ.spec (ms_len rfl tg_22.slice (.inl rfl)) _) ?_
    refine AOps.step rfl rfl rfl (OpQ.spec (sp_move rfl (.inl rfl)) _) ?_
    refine AOps.nil ?_
    refine hK6 _ ?_
    refine AW.block ?_
    refine jc1k h1 fun o1 hit1 hk1 he1 => ?_
    have J1 : ∀ (u2 : Unit) (i5 : Nat → Nat), o1 = .nrm u2 → K5 ⟨[(1, .ptr 1 n0 0 0)], [(1, some (.box n0 24 [.r (.sl (d1.Nodes.map GNode.row))]))], (i5 0), 81⟩ := by
      intro u2 i5 e
      have h2 := hk1 _ e
      refine hK5 _ ?_
      refine AW.seq_w fun K7 hK7 wK7 => ?_
      refine AW.seq_w fun K8 hK8 wK8 => ?_
      refine AW.region ?_
      refine AOps.step rfl rfl rfl (OpQ.spec (sp_fieldAddr_own (ob := .box _ _ _) rfl tf_24_0 (.inl rfl) (fun _ => rfl) rfl) _) ?_
      refine AOps.step rfl rfl rfl (OpQ.spec (ms_load_box (a := .r (.sl (d1.Nodes.map GNode.row))) rfl ts_22 (.inl rfl) rfl rfl) _) ?_
      refine AOps.step rfl rfl rfl (OpQ.spec (ms_len rfl tg_22.slice (.inl rfl)) _) ?_
      refine AOps.step rfl rfl rfl (OpQ.spec (sp_move rfl (.inl rfl)) _) ?_
      refine AOps.nil ?_
      refine hK8 _ ?_
      refine AW.block ?_
      refine jc1k h2 fun o2 hit2 hk2 he2 => ?_
      have J2 : ∀ (u4 : Unit) (i10 : Nat → Nat), o2 = .nrm u4 → K7 ⟨[], [], (i10 0), 81⟩ := by
        intro u4 i10 e
        have h3 := hk2 _ e
        refine hK7 _ ?_
        refine AW.seq_w fun K9 hK9 wK9 => ?_
        refine AW.region ?_
        refine AOps.step rfl rfl rfl (OpQ.spec (sp_assign rfl (.inl rfl)) _) ?_
        refine AOps.nil ?_
        refine hK9 _ ?_
        refine AW.ret ?_
        exact retf1 (P := Tryd.prog) (fun (r : Int) => .r (.int .i64 r)) h3 (.inl rfl) (.t (.d rfl))
      refine AW.iter1 (fun (x5 : Int) i8 => ⟨[(1, .ptr 1 n0 0 0), (59, .r (.int .i64 (d1.Nodes.length : Int))), (60, .r (.int .i64 x5))], [(1, some (.box n0 24 [.r (.sl (d1.Nodes.map GNode.row))]))], (i8 0), 81⟩) (vec [(i5 0)]) hit2 ((by exact Weak.cv ⟨.inl (.inl rfl), .inl (.inl rfl), .inl (.inl rfl), trivial⟩ ⟨.inl rfl, trivial⟩ (Nat.le_refl _))) ?_
      intro x5 i8 v1 hv1 hx2
      have h4 : ref_DocError_L2 d1 x5 = some v1 := hv1; unfold ref_DocError_L2 at h4
      refine AW.seq_w fun K10 hK10 wK10 => ?_
      refine AW.region ?_
      refine AOps.step rfl rfl rfl (OpQ.spec (sp_lss rfl (.inl rfl) (.inl rfl)) _) ?_
      refine AOps.nil ?_
      refine hK10 _ ?_
      refine AW.seq_w fun K11 hK11 wK11 => ?_
      refine AW.cond rfl (fun hc2 => ?_) (fun hc2 => ?_)
      · have h5 := ite_t hc2 h4
        refine AW.skip ?_
        refine hK11 _ ?_
        refine AW.seq_w fun K12 hK12 wK12 => ?_
        refine AW.block ?_
        refine AW.seq_w fun K13 hK13 wK13 => ?_
        refine AW.region ?_
        refine AOps.step rfl rfl rfl (OpQ.spec (sp_move rfl (.inl rfl)) _) ?_
        refine AOps.step rfl rfl rfl (OpQ.spec (sp_assign rfl (.inl rfl)) _) ?_
        refine AOps.nil ?_
        refine hK13 _ ?_
        refine AW.seq_w fun K14 hK14 wK14 => ?_
        refine ob1k h5 fun x7 ex7 h6 => ?_
        refine ob1k h6 fun r1 er1 h7 => ?_
        refine AW.regionP 13 [⟨some 63, (fun _ => .agg [.r (.sl (d1.Nodes.map GNode.row))]), none, []⟩, ⟨some 64, (fun _ => .ptr 1 n0 0 0), none, []⟩, ⟨some 65, (fun _ => .r (.sl (d1.Nodes.map GNode.row))), none, []⟩, ⟨some 66, (fun _ => .r (.int .i64 x5)), none, []⟩, ⟨some 67, (fun _ => .rop (GNode.row x7) 0), none, []⟩, ⟨some 68, (fun _ => .rop (GNode.row x7) 1), none, []⟩, ⟨some 69, (fun _ => .r (.int .i64 x7.Kind)), none, []⟩, ⟨some 70, (fun _ => .ptr 1 n0 0 0), none, []⟩, ⟨some 71, (fun _ => .r (.sl (d1.Nodes.map GNode.row))), none, []⟩, ⟨some 72, (fun _ => .r (.int .i64 x5)), none, []⟩, ⟨some 73, (fun _ => .rop (GNode.row x7) 0), none, []⟩, ⟨some 74, (fun _ => .agg [.r (.int .i64 x7.ID), .r (.int .i64 x7.Kind), .r (.sl (x7.Attrs.map GAttr.row)), .r (.sl (x7.Flow.map GElem.row)), .r (.int .i64 x7.Grid.Rows), .r (.int .i64 x7.Grid.Cols), .r (.sl (x7.Grid.Cells.map GCell.row)), .r (.sl (x7.Grid.Merges.map GRect.row)), .r (.sl (x7.Draw.map GDrawOp.row))]), none, []⟩, ⟨some 75, (fun _ => .r (.sl (r1.map (rInt .i64)))), none, []⟩] hmix (by kernel_rfl) (by exact ⟨fun _ _ h => ⟨rfl, fun _ _ e => by cases e⟩, fun _ _ h => ⟨rfl, fun _ _ e => by cases e⟩, fun _ _ h => ⟨rfl, fun _ _ e => by cases e⟩, fun _ _ h => ⟨rfl, fun _ _ e => by cases e⟩, fun _ _ h => ⟨rfl, fun _ _ e => by cases e⟩, fun _ _ h => ⟨rfl, fun _ _ e => by cases e⟩, fun _ _ h => ⟨rfl, fun _ _ e => by cases e⟩, fun _ _ h => ⟨rfl, fun _ _ e => by cases e⟩, fun _ _ h => ⟨rfl, fun _ _ e => by cases e⟩, fun _ _ h => ⟨rfl, fun _ _ e => by cases e⟩, fun _ _ h => ⟨rfl, fun _ _ e => by cases e⟩, fun _ _ h => ⟨rfl, fun _ _ e => by cases e⟩, fun _ _ h => ⟨rfl, fun _ _ e => by cases e⟩, trivial⟩) rfl (by exact ⟨Ob.quiet (n1 := fun n => n) rfl rfl (by intro d h; cases h; rfl) rfl (fun _ => [(1, .ptr 1 n0 0 0)]) (fun _ => [(1, some (.box n0 24 [.r (.sl (d1.Nodes.map GNode.row))]))]) (fun D G1 hr => ⟨inE_base rfl rfl, trivial⟩) (fun D G1 hr => ⟨inH_base rfl rfl, trivial⟩) (fun _ _ => rfl) (fun G1 e h' n => OpQ.spec (v := .agg [.r (.sl (d1.Nodes.map GNode.row))]) (ms_loadA_box rfl ta_24 (.inl rfl) rfl rfl) _),
            Ob.quiet (n1 := fun n => n) rfl rfl (by intro d h; cases h; rfl) rfl (fun _ => [(1, .ptr 1 n0 0 0)]) (fun _ => [(1, some (.box n0 24 [.r (.sl (d1.Nodes.map GNode.row))]))]) (fun D G1 hr => ⟨inE_base rfl rfl, trivial⟩) (fun D G1 hr => ⟨inH_base rfl rfl, trivial⟩) (fun _ _ => rfl) (fun G1 e h' n => OpQ.spec (v := .ptr 1 n0 0 0) (sp_fieldAddr_own (ob := .box _ _ _) rfl tf_24_0 (.inl rfl) (fun _ => rfl) rfl) _),
            Ob.quiet (n1 := fun n => n) rfl rfl (by intro d h; cases h; rfl) rfl (fun _ => [(64, .ptr 1 n0 0 0)]) (fun _ => [(1, some (.box n0 24 [.r (.sl (d1.Nodes.map GNode.row))]))]) (fun D G1 hr => ⟨inE_op hr 1 rfl rfl (by kernel_rfl) rfl rfl, trivial⟩) (fun D G1 hr => ⟨inH_base rfl rfl, trivial⟩) (fun _ _ => rfl) (fun G1 e h' n => OpQ.spec (v := .r (.sl (d1.Nodes.map GNode.row))) (ms_load_box (a := .r (.sl (d1.Nodes.map GNode.row))) rfl ts_22 (.inl rfl) rfl rfl) _),
            Ob.quiet (n1 := fun n => n) rfl rfl (by intro d h; cases h; rfl) rfl (fun _ => [(5, .r (.int .i64 x5))]) (fun _ => []) (fun D G1 hr => ⟨inE_base rfl rfl, trivial⟩) (fun D G1 hr => trivial) (fun _ _ => rfl) (fun G1 e h' n => OpQ.spec (v := .r (.int .i64 x5)) (sp_move rfl (.inl rfl)) _),
            Ob.quiet (n1 := fun n => n) rfl rfl (by intro d h; cases h; rfl) rfl (fun _ => [(65, .r (.sl (d1.Nodes.map GNode.row))), (66, .r (.int .i64 x5))]) (fun _ => []) (fun D G1 hr => ⟨inE_op hr 2 rfl rfl (by kernel_rfl) rfl rfl, inE_op hr 3 rfl rfl (by kernel_rfl) rfl rfl, trivial⟩) (fun D G1 hr => trivial) (fun _ _ => rfl) (fun G1 e h' n => OpQ.spec (v := .rop (GNode.row x7) 0) (ms_idx rfl tg_22.slice (.inl rfl) (.inl rfl) (fun _ => rfl) (fun _ => ex7)) _),
            Ob.quiet (n1 := fun n => n) rfl rfl (by intro d h; cases h; rfl) rfl (fun _ => [(67, .rop (GNode.row x7) 0)]) (fun _ => []) (fun D G1 hr => ⟨inE_op hr 4 rfl rfl (by kernel_rfl) rfl rfl, trivial⟩) (fun D G1 hr => trivial) (fun _ _ => rfl) (fun G1 e h' n => OpQ.spec (v := .rop (GNode.row x7) 1) (sp_fieldAddr_ro rfl tf_35_1 (.inl rfl)) _),
            Ob.quiet (n1 := fun n => n) rfl rfl (by intro d h; cases h; rfl) rfl (fun _ => [(68, .rop (GNode.row x7) 1)]) (fun _ => []) (fun D G1 hr => ⟨inE_op hr 5 rfl rfl (by kernel_rfl) rfl rfl, trivial⟩) (fun D G1 hr => trivial) (fun _ _ => rfl) (fun G1 e h' n => OpQ.spec (v := .r (.int .i64 x7.Kind)) (ms_load (d := .int .i64 x7.Kind) rfl ts_3 (.inl rfl) rfl) _),
            Ob.quiet (n1 := fun n => n) rfl rfl (by intro d h; cases h; rfl) rfl (fun _ => [(1, .ptr 1 n0 0 0)]) (fun _ => [(1, some (.box n0 24 [.r (.sl (d1.Nodes.map GNode.row))]))]) (fun D G1 hr => ⟨inE_base rfl rfl, trivial⟩) (fun D G1 hr => ⟨inH_base rfl rfl, trivial⟩) (fun _ _ => rfl) (fun G1 e h' n => OpQ.spec (v := .ptr 1 n0 0 0) (sp_fieldAddr_own (ob := .box _ _ _) rfl tf_24_0 (.inl rfl) (fun _ => rfl) rfl) _),
            Ob.quiet (n1 := fun n => n) rfl rfl (by intro d h; cases h; rfl) rfl (fun _ => [(70, .ptr 1 n0 0 0)]) (fun _ => [(1, some (.box n0 24 [.r (.sl (d1.Nodes.map GNode.row))]))]) (fun D G1 hr => ⟨inE_op hr 7 rfl rfl (by kernel_rfl) rfl rfl, trivial⟩) (fun D G1 hr => ⟨inH_base rfl rfl, trivial⟩) (fun _ _ => rfl) (fun G1 e h' n => OpQ.spec (v := .r (.sl (d1.Nodes.map GNode.row))) (ms_load_box (a := .r (.sl (d1.Nodes.map GNode.row))) rfl ts_22 (.inl rfl) rfl rfl) _),
            Ob.quiet (n1 := fun n => n) rfl rfl (by intro d h; cases h; rfl) rfl (fun _ => [(5, .r (.int .i64 x5))]) (fun _ => []) (fun D G1 hr => ⟨inE_base rfl rfl, trivial⟩) (fun D G1 hr => trivial) (fun _ _ => rfl) (fun G1 e h' n => OpQ.spec (v := .r (.int .i64 x5)) (sp_move rfl (.inl rfl)) _),
            Ob.quiet (n1 := fun n => n) rfl rfl (by intro d h; cases h; rfl) rfl (fun _ => [(71, .r (.sl (d1.Nodes.map GNode.row))), (72, .r (.int .i64 x5))]) (fun _ => []) (fun D G1 hr => ⟨inE_op hr 8 rfl rfl (by kernel_rfl) rfl rfl, inE_op hr 9 rfl rfl (by kernel_rfl) rfl rfl, trivial⟩) (fun D G1 hr => trivial) (fun _ _ => rfl) (fun G1 e h' n => OpQ.spec (v := .rop (GNode.row x7) 0) (ms_idx rfl tg_22.slice (.inl rfl) (.inl rfl) (fun _ => rfl) (fun _ => ex7)) _),
            Ob.quiet (n1 := fun n => n) rfl rfl (by intro d h; cases h; rfl) rfl (fun _ => [(73, .rop (GNode.row x7) 0)]) (fun _ => []) (fun D G1 hr => ⟨inE_op hr 10 rfl rfl (by kernel_rfl) rfl rfl, trivial⟩) (fun D G1 hr => trivial) (fun _ _ => rfl) (fun G1 e h' n => OpQ.spec (v := .agg [.r (.int .i64 x7.ID), .r (.int .i64 x7.Kind), .r (.sl (x7.Attrs.map GAttr.row)), .r (.sl (x7.Flow.map GElem.row)), .r (.int .i64 x7.Grid.Rows), .r (.int .i64 x7.Grid.Cols), .r (.sl (x7.Grid.Cells.map GCell.row)), .r (.sl (x7.Grid.Merges.map GRect.row)), .r (.sl (x7.Draw.map GDrawOp.row))]) (ms_loadA (cs := [.r (.int .i64 x7.ID), .r (.int .i64 x7.Kind), .r (.sl (x7.Attrs.map GAttr.row)), .r (.sl (x7.Flow.map GElem.row)), .r (.int .i64 x7.Grid.Rows), .r (.int .i64 x7.Grid.Cols), .r (.sl (x7.Grid.Cells.map GCell.row)), .r (.sl (x7.Grid.Merges.map GRect.row)), .r (.sl (x7.Draw.map GDrawOp.row))]) rfl ta_35 (.inl rfl) rfl rfl) _),
            Ob.quiet (n1 := fun n => n) rfl rfl (by intro d h; cases h; rfl) rfl (fun _ => [(74, .agg [.r (.int .i64 x7.ID), .r (.int .i64 x7.Kind), .r (.sl (x7.Attrs.map GAttr.row)), .r (.sl (x7.Flow.map GElem.row)), .r (.int .i64 x7.Grid.Rows), .r (.int .i64 x7.Grid.Cols), .r (.sl (x7.Grid.Cells.map GCell.row)), .r (.sl (x7.Grid.Merges.map GRect.row)), .r (.sl (x7.Draw.map GDrawOp.row))])]) (fun _ => []) (fun D G1 hr => ⟨inE_op hr 11 rfl rfl (by kernel_rfl) rfl rfl, trivial⟩) (fun D G1 hr => trivial) (fun _ _ => rfl) (fun G1 e h' n => sp_callS (r := .r (.sl (r1.map (rInt .i64)))) (caps := []) (bs := [.agg [.r (.int .i64 x7.ID), .r (.int .i64 x7.Kind), .r (.sl (x7.Attrs.map GAttr.row)), .r (.sl (x7.Flow.map GElem.row)), .r (.int .i64 x7.Grid.Rows), .r (.int .i64 x7.Grid.Cols), .r (.sl (x7.Grid.Cells.map GCell.row)), .r (.sl (x7.Grid.Merges.map GRect.row)), .r (.sl (x7.Draw.map GDrawOp.row))]]) rfl (.inl rfl) rfl ⟨.inl ⟨(.inl rfl), rfl⟩, trivial⟩ (fun _ => w_ref_RefsOf (er1))),
            trivial⟩) fun G1 n1 => ?_
        refine AOps.weak (s' := ⟨[(1, .ptr 1 n0 0 0), (5, .r (.int .i64 x5)), (59, .r (.int .i64 (d1.Nodes.length : Int))), (60, .r (.int .i64 x5)), (61, .r (.bool (decide (x5 < (d1.Nodes.length : Int))))), (62, .r (.int .i64 x5)), (63, .agg [.r (.sl (d1.Nodes.map GNode.row))]), (64, .ptr 1 n0 0 0), (65, .r (.sl (d1.Nodes.map GNode.row))), (66, .r (.int .i64 x5)), (67, .rop (GNode.row x7) 0), (68, .rop (GNode.row x7) 1), (69, .r (.int .i64 x7.Kind)), (70, .ptr 1 n0 0 0), (71, .r (.sl (d1.Nodes.map GNode.row))), (72, .r (.int .i64 x5)), (73, .rop (GNode.row x7) 0), (74, .agg [.r (.int .i64 x7.ID), .r (.int .i64 x7.Kind), .r (.sl (x7.Attrs.map GAttr.row)), .r (.sl (x7.Flow.map GElem.row)), .r (.int .i64 x7.Grid.Rows), .r (.int .i64 x7.Grid.Cols), .r (.sl (x7.Grid.Cells.map GCell.row)), .r (.sl (x7.Grid.Merges.map GRect.row)), .r (.sl (x7.Draw.map GDrawOp.row))]), (75, .r (.sl (r1.map (rInt .i64))))], [(1, some (.box n0 24 [.r (.sl (d1.Nodes.map GNode.row))]))], n1, 81⟩) (by exact Weak.cv ⟨.inl (.inl rfl), .inl (.inl rfl), .inl (.inl rfl), .inl (.inl rfl), .inl (.inl rfl), .inl (.inl rfl), .inl (.inl rfl), .inl (.inl rfl), .inl (.inl rfl), .inl (.inl rfl), .inl (.inl rfl), .inl (.inl rfl), .inl (.inl rfl), .inl (.inl rfl), .inl (.inl rfl), .inl (.inl rfl), .inl (.inl rfl), .inl (.inl rfl), .inl (.inl rfl), trivial⟩ ⟨.inl rfl, trivial⟩ (Nat.le_refl _)) ?_
        refine ob1k h7 fun e1 ee1 h8 => ?_
        refine AOps.step rfl rfl rfl (sp_call (r := .r (.int .i64 e1)) (caps := []) (bs := [.agg [.r (.sl (d1.Nodes.map GNode.row))], .r (.int .i64 x7.Kind), .r (.sl (r1.map (rInt .i64)))]) rfl (.inl rfl) rfl ⟨⟨_, (.inl rfl), .g (cs := [.sl (d1.Nodes.map GNode.row)]) rfl rfl⟩, ⟨_, (.inl rfl), .d rfl⟩, ⟨_, (.inl rfl), .d rfl⟩, trivial⟩ (fun _ => w_ref_RefsError (ee1)) rfl) ?_
        refine AOps.step rfl rfl rfl (OpQ.spec (sp_assign rfl (.inl rfl)) _) ?_
        refine AOps.nil ?_
        refine hK14 _ ?_
        refine AW.seq_w fun K15 hK15 wK15 => ?_
        refine AW.weak (s' := ⟨[(1, .ptr 1 n0 0 0), (6, .r (.int .i64 e1)), (59, .r (.int .i64 (d1.Nodes.length : Int))), (60, .r (.int .i64 x5))], [(1, some (.box n0 24 [.r (.sl (d1.Nodes.map GNode.row))]))], n1, 81⟩) (by exact Weak.cv ⟨.inl (.inl rfl), .inl (.inl rfl), .inl (.inl rfl), .inl (.inl rfl), trivial⟩ ⟨.inl rfl, trivial⟩ (Nat.le_refl _)) ?_
        refine AW.region ?_
        refine AOps.step rfl rfl rfl (OpQ.spec (sp_move rfl (.inl rfl)) _) ?_
        refine AOps.step rfl rfl rfl (OpQ.spec (sp_neq rfl (.inl rfl) (.inl rfl)) _) ?_
        refine AOps.nil ?_
        refine hK15 _ ?_
        refine AW.cond rfl (fun hc3 => ?_) (fun hc3 => ?_)
        · have h9 := ite_t hc3 h8
          refine AW.seq_w fun K16 hK16 wK16 => ?_
          refine AW.region ?_
          refine AOps.step rfl rfl rfl (OpQ.spec (sp_move rfl (.inl rfl)) _) ?_
          refine AOps.step rfl rfl rfl (OpQ.spec (sp_assign rfl (.inl rfl)) _) ?_
          refine AOps.nil ?_
          refine hK16 _ ?_
          refine AW.ret ?_
          exact retf1 (P := Tryd.prog) (fun (r : Int) => .r (.int .i64 r)) (he2 _ (hx2 _ (Option.some.inj h9).symm)) (.inl rfl) (.t (.d rfl))
        · have h9 := ite_f hc3 h8
          refine AW.skip ?_
          refine hK12 _ ?_
          refine AW.region ?_
          refine ob1k h9 fun x8 ex8 h10 => ?_
          refine AOps.step rfl rfl rfl (OpQ.spec (ms_add rfl (.inl rfl) (.inl rfl) (fun _ => ex8)) _) ?_
          refine AOps.step rfl rfl rfl (OpQ.spec (sp_move rfl (.inl rfl)) _) ?_
          refine AOps.nil ?_
          exact NextQ1.mk h10 (vec [n1]) ((by exact Weak.cv ⟨.inl (.inl rfl), .inl (.inl rfl), .inl (.inl rfl), trivial⟩ ⟨.inl rfl, trivial⟩ (Nat.le_refl _)))
      · have h5 := ite_f hc2 h4
        refine AW.exit ?_
        exact wK7 _ _ ((by exact Weak.cv trivial trivial (Nat.le_refl _))) (J2 _ (vec [(i8 0)]) (hx2 _ (Option.some.inj h5).symm))
    refine AW.iter1 (fun (x2 : Int) i3 => ⟨[(1, .ptr 1 n0 0 0), (13, .r (.int .i64 (d1.Nodes.length : Int))), (14, .r (.int .i64 x2))], [(1, some (.box n0 24 [.r (.sl (d1.Nodes.map GNode.row))]))], (i3 0), 81⟩) (vec [(n0 + 1)]) hit1 ((by exact Weak.cv ⟨.inl (.inl rfl), .inl (.inl rfl), .inl (.inl rfl), trivial⟩ ⟨.inl rfl, trivial⟩ (Nat.le_refl _))) ?_
    intro x2 i3 v2 hv2 hx1
    have h11 : ref_DocError_L1 d1 x2 = some v2 := hv2; unfold ref_DocError_L1 at h11
    refine AW.seq_w fun K17 hK17 wK17 => ?_
    refine AW.region ?_
    refine AOps.step rfl rfl rfl (OpQ.spec (sp_lss rfl (.inl rfl) (.inl rfl)) _) ?_
    refine AOps.nil ?_
    refine hK17 _ ?_
    refine AW.seq_w fun K18 hK18 wK18 => ?_
    refine AW.cond rfl (fun hc4 => ?_) (fun hc4 => ?_)
    · have h12 := ite_t hc4 h11
      refine AW.skip ?_
      refine hK18 _ ?_
      refine AW.seq_w fun K19 hK19 wK19 => ?_
      refine AW.block ?_
      refine AW.seq_w fun K20 hK20 wK20 => ?_
      refine AW.region ?_
      refine AOps.step rfl rfl rfl (OpQ.spec (sp_move rfl (.inl rfl)) _) ?_
      refine AOps.step rfl rfl rfl (OpQ.spec (sp_assign rfl (.inl rfl)) _) ?_
      refine AOps.nil ?_
      refine hK20 _ ?_
      refine AW.seq_w fun K21 hK21 wK21 => ?_
      refine AW.seq_w fun K22 hK22 wK22 => ?_
      refine AW.region ?_
      refine AOps.step rfl rfl rfl (OpQ.spec (sp_fieldAddr_own (ob := .box _ _ _) rfl tf_24_0 (.inl rfl) (fun _ => rfl) rfl) _) ?_
      refine AOps.step rfl rfl rfl (OpQ.spec (ms_load_box (a := .r (.sl (d1.Nodes.map GNode.row))) rfl ts_22 (.inl rfl) rfl rfl) _) ?_
      refine AOps.step rfl rfl rfl (OpQ.spec (sp_move rfl (.inl rfl)) _) ?_
      refine ob1k h12 fun x9 ex9 h13 => ?_
      refine AOps.step rfl rfl rfl (OpQ.spec (ms_idx rfl tg_22.slice (.inl rfl) (.inl rfl) (fun _ => rfl) (fun _ => ex9)) _) ?_
      refine AOps.step rfl rfl rfl (OpQ.spec (ms_loadA (cs := [.r (.int .i64 x9.ID), .r (.int .i64 x9.Kind), .r (.sl (x9.Attrs.map GAttr.row)), .r (.sl (x9.Flow.map GElem.row)), .r (.int .i64 x9.Grid.Rows), .r (.int .i64 x9.Grid.Cols), .r (.sl (x9.Grid.Cells.map GCell.row)), .r (.sl (x9.Grid.Merges.map GRect.row)), .r (.sl (x9.Draw.map GDrawOp.row))]) rfl ta_35 (.inl rfl) rfl rfl) _) ?_
      refine ob1k h13 fun e2 ee2 h14 => ?_
      refine AOps.step rfl rfl rfl (sp_call (r := .r (.int .i64 e2)) (caps := []) (bs := [.agg [.r (.int .i64 x9.ID), .r (.int .i64 x9.Kind), .r (.sl (x9.Attrs.map GAttr.row)), .r (.sl (x9.Flow.map GElem.row)), .r (.int .i64 x9.Grid.Rows), .r (.int .i64 x9.Grid.Cols), .r (.sl (x9.Grid.Cells.map GCell.row)), .r (.sl (x9.Grid.Merges.map GRect.row)), .r (.sl (x9.Draw.map GDrawOp.row))]]) rfl (.inl rfl) rfl ⟨⟨_, (.inl rfl), .g (cs := [.int .i64 x9.ID, .int .i64 x9.Kind, .sl (x9.Attrs.map GAttr.row), .sl (x9.Flow.map GElem.row), .int .i64 x9.Grid.Rows, .int .i64 x9.Grid.Cols, .sl (x9.Grid.Cells.map GCell.row), .sl (x9.Grid.Merges.map GRect.row), .sl (x9.Draw.map GDrawOp.row)]) rfl rfl⟩, trivial⟩ (fun _ => w_ref_NodeError (ee2)) rfl) ?_
      refine AOps.step rfl rfl rfl (OpQ.spec (sp_assign rfl (.inl rfl)) _) ?_
      refine AOps.nil ?_
      refine hK22 _ ?_
      refine AW.seq_w fun K23 hK23 wK23 => ?_
      refine AW.region ?_
      refine AOps.step rfl rfl rfl (OpQ.spec (sp_move rfl (.inl rfl)) _) ?_
      refine AOps.step rfl rfl rfl (OpQ.spec (sp_neq rfl (.inl rfl) (.inl rfl)) _) ?_
      refine AOps.nil ?_
      refine hK23 _ ?_
      refine AW.cond rfl (fun hc5 => ?_) (fun hc5 => ?_)
      · have h15 := ite_t hc5 h14
        refine AW.seq_w fun K24 hK24 wK24 => ?_
        refine AW.weak (s' := ⟨[(4, .r (.int .i64 e2))], [], (i3 0), 81⟩) (by exact Weak.cv ⟨.inl (.inl rfl), trivial⟩ trivial (Nat.le_refl _)) ?_
        refine AW.region ?_
        refine AOps.step rfl rfl rfl (OpQ.spec (sp_move rfl (.inl rfl)) _) ?_
        refine AOps.step rfl rfl rfl (OpQ.spec (sp_assign rfl (.inl rfl)) _) ?_
        refine AOps.nil ?_
        refine hK24 _ ?_
        refine AW.ret ?_
        exact retf1 (P := Tryd.prog) (fun (r : Int) => .r (.int .i64 r)) (he1 _ (hx1 _ (Option.some.inj h15).symm)) (.inl rfl) (.t (.d rfl))
      · have h15 := ite_f hc5 h14
        refine AW.skip ?_
        refine hK21 _ ?_
        refine AW.seq_w fun K25 hK25 wK25 => ?_
        refine AW.weak (s' := ⟨[(1, .ptr 1 n0 0 0), (3, .r (.int .i64 x2)), (13, .r (.int .i64 (d1.Nodes.length : Int))), (14, .r (.int .i64 x2))], [(1, some (.box n0 24 [.r (.sl (d1.Nodes.map GNode.row))]))], (i3 0), 81⟩) (by exact Weak.cv ⟨.inl (.inl rfl), .inl (.inl rfl), .inl (.inl rfl), .inl (.inl rfl), trivial⟩ ⟨.inl rfl, trivial⟩ (Nat.le_refl _)) ?_
        refine AW.regionQ hmix (by kernel_rfl) ?_
        refine AQ.step rfl rfl rfl (sp_move rfl (.inl rfl)) ?_
        refine AQ.step rfl rfl rfl (sp_eql rfl (.inl rfl) (.inl rfl)) ?_
        refine AQ.step rfl rfl rfl (sp_move rfl (.inl rfl)) ?_
        refine AQ.stepW (.one rfl rfl rfl) rfl rfl (sp_fieldAddr_own (ob := .box _ _ _) rfl tf_24_0 (.inl rfl) (fun _ => rfl) rfl) ?_
        refine AQ.stepW (.one rfl rfl rfl) rfl rfl (ms_load_box (a := .r (.sl (d1.Nodes.map GNode.row))) rfl ts_22 (.inr ⟨_, (by exact id), rfl⟩) rfl rfl) ?_
        refine ob1k h15 fun x10 ex10 h16 => ?_
        refine AQ.stepW (.one rfl rfl rfl) rfl rfl (ms_idx rfl tg_22.slice (.inr ⟨_, (by exact id), rfl⟩) (.inl rfl) (fun _ => rfl) (gdt ex10)) ?_
        refine AQ.stepW (.one rfl rfl rfl) rfl rfl (sp_fieldAddr_ro rfl tf_35_0 (.inr ⟨_, (by exact id), rfl⟩)) ?_
        refine AQ.stepW (.one rfl rfl rfl) rfl rfl (ms_load (d := .int .i64 x10.ID) rfl ts_3 (.inr ⟨_, (by exact id), rfl⟩) rfl) ?_
        refine AQ.stepW (.one rfl rfl rfl) rfl rfl (sp_neq rfl (.inr ⟨_, (by exact id), rfl⟩) (.inl rfl)) ?_
        refine AQ.step rfl rfl rfl (sp_and rfl (.inl rfl) (.inr ⟨_, (by exact id), rfl⟩)) ?_
        refine AQ.step rfl rfl rfl (sp_move rfl (.inl rfl)) ?_
        refine AQ.stepW (.one rfl rfl rfl) rfl rfl (sp_move rfl (.inl rfl)) ?_
        refine AQ.stepW (.one rfl rfl rfl) rfl rfl (sp_gtr rfl (.inr ⟨_, (by exact id), rfl⟩) (.inl rfl)) ?_
        refine AQ.stepW (.one rfl rfl rfl) rfl rfl (sp_move rfl (.inr ⟨_, (by exact id), rfl⟩)) ?_
        refine AQ.stepW (.two rfl rfl rfl) rfl rfl (sp_fieldAddr_own (ob := .box _ _ _) rfl tf_24_0 (.inl rfl) (fun _ => rfl) rfl) ?_
        refine AQ.stepW (.two rfl rfl rfl) rfl rfl (ms_load_box (a := .r (.sl (d1.Nodes.map GNode.row))) rfl ts_22 (.inr ⟨_, (by exact id), rfl⟩) rfl rfl) ?_
        refine AQ.stepW (.two rfl rfl rfl) rfl rfl (sp_move rfl (.inl rfl)) ?_
        refine AQ.stepW (.two rfl rfl rfl) rfl rfl (ms_idx rfl tg_22.slice (.inr ⟨_, (by exact id), rfl⟩) (.inr ⟨_, (by exact id), rfl⟩) (fun _ => rfl) (fun _ => ex9)) ?_
        refine AQ.stepW (.two rfl rfl rfl) rfl rfl (sp_fieldAddr_ro rfl tf_35_0 (.inr ⟨_, (by exact id), rfl⟩)) ?_
        refine AQ.stepW (.two rfl rfl rfl) rfl rfl (ms_load (d := .int .i64 x9.ID) rfl ts_3 (.inr ⟨_, (by exact id), rfl⟩) rfl) ?_
        refine AQ.stepW (.two rfl rfl rfl) rfl rfl (sp_fieldAddr_own (ob := .box _ _ _) rfl tf_24_0 (.inl rfl) (fun _ => rfl) rfl) ?_
        refine AQ.stepW (.two rfl rfl rfl) rfl rfl (ms_load_box (a := .r (.sl (d1.Nodes.map GNode.row))) rfl ts_22 (.inr ⟨_, (by exact id), rfl⟩) rfl rfl) ?_
        refine AQ.stepW (.two rfl rfl rfl) rfl rfl (sp_move rfl (.inl rfl)) ?_
        refine ob1k h16 fun x11 ex11 h17 => ?_
        refine AQ.stepW (.two rfl rfl rfl) rfl rfl (ms_sub rfl (.inr ⟨_, (by exact id), rfl⟩) (.inl rfl) (gdt ex11)) ?_
        refine ob1k h17 fun x12 ex12 h18 => ?_
        refine AQ.stepW (.two rfl rfl rfl) rfl rfl (ms_idx rfl tg_22.slice (.inr ⟨_, (by exact id), rfl⟩) (.inr ⟨_, (by exact id), rfl⟩) (fun _ => rfl) (gdt ex12)) ?_
        refine AQ.stepW (.two rfl rfl rfl) rfl rfl (sp_fieldAddr_ro rfl tf_35_0 (.inr ⟨_, (by exact id), rfl⟩)) ?_
        refine AQ.stepW (.two rfl rfl rfl) rfl rfl (ms_load (d := .int .i64 x12.ID) rfl ts_3 (.inr ⟨_, (by exact id), rfl⟩) rfl) ?_
        refine AQ.stepW (.two rfl rfl rfl) rfl rfl (sp_leq rfl (.inr ⟨_, (by exact id), rfl⟩) (.inr ⟨_, (by exact id), rfl⟩)) ?_
        refine AQ.stepW (.one rfl rfl rfl) rfl rfl (sp_and rfl (.inr ⟨_, (by exact id), rfl⟩) (.inr ⟨_, (by exact id), rfl⟩)) ?_
        refine AQ.step rfl rfl rfl (sp_or rfl (.inl rfl) (.inr ⟨_, (by exact id), rfl⟩)) ?_
        refine AQ.nil ?_
        refine hK25 _ ?_
        refine AW.cond rfl (fun hc6 => ?_) (fun hc6 => ?_)
        · have h19 := ite_t hc6 h18
          refine AW.seq_w fun K26 hK26 wK26 => ?_
          refine AW.weak (s' := ⟨[], [], (i3 0), 81⟩) (by exact Weak.cv trivial trivial (Nat.le_refl _)) ?_
          refine AW.region ?_
          refine AOps.step rfl rfl rfl (OpQ.spec (sp_assign rfl (.inl rfl)) _) ?_
          refine AOps.nil ?_
          refine hK26 _ ?_
          refine AW.ret ?_
          exact retf1 (P := Tryd.prog) (fun (r : Int) => .r (.int .i64 r)) (he1 _ (hx1 _ (Option.some.inj h19).symm)) (.inl rfl) (.t (.d rfl))
        · have h19 := ite_f hc6 h18
          refine AW.skip ?_
          refine hK19 _ ?_
          refine AW.region ?_
          refine ob1k h19 fun x13 ex13 h20 => ?_
          refine AOps.step rfl rfl rfl (OpQ.spec (ms_add rfl (.inl rfl) (.inl rfl) (fun _ => ex13)) _) ?_
          refine AOps.step rfl rfl rfl (OpQ.spec (sp_move rfl (.inl rfl)) _) ?_
          refine AOps.nil ?_
          exact NextQ1.mk h20 (vec [(i3 0)]) ((by exact Weak.cv ⟨.inl (.inl rfl), .inl (.inl rfl), .inl (.inl rfl), trivial⟩ ⟨.inl rfl, trivial⟩ (Nat.le_refl _)))
    · have h12 := ite_f hc4 h11
      refine AW.exit ?_
      exact wK5 _ _ ((by exact Weak.cv ⟨.inl (.inl rfl), trivial⟩ ⟨.inl rfl, trivial⟩ (Nat.le_refl _))) (J1 _ (vec [(i3 0)]) (hx1 _ (Option.some.inj h12).symm))
set_option maxHeartbeats 4000000 in
set_option maxRecDepth 20000 in
theorem w_law_DocCheckSays {d1 : GDoc} {a1 : Int} {b1 : Int} {r : Bool} (h : law_DocCheckSays d1 a1 b1 = some r) : ARO Tryd.prog 4 [.agg [.r (.sl (d1.Nodes.map GNode.row))], .r (.int .i64 a1), .r (.int .i64 b1)] (.r (.bool r)) := by
  unfold law_DocCheckSays at h
  refine ARO.mkF Tryd.func4 rfl rfl Tryd.ntmps4 rfl (Nat.le_of_ble_eq_true rfl) fun n0 => ?_
  refine AW.seq_w fun K1 hK1 wK1 => ?_
  refine AW.region ?_
  refine AOps.step rfl rfl rfl (ms_box (cs := [.r (.sl (d1.Nodes.map GNode.row))]) 3 rfl (.inl rfl) rfl rfl) ?_
  refine AOps.step rfl rfl rfl (OpQ.spec (sp_assign rfl (.inl rfl)) _) ?_
  refine AOps.nil ?_
  refine hK1 _ ?_
  refine AW.seq_w fun K2 hK2 wK2 => ?_
  refine AW.seq_w fun K3 hK3 wK3 => ?_
  refine AW.regionQ hmix (by kernel_rfl) ?_
  refine ob1k h fun r1 er1 h1 => ?_
  refine AQ.stepC rfl rfl rfl (r := .r (.bool r1)) (caps := []) (bs := []) rfl (.inl rfl) rfl trivial (fun _ => w_law_docs (er1)) rfl ?_
  refine AQ.step rfl rfl rfl (sp_not rfl (.inl rfl)) ?_
  refine AQ.step rfl rfl rfl (sp_move rfl (.inl rfl)) ?_
  refine AQ.stepW (.one rfl rfl rfl) rfl rfl (sp_move rfl (.inl rfl)) ?_
  refine AQ.stepW (.one rfl rfl rfl) rfl rfl (sp_move rfl (.inl rfl)) ?_
  refine ob1k h1 fun r2 er2 h2 => ?_
  refine AQ.stepWC (.one rfl rfl rfl) rfl rfl (r := .r (.bool r2)) (caps := []) (bs := [.r (.int .i64 a1), .r (.int .i64 b1)]) rfl (.inl rfl) rfl ⟨⟨_, (.inr ⟨_, (by exact id), rfl⟩), .d rfl⟩, ⟨_, (.inr ⟨_, (by exact id), rfl⟩), .d rfl⟩, trivial⟩ (fun hg => w_doc_Permitted (gdt er2 hg)) rfl ?_
  refine AQ.stepW (.one rfl rfl rfl) rfl rfl (sp_move rfl (.inl rfl)) ?_
  refine AQ.stepW (.one rfl rfl rfl) rfl rfl (sp_move rfl (.inl rfl)) ?_
  refine ob1k h2 fun r3 er3 h3 => ?_
  refine AQ.stepWC (.one rfl rfl rfl) rfl rfl (r := .r (.bool r3)) (caps := []) (bs := [.r (.int .i64 a1), .r (.int .i64 b1)]) rfl (.inl rfl) rfl ⟨⟨_, (.inr ⟨_, (by exact id), rfl⟩), .d rfl⟩, ⟨_, (.inr ⟨_, (by exact id), rfl⟩), .d rfl⟩, trivial⟩ (fun hg => w_ref_Permitted (gdt er3 hg)) rfl ?_
  refine AQ.stepW (.one rfl rfl rfl) rfl rfl (sp_bneq rfl Tryd.underlying4 (.inr ⟨_, (by exact id), rfl⟩) (.inr ⟨_, (by exact id), rfl⟩)) ?_
  refine AQ.step rfl rfl rfl (sp_or rfl (.inl rfl) (.inr ⟨_, (by exact id), rfl⟩)) ?_
  refine AQ.step rfl rfl rfl (sp_move rfl (.inl rfl)) ?_
  refine AQ.stepW (.one rfl rfl rfl) rfl rfl (ms_loadA_box rfl ta_24 (.inl rfl) rfl rfl) ?_
  refine ob1k h3 fun r4 er4 h4 => ?_
  refine AQ.stepWC (.one rfl rfl rfl) rfl rfl (r := .r (.int .i64 r4)) (caps := []) (bs := [.agg [.r (.sl (d1.Nodes.map GNode.row))]]) rfl (.inl rfl) rfl ⟨⟨_, (.inr ⟨_, (by exact id), rfl⟩), .g (cs := [.sl (d1.Nodes.map GNode.row)]) rfl rfl⟩, trivial⟩ (fun hg => w_doc_Check (gdt er4 hg)) rfl ?_
  refine AQ.stepW (.one rfl rfl rfl) rfl rfl (ms_loadA_box rfl ta_24 (.inl rfl) rfl rfl) ?_
  refine ob1k h4 fun r5 er5 h5 => ?_
  refine AQ.stepWC (.one rfl rfl rfl) rfl rfl (r := .r (.int .i64 r5)) (caps := []) (bs := [.agg [.r (.sl (d1.Nodes.map GNode.row))]]) rfl (.inl rfl) rfl ⟨⟨_, (.inr ⟨_, (by exact id), rfl⟩), .g (cs := [.sl (d1.Nodes.map GNode.row)]) rfl rfl⟩, trivial⟩ (fun hg => w_ref_DocError (gdt er5 hg)) rfl ?_
  refine AQ.stepW (.one rfl rfl rfl) rfl rfl (sp_neq rfl (.inr ⟨_, (by exact id), rfl⟩) (.inr ⟨_, (by exact id), rfl⟩)) ?_
  refine AQ.step rfl rfl rfl (sp_or rfl (.inl rfl) (.inr ⟨_, (by exact id), rfl⟩)) ?_
  refine AQ.nil ?_
  refine hK3 _ ?_
  refine AW.cond rfl (fun hc1 => ?_) (fun hc1 => ?_)
  · have h6 := ite_t hc1 h5
    refine AW.seq_w fun K4 hK4 wK4 => ?_
    refine AW.weak (s' := ⟨[], [], (n0 + 1), 46⟩) (by exact Weak.cv trivial trivial (Nat.le_refl _)) ?_
    refine AW.region ?_
    refine AOps.step rfl rfl rfl (OpQ.spec (sp_assign rfl (.inl rfl)) _) ?_
    refine AOps.nil ?_
    refine hK4 _ ?_
    refine AW.ret ?_
    exact retf1 (P := Tryd.prog) (fun (r : Bool) => .r (.bool r)) h6 (.inl rfl) (.t (.d rfl))
  · have h6 := ite_f hc1 h5
    refine AW.skip ?_
    refine hK2 _ ?_
    refine AW.seq_w fun K5 hK5 wK5 => ?_
    refine AW.seq_w fun K6 hK6 wK6 => ?_
    refine AW.weak (s' := ⟨[(3, .ptr 3 n0 0 0)], [(3, some (.box n0 24 [.r (.sl (d1.Nodes.map GNode.row))]))], (n0 + 1), 46⟩) (by exact Weak.cv ⟨.inl (.inl rfl), trivial⟩ ⟨.inl rfl, trivial⟩ (Nat.le_refl _)) ?_
    refine AW.region ?_
    refine AOps.step rfl rfl rfl (OpQ.spec (sp_fieldAddr_own (ob := .box _ _ _) rfl tf_24_0 (.inl rfl) (fun _ => rfl) rfl) _) ?_
    refine AOps.step rfl rfl rfl (OpQ.spec (ms_load_box (a := .r (.sl (d1.Nodes.map GNode.row))) rfl ts_22 (.inl rfl) rfl rfl) _) ?_
    refine AOps.step rfl rfl rfl (OpQ.spec (ms_len rfl tg_22.slice (.inl rfl)) _) ?_
    refine AOps.step rfl rfl rfl (OpQ.spec (sp_move rfl (.inl rfl)) _) ?_
    refine AOps.nil ?_
    refine hK6 _ ?_
    refine AW.block ?_
    refine jc1k h6 fun o1 hit1 hk1 he1 => ?_
    have J1 : ∀ (u2 : Unit) (i5 : Nat → Nat), o1 = .nrm u2 → K5 ⟨[], [], (i5 0), 46⟩ := by
      intro u2 i5 e
      have h7 := hk1 _ e
      refine hK5 _ ?_
      refine AW.seq_w fun K7 hK7 wK7 => ?_
      refine AW.region ?_
      refine AOps.step rfl rfl rfl (OpQ.spec (sp_assign rfl (.inl rfl)) _) ?_
      refine AOps.nil ?_
      refine hK7 _ ?_
      refine AW.ret ?_
      exact retf1 (P := Tryd.prog) (fun (r : Bool) => .r (.bool r)) h7 (.inl rfl) (.t (.d rfl))
    refine AW.iter1 (fun (x2 : Int) i3 => ⟨[(3, .ptr 3 n0 0 0), (28, .r (.int .i64 (d1.Nodes.length : Int))), (29, .r (.int .i64 x2))], [(3, some (.box n0 24 [.r (.sl (d1.Nodes.map GNode.row))]))], (i3 0), 46⟩) (vec [(n0 + 1)]) hit1 ((by exact Weak.cv ⟨.inl (.inl rfl), .inl (.inl rfl), .inl (.inl rfl), trivial⟩ ⟨.inl rfl, trivial⟩ (Nat.le_refl _))) ?_
    intro x2 i3 v1 hv1 hx1
    have h8 : law_DocCheckSays_L1 d1 x2 = some v1 := hv1; unfold law_DocCheckSays_L1 at h8
    refine AW.seq_w fun K8 hK8 wK8 => ?_
    refine AW.region ?_
    refine AOps.step rfl rfl rfl (OpQ.spec (sp_lss rfl (.inl rfl) (.inl rfl)) _) ?_
    refine AOps.nil ?_
    refine hK8 _ ?_
    refine AW.seq_w fun K9 hK9 wK9 => ?_
    refine AW.cond rfl (fun hc2 => ?_) (fun hc2 => ?_)
    · have h9 := ite_t hc2 h8
      refine AW.skip ?_
      refine hK9 _ ?_
      refine AW.seq_w fun K10 hK10 wK10 => ?_
      refine AW.block ?_
      refine AW.seq_w fun K11 hK11 wK11 => ?_
      refine AW.region ?_
      refine AOps.step rfl rfl rfl (OpQ.spec (sp_move rfl (.inl rfl)) _) ?_
      refine AOps.step rfl rfl rfl (OpQ.spec (sp_assign rfl (.inl rfl)) _) ?_
      refine AOps.nil ?_
      refine hK11 _ ?_
      refine AW.seq_w fun K12 hK12 wK12 => ?_
      refine AW.regionQ hmix (by kernel_rfl) ?_
      refine AQ.step rfl rfl rfl (sp_fieldAddr_own (ob := .box _ _ _) rfl tf_24_0 (.inl rfl) (fun _ => rfl) rfl) ?_
      refine AQ.step rfl rfl rfl (ms_load_box (a := .r (.sl (d1.Nodes.map GNode.row))) rfl ts_22 (.inl rfl) rfl rfl) ?_
      refine AQ.step rfl rfl rfl (sp_move rfl (.inl rfl)) ?_
      refine ob1k h9 fun x4 ex4 h10 => ?_
      refine AQ.step rfl rfl rfl (ms_idx rfl tg_22.slice (.inl rfl) (.inl rfl) (fun _ => rfl) (fun _ => ex4)) ?_
      refine AQ.step rfl rfl rfl (ms_loadA (cs := [.r (.int .i64 x4.ID), .r (.int .i64 x4.Kind), .r (.sl (x4.Attrs.map GAttr.row)), .r (.sl (x4.Flow.map GElem.row)), .r (.int .i64 x4.Grid.Rows), .r (.int .i64 x4.Grid.Cols), .r (.sl (x4.Grid.Cells.map GCell.row)), .r (.sl (x4.Grid.Merges.map GRect.row)), .r (.sl (x4.Draw.map GDrawOp.row))]) rfl ta_35 (.inl rfl) rfl rfl) ?_
      refine ob1k h10 fun r6 er6 h11 => ?_
      refine AQ.stepC rfl rfl rfl (r := .r (.int .i64 r6)) (caps := []) (bs := [.agg [.r (.int .i64 x4.ID), .r (.int .i64 x4.Kind), .r (.sl (x4.Attrs.map GAttr.row)), .r (.sl (x4.Flow.map GElem.row)), .r (.int .i64 x4.Grid.Rows), .r (.int .i64 x4.Grid.Cols), .r (.sl (x4.Grid.Cells.map GCell.row)), .r (.sl (x4.Grid.Merges.map GRect.row)), .r (.sl (x4.Draw.map GDrawOp.row))]]) rfl (.inl rfl) rfl ⟨⟨_, (.inl rfl), .g (cs := [.int .i64 x4.ID, .int .i64 x4.Kind, .sl (x4.Attrs.map GAttr.row), .sl (x4.Flow.map GElem.row), .int .i64 x4.Grid.Rows, .int .i64 x4.Grid.Cols, .sl (x4.Grid.Cells.map GCell.row), .sl (x4.Grid.Merges.map GRect.row), .sl (x4.Draw.map GDrawOp.row)]) rfl rfl⟩, trivial⟩ (fun _ => w_doc_CheckNode (er6)) rfl ?_
      refine AQ.step rfl rfl rfl (sp_fieldAddr_own (ob := .box _ _ _) rfl tf_24_0 (.inl rfl) (fun _ => rfl) rfl) ?_
      refine AQ.step rfl rfl rfl (ms_load_box (a := .r (.sl (d1.Nodes.map GNode.row))) rfl ts_22 (.inl rfl) rfl rfl) ?_
      refine AQ.step rfl rfl rfl (sp_move rfl (.inl rfl)) ?_
      refine AQ.step rfl rfl rfl (ms_idx rfl tg_22.slice (.inl rfl) (.inl rfl) (fun _ => rfl) (fun _ => ex4)) ?_
      refine AQ.step rfl rfl rfl (ms_loadA (cs := [.r (.int .i64 x4.ID), .r (.int .i64 x4.Kind), .r (.sl (x4.Attrs.map GAttr.row)), .r (.sl (x4.Flow.map GElem.row)), .r (.int .i64 x4.Grid.Rows), .r (.int .i64 x4.Grid.Cols), .r (.sl (x4.Grid.Cells.map GCell.row)), .r (.sl (x4.Grid.Merges.map GRect.row)), .r (.sl (x4.Draw.map GDrawOp.row))]) rfl ta_35 (.inl rfl) rfl rfl) ?_
      refine ob1k h11 fun r7 er7 h12 => ?_
      refine AQ.stepC rfl rfl rfl (r := .r (.int .i64 r7)) (caps := []) (bs := [.agg [.r (.int .i64 x4.ID), .r (.int .i64 x4.Kind), .r (.sl (x4.Attrs.map GAttr.row)), .r (.sl (x4.Flow.map GElem.row)), .r (.int .i64 x4.Grid.Rows), .r (.int .i64 x4.Grid.Cols), .r (.sl (x4.Grid.Cells.map GCell.row)), .r (.sl (x4.Grid.Merges.map GRect.row)), .r (.sl (x4.Draw.map GDrawOp.row))]]) rfl (.inl rfl) rfl ⟨⟨_, (.inl rfl), .g (cs := [.int .i64 x4.ID, .int .i64 x4.Kind, .sl (x4.Attrs.map GAttr.row), .sl (x4.Flow.map GElem.row), .int .i64 x4.Grid.Rows, .int .i64 x4.Grid.Cols, .sl (x4.Grid.Cells.map GCell.row), .sl (x4.Grid.Merges.map GRect.row), .sl (x4.Draw.map GDrawOp.row)]) rfl rfl⟩, trivial⟩ (fun _ => w_ref_NodeError (er7)) rfl ?_
      refine AQ.step rfl rfl rfl (sp_neq rfl (.inl rfl) (.inl rfl)) ?_
      refine AQ.nil ?_
      refine hK12 _ ?_
      refine AW.cond rfl (fun hc3 => ?_) (fun hc3 => ?_)
      · have h13 := ite_t hc3 h12
        refine AW.seq_w fun K13 hK13 wK13 => ?_
        refine AW.weak (s' := ⟨[], [], (i3 0), 46⟩) (by exact Weak.cv trivial trivial (Nat.le_refl _)) ?_
        refine AW.region ?_
        refine AOps.step rfl rfl rfl (OpQ.spec (sp_assign rfl (.inl rfl)) _) ?_
        refine AOps.nil ?_
        refine hK13 _ ?_
        refine AW.ret ?_
        exact retf1 (P := Tryd.prog) (fun (r : Bool) => .r (.bool r)) (he1 _ (hx1 _ (Option.some.inj h13).symm)) (.inl rfl) (.t (.d rfl))
      · have h13 := ite_f hc3 h12
        refine AW.skip ?_
        refine hK10 _ ?_
        refine AW.weak (s' := ⟨[(3, .ptr 3 n0 0 0), (28, .r (.int .i64 (d1.Nodes.length : Int))), (29, .r (.int .i64 x2))], [(3, some (.box n0 24 [.r (.sl (d1.Nodes.map GNode.row))]))], (i3 0), 46⟩) (by exact Weak.cv ⟨.inl (.inl rfl), .inl (.inl rfl), .inl (.inl rfl), trivial⟩ ⟨.inl rfl, trivial⟩ (Nat.le_refl _)) ?_
        refine AW.region ?_
        refine ob1k h13 fun x5 ex5 h14 => ?_
        refine AOps.step rfl rfl rfl (OpQ.spec (ms_add rfl (.inl rfl) (.inl rfl) (fun _ => ex5)) _) ?_
        refine AOps.step rfl rfl rfl (OpQ.spec (sp_move rfl (.inl rfl)) _) ?_
        refine AOps.nil ?_
        exact NextQ1.mk h14 (vec [(i3 0)]) ((by exact Weak.cv ⟨.inl (.inl rfl), .inl (.inl rfl), .inl (.inl rfl), trivial⟩ ⟨.inl rfl, trivial⟩ (Nat.le_refl _)))
    · have h9 := ite_f hc2 h8
      refine AW.exit ?_
      exact wK5 _ _ ((by exact Weak.cv trivial trivial (Nat.le_refl _))) (J1 _ (vec [(i3 0)]) (hx1 _ (Option.some.inj h9).symm))
end Go.Proofs.YtfkolgjapajekaaDoor.Al
