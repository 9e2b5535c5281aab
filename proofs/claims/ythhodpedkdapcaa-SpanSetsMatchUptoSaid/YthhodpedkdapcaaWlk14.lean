/- Walks, as printed. -/
import Derived.Test.YthhodpedkdapcaaPL1
import Derived.Test.YthhodpedkdapcaaProg
set_option linter.unusedVariables false
namespace Go.Proofs.Ythhodpedkdapcaa.Al
open Go.Proofs
theorem hmix : Try.prog.follows .mixedOrders = true := by kernel_rfl
theorem i_3 : (Try.prog.info? 3).map (fun i => (i.zero, i.size, i.bytes)) = some (some (.int .i64 0), 1, 8) := by kernel_rfl
theorem i_31 : (Try.prog.info? 31).map (fun i => (i.zero, i.size, i.bytes)) = some (some (.slice none 0 0), 1, 24) := by kernel_rfl
theorem i_36 : (Try.prog.info? 36).map (fun i => (i.zero, i.size, i.bytes)) = some (some (.agg #[.slice none 0 0, .slice none 0 0]), 2, 48) := by kernel_rfl
theorem i_38 : (Try.prog.info? 38).map (fun i => (i.zero, i.size, i.bytes)) = some (some (.agg #[.int .i64 0, .int .i64 0]), 2, 16) := by kernel_rfl
theorem i_39 : (Try.prog.info? 39).map (fun i => (i.zero, i.size, i.bytes)) = some (some (.agg #[.int .i64 0, .int .i64 0, .int .i64 0, .int .i64 0]), 4, 32) := by kernel_rfl
theorem i_41 : (Try.prog.info? 41).map (fun i => (i.zero, i.size, i.bytes)) = some (some (.agg #[.slice none 0 0, .slice none 0 0, .slice none 0 0]), 3, 72) := by kernel_rfl
theorem i_42 : (Try.prog.info? 42).map (fun i => (i.zero, i.size, i.bytes)) = some (some (.agg #[.int .i64 0, .int .i64 0]), 2, 16) := by kernel_rfl
theorem t0_38 : ZeroTy Try.prog 38 (.agg #[.int .i64 0, .int .i64 0]) := ZeroTy.of i_38
theorem ta_38 : AggTy Try.prog 38 2 := AggTy.of Try.underlying38 rfl i_38
theorem tb_36 : BuildArr Try.prog 36 [(0, 1), (1, 1)] [.slice none 0 0, .slice none 0 0] := BuildArr.of (n := 2) (e := 31) Try.underlying36 i_31 (placesB (by decide)) i_36
theorem tb_38 : BuildTy Try.prog 38 [(0, 1), (1, 1)] [.int .i64 0, .int .i64 0] := BuildTy.of Try.underlying38 (fun w => by kernel_rfl) i_38
theorem tb_39 : BuildArr Try.prog 39 [(0, 1), (1, 1), (2, 1), (3, 1)] [.int .i64 0, .int .i64 0, .int .i64 0, .int .i64 0] := BuildArr.of (n := 4) (e := 3) Try.underlying39 i_3 (placesB (by decide)) i_39
theorem tb_41 : BuildArr Try.prog 41 [(0, 1), (1, 1), (2, 1)] [.slice none 0 0, .slice none 0 0, .slice none 0 0] := BuildArr.of (n := 3) (e := 31) Try.underlying41 i_31 (placesB (by decide)) i_41
theorem tb_42 : BuildArr Try.prog 42 [(0, 1), (1, 1)] [.int .i64 0, .int .i64 0] := BuildArr.of (n := 2) (e := 3) Try.underlying42 i_3 (placesB (by decide)) i_42
theorem te_38 : EqTy Try.prog 38 [some (.int .i64), some (.int .i64)] := EqTy.of Try.underlying38 (by kernel_rfl) (by kernel_rfl) (by exact ⟨rfl, rfl, Try.underlying3, rfl, rfl, Try.underlying3, trivial⟩)
theorem tf_38_0 : FieldTy Try.prog 38 0 0 := FieldTy.of Try.underlying38 rfl rfl i_3 (by decide)
theorem tf_38_1 : FieldTy Try.prog 38 1 1 := FieldTy.of Try.underlying38 rfl rfl i_3 (by decide)
theorem tg_31 : GrowTy Try.prog 31 38 2 16 := GrowTy.of Try.underlying31 i_38 rfl rfl (by decide)
theorem tq_36 : ArrTy Try.prog 36 2 31 := ArrTy.of Try.underlying36 (ScalTy.of Try.underlying31 rfl i_31)
theorem tq_39 : ArrTy Try.prog 39 4 3 := ArrTy.of Try.underlying39 (ScalTy.of Try.underlying3 rfl i_3)
theorem tq_41 : ArrTy Try.prog 41 3 31 := ArrTy.of Try.underlying41 (ScalTy.of Try.underlying31 rfl i_31)
theorem tq_42 : ArrTy Try.prog 42 2 3 := ArrTy.of Try.underlying42 (ScalTy.of Try.underlying3 rfl i_3)
theorem ts_3 : ScalTy Try.prog 3 := ScalTy.of Try.underlying3 rfl i_3
theorem ts_31 : ScalTy Try.prog 31 := ScalTy.of Try.underlying31 rfl i_31
theorem tz_3 : ∃ i, Try.prog.info? 3 = some i ∧ i.size = 1 := size_of i_3
theorem tz_38 : ∃ i, Try.prog.info? 38 = some i ∧ i.size = 2 := size_of i_38
set_option maxHeartbeats 4000000 in
set_option maxRecDepth 20000 in
theorem w_span_Check {l1 : List GSpan} {r : Int} (h : span_Check l1 = some r) : ARO Try.prog 20 [.r (.sl (l1.map GSpan.row))] (.r (.int .i64 r)) := by
  unfold span_Check at h
  refine ARO.mkF Try.func20 rfl rfl Try.ntmps20 rfl (Nat.le_of_ble_eq_true rfl) fun n0 => ?_
  refine AW.seq_w fun K1 hK1 wK1 => ?_
  refine AW.region ?_
  refine AOps.step rfl rfl rfl (OpQ.spec (sp_assign rfl (.inl rfl)) _) ?_
  refine AOps.nil ?_
  refine hK1 _ ?_
  refine AW.seq_w fun K2 hK2 wK2 => ?_
  refine AW.seq_w fun K3 hK3 wK3 => ?_
  refine AW.region ?_
  refine AOps.step rfl rfl rfl (OpQ.spec (sp_move rfl (.inl rfl)) _) ?_
  refine AOps.step rfl rfl rfl (OpQ.spec (ms_len rfl tg_31.slice (.inl rfl)) _) ?_
  refine AOps.step rfl rfl rfl (OpQ.spec (sp_move rfl (.inl rfl)) _) ?_
  refine AOps.nil ?_
  refine hK3 _ ?_
  refine AW.block ?_
  refine jc1k h fun o1 hit1 hk1 he1 => ?_
  have J1 : ∀ (u2 : Unit) (i5 : Nat → Nat), o1 = .nrm u2 → K2 ⟨[], [], (i5 0), 41⟩ := by
    intro u2 i5 e
    have h1 := hk1 _ e
    refine hK2 _ ?_
    refine AW.seq_w fun K4 hK4 wK4 => ?_
    refine AW.region ?_
    refine AOps.step rfl rfl rfl (OpQ.spec (sp_assign rfl (.inl rfl)) _) ?_
    refine AOps.nil ?_
    refine hK4 _ ?_
    refine AW.ret ?_
    exact retf1 (P := Try.prog) (fun (r : Int) => .r (.int .i64 r)) h1 (.inl rfl) (.t (.d rfl))
  refine AW.iter1 (fun (x2 : Int) i3 => ⟨[(0, .r (.sl (l1.map GSpan.row))), (5, .r (.sl (l1.map GSpan.row))), (6, .r (.int .i64 (l1.length : Int))), (7, .r (.int .i64 x2))], [], (i3 0), 41⟩) (vec [n0]) hit1 ((by exact Weak.cv ⟨.inl (.inl rfl), .inl (.inl rfl), .inl (.inl rfl), .inl (.inl rfl), trivial⟩ trivial (Nat.le_refl _))) ?_
  intro x2 i3 v1 hv1 hx1
  have h2 : span_Check_L1 l1 x2 = some v1 := hv1; unfold span_Check_L1 at h2
  refine AW.seq_w fun K5 hK5 wK5 => ?_
  refine AW.region ?_
  refine AOps.step rfl rfl rfl (OpQ.spec (sp_lss rfl (.inl rfl) (.inl rfl)) _) ?_
  refine AOps.nil ?_
  refine hK5 _ ?_
  refine AW.seq_w fun K6 hK6 wK6 => ?_
  refine AW.cond rfl (fun hc1 => ?_) (fun hc1 => ?_)
  · have h3 := ite_t hc1 h2
    refine AW.skip ?_
    refine hK6 _ ?_
    refine AW.seq_w fun K7 hK7 wK7 => ?_
    refine AW.block ?_
    refine AW.seq_w fun K8 hK8 wK8 => ?_
    refine AW.region ?_
    refine AOps.step rfl rfl rfl (OpQ.spec (sp_move rfl (.inl rfl)) _) ?_
    refine ob1k h3 fun x4 ex4 h4 => ?_
    refine AOps.step rfl rfl rfl (OpQ.spec (ms_idx rfl tg_31.slice (.inl rfl) (.inl rfl) (fun _ => rfl) (fun _ => ex4)) _) ?_
    refine AOps.step rfl rfl rfl (OpQ.spec (ms_loadA (cs := [.r (.int .i64 x4.From), .r (.int .i64 x4.To)]) rfl ta_38 (.inl rfl) rfl rfl) _) ?_
    refine AOps.step rfl rfl rfl (ms_alloc (cs := [.r (.int .i64 0), .r (.int .i64 0)]) 4 rfl t0_38 rfl rfl) ?_
    refine AOps.step rfl rfl rfl (OpQ.spec (sp_assign rfl (.inl rfl)) _) ?_
    refine AOps.step0 rfl rfl (ms_store_box (ds := [.r (.int .i64 x4.From), .r (.int .i64 x4.To)]) rfl tz_38 (.inl rfl) rfl (.inl rfl) rfl rfl rfl rfl) ?_
    refine AOps.nil ?_
    refine hK8 _ ?_
    refine AW.seq_w fun K9 hK9 wK9 => ?_
    refine AW.seq_w fun K10 hK10 wK10 => ?_
    refine AW.region ?_
    refine AOps.step rfl rfl rfl (OpQ.spec (sp_fieldAddr_own (ob := .box _ _ _) rfl tf_38_0 (.inl rfl) (fun _ => rfl) rfl) _) ?_
    refine AOps.step rfl rfl rfl (OpQ.spec (ms_load_box (a := .r (.int .i64 x4.From)) rfl ts_3 (.inl rfl) rfl rfl) _) ?_
    refine AOps.step rfl rfl rfl (OpQ.spec (sp_lss rfl (.inl rfl) (.inl rfl)) _) ?_
    refine AOps.step rfl rfl rfl (OpQ.spec (sp_move rfl (.inl rfl)) _) ?_
    refine AOps.stepW (.one rfl rfl rfl) rfl rfl (OpQ.spec (sp_fieldAddr_own (ob := .box _ _ _) rfl tf_38_1 (.inl rfl) (fun _ => rfl) rfl) _) ?_
    refine AOps.stepW (.one rfl rfl rfl) rfl rfl (OpQ.spec (ms_load_box (a := .r (.int .i64 x4.To)) rfl ts_3 (.inr ⟨_, (by exact id), rfl⟩) rfl rfl) _) ?_
    refine AOps.stepW (.one rfl rfl rfl) rfl rfl (OpQ.spec (sp_fieldAddr_own (ob := .box _ _ _) rfl tf_38_0 (.inl rfl) (fun _ => rfl) rfl) _) ?_
    refine AOps.stepW (.one rfl rfl rfl) rfl rfl (OpQ.spec (ms_load_box (a := .r (.int .i64 x4.From)) rfl ts_3 (.inr ⟨_, (by exact id), rfl⟩) rfl rfl) _) ?_
    refine AOps.stepW (.one rfl rfl rfl) rfl rfl (OpQ.spec (sp_leq rfl (.inr ⟨_, (by exact id), rfl⟩) (.inr ⟨_, (by exact id), rfl⟩)) _) ?_
    refine AOps.step rfl rfl rfl (OpQ.spec (sp_or rfl (.inl rfl) (.inr ⟨_, (by exact id), rfl⟩)) _) ?_
    refine AOps.step rfl rfl rfl (OpQ.spec (sp_move rfl (.inl rfl)) _) ?_
    refine AOps.stepW (.one rfl rfl rfl) rfl rfl (OpQ.spec (sp_fieldAddr_own (ob := .box _ _ _) rfl tf_38_1 (.inl rfl) (fun _ => rfl) rfl) _) ?_
    refine AOps.stepW (.one rfl rfl rfl) rfl rfl (OpQ.spec (ms_load_box (a := .r (.int .i64 x4.To)) rfl ts_3 (.inr ⟨_, (by exact id), rfl⟩) rfl rfl) _) ?_
    refine AOps.stepW (.one rfl rfl rfl) rfl rfl (OpQ.spec (sp_gtr rfl (.inr ⟨_, (by exact id), rfl⟩) (.inl rfl)) _) ?_
    refine AOps.step rfl rfl rfl (OpQ.spec (sp_or rfl (.inl rfl) (.inr ⟨_, (by exact id), rfl⟩)) _) ?_
    refine AOps.nil ?_
    refine hK10 _ ?_
    refine AW.cond rfl (fun hc2 => ?_) (fun hc2 => ?_)
    · have h5 := ite_t hc2 h4
      refine AW.seq_w fun K11 hK11 wK11 => ?_
      refine AW.weak (s' := ⟨[], [], ((i3 0) + 1), 41⟩) (by exact Weak.cv trivial trivial (Nat.le_refl _)) ?_
      refine AW.region ?_
      refine AOps.step rfl rfl rfl (OpQ.spec (sp_assign rfl (.inl rfl)) _) ?_
      refine AOps.nil ?_
      refine hK11 _ ?_
      refine AW.ret ?_
      exact retf1 (P := Try.prog) (fun (r : Int) => .r (.int .i64 r)) (he1 _ (hx1 _ (Option.some.inj h5).symm)) (.inl rfl) (.t (.d rfl))
    · have h5 := ite_f hc2 h4
      refine AW.skip ?_
      refine hK9 _ ?_
      refine AW.seq_w fun K12 hK12 wK12 => ?_
      refine AW.weak (s' := ⟨[(0, .r (.sl (l1.map GSpan.row))), (3, .r (.int .i64 x2)), (4, .ptr 4 (i3 0) 0 0), (5, .r (.sl (l1.map GSpan.row))), (6, .r (.int .i64 (l1.length : Int))), (7, .r (.int .i64 x2))], [(4, some (.box (i3 0) 38 [.r (.int .i64 x4.From), .r (.int .i64 x4.To)]))], ((i3 0) + 1), 41⟩) (by exact Weak.cv ⟨.inl (.inl rfl), .inl (.inl rfl), .inl (.inl rfl), .inl (.inl rfl), .inl (.inl rfl), .inl (.inl rfl), trivial⟩ ⟨.inl rfl, trivial⟩ (Nat.le_refl _)) ?_
      refine AW.regionQ hmix (by kernel_rfl) ?_
      refine AQ.step rfl rfl rfl (sp_move rfl (.inl rfl)) ?_
      refine AQ.step rfl rfl rfl (sp_gtr rfl (.inl rfl) (.inl rfl)) ?_
      refine AQ.step rfl rfl rfl (sp_move rfl (.inl rfl)) ?_
      refine AQ.stepW (.one rfl rfl rfl) rfl rfl (sp_fieldAddr_own (ob := .box _ _ _) rfl tf_38_0 (.inl rfl) (fun _ => rfl) rfl) ?_
      refine AQ.stepW (.one rfl rfl rfl) rfl rfl (ms_load_box (a := .r (.int .i64 x4.From)) rfl ts_3 (.inr ⟨_, (by exact id), rfl⟩) rfl rfl) ?_
      refine AQ.stepW (.one rfl rfl rfl) rfl rfl (sp_move rfl (.inl rfl)) ?_
      refine AQ.stepW (.one rfl rfl rfl) rfl rfl (sp_move rfl (.inl rfl)) ?_
      refine ob1k h5 fun x5 ex5 h6 => ?_
      refine AQ.stepW (.one rfl rfl rfl) rfl rfl (ms_sub rfl (.inr ⟨_, (by exact id), rfl⟩) (.inl rfl) (gdt ex5)) ?_
      refine ob1k h6 fun x6 ex6 h7 => ?_
      refine AQ.stepW (.one rfl rfl rfl) rfl rfl (ms_idx rfl tg_31.slice (.inr ⟨_, (by exact id), rfl⟩) (.inr ⟨_, (by exact id), rfl⟩) (fun _ => rfl) (gdt ex6)) ?_
      refine AQ.stepW (.one rfl rfl rfl) rfl rfl (sp_fieldAddr_ro rfl tf_38_1 (.inr ⟨_, (by exact id), rfl⟩)) ?_
      refine AQ.stepW (.one rfl rfl rfl) rfl rfl (ms_load (d := .int .i64 x6.To) rfl ts_3 (.inr ⟨_, (by exact id), rfl⟩) rfl) ?_
      refine AQ.stepW (.one rfl rfl rfl) rfl rfl (sp_leq rfl (.inr ⟨_, (by exact id), rfl⟩) (.inr ⟨_, (by exact id), rfl⟩)) ?_
      refine AQ.step rfl rfl rfl (sp_and rfl (.inl rfl) (.inr ⟨_, (by exact id), rfl⟩)) ?_
      refine AQ.nil ?_
      refine hK12 _ ?_
      refine AW.cond rfl (fun hc3 => ?_) (fun hc3 => ?_)
      · have h8 := ite_t hc3 h7
        refine AW.seq_w fun K13 hK13 wK13 => ?_
        refine AW.weak (s' := ⟨[], [], ((i3 0) + 1), 41⟩) (by exact Weak.cv trivial trivial (Nat.le_refl _)) ?_
        refine AW.region ?_
        refine AOps.step rfl rfl rfl (OpQ.spec (sp_assign rfl (.inl rfl)) _) ?_
        refine AOps.nil ?_
        refine hK13 _ ?_
        refine AW.ret ?_
        exact retf1 (P := Try.prog) (fun (r : Int) => .r (.int .i64 r)) (he1 _ (hx1 _ (Option.some.inj h8).symm)) (.inl rfl) (.t (.d rfl))
      · have h8 := ite_f hc3 h7
        refine AW.skip ?_
        refine hK7 _ ?_
        refine AW.region ?_
        refine ob1k h8 fun x7 ex7 h9 => ?_
        refine AOps.step rfl rfl rfl (OpQ.spec (ms_add rfl (.inl rfl) (.inl rfl) (fun _ => ex7)) _) ?_
        refine AOps.step rfl rfl rfl (OpQ.spec (sp_move rfl (.inl rfl)) _) ?_
        refine AOps.nil ?_
        exact NextQ1.mk h9 (vec [((i3 0) + 1)]) ((by exact Weak.cv ⟨.inl (.inl rfl), .inl (.inl rfl), .inl (.inl rfl), .inl (.inl rfl), trivial⟩ trivial (Nat.le_refl _)))
  · have h3 := ite_f hc1 h2
    refine AW.exit ?_
    exact wK2 _ _ ((by exact Weak.cv trivial trivial (Nat.le_refl _))) (J1 _ (vec [(i3 0)]) (hx1 _ (Option.some.inj h3).symm))
set_option maxHeartbeats 4000000 in
set_option maxRecDepth 20000 in
theorem w_span_end {l1 : List GSpan} {k1 : Int} {r : Int} (h : span_end l1 k1 = some r) : ARO Try.prog 112 [.r (.sl (l1.map GSpan.row)), .r (.int .i64 k1)] (.r (.int .i64 r)) := by
  unfold span_end at h
  refine ARO.mkF Try.func112 rfl rfl Try.ntmps112 rfl (Nat.le_of_ble_eq_true rfl) fun n0 => ?_
  refine AW.seq_w fun K1 hK1 wK1 => ?_
  refine AW.region ?_
  refine AOps.step rfl rfl rfl (OpQ.spec (sp_assign rfl (.inl rfl)) _) ?_
  refine AOps.nil ?_
  refine hK1 _ ?_
  refine AW.seq_w fun K2 hK2 wK2 => ?_
  refine AW.seq_w fun K3 hK3 wK3 => ?_
  refine AW.region ?_
  refine AOps.step rfl rfl rfl (OpQ.spec (sp_move rfl (.inl rfl)) _) ?_
  refine ob1k h fun x1 ex1 h1 => ?_
  refine AOps.step rfl rfl rfl (OpQ.spec (ms_rem rfl (.inl rfl) (.inl rfl) (fun _ => ex1)) _) ?_
  refine AOps.step rfl rfl rfl (OpQ.spec (sp_eql rfl (.inl rfl) (.inl rfl)) _) ?_
  refine AOps.nil ?_
  refine hK3 _ ?_
  refine AW.cond rfl (fun hc1 => ?_) (fun hc1 => ?_)
  · have h2 := ite_t hc1 h1
    refine AW.seq_w fun K4 hK4 wK4 => ?_
    refine AW.region ?_
    refine AOps.step rfl rfl rfl (OpQ.spec (sp_move rfl (.inl rfl)) _) ?_
    refine AOps.step rfl rfl rfl (OpQ.spec (sp_move rfl (.inl rfl)) _) ?_
    refine ob1k h2 fun x2 ex2 h3 => ?_
    refine AOps.step rfl rfl rfl (OpQ.spec (ms_quo rfl (.inl rfl) (.inl rfl) (fun _ => ex2)) _) ?_
    refine ob1k h3 fun x3 ex3 h4 => ?_
    refine AOps.step rfl rfl rfl (OpQ.spec (ms_idx rfl tg_31.slice (.inl rfl) (.inl rfl) (fun _ => rfl) (fun _ => ex3)) _) ?_
    refine AOps.step rfl rfl rfl (OpQ.spec (sp_fieldAddr_ro rfl tf_38_0 (.inl rfl)) _) ?_
    refine AOps.step rfl rfl rfl (OpQ.spec (ms_load (d := .int .i64 x3.From) rfl ts_3 (.inl rfl) rfl) _) ?_
    refine AOps.step rfl rfl rfl (OpQ.spec (sp_assign rfl (.inl rfl)) _) ?_
    refine AOps.nil ?_
    refine hK4 _ ?_
    refine AW.ret ?_
    exact retf1 (P := Try.prog) (fun (r : Int) => .r (.int .i64 r)) h4 (.inl rfl) (.t (.d rfl))
  · have h2 := ite_f hc1 h1
    refine AW.skip ?_
    refine hK2 _ ?_
    refine AW.seq_w fun K5 hK5 wK5 => ?_
    refine AW.region ?_
    refine AOps.step rfl rfl rfl (OpQ.spec (sp_move rfl (.inl rfl)) _) ?_
    refine AOps.step rfl rfl rfl (OpQ.spec (sp_move rfl (.inl rfl)) _) ?_
    refine ob1k h2 fun x4 ex4 h5 => ?_
    refine AOps.step rfl rfl rfl (OpQ.spec (ms_quo rfl (.inl rfl) (.inl rfl) (fun _ => ex4)) _) ?_
    refine ob1k h5 fun x5 ex5 h6 => ?_
    refine AOps.step rfl rfl rfl (OpQ.spec (ms_idx rfl tg_31.slice (.inl rfl) (.inl rfl) (fun _ => rfl) (fun _ => ex5)) _) ?_
    refine AOps.step rfl rfl rfl (OpQ.spec (sp_fieldAddr_ro rfl tf_38_1 (.inl rfl)) _) ?_
    refine AOps.step rfl rfl rfl (OpQ.spec (ms_load (d := .int .i64 x5.To) rfl ts_3 (.inl rfl) rfl) _) ?_
    refine AOps.step rfl rfl rfl (OpQ.spec (sp_assign rfl (.inl rfl)) _) ?_
    refine AOps.nil ?_
    refine hK5 _ ?_
    refine AW.ret ?_
    exact retf1 (P := Try.prog) (fun (r : Int) => .r (.int .i64 r)) h6 (.inl rfl) (.t (.d rfl))
set_option maxHeartbeats 4000000 in
set_option maxRecDepth 20000 in
theorem w_span_Union_f1 {a1 : Bool} {b1 : Bool} {r : Bool} (h : span_Union_f1 a1 b1 = some r) : ARO Try.prog 73 [.r (.bool a1), .r (.bool b1)] (.r (.bool r)) := by
  unfold span_Union_f1 at h
  refine ARO.mkF Try.func73 rfl rfl Try.ntmps73 rfl (Nat.le_of_ble_eq_true rfl) fun n0 => ?_
  refine AW.seq_w fun K1 hK1 wK1 => ?_
  refine AW.region ?_
  refine AOps.step rfl rfl rfl (OpQ.spec (sp_assign rfl (.inl rfl)) _) ?_
  refine AOps.nil ?_
  refine hK1 _ ?_
  refine AW.seq_w fun K2 hK2 wK2 => ?_
  refine AW.region ?_
  refine AOps.step rfl rfl rfl (OpQ.spec (sp_move rfl (.inl rfl)) _) ?_
  refine AOps.step rfl rfl rfl (OpQ.spec (sp_move rfl (.inl rfl)) _) ?_
  refine AOps.stepW (.one rfl rfl rfl) rfl rfl (OpQ.spec (sp_move rfl (.inl rfl)) _) ?_
  refine AOps.step rfl rfl rfl (OpQ.spec (sp_or rfl (.inl rfl) (.inr ⟨_, (by exact id), rfl⟩)) _) ?_
  refine AOps.step rfl rfl rfl (OpQ.spec (sp_assign rfl (.inl rfl)) _) ?_
  refine AOps.nil ?_
  refine hK2 _ ?_
  refine AW.ret ?_
  exact retf1 (P := Try.prog) (fun (r : Bool) => .r (.bool r)) h (.inl rfl) (.t (.d rfl))
set_option maxHeartbeats 4000000 in
set_option maxRecDepth 20000 in
theorem w_span_add {l1 : List GSpan} {s1 : GSpan} {r : (List GSpan)} {ga1000 : Nat} (h : span_add l1 s1 = some r) : AHC Try.prog 113 1 [.own 1000 ga1000, .agg [.r (.int .i64 s1.From), .r (.int .i64 s1.To)]] [(1000, some (.arr ga1000 38 2 (l1.map GSpan.row)))] (fun rr h' => ∃ (i : Nat → Nat), rr = .own 1000 (i 0) ∧ h' = [(1000, some (.arr (i 0) 38 2 (r.map GSpan.row)))]) := by
  unfold span_add at h
  refine AHC.mkw Try.func113 rfl rfl Try.ntmps113 (Nat.le_of_ble_eq_true rfl) fun n0 => ?_
  refine AW.seq_w fun K1 hK1 wK1 => ?_
  refine AW.region ?_
  refine AOps.step rfl rfl rfl (ms_box (cs := [.r (.int .i64 s1.From), .r (.int .i64 s1.To)]) 3 rfl (.inl rfl) rfl rfl) ?_
  refine AOps.step rfl rfl rfl (OpQ.spec (sp_assign rfl (.inl rfl)) _) ?_
  refine AOps.nil ?_
  refine hK1 _ ?_
  refine AW.seq_w fun K2 hK2 wK2 => ?_
  refine AW.seq_w fun K3 hK3 wK3 => ?_
  refine AW.region ?_
  refine AOps.step rfl rfl rfl (OpQ.spec (sp_move rfl (.inl rfl)) _) ?_
  refine AOps.step rfl rfl rfl (OpQ.spec (ms_len_own rfl tg_31.slice (.inl rfl) rfl) _) ?_
  refine ob1k h fun k1 ek1 h1 => ?_
  refine AOps.step rfl rfl rfl (OpQ.spec (ms_sub rfl (.inl rfl) (.inl rfl) (fun _ => ek1)) _) ?_
  refine AOps.step rfl rfl rfl (OpQ.spec (sp_assign rfl (.inl rfl)) _) ?_
  refine AOps.nil ?_
  refine hK3 _ ?_
  refine AW.seq_w fun K4 hK4 wK4 => ?_
  refine AW.regionQ hmix (by kernel_rfl) ?_
  refine AQ.step rfl rfl rfl (sp_move rfl (.inl rfl)) ?_
  refine AQ.step rfl rfl rfl (sp_geq rfl (.inl rfl) (.inl rfl)) ?_
  refine AQ.step rfl rfl rfl (sp_move rfl (.inl rfl)) ?_
  refine AQ.stepW (.one rfl rfl rfl) rfl rfl (sp_fieldAddr_own (ob := .box _ _ _) rfl tf_38_0 (.inl rfl) (fun _ => rfl) rfl) ?_
  refine AQ.stepW (.one rfl rfl rfl) rfl rfl (ms_load_box (a := .r (.int .i64 s1.From)) rfl ts_3 (.inr ⟨_, (by exact id), rfl⟩) rfl rfl) ?_
  refine AQ.stepW (.one rfl rfl rfl) rfl rfl (sp_move rfl (.inl rfl)) ?_
  refine AQ.stepW (.one rfl rfl rfl) rfl rfl (sp_move rfl (.inl rfl)) ?_
  refine ob1k h1 fun x1 ex1 h2 => ?_
  refine AQ.stepW (.one rfl rfl rfl) rfl rfl (ms_idx_own rfl tg_31.slice (.inr ⟨_, (by exact id), rfl⟩) rfl (.inr ⟨_, (by exact id), rfl⟩) (gdt ex1)) ?_
  refine AQ.stepW (.one rfl rfl rfl) rfl rfl (sp_fieldAddr_own (ob := .arr _ _ _ _) rfl tf_38_1 (.inr ⟨_, (by exact id), rfl⟩) (fun _ => rfl) rfl) ?_
  refine AQ.stepW (.one rfl rfl rfl) rfl rfl (ms_load_own (d := .int .i64 x1.To) rfl ts_3 (.inr ⟨_, (by exact id), rfl⟩) (fun _ => rfl) (gdt ex1) rfl) ?_
  refine AQ.stepW (.one rfl rfl rfl) rfl rfl (sp_leq rfl (.inr ⟨_, (by exact id), rfl⟩) (.inr ⟨_, (by exact id), rfl⟩)) ?_
  refine AQ.step rfl rfl rfl (sp_and rfl (.inl rfl) (.inr ⟨_, (by exact id), rfl⟩)) ?_
  refine AQ.nil ?_
  refine hK4 _ ?_
  refine AW.cond rfl (fun hc1 => ?_) (fun hc1 => ?_)
  · have h3 := ite_t hc1 h2
    refine AW.seq_w fun K5 hK5 wK5 => ?_
    refine AW.weak (s' := ⟨[(0, .own 1000 ga1000), (3, .ptr 3 n0 0 0), (5, .r (.int .i64 k1))], [(3, some (.box n0 38 [.r (.int .i64 s1.From), .r (.int .i64 s1.To)])), (1000, some (.arr ga1000 38 2 (l1.map GSpan.row)))], (n0 + 1), 38⟩) (by exact Weak.cv ⟨.inl (.inl rfl), .inl (.inl rfl), .inl (.inl rfl), trivial⟩ ⟨.inl rfl, .inl rfl, trivial⟩ (Nat.le_refl _)) ?_
    refine AW.regionT 12 hmix (by kernel_rfl) rfl rfl ?_
    refine AT.step rfl rfl rfl (sp_move rfl (.inl rfl)) ?_
    refine AT.step rfl rfl rfl (sp_move rfl (.inl rfl)) ?_
    refine AT.step rfl rfl rfl (sp_move rfl (.inl rfl)) ?_
    refine AT.step rfl rfl rfl (sp_move rfl (.inl rfl)) ?_
    refine ob1k h3 fun x2 ex2 h4 => ?_
    refine AT.step rfl rfl rfl (ms_idx_own rfl tg_31.slice (.inl rfl) rfl (.inl rfl) (fun _ => ex2)) ?_
    refine AT.step rfl rfl rfl (sp_fieldAddr_own (ob := .arr _ _ _ _) rfl tf_38_1 (.inl rfl) (fun _ => rfl) rfl) ?_
    refine AT.step rfl rfl rfl (ms_load_own (d := .int .i64 x2.To) rfl ts_3 (.inl rfl) (fun _ => rfl) (fun _ => ex2) rfl) ?_
    refine AT.step rfl rfl rfl (sp_fieldAddr_own (ob := .box _ _ _) rfl tf_38_1 (.inl rfl) (fun _ => rfl) rfl) ?_
    refine AT.step rfl rfl rfl (ms_load_box (a := .r (.int .i64 s1.To)) rfl ts_3 (.inl rfl) rfl rfl) ?_
    refine AT.step rfl rfl rfl (sp_max rfl (.inl rfl) (.inl rfl)) ?_
    refine AT.step rfl rfl rfl (ms_idx_own rfl tg_31.slice (.inl rfl) rfl (.inl rfl) (fun _ => ex2)) ?_
    refine AT.step rfl rfl rfl (sp_fieldAddr_own (ob := .arr _ _ _ _) rfl tf_38_1 (.inl rfl) (fun _ => rfl) rfl) ?_
    refine AT.nil ?_
    refine AOps.step0 rfl rfl (ms_store (v := (GSpan.mk x2.From (max x2.To s1.To))) rfl tz_3 (.inl rfl) rfl ex2 (.inl rfl) rfl rfl rfl rfl) ?_
    refine AOps.nil ?_
    refine hK5 _ ?_
    refine AW.seq_w fun K6 hK6 wK6 => ?_
    refine AW.weak (s' := ⟨[(0, .own 1000 ga1000)], [(1000, some (.arr ga1000 38 2 ((l1.set k1.toNat (GSpan.mk x2.From (max x2.To s1.To))).map GSpan.row)))], (n0 + 1), 38⟩) (by exact Weak.cv ⟨.inl (.inl rfl), trivial⟩ ⟨.inl rfl, trivial⟩ (Nat.le_refl _)) ?_
    refine AW.region ?_
    refine AOps.step rfl rfl rfl (OpQ.spec (sp_move rfl (.inl rfl)) _) ?_
    refine AOps.step rfl rfl rfl (OpQ.spec (sp_assign rfl (.inl rfl)) _) ?_
    refine AOps.nil ?_
    refine hK6 _ ?_
    refine AW.ret ?_
    exact RetW.mk (s' := ⟨[(4, .own 1000 ga1000)], [(1000, some (.arr ga1000 38 2 ((l1.set k1.toNat (GSpan.mk x2.From (max x2.To s1.To))).map GSpan.row)))], (n0 + 1), 38⟩) ((by exact Weak.cv ⟨.inl (.inl rfl), trivial⟩ ⟨.inl rfl, trivial⟩ (Nat.le_refl _))) (reth_cast (fun (r : (List GSpan)) rr h' => ∃ (i : Nat → Nat), rr = .own 1000 (i 0) ∧ h' = [(1000, some (.arr (i 0) 38 2 (r.map GSpan.row)))]) h4 (by exact ⟨.own 1000 ga1000, [(1000, some (.arr ga1000 38 2 ((l1.set k1.toNat (GSpan.mk x2.From (max x2.To s1.To))).map GSpan.row)))], rfl, ⟨.inr rfl, trivial⟩, rfl, rfl, vec [ga1000], rfl, rfl⟩))
  · have h3 := ite_f hc1 h2
    refine AW.skip ?_
    refine hK2 _ ?_
    refine AW.seq_w fun K7 hK7 wK7 => ?_
    refine AW.weak (s' := ⟨[(0, .own 1000 ga1000), (3, .ptr 3 n0 0 0)], [(3, some (.box n0 38 [.r (.int .i64 s1.From), .r (.int .i64 s1.To)])), (1000, some (.arr ga1000 38 2 (l1.map GSpan.row)))], (n0 + 1), 38⟩) (by exact Weak.cv ⟨.inl (.inl rfl), .inl (.inl rfl), trivial⟩ ⟨.inl rfl, .inl rfl, trivial⟩ (Nat.le_refl _)) ?_
    refine AW.region ?_
    refine AOps.step rfl rfl rfl (OpQ.spec (sp_move rfl (.inl rfl)) _) ?_
    refine AOps.step rfl rfl rfl (OpQ.spec (ms_loadA_box rfl ta_38 (.inl rfl) rfl rfl) _) ?_
    refine AOps.step rfl rfl rfl (ms_lit 36 rfl tg_31 (f := GSpan.row) (l := ([s1] : List GSpan)) ⟨rfl, ⟨_, (.inl rfl), rfl⟩, trivial⟩ rfl (fun _ => rfl) rfl) ?_
    refine ob1k h3 fun l2 el2 h5 => ?_
    refine AOps.step rfl rfl rfl (ms_app rfl tg_31 (.inl rfl) rfl (.inr (.inl ⟨_, _, (.inl rfl), rfl⟩)) el2) ?_
    refine AOps.step rfl rfl rfl (OpQ.spec (sp_assign rfl (.inl rfl)) _) ?_
    refine AOps.nil ?_
    refine hK7 _ ?_
    refine AW.ret ?_
    exact RetW.mk (s' := ⟨[(4, .own 1000 (n0 + 2))], [(1000, some (.arr (n0 + 2) 38 2 (l2.map GSpan.row)))], (n0 + 3), 38⟩) ((by exact Weak.cv ⟨.inl (.inl rfl), trivial⟩ ⟨.inl rfl, trivial⟩ (Nat.le_refl _))) (reth_cast (fun (r : (List GSpan)) rr h' => ∃ (i : Nat → Nat), rr = .own 1000 (i 0) ∧ h' = [(1000, some (.arr (i 0) 38 2 (r.map GSpan.row)))]) h5 (by exact ⟨.own 1000 (n0 + 2), [(1000, some (.arr (n0 + 2) 38 2 (l2.map GSpan.row)))], rfl, ⟨.inr rfl, trivial⟩, rfl, rfl, vec [(n0 + 2)], rfl, rfl⟩))
set_option maxHeartbeats 4000000 in
set_option maxRecDepth 20000 in
theorem w_span_merged__Union_f1 {a1 : List GSpan} {b1 : List GSpan} {r : (List GSpan)} (h : span_merged__Union_f1 a1 b1 = some r) : ARO Try.prog 101 [.r (.sl (a1.map GSpan.row)), .r (.sl (b1.map GSpan.row)), .fn 73 []] (.r (.sl (r.map GSpan.row))) := by
  unfold span_merged__Union_f1 at h
  refine ARO.mkF Try.func101 rfl rfl Try.ntmps101 rfl (Nat.le_of_ble_eq_true rfl) fun n0 => ?_
  refine AW.seq_w fun K1 hK1 wK1 => ?_
  refine AW.region ?_
  refine AOps.step rfl rfl rfl (OpQ.spec (sp_assign rfl (.inl rfl)) _) ?_
  refine AOps.nil ?_
  refine hK1 _ ?_
  refine AW.seq_w fun K2 hK2 wK2 => ?_
  refine AW.region ?_
  refine AOps.step rfl rfl rfl (OpQ.spec (sp_assign rfl (.inl rfl)) _) ?_
  refine AOps.nil ?_
  refine hK2 _ ?_
  refine AW.seq_w fun K3 hK3 wK3 => ?_
  refine AW.region ?_
  refine AOps.step rfl rfl rfl (OpQ.spec (sp_assign rfl (.inl rfl)) _) ?_
  refine AOps.step rfl rfl rfl (OpQ.spec (sp_assign rfl (.inl rfl)) _) ?_
  refine AOps.step rfl rfl rfl (OpQ.spec (sp_assign rfl (.inl rfl)) _) ?_
  refine AOps.nil ?_
  refine hK3 _ ?_
  refine AW.seq_w fun K4 hK4 wK4 => ?_
  refine AW.block ?_
  refine jb1k h fun o1 hit1 hk1 => ?_
  have J1 : ∀ (out4 : List GSpan) (i8 : Nat → Nat), o1 = out4 → K4 ⟨[(7, .own 5007 (i8 0))], [(5007, some (.arr (i8 0) 38 2 (out4.map GSpan.row)))], (i8 1), 90⟩ := by
    intro out4 i8 e
    have h1 := hk1 _ e
    refine hK4 _ ?_
    refine AW.seq_w fun K5 hK5 wK5 => ?_
    refine AW.region ?_
    refine AOps.step rfl rfl rfl (OpQ.spec (sp_move rfl (.inl rfl)) _) ?_
    refine AOps.step rfl rfl rfl (OpQ.spec (sp_assign rfl (.inl rfl)) _) ?_
    refine AOps.nil ?_
    refine hK5 _ ?_
    refine AW.ret ?_
    exact retf1 (P := Try.prog) (fun (r : (List GSpan)) => .r (.sl (r.map GSpan.row))) h1 (.inl rfl) (.t (.one (.own rfl)))
  refine AW.iter4 (fun (at2 : Int) (i4 : Int) (j2 : Int) (out2 : List GSpan) i5 => ⟨[(0, .r (.sl (a1.map GSpan.row))), (1, .r (.sl (b1.map GSpan.row))), (2, .fn 73 []), (7, .own 5007 (i5 0)), (8, .r (.int .i64 at2)), (9, .r (.int .i64 i4)), (10, .r (.int .i64 j2))], [(5007, some (.arr (i5 0) 38 2 (out2.map GSpan.row)))], (i5 1), 90⟩) (vec [n0, (n0 + 1)]) hit1 (Weak.trans (Weak.trans (Weak.adopt 7 5007 38 2 (by decide) rfl) (by exact Weak.cv (e' := [(0, .r (.sl (a1.map GSpan.row))), (1, .r (.sl (b1.map GSpan.row))), (2, .fn 73 []), (6, .cst (.slice none 0 0)), (7, .own 5007 n0), (8, .r (.int .i64 0)), (9, .r (.int .i64 0)), (10, .r (.int .i64 0))]) (h' := [(5007, some (.arr n0 38 2 (([] : List GSpan).map GSpan.row)))]) ⟨.inl (.inl rfl), .inl (.inl rfl), .inl (.inl rfl), .inl (.inl rfl), .inl (.inl rfl), .inl (.inl rfl), .inl (.inl rfl), .inl (.inl rfl), trivial⟩ ⟨.inl rfl, trivial⟩ (Nat.le_refl _))) (by exact Weak.cv ⟨.inl (.inl rfl), .inl (.inl rfl), .inl (.inl rfl), .inl (.inl rfl), .inl (.inl rfl), .inl (.inl rfl), .inl (.inl rfl), trivial⟩ ⟨.inl rfl, trivial⟩ (Nat.le_refl _))) ?_
  intro at2 i4 j2 out2 i5 v1 hv1 hx1
  have h2 : span_merged__Union_f1_L1 a1 b1 at2 i4 j2 out2 = some v1 := hv1; unfold span_merged__Union_f1_L1 at h2
  refine AW.seq_w fun K6 hK6 wK6 => ?_
  refine AW.seq_w fun K7 hK7 wK7 => ?_
  refine AW.region ?_
  refine AOps.step rfl rfl rfl (OpQ.spec (sp_move rfl (.inl rfl)) _) ?_
  refine AOps.step rfl rfl rfl (OpQ.spec (sp_move rfl (.inl rfl)) _) ?_
  refine AOps.step rfl rfl rfl (OpQ.spec (ms_len rfl tg_31.slice (.inl rfl)) _) ?_
  refine ob1k h2 fun x1 ex1 h3 => ?_
  refine AOps.step rfl rfl rfl (OpQ.spec (ms_mul rfl (.inl rfl) (.inl rfl) (fun _ => ex1)) _) ?_
  refine AOps.step rfl rfl rfl (OpQ.spec (sp_lss rfl (.inl rfl) (.inl rfl)) _) ?_
  refine AOps.step rfl rfl rfl (OpQ.spec (sp_move rfl (.inl rfl)) _) ?_
  refine AOps.stepW (.one rfl rfl rfl) rfl rfl (OpQ.spec (sp_move rfl (.inl rfl)) _) ?_
  refine AOps.stepW (.one rfl rfl rfl) rfl rfl (OpQ.spec (sp_move rfl (.inl rfl)) _) ?_
  refine AOps.stepW (.one rfl rfl rfl) rfl rfl (OpQ.spec (ms_len rfl tg_31.slice (.inr ⟨_, (by exact id), rfl⟩)) _) ?_
  refine ob1k h3 fun x2 ex2 h4 => ?_
  refine AOps.stepW (.one rfl rfl rfl) rfl rfl (OpQ.spec (ms_mul rfl (.inl rfl) (.inr ⟨_, (by exact id), rfl⟩) (gdt ex2)) _) ?_
  refine AOps.stepW (.one rfl rfl rfl) rfl rfl (OpQ.spec (sp_lss rfl (.inr ⟨_, (by exact id), rfl⟩) (.inr ⟨_, (by exact id), rfl⟩)) _) ?_
  refine AOps.step rfl rfl rfl (OpQ.spec (sp_or rfl (.inl rfl) (.inr ⟨_, (by exact id), rfl⟩)) _) ?_
  refine AOps.nil ?_
  refine hK7 _ ?_
  refine AW.cond rfl (fun hc1 => ?_) (fun hc1 => ?_)
  · have h5 := ite_t hc1 h4
    refine AW.skip ?_
    refine hK6 _ ?_
    refine AW.block ?_
    refine AW.seq_w fun K8 hK8 wK8 => ?_
    refine AW.region ?_
    refine AOps.step rfl rfl rfl (OpQ.spec (sp_assign rfl (.inl rfl)) _) ?_
    refine AOps.nil ?_
    refine hK8 _ ?_
    refine AW.seq_w fun K9 hK9 wK9 => ?_
    refine AW.seq_w fun K10 hK10 wK10 => ?_
    refine AW.region ?_
    refine AOps.step rfl rfl rfl (OpQ.spec (sp_move rfl (.inl rfl)) _) ?_
    refine AOps.step rfl rfl rfl (OpQ.spec (sp_move rfl (.inl rfl)) _) ?_
    refine AOps.step rfl rfl rfl (OpQ.spec (ms_len rfl tg_31.slice (.inl rfl)) _) ?_
    refine AOps.step rfl rfl rfl (OpQ.spec (ms_mul rfl (.inl rfl) (.inl rfl) (fun _ => ex1)) _) ?_
    refine AOps.step rfl rfl rfl (OpQ.spec (sp_lss rfl (.inl rfl) (.inl rfl)) _) ?_
    refine AOps.nil ?_
    refine hK10 _ ?_
    refine jb1k h5 fun p1 hp1 hk2 => ?_
    have J2 : ∀ (next1 : Int) (i9 : Nat → Nat), p1 = next1 → K9 ⟨[(0, .r (.sl (a1.map GSpan.row))), (1, .r (.sl (b1.map GSpan.row))), (2, .fn 73 []), (7, .own 5007 (i5 0)), (8, .r (.int .i64 at2)), (9, .r (.int .i64 i4)), (10, .r (.int .i64 j2)), (11, .r (.int .i64 next1))], [(5007, some (.arr (i5 0) 38 2 (out2.map GSpan.row)))], (i9 0), 90⟩ := by
      intro next1 i9 e
      have h6 := hk2 _ e
      refine hK9 _ ?_
      refine AW.seq_w fun K11 hK11 wK11 => ?_
      refine AW.seq_w fun K12 hK12 wK12 => ?_
      refine AW.region ?_
      refine AOps.step rfl rfl rfl (OpQ.spec (sp_move rfl (.inl rfl)) _) ?_
      refine AOps.step rfl rfl rfl (OpQ.spec (sp_move rfl (.inl rfl)) _) ?_
      refine AOps.step rfl rfl rfl (OpQ.spec (ms_len rfl tg_31.slice (.inl rfl)) _) ?_
      refine ob1k h6 fun x3 ex3 h7 => ?_
      refine AOps.step rfl rfl rfl (OpQ.spec (ms_mul rfl (.inl rfl) (.inl rfl) (fun _ => ex3)) _) ?_
      refine AOps.step rfl rfl rfl (OpQ.spec (sp_lss rfl (.inl rfl) (.inl rfl)) _) ?_
      refine AOps.nil ?_
      refine hK12 _ ?_
      refine jb1k h7 fun p2 hp2 hk3 => ?_
      have J3 : ∀ (next2 : Int) (i10 : Nat → Nat), p2 = next2 → K11 ⟨[(0, .r (.sl (a1.map GSpan.row))), (1, .r (.sl (b1.map GSpan.row))), (2, .fn 73 []), (7, .own 5007 (i5 0)), (8, .r (.int .i64 at2)), (9, .r (.int .i64 i4)), (10, .r (.int .i64 j2)), (11, .r (.int .i64 next2))], [(5007, some (.arr (i5 0) 38 2 (out2.map GSpan.row)))], (i10 0), 90⟩ := by
        intro next2 i10 e
        have h8 := hk3 _ e
        refine hK11 _ ?_
        refine AW.seq_w fun K13 hK13 wK13 => ?_
        refine AW.seq_w fun K14 hK14 wK14 => ?_
        refine AW.region ?_
        refine AOps.step rfl rfl rfl (OpQ.spec (sp_move rfl (.inl rfl)) _) ?_
        refine AOps.step rfl rfl rfl (OpQ.spec (sp_move rfl (.inl rfl)) _) ?_
        refine AOps.step rfl rfl rfl (OpQ.spec (sp_lss rfl (.inl rfl) (.inl rfl)) _) ?_
        refine AOps.step rfl rfl rfl (OpQ.spec (sp_move rfl (.inl rfl)) _) ?_
        refine AOps.stepW (.one rfl rfl rfl) rfl rfl (OpQ.spec (sp_move rfl (.inl rfl)) _) ?_
        refine AOps.stepW (.one rfl rfl rfl) rfl rfl (OpQ.spec (sp_move rfl (.inl rfl)) _) ?_
        refine ob1k h8 fun x4 ex4 h9 => ?_
        refine AOps.stepW (.one rfl rfl rfl) rfl rfl (OpQ.spec (ms_rem rfl (.inr ⟨_, (by exact id), rfl⟩) (.inl rfl) (gdt ex4)) _) ?_
        refine AOps.stepW (.one rfl rfl rfl) rfl rfl (OpQ.spec (sp_eql rfl (.inr ⟨_, (by exact id), rfl⟩) (.inl rfl)) _) ?_
        refine AOps.stepW (.one rfl rfl rfl) rfl rfl (OpQ.spec (sp_move rfl (.inl rfl)) _) ?_
        refine ob1k h9 fun x5 ex5 h10 => ?_
        refine AOps.stepW (.one rfl rfl rfl) rfl rfl (OpQ.spec (ms_rem rfl (.inr ⟨_, (by exact id), rfl⟩) (.inl rfl) (gdt ex5)) _) ?_
        refine AOps.stepW (.one rfl rfl rfl) rfl rfl (OpQ.spec (sp_eql rfl (.inr ⟨_, (by exact id), rfl⟩) (.inl rfl)) _) ?_
        refine ob1k h10 fun r1 er1 h11 => ?_
        refine AOps.stepW (.one rfl rfl rfl) rfl rfl (sp_call (r := .r (.bool r1)) (caps := []) (bs := [.r (.bool (decide (x4 = 1))), .r (.bool (decide (x5 = 1)))]) rfl (.inr ⟨_, (by exact id), rfl⟩) rfl ⟨⟨_, (.inr ⟨_, (by exact id), rfl⟩), .d rfl⟩, ⟨_, (.inr ⟨_, (by exact id), rfl⟩), .d rfl⟩, trivial⟩ (fun hg => w_span_Union_f1 (gdt er1 hg)) rfl) ?_
        refine AOps.step rfl rfl rfl (OpQ.spec (sp_and rfl (.inl rfl) (.inr ⟨_, (by exact id), rfl⟩)) _) ?_
        refine AOps.nil ?_
        refine hK14 _ ?_
        refine jb1k h11 fun p3 hp3 hk4 => ?_
        have J4 : ∀ (out5 : List GSpan) (i11 : Nat → Nat), p3 = out5 → K13 ⟨[(0, .r (.sl (a1.map GSpan.row))), (1, .r (.sl (b1.map GSpan.row))), (2, .fn 73 []), (7, .own 5007 (i11 0)), (9, .r (.int .i64 i4)), (10, .r (.int .i64 j2)), (11, .r (.int .i64 next2))], [(5007, some (.arr (i11 0) 38 2 (out5.map GSpan.row)))], (i11 1), 90⟩ := by
          intro out5 i11 e
          have h12 := hk4 _ e
          refine hK13 _ ?_
          refine AW.seq_w fun K15 hK15 wK15 => ?_
          refine AW.region ?_
          refine AOps.step rfl rfl rfl (OpQ.spec (sp_move rfl (.inl rfl)) _) ?_
          refine AOps.step rfl rfl rfl (OpQ.spec (sp_assign rfl (.inl rfl)) _) ?_
          refine AOps.nil ?_
          refine hK15 _ ?_
          refine AW.seq_w fun K16 hK16 wK16 => ?_
          refine AW.block ?_
          refine jb1k h12 fun o2 hit2 hk5 => ?_
          have J5 : ∀ (i19 : Int) (i20 : Nat → Nat), o2 = i19 → K16 ⟨[(0, .r (.sl (a1.map GSpan.row))), (1, .r (.sl (b1.map GSpan.row))), (2, .fn 73 []), (7, .own 5007 (i11 0)), (8, .r (.int .i64 next2)), (9, .r (.int .i64 i19)), (10, .r (.int .i64 j2))], [(5007, some (.arr (i11 0) 38 2 (out5.map GSpan.row)))], (i20 0), 90⟩ := by
            intro i19 i20 e
            have h13 := hk5 _ e
            refine hK16 _ ?_
            refine AW.block ?_
            refine jc1k h13 fun o3 hit3 hk6 he6 => ?_
            refine AW.iter1 (fun (j5 : Int) i23 => ⟨[(0, .r (.sl (a1.map GSpan.row))), (1, .r (.sl (b1.map GSpan.row))), (2, .fn 73 []), (7, .own 5007 (i11 0)), (8, .r (.int .i64 next2)), (9, .r (.int .i64 i19)), (10, .r (.int .i64 j5))], [(5007, some (.arr (i11 0) 38 2 (out5.map GSpan.row)))], (i23 0), 90⟩) (vec [(i20 0)]) hit3 ((by exact Weak.cv ⟨.inl (.inl rfl), .inl (.inl rfl), .inl (.inl rfl), .inl (.inl rfl), .inl (.inl rfl), .inl (.inl rfl), .inl (.inl rfl), trivial⟩ ⟨.inl rfl, trivial⟩ (Nat.le_refl _))) ?_
            intro j5 i23 v2 hv2 hx3
            have h14 : span_merged__Union_f1_L3 b1 x3 next2 out5 i19 j5 = some v2 := hv2; unfold span_merged__Union_f1_L3 at h14
            refine AW.seq_w fun K17 hK17 wK17 => ?_
            refine AW.seq_w fun K18 hK18 wK18 => ?_
            refine AW.region ?_
            refine AOps.step rfl rfl rfl (OpQ.spec (sp_move rfl (.inl rfl)) _) ?_
            refine AOps.step rfl rfl rfl (OpQ.spec (sp_move rfl (.inl rfl)) _) ?_
            refine AOps.step rfl rfl rfl (OpQ.spec (ms_len rfl tg_31.slice (.inl rfl)) _) ?_
            refine AOps.step rfl rfl rfl (OpQ.spec (ms_mul rfl (.inl rfl) (.inl rfl) (fun _ => ex3)) _) ?_
            refine AOps.step rfl rfl rfl (OpQ.spec (sp_lss rfl (.inl rfl) (.inl rfl)) _) ?_
            refine AOps.step rfl rfl rfl (OpQ.spec (sp_move rfl (.inl rfl)) _) ?_
            refine AOps.stepW (.one rfl rfl rfl) rfl rfl (OpQ.spec (sp_move rfl (.inl rfl)) _) ?_
            refine AOps.stepW (.one rfl rfl rfl) rfl rfl (OpQ.spec (sp_move rfl (.inl rfl)) _) ?_
            refine ob1k h14 fun r2 er2 h15 => ?_
            refine AOps.stepW (.one rfl rfl rfl) rfl rfl (sp_call (r := .r (.int .i64 r2)) (caps := []) (bs := [.r (.sl (b1.map GSpan.row)), .r (.int .i64 j5)]) rfl (.inl rfl) rfl ⟨⟨_, (.inr ⟨_, (by exact id), rfl⟩), .d rfl⟩, ⟨_, (.inr ⟨_, (by exact id), rfl⟩), .d rfl⟩, trivial⟩ (fun hg => w_span_end (gdt er2 hg)) rfl) ?_
            refine AOps.stepW (.one rfl rfl rfl) rfl rfl (OpQ.spec (sp_move rfl (.inl rfl)) _) ?_
            refine AOps.stepW (.one rfl rfl rfl) rfl rfl (OpQ.spec (sp_eql rfl (.inr ⟨_, (by exact id), rfl⟩) (.inr ⟨_, (by exact id), rfl⟩)) _) ?_
            refine AOps.step rfl rfl rfl (OpQ.spec (sp_and rfl (.inl rfl) (.inr ⟨_, (by exact id), rfl⟩)) _) ?_
            refine AOps.nil ?_
            refine hK18 _ ?_
            refine AW.cond rfl (fun hc2 => ?_) (fun hc2 => ?_)
            · have h16 := ite_t hc2 h15
              refine AW.skip ?_
              refine hK17 _ ?_
              refine AW.block ?_
              refine AW.region ?_
              refine AOps.step rfl rfl rfl (OpQ.spec (sp_move rfl (.inl rfl)) _) ?_
              refine ob1k h16 fun j7 ej7 h17 => ?_
              refine AOps.step rfl rfl rfl (OpQ.spec (ms_add rfl (.inl rfl) (.inl rfl) (fun _ => ej7)) _) ?_
              refine AOps.step rfl rfl rfl (OpQ.spec (sp_assign rfl (.inl rfl)) _) ?_
              refine AOps.nil ?_
              exact NextQ1.mk h17 (vec [(i23 0)]) ((by exact Weak.cv ⟨.inl (.inl rfl), .inl (.inl rfl), .inl (.inl rfl), .inl (.inl rfl), .inl (.inl rfl), .inl (.inl rfl), .inl (.inl rfl), trivial⟩ ⟨.inl rfl, trivial⟩ (Nat.le_refl _)))
            · have h16 := ite_f hc2 h15
              refine AW.exit ?_
              exact NextQ4.mk (he6 _ (hx3 _ (Option.some.inj h16).symm)) (vec [(i11 0), (i23 0)]) ((by exact Weak.cv ⟨.inl (.inl rfl), .inl (.inl rfl), .inl (.inl rfl), .inl (.inl rfl), .inl (.inl rfl), .inl (.inl rfl), .inl (.inl rfl), trivial⟩ ⟨.inl rfl, trivial⟩ (Nat.le_refl _)))
          refine AW.iter1 (fun (i15 : Int) i16 => ⟨[(0, .r (.sl (a1.map GSpan.row))), (1, .r (.sl (b1.map GSpan.row))), (2, .fn 73 []), (7, .own 5007 (i11 0)), (8, .r (.int .i64 next2)), (9, .r (.int .i64 i15)), (10, .r (.int .i64 j2))], [(5007, some (.arr (i11 0) 38 2 (out5.map GSpan.row)))], (i16 0), 90⟩) (vec [(i11 1)]) hit2 ((by exact Weak.cv ⟨.inl (.inl rfl), .inl (.inl rfl), .inl (.inl rfl), .inl (.inl rfl), .inl (.inl rfl), .inl (.inl rfl), .inl (.inl rfl), trivial⟩ ⟨.inl rfl, trivial⟩ (Nat.le_refl _))) ?_
          intro i15 i16 v3 hv3 hx2
          have h18 : span_merged__Union_f1_L2 a1 x1 next2 i15 = some v3 := hv3; unfold span_merged__Union_f1_L2 at h18
          refine AW.seq_w fun K19 hK19 wK19 => ?_
          refine AW.seq_w fun K20 hK20 wK20 => ?_
          refine AW.region ?_
          refine AOps.step rfl rfl rfl (OpQ.spec (sp_move rfl (.inl rfl)) _) ?_
          refine AOps.step rfl rfl rfl (OpQ.spec (sp_move rfl (.inl rfl)) _) ?_
          refine AOps.step rfl rfl rfl (OpQ.spec (ms_len rfl tg_31.slice (.inl rfl)) _) ?_
          refine AOps.step rfl rfl rfl (OpQ.spec (ms_mul rfl (.inl rfl) (.inl rfl) (fun _ => ex1)) _) ?_
          refine AOps.step rfl rfl rfl (OpQ.spec (sp_lss rfl (.inl rfl) (.inl rfl)) _) ?_
          refine AOps.step rfl rfl rfl (OpQ.spec (sp_move rfl (.inl rfl)) _) ?_
          refine AOps.stepW (.one rfl rfl rfl) rfl rfl (OpQ.spec (sp_move rfl (.inl rfl)) _) ?_
          refine AOps.stepW (.one rfl rfl rfl) rfl rfl (OpQ.spec (sp_move rfl (.inl rfl)) _) ?_
          refine ob1k h18 fun r3 er3 h19 => ?_
          refine AOps.stepW (.one rfl rfl rfl) rfl rfl (sp_call (r := .r (.int .i64 r3)) (caps := []) (bs := [.r (.sl (a1.map GSpan.row)), .r (.int .i64 i15)]) rfl (.inl rfl) rfl ⟨⟨_, (.inr ⟨_, (by exact id), rfl⟩), .d rfl⟩, ⟨_, (.inr ⟨_, (by exact id), rfl⟩), .d rfl⟩, trivial⟩ (fun hg => w_span_end (gdt er3 hg)) rfl) ?_
          refine AOps.stepW (.one rfl rfl rfl) rfl rfl (OpQ.spec (sp_move rfl (.inl rfl)) _) ?_
          refine AOps.stepW (.one rfl rfl rfl) rfl rfl (OpQ.spec (sp_eql rfl (.inr ⟨_, (by exact id), rfl⟩) (.inr ⟨_, (by exact id), rfl⟩)) _) ?_
          refine AOps.step rfl rfl rfl (OpQ.spec (sp_and rfl (.inl rfl) (.inr ⟨_, (by exact id), rfl⟩)) _) ?_
          refine AOps.nil ?_
          refine hK20 _ ?_
          refine AW.cond rfl (fun hc3 => ?_) (fun hc3 => ?_)
          · have h20 := ite_t hc3 h19
            refine AW.skip ?_
            refine hK19 _ ?_
            refine AW.block ?_
            refine AW.region ?_
            refine AOps.step rfl rfl rfl (OpQ.spec (sp_move rfl (.inl rfl)) _) ?_
            refine ob1k h20 fun i25 ei25 h21 => ?_
            refine AOps.step rfl rfl rfl (OpQ.spec (ms_add rfl (.inl rfl) (.inl rfl) (fun _ => ei25)) _) ?_
            refine AOps.step rfl rfl rfl (OpQ.spec (sp_assign rfl (.inl rfl)) _) ?_
            refine AOps.nil ?_
            exact NextQ1.mk h21 (vec [(i16 0)]) ((by exact Weak.cv ⟨.inl (.inl rfl), .inl (.inl rfl), .inl (.inl rfl), .inl (.inl rfl), .inl (.inl rfl), .inl (.inl rfl), .inl (.inl rfl), trivial⟩ ⟨.inl rfl, trivial⟩ (Nat.le_refl _)))
          · have h20 := ite_f hc3 h19
            refine AW.exit ?_
            exact wK16 _ _ ((by exact Weak.cv ⟨.inl (.inl rfl), .inl (.inl rfl), .inl (.inl rfl), .inl (.inl rfl), .inl (.inl rfl), .inl (.inl rfl), .inl (.inl rfl), trivial⟩ ⟨.inl rfl, trivial⟩ (Nat.le_refl _))) (J5 _ (vec [(i16 0)]) (hx2 _ (Option.some.inj h20).symm))
        refine AW.cond rfl (fun hc4 => ?_) (fun hc4 => ?_)
        · have h22 := ite_t hc4 hp3
          refine AW.region ?_
          refine AOps.step rfl rfl rfl (OpQ.spec (sp_move rfl (.inl rfl)) _) ?_
          refine AOps.step rfl rfl rfl (OpQ.spec (sp_move rfl (.inl rfl)) _) ?_
          refine AOps.step rfl rfl rfl (OpQ.spec (sp_move rfl (.inl rfl)) _) ?_
          refine AOps.step rfl rfl rfl (OpQ.spec (sp_build rfl tb_38 (q := [(0, _), (1, _)]) (by exact ⟨rfl, rfl, rfl, (.inl rfl), rfl, rfl, rfl, (.inl rfl), trivial⟩) (cs := [.r (.int .i64 at2), .r (.int .i64 next2)]) (by rfl)) _) ?_
          refine ob1k h22 fun w1 ew1 h23 => ?_
          refine AOps.stepHI [5007] (hc := [(1000, some (.arr (i5 0) 38 2 (out2.map GSpan.row)))]) (bs := [.own 1000 (i5 0), .agg [.r (.int .i64 at2), .r (.int .i64 next2)]]) (caps := []) rfl rfl rfl rfl (.inl rfl) rfl ⟨.inl ⟨(.inl rfl), rfl⟩, .inl ⟨(.inl rfl), rfl⟩, trivial⟩ ⟨rfl, rfl, rfl, trivial⟩ (by decide) (w_span_add ew1) ?_
          intro i26 n1
          refine AOps.weak (s' := ⟨[(0, .r (.sl (a1.map GSpan.row))), (1, .r (.sl (b1.map GSpan.row))), (2, .fn 73 []), (8, .r (.int .i64 at2)), (9, .r (.int .i64 i4)), (10, .r (.int .i64 j2)), (11, .r (.int .i64 next2)), (42, .r (.int .i64 at2)), (43, .r (.int .i64 next2)), (44, .r (.bool (decide (at2 < next2)))), (45, .r (.bool (decide (at2 < next2)))), (54, .r (.bool ((decide (at2 < next2)) && r1))), (56, .r (.int .i64 at2)), (57, .r (.int .i64 next2)), (58, .agg [.r (.int .i64 at2), .r (.int .i64 next2)]), (59, .own 5007 (i26 0))], [(5007, some (.arr (i26 0) 38 2 (w1.map GSpan.row)))], n1, 90⟩) (by exact Weak.cv ⟨.inl (.inl rfl), .inl (.inl rfl), .inl (.inl rfl), .inl (.inl rfl), .inl (.inl rfl), .inl (.inl rfl), .inl (.inl rfl), .inl (.inl rfl), .inl (.inl rfl), .inl (.inl rfl), .inl (.inl rfl), .inl (.inl rfl), .inl (.inl rfl), .inl (.inl rfl), .inl (.inl rfl), .inl (.inl rfl), trivial⟩ ⟨.inl rfl, trivial⟩ (Nat.le_refl _)) ?_
          refine AOps.step rfl rfl rfl (OpQ.spec (sp_assign rfl (.inl rfl)) _) ?_
          refine AOps.nil ?_
          exact wK13 _ _ ((by exact Weak.cv ⟨.inl (.inl rfl), .inl (.inl rfl), .inl (.inl rfl), .inl (.inl rfl), .inl (.inl rfl), .inl (.inl rfl), .inl (.inl rfl), trivial⟩ ⟨.inl rfl, trivial⟩ (Nat.le_refl _))) (J4 _ (vec [(i26 0), n1]) (Option.some.inj h23).symm)
        · have h22 := ite_f hc4 hp3
          refine AW.skip ?_
          exact wK13 _ _ ((by exact Weak.cv ⟨.inl (.inl rfl), .inl (.inl rfl), .inl (.inl rfl), .inl (.inl rfl), .inl (.inl rfl), .inl (.inl rfl), .inl (.inl rfl), trivial⟩ ⟨.inl rfl, trivial⟩ (Nat.le_refl _))) (J4 _ (vec [(i5 0), (i10 0)]) (Option.some.inj h22).symm)
      refine AW.cond rfl (fun hc5 => ?_) (fun hc5 => ?_)
      · have h24 := ite_t hc5 hp2
        refine AW.region ?_
        refine AOps.step rfl rfl rfl (OpQ.spec (sp_move rfl (.inl rfl)) _) ?_
        refine AOps.step rfl rfl rfl (OpQ.spec (sp_move rfl (.inl rfl)) _) ?_
        refine AOps.step rfl rfl rfl (OpQ.spec (sp_move rfl (.inl rfl)) _) ?_
        refine ob1k h24 fun r4 er4 h25 => ?_
        refine AOps.step rfl rfl rfl (sp_call (r := .r (.int .i64 r4)) (caps := []) (bs := [.r (.sl (b1.map GSpan.row)), .r (.int .i64 j2)]) rfl (.inl rfl) rfl ⟨⟨_, (.inl rfl), .d rfl⟩, ⟨_, (.inl rfl), .d rfl⟩, trivial⟩ (fun _ => w_span_end (er4)) rfl) ?_
        refine AOps.step rfl rfl rfl (OpQ.spec (sp_min rfl (.inl rfl) (.inl rfl)) _) ?_
        refine AOps.step rfl rfl rfl (OpQ.spec (sp_assign rfl (.inl rfl)) _) ?_
        refine AOps.nil ?_
        exact wK11 _ _ ((by exact Weak.cv ⟨.inl (.inl rfl), .inl (.inl rfl), .inl (.inl rfl), .inl (.inl rfl), .inl (.inl rfl), .inl (.inl rfl), .inl (.inl rfl), .inl (.inl rfl), trivial⟩ ⟨.inl rfl, trivial⟩ (Nat.le_refl _))) (J3 _ (vec [(i9 0)]) (Option.some.inj h25).symm)
      · have h24 := ite_f hc5 hp2
        refine AW.skip ?_
        exact wK11 _ _ ((by exact Weak.cv ⟨.inl (.inl rfl), .inl (.inl rfl), .inl (.inl rfl), .inl (.inl rfl), .inl (.inl rfl), .inl (.inl rfl), .inl (.inl rfl), .inl (.inl rfl), trivial⟩ ⟨.inl rfl, trivial⟩ (Nat.le_refl _))) (J3 _ (vec [(i9 0)]) (Option.some.inj h24).symm)
    refine AW.cond rfl (fun hc6 => ?_) (fun hc6 => ?_)
    · have h26 := ite_t hc6 hp1
      refine AW.weak (s' := ⟨[(0, .r (.sl (a1.map GSpan.row))), (1, .r (.sl (b1.map GSpan.row))), (2, .fn 73 []), (7, .own 5007 (i5 0)), (8, .r (.int .i64 at2)), (9, .r (.int .i64 i4)), (10, .r (.int .i64 j2))], [(5007, some (.arr (i5 0) 38 2 (out2.map GSpan.row)))], (i5 1), 90⟩) (by exact Weak.cv ⟨.inl (.inl rfl), .inl (.inl rfl), .inl (.inl rfl), .inl (.inl rfl), .inl (.inl rfl), .inl (.inl rfl), .inl (.inl rfl), trivial⟩ ⟨.inl rfl, trivial⟩ (Nat.le_refl _)) ?_
      refine AW.region ?_
      refine AOps.step rfl rfl rfl (OpQ.spec (sp_move rfl (.inl rfl)) _) ?_
      refine AOps.step rfl rfl rfl (OpQ.spec (sp_move rfl (.inl rfl)) _) ?_
      refine ob1k h26 fun next3 enext3 h27 => ?_
      refine AOps.step rfl rfl rfl (sp_call (r := .r (.int .i64 next3)) (caps := []) (bs := [.r (.sl (a1.map GSpan.row)), .r (.int .i64 i4)]) rfl (.inl rfl) rfl ⟨⟨_, (.inl rfl), .d rfl⟩, ⟨_, (.inl rfl), .d rfl⟩, trivial⟩ (fun _ => w_span_end (enext3)) rfl) ?_
      refine AOps.step rfl rfl rfl (OpQ.spec (sp_assign rfl (.inl rfl)) _) ?_
      refine AOps.nil ?_
      exact wK9 _ _ ((by exact Weak.cv ⟨.inl (.inl rfl), .inl (.inl rfl), .inl (.inl rfl), .inl (.inl rfl), .inl (.inl rfl), .inl (.inl rfl), .inl (.inl rfl), .inl (.inl rfl), trivial⟩ ⟨.inl rfl, trivial⟩ (Nat.le_refl _))) (J2 _ (vec [(i5 1)]) (Option.some.inj h27).symm)
    · have h26 := ite_f hc6 hp1
      refine AW.skip ?_
      exact wK9 _ _ ((by exact Weak.cv ⟨.inl (.inl rfl), .inl (.inl rfl), .inl (.inl rfl), .inl (.inl rfl), .inl (.inl rfl), .inl (.inl rfl), .inl (.inl rfl), .inl (.inl rfl), trivial⟩ ⟨.inl rfl, trivial⟩ (Nat.le_refl _))) (J2 _ (vec [(i5 1)]) (Option.some.inj h26).symm)
  · have h5 := ite_f hc1 h4
    refine AW.exit ?_
    exact wK4 _ _ ((by exact Weak.cv ⟨.inl (.inl rfl), trivial⟩ ⟨.inl rfl, trivial⟩ (Nat.le_refl _))) (J1 _ (vec [(i5 0), (i5 1)]) (hx1 _ (Option.some.inj h5).symm))
set_option maxHeartbeats 4000000 in
set_option maxRecDepth 20000 in
theorem w_span_two__Union_f1 {a1 : List GSpan} {b1 : List GSpan} {r : (List GSpan) × Int} (h : span_two__Union_f1 a1 b1 = some r) : ARO Try.prog 72 [.r (.sl (a1.map GSpan.row)), .r (.sl (b1.map GSpan.row)), .fn 73 []] (.tup [.r (.sl (r.1.map GSpan.row)), .r (.int .i64 r.2)]) := by
  unfold span_two__Union_f1 at h
  refine ARO.mkF Try.func72 rfl rfl Try.ntmps72 rfl (Nat.le_of_ble_eq_true rfl) fun n0 => ?_
  refine AW.seq_w fun K1 hK1 wK1 => ?_
  refine AW.region ?_
  refine AOps.step rfl rfl rfl (OpQ.spec (sp_assign rfl (.inl rfl)) _) ?_
  refine AOps.step rfl rfl rfl (OpQ.spec (sp_assign rfl (.inl rfl)) _) ?_
  refine AOps.nil ?_
  refine hK1 _ ?_
  refine AW.seq_w fun K2 hK2 wK2 => ?_
  refine AW.seq_w fun K3 hK3 wK3 => ?_
  refine AW.region ?_
  refine AOps.step rfl rfl rfl (OpQ.spec (sp_move rfl (.inl rfl)) _) ?_
  refine ob1k h fun e1 ee1 h1 => ?_
  refine AOps.step rfl rfl rfl (sp_call (r := .r (.int .i64 e1)) (caps := []) (bs := [.r (.sl (a1.map GSpan.row))]) rfl (.inl rfl) rfl ⟨⟨_, (.inl rfl), .d rfl⟩, trivial⟩ (fun _ => w_span_Check (ee1)) rfl) ?_
  refine AOps.step rfl rfl rfl (OpQ.spec (sp_assign rfl (.inl rfl)) _) ?_
  refine AOps.nil ?_
  refine hK3 _ ?_
  refine AW.seq_w fun K4 hK4 wK4 => ?_
  refine AW.region ?_
  refine AOps.step rfl rfl rfl (OpQ.spec (sp_move rfl (.inl rfl)) _) ?_
  refine AOps.step rfl rfl rfl (OpQ.spec (sp_neq rfl (.inl rfl) (.inl rfl)) _) ?_
  refine AOps.nil ?_
  refine hK4 _ ?_
  refine AW.cond rfl (fun hc1 => ?_) (fun hc1 => ?_)
  · have h2 := ite_t hc1 h1
    refine AW.seq_w fun K5 hK5 wK5 => ?_
    refine AW.weak (s' := ⟨[(8, .r (.int .i64 e1))], [], n0, 24⟩) (by exact Weak.cv ⟨.inl (.inl rfl), trivial⟩ trivial (Nat.le_refl _)) ?_
    refine AW.region ?_
    refine AOps.step rfl rfl rfl (OpQ.spec (sp_move rfl (.inl rfl)) _) ?_
    refine AOps.step rfl rfl rfl (OpQ.spec (sp_assign rfl (.inl rfl)) _) ?_
    refine AOps.step rfl rfl rfl (OpQ.spec (sp_assign rfl (.inl rfl)) _) ?_
    refine AOps.nil ?_
    refine hK5 _ ?_
    refine AW.ret ?_
    exact retf2 (P := Try.prog) (fun (r : (List GSpan) × Int) => .r (.sl (r.1.map GSpan.row))) (fun (r : (List GSpan) × Int) => .r (.int .i64 r.2)) h2 (.inl rfl) (.t (.one (.nil))) (.t (.d rfl))
  · have h2 := ite_f hc1 h1
    refine AW.skip ?_
    refine hK2 _ ?_
    refine AW.seq_w fun K6 hK6 wK6 => ?_
    refine AW.seq_w fun K7 hK7 wK7 => ?_
    refine AW.region ?_
    refine AOps.step rfl rfl rfl (OpQ.spec (sp_move rfl (.inl rfl)) _) ?_
    refine ob1k h2 fun e2 ee2 h3 => ?_
    refine AOps.step rfl rfl rfl (sp_call (r := .r (.int .i64 e2)) (caps := []) (bs := [.r (.sl (b1.map GSpan.row))]) rfl (.inl rfl) rfl ⟨⟨_, (.inl rfl), .d rfl⟩, trivial⟩ (fun _ => w_span_Check (ee2)) rfl) ?_
    refine AOps.step rfl rfl rfl (OpQ.spec (sp_assign rfl (.inl rfl)) _) ?_
    refine AOps.nil ?_
    refine hK7 _ ?_
    refine AW.seq_w fun K8 hK8 wK8 => ?_
    refine AW.weak (s' := ⟨[(0, .r (.sl (a1.map GSpan.row))), (1, .r (.sl (b1.map GSpan.row))), (2, .fn 73 []), (9, .r (.int .i64 e2))], [], n0, 24⟩) (by exact Weak.cv ⟨.inl (.inl rfl), .inl (.inl rfl), .inl (.inl rfl), .inl (.inl rfl), trivial⟩ trivial (Nat.le_refl _)) ?_
    refine AW.region ?_
    refine AOps.step rfl rfl rfl (OpQ.spec (sp_move rfl (.inl rfl)) _) ?_
    refine AOps.step rfl rfl rfl (OpQ.spec (sp_neq rfl (.inl rfl) (.inl rfl)) _) ?_
    refine AOps.nil ?_
    refine hK8 _ ?_
    refine AW.cond rfl (fun hc2 => ?_) (fun hc2 => ?_)
    · have h4 := ite_t hc2 h3
      refine AW.seq_w fun K9 hK9 wK9 => ?_
      refine AW.region ?_
      refine AOps.step rfl rfl rfl (OpQ.spec (sp_move rfl (.inl rfl)) _) ?_
      refine AOps.step rfl rfl rfl (OpQ.spec (sp_assign rfl (.inl rfl)) _) ?_
      refine AOps.step rfl rfl rfl (OpQ.spec (sp_assign rfl (.inl rfl)) _) ?_
      refine AOps.nil ?_
      refine hK9 _ ?_
      refine AW.ret ?_
      exact retf2 (P := Try.prog) (fun (r : (List GSpan) × Int) => .r (.sl (r.1.map GSpan.row))) (fun (r : (List GSpan) × Int) => .r (.int .i64 r.2)) h4 (.inl rfl) (.t (.one (.nil))) (.t (.d rfl))
    · have h4 := ite_f hc2 h3
      refine AW.skip ?_
      refine hK6 _ ?_
      refine AW.seq_w fun K10 hK10 wK10 => ?_
      refine AW.region ?_
      refine AOps.step rfl rfl rfl (OpQ.spec (sp_move rfl (.inl rfl)) _) ?_
      refine AOps.step rfl rfl rfl (OpQ.spec (sp_move rfl (.inl rfl)) _) ?_
      refine AOps.step rfl rfl rfl (OpQ.spec (sp_move rfl (.inl rfl)) _) ?_
      refine ob1k h4 fun r1 er1 h5 => ?_
      refine AOps.step rfl rfl rfl (sp_callS (r := .r (.sl (r1.map GSpan.row))) (caps := []) (bs := [.r (.sl (a1.map GSpan.row)), .r (.sl (b1.map GSpan.row)), .fn 73 []]) rfl (.inl rfl) rfl ⟨.inl ⟨(.inl rfl), rfl⟩, .inl ⟨(.inl rfl), rfl⟩, .inl ⟨(.inl rfl), rfl⟩, trivial⟩ (fun _ => w_span_merged__Union_f1 (er1))) ?_
      refine AOps.step rfl rfl rfl (OpQ.spec (sp_assign rfl (.inl rfl)) _) ?_
      refine AOps.step rfl rfl rfl (OpQ.spec (sp_assign rfl (.inl rfl)) _) ?_
      refine AOps.nil ?_
      refine hK10 _ ?_
      refine AW.ret ?_
      exact retf2 (P := Try.prog) (fun (r : (List GSpan) × Int) => .r (.sl (r.1.map GSpan.row))) (fun (r : (List GSpan) × Int) => .r (.int .i64 r.2)) h5 (.inl rfl) (.t (.d rfl)) (.t (.d rfl))
set_option maxHeartbeats 4000000 in
set_option maxRecDepth 20000 in
theorem w_span_Union {a1 : List GSpan} {b1 : List GSpan} {r : (List GSpan) × Int} (h : span_Union a1 b1 = some r) : ARO Try.prog 22 [.r (.sl (a1.map GSpan.row)), .r (.sl (b1.map GSpan.row))] (.tup [.r (.sl (r.1.map GSpan.row)), .r (.int .i64 r.2)]) := by
  unfold span_Union at h
  refine ARO.mkF Try.func22 rfl rfl Try.ntmps22 rfl (Nat.le_of_ble_eq_true rfl) fun n0 => ?_
  refine AW.seq_w fun K1 hK1 wK1 => ?_
  refine AW.region ?_
  refine AOps.step rfl rfl rfl (OpQ.spec (sp_assign rfl (.inl rfl)) _) ?_
  refine AOps.step rfl rfl rfl (OpQ.spec (sp_assign rfl (.inl rfl)) _) ?_
  refine AOps.nil ?_
  refine hK1 _ ?_
  refine AW.seq_w fun K2 hK2 wK2 => ?_
  refine AW.region ?_
  refine AOps.step rfl rfl rfl (OpQ.spec (sp_move rfl (.inl rfl)) _) ?_
  refine AOps.step rfl rfl rfl (OpQ.spec (sp_move rfl (.inl rfl)) _) ?_
  refine ob2k h fun r1 r2 er1 h1 => ?_
  refine AOps.step rfl rfl rfl (sp_callS (r := .tup [.r (.sl (r1.map GSpan.row)), .r (.int .i64 r2)]) (caps := []) (bs := [.r (.sl (a1.map GSpan.row)), .r (.sl (b1.map GSpan.row)), .fn 73 []]) rfl (.inl rfl) rfl ⟨.inl ⟨(.inl rfl), rfl⟩, .inl ⟨(.inl rfl), rfl⟩, .inl ⟨(.inl rfl), rfl⟩, trivial⟩ (fun _ => w_span_two__Union_f1 (er1))) ?_
  refine AOps.step rfl rfl rfl (OpQ.spec (sp_extract (a := .r (.sl (r1.map GSpan.row))) rfl (.inl rfl) rfl) _) ?_
  refine AOps.step rfl rfl rfl (OpQ.spec (sp_extract (a := .r (.int .i64 r2)) rfl (.inl rfl) rfl) _) ?_
  refine AOps.step rfl rfl rfl (OpQ.spec (sp_assign rfl (.inl rfl)) _) ?_
  refine AOps.step rfl rfl rfl (OpQ.spec (sp_assign rfl (.inl rfl)) _) ?_
  refine AOps.nil ?_
  refine hK2 _ ?_
  refine AW.ret ?_
  exact retf2 (P := Try.prog) (fun (r : (List GSpan) × Int) => .r (.sl (r.1.map GSpan.row))) (fun (r : (List GSpan) × Int) => .r (.int .i64 r.2)) h1 (.inl rfl) (.t (.d rfl)) (.t (.d rfl))
set_option maxHeartbeats 4000000 in
set_option maxRecDepth 20000 in
theorem w_law_spans {r : Bool} (h : law_spans = some r) : ARO Try.prog 19 [] (.r (.bool r)) := by
  unfold law_spans at h
  refine ARO.mkF Try.func19 rfl rfl Try.ntmps19 rfl (Nat.le_of_ble_eq_true rfl) fun n0 => ?_
  refine AW.seq_w fun K1 hK1 wK1 => ?_
  refine AW.region ?_
  refine AOps.step rfl rfl rfl (OpQ.spec (sp_assign rfl (.inl rfl)) _) ?_
  refine AOps.nil ?_
  refine hK1 _ ?_
  refine AW.seq_w fun K2 hK2 wK2 => ?_
  refine AW.region ?_
  refine AOps.step rfl rfl rfl (OpQ.spec (sp_build rfl tb_38 (q := [(0, _), (1, _)]) (by exact ⟨rfl, rfl, rfl, (.inl rfl), rfl, rfl, rfl, (.inl rfl), trivial⟩) (cs := [.r (.int .i64 0), .r (.int .i64 2)]) (by rfl)) _) ?_
  refine AOps.step rfl rfl rfl (ms_lit 5 rfl tg_31 (f := GSpan.row) (l := ([(GSpan.mk 0 2)] : List GSpan)) ⟨rfl, ⟨_, (.inl rfl), rfl⟩, trivial⟩ rfl (fun _ => rfl) rfl) ?_
  refine AOps.step rfl rfl rfl (OpQ.spec (sp_build rfl tb_38 (q := [(0, _), (1, _)]) (by exact ⟨rfl, rfl, rfl, (.inl rfl), rfl, rfl, rfl, (.inl rfl), trivial⟩) (cs := [.r (.int .i64 2), .r (.int .i64 3)]) (by rfl)) _) ?_
  refine AOps.step rfl rfl rfl (ms_lit 7 rfl tg_31 (f := GSpan.row) (l := ([(GSpan.mk 2 3)] : List GSpan)) ⟨rfl, ⟨_, (.inl rfl), rfl⟩, trivial⟩ rfl (fun _ => rfl) rfl) ?_
  refine AOps.weak (by exact Weak.frz (e' := [(0, .r (.bool false)), (4, .agg [.r (.int .i64 0), .r (.int .i64 2)]), (5, .r (.sl ([(GSpan.mk 0 2)].map GSpan.row))), (6, .agg [.r (.int .i64 2), .r (.int .i64 3)]), (7, .own 7 (n0 + 1))]) (h' := [(7, some (.arr (n0 + 1) 38 2 ([(GSpan.mk 2 3)].map GSpan.row)))]) 5 rfl ⟨.inl (.inl rfl), .inl (.inl rfl), .inl (.inr (.inr ⟨rfl, rfl⟩)), .inl (.inl rfl), .inl (.inl rfl), trivial⟩ ⟨rfl, .inl rfl, trivial⟩) ?_
  refine AOps.weak (by exact Weak.frz (e' := [(0, .r (.bool false)), (4, .agg [.r (.int .i64 0), .r (.int .i64 2)]), (5, .r (.sl ([(GSpan.mk 0 2)].map GSpan.row))), (6, .agg [.r (.int .i64 2), .r (.int .i64 3)]), (7, .r (.sl ([(GSpan.mk 2 3)].map GSpan.row)))]) (h' := []) 7 rfl ⟨.inl (.inl rfl), .inl (.inl rfl), .inl (.inl rfl), .inl (.inl rfl), .inl (.inr (.inr ⟨rfl, rfl⟩)), trivial⟩ trivial) ?_
  refine ob2k h fun r1 r2 er1 h1 => ?_
  refine AOps.step rfl rfl rfl (sp_callS (r := .tup [.r (.sl (r1.map GSpan.row)), .r (.int .i64 r2)]) (caps := []) (bs := [.r (.sl ([(GSpan.mk 0 2)].map GSpan.row)), .r (.sl ([(GSpan.mk 2 3)].map GSpan.row))]) rfl (.inl rfl) rfl ⟨.inl ⟨(.inl rfl), rfl⟩, .inl ⟨(.inl rfl), rfl⟩, trivial⟩ (fun _ => w_span_Union (er1))) ?_
  refine AOps.step rfl rfl rfl (OpQ.spec (sp_move rfl (.inl rfl)) _) ?_
  refine AOps.step rfl rfl rfl (OpQ.spec (sp_extract (a := .r (.sl (r1.map GSpan.row))) rfl (.inl rfl) rfl) _) ?_
  refine AOps.step rfl rfl rfl (OpQ.spec (sp_extract (a := .r (.int .i64 r2)) rfl (.inl rfl) rfl) _) ?_
  refine AOps.step rfl rfl rfl (OpQ.spec (sp_assign rfl (.inl rfl)) _) ?_
  refine AOps.step rfl rfl rfl (OpQ.spec (sp_assign rfl (.inl rfl)) _) ?_
  refine AOps.nil ?_
  refine hK2 _ ?_
  refine AW.seq_w fun K3 hK3 wK3 => ?_
  refine AW.weak (s' := ⟨[(1, .r (.sl (r1.map GSpan.row))), (2, .r (.int .i64 r2))], [], (n0 + 2), 25⟩) (by exact Weak.cv ⟨.inl (.inl rfl), .inl (.inl rfl), trivial⟩ trivial (Nat.le_refl _)) ?_
  refine AW.region ?_
  refine AOps.step rfl rfl rfl (OpQ.spec (sp_move rfl (.inl rfl)) _) ?_
  refine AOps.step rfl rfl rfl (OpQ.spec (sp_eql rfl (.inl rfl) (.inl rfl)) _) ?_
  refine AOps.step rfl rfl rfl (OpQ.spec (sp_move rfl (.inl rfl)) _) ?_
  refine AOps.stepW (.one rfl rfl rfl) rfl rfl (OpQ.spec (sp_move rfl (.inl rfl)) _) ?_
  refine AOps.stepW (.one rfl rfl rfl) rfl rfl (OpQ.spec (ms_len rfl tg_31.slice (.inr ⟨_, (by exact id), rfl⟩)) _) ?_
  refine AOps.stepW (.one rfl rfl rfl) rfl rfl (OpQ.spec (sp_eql rfl (.inr ⟨_, (by exact id), rfl⟩) (.inl rfl)) _) ?_
  refine AOps.step rfl rfl rfl (OpQ.spec (sp_and rfl (.inl rfl) (.inr ⟨_, (by exact id), rfl⟩)) _) ?_
  refine AOps.step rfl rfl rfl (OpQ.spec (sp_move rfl (.inl rfl)) _) ?_
  refine AOps.stepW (.one rfl rfl rfl) rfl rfl (OpQ.spec (sp_move rfl (.inl rfl)) _) ?_
  refine ob1k h1 fun x1 ex1 h2 => ?_
  refine AOps.stepW (.one rfl rfl rfl) rfl rfl (OpQ.spec (ms_idx rfl tg_31.slice (.inr ⟨_, (by exact id), rfl⟩) (.inl rfl) (fun _ => rfl) (gdt ex1)) _) ?_
  refine AOps.stepW (.one rfl rfl rfl) rfl rfl (OpQ.spec (ms_loadA (cs := [.r (.int .i64 x1.From), .r (.int .i64 x1.To)]) rfl ta_38 (.inr ⟨_, (by exact id), rfl⟩) rfl rfl) _) ?_
  refine AOps.stepW (.one rfl rfl rfl) rfl rfl (OpQ.spec (sp_build rfl tb_38 (q := [(0, _), (1, _)]) (by exact ⟨rfl, rfl, rfl, (.inl rfl), rfl, rfl, rfl, (.inl rfl), trivial⟩) (cs := [.r (.int .i64 0), .r (.int .i64 3)]) (by rfl)) _) ?_
  refine AOps.stepW (.one rfl rfl rfl) rfl rfl (OpQ.spec (sp_aggeql rfl te_38 (.inr ⟨_, (by exact id), rfl⟩) (.inr ⟨_, (by exact id), rfl⟩) rfl) _) ?_
  refine AOps.step rfl rfl rfl (OpQ.spec (sp_and rfl (.inl rfl) (.inr ⟨_, (by exact id), rfl⟩)) _) ?_
  refine AOps.step rfl rfl rfl (OpQ.spec (sp_assign rfl (.inl rfl)) _) ?_
  refine AOps.nil ?_
  refine hK3 _ ?_
  refine AW.ret ?_
  exact retf1 (P := Try.prog) (fun (r : Bool) => .r (.bool r)) h2 (.inl rfl) (.t (.d rfl))
set_option maxHeartbeats 4000000 in
set_option maxRecDepth 20000 in
theorem w_law_setError {l1 : List GSpan} {r : Int} (h : law_setError l1 = some r) : ARO Try.prog 21 [.r (.sl (l1.map GSpan.row))] (.r (.int .i64 r)) := by
  unfold law_setError at h
  refine ARO.mkF Try.func21 rfl rfl Try.ntmps21 rfl (Nat.le_of_ble_eq_true rfl) fun n0 => ?_
  refine AW.seq_w fun K1 hK1 wK1 => ?_
  refine AW.region ?_
  refine AOps.step rfl rfl rfl (OpQ.spec (sp_assign rfl (.inl rfl)) _) ?_
  refine AOps.nil ?_
  refine hK1 _ ?_
  refine AW.seq_w fun K2 hK2 wK2 => ?_
  refine AW.seq_w fun K3 hK3 wK3 => ?_
  refine AW.region ?_
  refine AOps.step rfl rfl rfl (OpQ.spec (sp_move rfl (.inl rfl)) _) ?_
  refine AOps.step rfl rfl rfl (OpQ.spec (ms_len rfl tg_31.slice (.inl rfl)) _) ?_
  refine AOps.step rfl rfl rfl (OpQ.spec (sp_move rfl (.inl rfl)) _) ?_
  refine AOps.nil ?_
  refine hK3 _ ?_
  refine AW.block ?_
  refine jc1k h fun o1 hit1 hk1 he1 => ?_
  have J1 : ∀ (u2 : Unit) (i5 : Nat → Nat), o1 = .nrm u2 → K2 ⟨[], [], (i5 0), 53⟩ := by
    intro u2 i5 e
    have h1 := hk1 _ e
    refine hK2 _ ?_
    refine AW.seq_w fun K4 hK4 wK4 => ?_
    refine AW.region ?_
    refine AOps.step rfl rfl rfl (OpQ.spec (sp_assign rfl (.inl rfl)) _) ?_
    refine AOps.nil ?_
    refine hK4 _ ?_
    refine AW.ret ?_
    exact retf1 (P := Try.prog) (fun (r : Int) => .r (.int .i64 r)) h1 (.inl rfl) (.t (.d rfl))
  refine AW.iter1 (fun (x2 : Int) i3 => ⟨[(0, .r (.sl (l1.map GSpan.row))), (5, .r (.int .i64 (l1.length : Int))), (6, .r (.int .i64 x2))], [], (i3 0), 53⟩) (vec [n0]) hit1 ((by exact Weak.cv ⟨.inl (.inl rfl), .inl (.inl rfl), .inl (.inl rfl), trivial⟩ trivial (Nat.le_refl _))) ?_
  intro x2 i3 v1 hv1 hx1
  have h2 : law_setError_L1 l1 x2 = some v1 := hv1; unfold law_setError_L1 at h2
  refine AW.seq_w fun K5 hK5 wK5 => ?_
  refine AW.region ?_
  refine AOps.step rfl rfl rfl (OpQ.spec (sp_lss rfl (.inl rfl) (.inl rfl)) _) ?_
  refine AOps.nil ?_
  refine hK5 _ ?_
  refine AW.seq_w fun K6 hK6 wK6 => ?_
  refine AW.cond rfl (fun hc1 => ?_) (fun hc1 => ?_)
  · have h3 := ite_t hc1 h2
    refine AW.skip ?_
    refine hK6 _ ?_
    refine AW.seq_w fun K7 hK7 wK7 => ?_
    refine AW.block ?_
    refine AW.seq_w fun K8 hK8 wK8 => ?_
    refine AW.region ?_
    refine AOps.step rfl rfl rfl (OpQ.spec (sp_move rfl (.inl rfl)) _) ?_
    refine AOps.step rfl rfl rfl (OpQ.spec (sp_assign rfl (.inl rfl)) _) ?_
    refine AOps.nil ?_
    refine hK8 _ ?_
    refine AW.seq_w fun K9 hK9 wK9 => ?_
    refine AW.seq_w fun K10 hK10 wK10 => ?_
    refine AW.regionQ hmix (by kernel_rfl) ?_
    refine AQ.step rfl rfl rfl (sp_move rfl (.inl rfl)) ?_
    refine AQ.step rfl rfl rfl (sp_move rfl (.inl rfl)) ?_
    refine ob1k h3 fun x4 ex4 h4 => ?_
    refine AQ.step rfl rfl rfl (ms_idx rfl tg_31.slice (.inl rfl) (.inl rfl) (fun _ => rfl) (fun _ => ex4)) ?_
    refine AQ.step rfl rfl rfl (sp_fieldAddr_ro rfl tf_38_0 (.inl rfl)) ?_
    refine AQ.step rfl rfl rfl (ms_load (d := .int .i64 x4.From) rfl ts_3 (.inl rfl) rfl) ?_
    refine AQ.step rfl rfl rfl (sp_lss rfl (.inl rfl) (.inl rfl)) ?_
    refine AQ.step rfl rfl rfl (sp_move rfl (.inl rfl)) ?_
    refine AQ.stepW (.one rfl rfl rfl) rfl rfl (sp_move rfl (.inl rfl)) ?_
    refine AQ.stepW (.one rfl rfl rfl) rfl rfl (sp_move rfl (.inl rfl)) ?_
    refine AQ.stepW (.one rfl rfl rfl) rfl rfl (ms_idx rfl tg_31.slice (.inr ⟨_, (by exact id), rfl⟩) (.inr ⟨_, (by exact id), rfl⟩) (fun _ => rfl) (fun _ => ex4)) ?_
    refine AQ.stepW (.one rfl rfl rfl) rfl rfl (sp_fieldAddr_ro rfl tf_38_1 (.inr ⟨_, (by exact id), rfl⟩)) ?_
    refine AQ.stepW (.one rfl rfl rfl) rfl rfl (ms_load (d := .int .i64 x4.To) rfl ts_3 (.inr ⟨_, (by exact id), rfl⟩) rfl) ?_
    refine AQ.stepW (.one rfl rfl rfl) rfl rfl (sp_move rfl (.inl rfl)) ?_
    refine AQ.stepW (.one rfl rfl rfl) rfl rfl (sp_move rfl (.inl rfl)) ?_
    refine AQ.stepW (.one rfl rfl rfl) rfl rfl (ms_idx rfl tg_31.slice (.inr ⟨_, (by exact id), rfl⟩) (.inr ⟨_, (by exact id), rfl⟩) (fun _ => rfl) (fun _ => ex4)) ?_
    refine AQ.stepW (.one rfl rfl rfl) rfl rfl (sp_fieldAddr_ro rfl tf_38_0 (.inr ⟨_, (by exact id), rfl⟩)) ?_
    refine AQ.stepW (.one rfl rfl rfl) rfl rfl (ms_load (d := .int .i64 x4.From) rfl ts_3 (.inr ⟨_, (by exact id), rfl⟩) rfl) ?_
    refine AQ.stepW (.one rfl rfl rfl) rfl rfl (sp_leq rfl (.inr ⟨_, (by exact id), rfl⟩) (.inr ⟨_, (by exact id), rfl⟩)) ?_
    refine AQ.step rfl rfl rfl (sp_or rfl (.inl rfl) (.inr ⟨_, (by exact id), rfl⟩)) ?_
    refine AQ.step rfl rfl rfl (sp_move rfl (.inl rfl)) ?_
    refine AQ.stepW (.one rfl rfl rfl) rfl rfl (sp_move rfl (.inl rfl)) ?_
    refine AQ.stepW (.one rfl rfl rfl) rfl rfl (sp_move rfl (.inl rfl)) ?_
    refine AQ.stepW (.one rfl rfl rfl) rfl rfl (ms_idx rfl tg_31.slice (.inr ⟨_, (by exact id), rfl⟩) (.inr ⟨_, (by exact id), rfl⟩) (fun _ => rfl) (fun _ => ex4)) ?_
    refine AQ.stepW (.one rfl rfl rfl) rfl rfl (sp_fieldAddr_ro rfl tf_38_1 (.inr ⟨_, (by exact id), rfl⟩)) ?_
    refine AQ.stepW (.one rfl rfl rfl) rfl rfl (ms_load (d := .int .i64 x4.To) rfl ts_3 (.inr ⟨_, (by exact id), rfl⟩) rfl) ?_
    refine AQ.stepW (.one rfl rfl rfl) rfl rfl (sp_gtr rfl (.inr ⟨_, (by exact id), rfl⟩) (.inl rfl)) ?_
    refine AQ.step rfl rfl rfl (sp_or rfl (.inl rfl) (.inr ⟨_, (by exact id), rfl⟩)) ?_
    refine AQ.nil ?_
    refine hK10 _ ?_
    refine AW.cond rfl (fun hc2 => ?_) (fun hc2 => ?_)
    · have h5 := ite_t hc2 h4
      refine AW.seq_w fun K11 hK11 wK11 => ?_
      refine AW.weak (s' := ⟨[], [], (i3 0), 53⟩) (by exact Weak.cv trivial trivial (Nat.le_refl _)) ?_
      refine AW.region ?_
      refine AOps.step rfl rfl rfl (OpQ.spec (sp_assign rfl (.inl rfl)) _) ?_
      refine AOps.nil ?_
      refine hK11 _ ?_
      refine AW.ret ?_
      exact retf1 (P := Try.prog) (fun (r : Int) => .r (.int .i64 r)) (he1 _ (hx1 _ (Option.some.inj h5).symm)) (.inl rfl) (.t (.d rfl))
    · have h5 := ite_f hc2 h4
      refine AW.skip ?_
      refine hK9 _ ?_
      refine AW.seq_w fun K12 hK12 wK12 => ?_
      refine AW.weak (s' := ⟨[(0, .r (.sl (l1.map GSpan.row))), (3, .r (.int .i64 x2)), (5, .r (.int .i64 (l1.length : Int))), (6, .r (.int .i64 x2))], [], (i3 0), 53⟩) (by exact Weak.cv ⟨.inl (.inl rfl), .inl (.inl rfl), .inl (.inl rfl), .inl (.inl rfl), trivial⟩ trivial (Nat.le_refl _)) ?_
      refine AW.regionQ hmix (by kernel_rfl) ?_
      refine AQ.step rfl rfl rfl (sp_move rfl (.inl rfl)) ?_
      refine AQ.step rfl rfl rfl (sp_gtr rfl (.inl rfl) (.inl rfl)) ?_
      refine AQ.step rfl rfl rfl (sp_move rfl (.inl rfl)) ?_
      refine AQ.stepW (.one rfl rfl rfl) rfl rfl (sp_move rfl (.inl rfl)) ?_
      refine AQ.stepW (.one rfl rfl rfl) rfl rfl (sp_move rfl (.inl rfl)) ?_
      refine AQ.stepW (.one rfl rfl rfl) rfl rfl (ms_idx rfl tg_31.slice (.inr ⟨_, (by exact id), rfl⟩) (.inr ⟨_, (by exact id), rfl⟩) (fun _ => rfl) (fun _ => ex4)) ?_
      refine AQ.stepW (.one rfl rfl rfl) rfl rfl (sp_fieldAddr_ro rfl tf_38_0 (.inr ⟨_, (by exact id), rfl⟩)) ?_
      refine AQ.stepW (.one rfl rfl rfl) rfl rfl (ms_load (d := .int .i64 x4.From) rfl ts_3 (.inr ⟨_, (by exact id), rfl⟩) rfl) ?_
      refine AQ.stepW (.one rfl rfl rfl) rfl rfl (sp_move rfl (.inl rfl)) ?_
      refine AQ.stepW (.one rfl rfl rfl) rfl rfl (sp_move rfl (.inl rfl)) ?_
      refine ob1k h5 fun x5 ex5 h6 => ?_
      refine AQ.stepW (.one rfl rfl rfl) rfl rfl (ms_sub rfl (.inr ⟨_, (by exact id), rfl⟩) (.inl rfl) (gdt ex5)) ?_
      refine ob1k h6 fun x6 ex6 h7 => ?_
      refine AQ.stepW (.one rfl rfl rfl) rfl rfl (ms_idx rfl tg_31.slice (.inr ⟨_, (by exact id), rfl⟩) (.inr ⟨_, (by exact id), rfl⟩) (fun _ => rfl) (gdt ex6)) ?_
      refine AQ.stepW (.one rfl rfl rfl) rfl rfl (sp_fieldAddr_ro rfl tf_38_1 (.inr ⟨_, (by exact id), rfl⟩)) ?_
      refine AQ.stepW (.one rfl rfl rfl) rfl rfl (ms_load (d := .int .i64 x6.To) rfl ts_3 (.inr ⟨_, (by exact id), rfl⟩) rfl) ?_
      refine AQ.stepW (.one rfl rfl rfl) rfl rfl (sp_leq rfl (.inr ⟨_, (by exact id), rfl⟩) (.inr ⟨_, (by exact id), rfl⟩)) ?_
      refine AQ.step rfl rfl rfl (sp_and rfl (.inl rfl) (.inr ⟨_, (by exact id), rfl⟩)) ?_
      refine AQ.nil ?_
      refine hK12 _ ?_
      refine AW.cond rfl (fun hc3 => ?_) (fun hc3 => ?_)
      · have h8 := ite_t hc3 h7
        refine AW.seq_w fun K13 hK13 wK13 => ?_
        refine AW.weak (s' := ⟨[], [], (i3 0), 53⟩) (by exact Weak.cv trivial trivial (Nat.le_refl _)) ?_
        refine AW.region ?_
        refine AOps.step rfl rfl rfl (OpQ.spec (sp_assign rfl (.inl rfl)) _) ?_
        refine AOps.nil ?_
        refine hK13 _ ?_
        refine AW.ret ?_
        exact retf1 (P := Try.prog) (fun (r : Int) => .r (.int .i64 r)) (he1 _ (hx1 _ (Option.some.inj h8).symm)) (.inl rfl) (.t (.d rfl))
      · have h8 := ite_f hc3 h7
        refine AW.skip ?_
        refine hK7 _ ?_
        refine AW.region ?_
        refine ob1k h8 fun x7 ex7 h9 => ?_
        refine AOps.step rfl rfl rfl (OpQ.spec (ms_add rfl (.inl rfl) (.inl rfl) (fun _ => ex7)) _) ?_
        refine AOps.step rfl rfl rfl (OpQ.spec (sp_move rfl (.inl rfl)) _) ?_
        refine AOps.nil ?_
        exact NextQ1.mk h9 (vec [(i3 0)]) ((by exact Weak.cv ⟨.inl (.inl rfl), .inl (.inl rfl), .inl (.inl rfl), trivial⟩ trivial (Nat.le_refl _)))
  · have h3 := ite_f hc1 h2
    refine AW.exit ?_
    exact wK2 _ _ ((by exact Weak.cv trivial trivial (Nat.le_refl _))) (J1 _ (vec [(i3 0)]) (hx1 _ (Option.some.inj h3).symm))
set_option maxHeartbeats 4000000 in
set_option maxRecDepth 20000 in
theorem w_span_Meet_f1 {a1 : Bool} {b1 : Bool} {r : Bool} (h : span_Meet_f1 a1 b1 = some r) : ARO Try.prog 74 [.r (.bool a1), .r (.bool b1)] (.r (.bool r)) := by
  unfold span_Meet_f1 at h
  refine ARO.mkF Try.func74 rfl rfl Try.ntmps74 rfl (Nat.le_of_ble_eq_true rfl) fun n0 => ?_
  refine AW.seq_w fun K1 hK1 wK1 => ?_
  refine AW.region ?_
  refine AOps.step rfl rfl rfl (OpQ.spec (sp_assign rfl (.inl rfl)) _) ?_
  refine AOps.nil ?_
  refine hK1 _ ?_
  refine AW.seq_w fun K2 hK2 wK2 => ?_
  refine AW.region ?_
  refine AOps.step rfl rfl rfl (OpQ.spec (sp_move rfl (.inl rfl)) _) ?_
  refine AOps.step rfl rfl rfl (OpQ.spec (sp_move rfl (.inl rfl)) _) ?_
  refine AOps.stepW (.one rfl rfl rfl) rfl rfl (OpQ.spec (sp_move rfl (.inl rfl)) _) ?_
  refine AOps.step rfl rfl rfl (OpQ.spec (sp_and rfl (.inl rfl) (.inr ⟨_, (by exact id), rfl⟩)) _) ?_
  refine AOps.step rfl rfl rfl (OpQ.spec (sp_assign rfl (.inl rfl)) _) ?_
  refine AOps.nil ?_
  refine hK2 _ ?_
  refine AW.ret ?_
  exact retf1 (P := Try.prog) (fun (r : Bool) => .r (.bool r)) h (.inl rfl) (.t (.d rfl))
set_option maxHeartbeats 4000000 in
set_option maxRecDepth 20000 in
theorem w_span_merged__Meet_f1 {a1 : List GSpan} {b1 : List GSpan} {r : (List GSpan)} (h : span_merged__Meet_f1 a1 b1 = some r) : ARO Try.prog 101 [.r (.sl (a1.map GSpan.row)), .r (.sl (b1.map GSpan.row)), .fn 74 []] (.r (.sl (r.map GSpan.row))) := by
  unfold span_merged__Meet_f1 at h
  refine ARO.mkF Try.func101 rfl rfl Try.ntmps101 rfl (Nat.le_of_ble_eq_true rfl) fun n0 => ?_
  refine AW.seq_w fun K1 hK1 wK1 => ?_
  refine AW.region ?_
  refine AOps.step rfl rfl rfl (OpQ.spec (sp_assign rfl (.inl rfl)) _) ?_
  refine AOps.nil ?_
  refine hK1 _ ?_
  refine AW.seq_w fun K2 hK2 wK2 => ?_
  refine AW.region ?_
  refine AOps.step rfl rfl rfl (OpQ.spec (sp_assign rfl (.inl rfl)) _) ?_
  refine AOps.nil ?_
  refine hK2 _ ?_
  refine AW.seq_w fun K3 hK3 wK3 => ?_
  refine AW.region ?_
  refine AOps.step rfl rfl rfl (OpQ.spec (sp_assign rfl (.inl rfl)) _) ?_
  refine AOps.step rfl rfl rfl (OpQ.spec (sp_assign rfl (.inl rfl)) _) ?_
  refine AOps.step rfl rfl rfl (OpQ.spec (sp_assign rfl (.inl rfl)) _) ?_
  refine AOps.nil ?_
  refine hK3 _ ?_
  refine AW.seq_w fun K4 hK4 wK4 => ?_
  refine AW.block ?_
  refine jb1k h fun o1 hit1 hk1 => ?_
  have J1 : ∀ (out4 : List GSpan) (i8 : Nat → Nat), o1 = out4 → K4 ⟨[(7, .own 5007 (i8 0))], [(5007, some (.arr (i8 0) 38 2 (out4.map GSpan.row)))], (i8 1), 90⟩ := by
    intro out4 i8 e
    have h1 := hk1 _ e
    refine hK4 _ ?_
    refine AW.seq_w fun K5 hK5 wK5 => ?_
    refine AW.region ?_
    refine AOps.step rfl rfl rfl (OpQ.spec (sp_move rfl (.inl rfl)) _) ?_
    refine AOps.step rfl rfl rfl (OpQ.spec (sp_assign rfl (.inl rfl)) _) ?_
    refine AOps.nil ?_
    refine hK5 _ ?_
    refine AW.ret ?_
    exact retf1 (P := Try.prog) (fun (r : (List GSpan)) => .r (.sl (r.map GSpan.row))) h1 (.inl rfl) (.t (.one (.own rfl)))
  refine AW.iter4 (fun (at2 : Int) (i4 : Int) (j2 : Int) (out2 : List GSpan) i5 => ⟨[(0, .r (.sl (a1.map GSpan.row))), (1, .r (.sl (b1.map GSpan.row))), (2, .fn 74 []), (7, .own 5007 (i5 0)), (8, .r (.int .i64 at2)), (9, .r (.int .i64 i4)), (10, .r (.int .i64 j2))], [(5007, some (.arr (i5 0) 38 2 (out2.map GSpan.row)))], (i5 1), 90⟩) (vec [n0, (n0 + 1)]) hit1 (Weak.trans (Weak.trans (Weak.adopt 7 5007 38 2 (by decide) rfl) (by exact Weak.cv (e' := [(0, .r (.sl (a1.map GSpan.row))), (1, .r (.sl (b1.map GSpan.row))), (2, .fn 74 []), (6, .cst (.slice none 0 0)), (7, .own 5007 n0), (8, .r (.int .i64 0)), (9, .r (.int .i64 0)), (10, .r (.int .i64 0))]) (h' := [(5007, some (.arr n0 38 2 (([] : List GSpan).map GSpan.row)))]) ⟨.inl (.inl rfl), .inl (.inl rfl), .inl (.inl rfl), .inl (.inl rfl), .inl (.inl rfl), .inl (.inl rfl), .inl (.inl rfl), .inl (.inl rfl), trivial⟩ ⟨.inl rfl, trivial⟩ (Nat.le_refl _))) (by exact Weak.cv ⟨.inl (.inl rfl), .inl (.inl rfl), .inl (.inl rfl), .inl (.inl rfl), .inl (.inl rfl), .inl (.inl rfl), .inl (.inl rfl), trivial⟩ ⟨.inl rfl, trivial⟩ (Nat.le_refl _))) ?_
  intro at2 i4 j2 out2 i5 v1 hv1 hx1
  have h2 : span_merged__Meet_f1_L1 a1 b1 at2 i4 j2 out2 = some v1 := hv1; unfold span_merged__Meet_f1_L1 at h2
  refine AW.seq_w fun K6 hK6 wK6 => ?_
  refine AW.seq_w fun K7 hK7 wK7 => ?_
  refine AW.region ?_
  refine AOps.step rfl rfl rfl (OpQ.spec (sp_move rfl (.inl rfl)) _) ?_
  refine AOps.step rfl rfl rfl (OpQ.spec (sp_move rfl (.inl rfl)) _) ?_
  refine AOps.step rfl rfl rfl (OpQ.spec (ms_len rfl tg_31.slice (.inl rfl)) _) ?_
  refine ob1k h2 fun x1 ex1 h3 => ?_
  refine AOps.step rfl rfl rfl (OpQ.spec (ms_mul rfl (.inl rfl) (.inl rfl) (fun _ => ex1)) _) ?_
  refine AOps.step rfl rfl rfl (OpQ.spec (sp_lss rfl (.inl rfl) (.inl rfl)) _) ?_
  refine AOps.step rfl rfl rfl (OpQ.spec (sp_move rfl (.inl rfl)) _) ?_
  refine AOps.stepW (.one rfl rfl rfl) rfl rfl (OpQ.spec (sp_move rfl (.inl rfl)) _) ?_
  refine AOps.stepW (.one rfl rfl rfl) rfl rfl (OpQ.spec (sp_move rfl (.inl rfl)) _) ?_
  refine AOps.stepW (.one rfl rfl rfl) rfl rfl (OpQ.spec (ms_len rfl tg_31.slice (.inr ⟨_, (by exact id), rfl⟩)) _) ?_
  refine ob1k h3 fun x2 ex2 h4 => ?_
  refine AOps.stepW (.one rfl rfl rfl) rfl rfl (OpQ.spec (ms_mul rfl (.inl rfl) (.inr ⟨_, (by exact id), rfl⟩) (gdt ex2)) _) ?_
  refine AOps.stepW (.one rfl rfl rfl) rfl rfl (OpQ.spec (sp_lss rfl (.inr ⟨_, (by exact id), rfl⟩) (.inr ⟨_, (by exact id), rfl⟩)) _) ?_
  refine AOps.step rfl rfl rfl (OpQ.spec (sp_or rfl (.inl rfl) (.inr ⟨_, (by exact id), rfl⟩)) _) ?_
  refine AOps.nil ?_
  refine hK7 _ ?_
  refine AW.cond rfl (fun hc1 => ?_) (fun hc1 => ?_)
  · have h5 := ite_t hc1 h4
    refine AW.skip ?_
    refine hK6 _ ?_
    refine AW.block ?_
    refine AW.seq_w fun K8 hK8 wK8 => ?_
    refine AW.region ?_
    refine AOps.step rfl rfl rfl (OpQ.spec (sp_assign rfl (.inl rfl)) _) ?_
    refine AOps.nil ?_
    refine hK8 _ ?_
    refine AW.seq_w fun K9 hK9 wK9 => ?_
    refine AW.seq_w fun K10 hK10 wK10 => ?_
    refine AW.region ?_
    refine AOps.step rfl rfl rfl (OpQ.spec (sp_move rfl (.inl rfl)) _) ?_
    refine AOps.step rfl rfl rfl (OpQ.spec (sp_move rfl (.inl rfl)) _) ?_
    refine AOps.step rfl rfl rfl (OpQ.spec (ms_len rfl tg_31.slice (.inl rfl)) _) ?_
    refine AOps.step rfl rfl rfl (OpQ.spec (ms_mul rfl (.inl rfl) (.inl rfl) (fun _ => ex1)) _) ?_
    refine AOps.step rfl rfl rfl (OpQ.spec (sp_lss rfl (.inl rfl) (.inl rfl)) _) ?_
    refine AOps.nil ?_
    refine hK10 _ ?_
    refine jb1k h5 fun p1 hp1 hk2 => ?_
    have J2 : ∀ (next1 : Int) (i9 : Nat → Nat), p1 = next1 → K9 ⟨[(0, .r (.sl (a1.map GSpan.row))), (1, .r (.sl (b1.map GSpan.row))), (2, .fn 74 []), (7, .own 5007 (i5 0)), (8, .r (.int .i64 at2)), (9, .r (.int .i64 i4)), (10, .r (.int .i64 j2)), (11, .r (.int .i64 next1))], [(5007, some (.arr (i5 0) 38 2 (out2.map GSpan.row)))], (i9 0), 90⟩ := by
      intro next1 i9 e
      have h6 := hk2 _ e
      refine hK9 _ ?_
      refine AW.seq_w fun K11 hK11 wK11 => ?_
      refine AW.seq_w fun K12 hK12 wK12 => ?_
      refine AW.region ?_
      refine AOps.step rfl rfl rfl (OpQ.spec (sp_move rfl (.inl rfl)) _) ?_
      refine AOps.step rfl rfl rfl (OpQ.spec (sp_move rfl (.inl rfl)) _) ?_
      refine AOps.step rfl rfl rfl (OpQ.spec (ms_len rfl tg_31.slice (.inl rfl)) _) ?_
      refine ob1k h6 fun x3 ex3 h7 => ?_
      refine AOps.step rfl rfl rfl (OpQ.spec (ms_mul rfl (.inl rfl) (.inl rfl) (fun _ => ex3)) _) ?_
      refine AOps.step rfl rfl rfl (OpQ.spec (sp_lss rfl (.inl rfl) (.inl rfl)) _) ?_
      refine AOps.nil ?_
      refine hK12 _ ?_
      refine jb1k h7 fun p2 hp2 hk3 => ?_
      have J3 : ∀ (next2 : Int) (i10 : Nat → Nat), p2 = next2 → K11 ⟨[(0, .r (.sl (a1.map GSpan.row))), (1, .r (.sl (b1.map GSpan.row))), (2, .fn 74 []), (7, .own 5007 (i5 0)), (8, .r (.int .i64 at2)), (9, .r (.int .i64 i4)), (10, .r (.int .i64 j2)), (11, .r (.int .i64 next2))], [(5007, some (.arr (i5 0) 38 2 (out2.map GSpan.row)))], (i10 0), 90⟩ := by
        intro next2 i10 e
        have h8 := hk3 _ e
        refine hK11 _ ?_
        refine AW.seq_w fun K13 hK13 wK13 => ?_
        refine AW.seq_w fun K14 hK14 wK14 => ?_
        refine AW.region ?_
        refine AOps.step rfl rfl rfl (OpQ.spec (sp_move rfl (.inl rfl)) _) ?_
        refine AOps.step rfl rfl rfl (OpQ.spec (sp_move rfl (.inl rfl)) _) ?_
        refine AOps.step rfl rfl rfl (OpQ.spec (sp_lss rfl (.inl rfl) (.inl rfl)) _) ?_
        refine AOps.step rfl rfl rfl (OpQ.spec (sp_move rfl (.inl rfl)) _) ?_
        refine AOps.stepW (.one rfl rfl rfl) rfl rfl (OpQ.spec (sp_move rfl (.inl rfl)) _) ?_
        refine AOps.stepW (.one rfl rfl rfl) rfl rfl (OpQ.spec (sp_move rfl (.inl rfl)) _) ?_
        refine ob1k h8 fun x4 ex4 h9 => ?_
        refine AOps.stepW (.one rfl rfl rfl) rfl rfl (OpQ.spec (ms_rem rfl (.inr ⟨_, (by exact id), rfl⟩) (.inl rfl) (gdt ex4)) _) ?_
        refine AOps.stepW (.one rfl rfl rfl) rfl rfl (OpQ.spec (sp_eql rfl (.inr ⟨_, (by exact id), rfl⟩) (.inl rfl)) _) ?_
        refine AOps.stepW (.one rfl rfl rfl) rfl rfl (OpQ.spec (sp_move rfl (.inl rfl)) _) ?_
        refine ob1k h9 fun x5 ex5 h10 => ?_
        refine AOps.stepW (.one rfl rfl rfl) rfl rfl (OpQ.spec (ms_rem rfl (.inr ⟨_, (by exact id), rfl⟩) (.inl rfl) (gdt ex5)) _) ?_
        refine AOps.stepW (.one rfl rfl rfl) rfl rfl (OpQ.spec (sp_eql rfl (.inr ⟨_, (by exact id), rfl⟩) (.inl rfl)) _) ?_
        refine ob1k h10 fun r1 er1 h11 => ?_
        refine AOps.stepW (.one rfl rfl rfl) rfl rfl (sp_call (r := .r (.bool r1)) (caps := []) (bs := [.r (.bool (decide (x4 = 1))), .r (.bool (decide (x5 = 1)))]) rfl (.inr ⟨_, (by exact id), rfl⟩) rfl ⟨⟨_, (.inr ⟨_, (by exact id), rfl⟩), .d rfl⟩, ⟨_, (.inr ⟨_, (by exact id), rfl⟩), .d rfl⟩, trivial⟩ (fun hg => w_span_Meet_f1 (gdt er1 hg)) rfl) ?_
        refine AOps.step rfl rfl rfl (OpQ.spec (sp_and rfl (.inl rfl) (.inr ⟨_, (by exact id), rfl⟩)) _) ?_
        refine AOps.nil ?_
        refine hK14 _ ?_
        refine jb1k h11 fun p3 hp3 hk4 => ?_
        have J4 : ∀ (out5 : List GSpan) (i11 : Nat → Nat), p3 = out5 → K13 ⟨[(0, .r (.sl (a1.map GSpan.row))), (1, .r (.sl (b1.map GSpan.row))), (2, .fn 74 []), (7, .own 5007 (i11 0)), (9, .r (.int .i64 i4)), (10, .r (.int .i64 j2)), (11, .r (.int .i64 next2))], [(5007, some (.arr (i11 0) 38 2 (out5.map GSpan.row)))], (i11 1), 90⟩ := by
          intro out5 i11 e
          have h12 := hk4 _ e
          refine hK13 _ ?_
          refine AW.seq_w fun K15 hK15 wK15 => ?_
          refine AW.region ?_
          refine AOps.step rfl rfl rfl (OpQ.spec (sp_move rfl (.inl rfl)) _) ?_
          refine AOps.step rfl rfl rfl (OpQ.spec (sp_assign rfl (.inl rfl)) _) ?_
          refine AOps.nil ?_
          refine hK15 _ ?_
          refine AW.seq_w fun K16 hK16 wK16 => ?_
          refine AW.block ?_
          refine jb1k h12 fun o2 hit2 hk5 => ?_
          have J5 : ∀ (i19 : Int) (i20 : Nat → Nat), o2 = i19 → K16 ⟨[(0, .r (.sl (a1.map GSpan.row))), (1, .r (.sl (b1.map GSpan.row))), (2, .fn 74 []), (7, .own 5007 (i11 0)), (8, .r (.int .i64 next2)), (9, .r (.int .i64 i19)), (10, .r (.int .i64 j2))], [(5007, some (.arr (i11 0) 38 2 (out5.map GSpan.row)))], (i20 0), 90⟩ := by
            intro i19 i20 e
            have h13 := hk5 _ e
            refine hK16 _ ?_
            refine AW.block ?_
            refine jc1k h13 fun o3 hit3 hk6 he6 => ?_
            refine AW.iter1 (fun (j5 : Int) i23 => ⟨[(0, .r (.sl (a1.map GSpan.row))), (1, .r (.sl (b1.map GSpan.row))), (2, .fn 74 []), (7, .own 5007 (i11 0)), (8, .r (.int .i64 next2)), (9, .r (.int .i64 i19)), (10, .r (.int .i64 j5))], [(5007, some (.arr (i11 0) 38 2 (out5.map GSpan.row)))], (i23 0), 90⟩) (vec [(i20 0)]) hit3 ((by exact Weak.cv ⟨.inl (.inl rfl), .inl (.inl rfl), .inl (.inl rfl), .inl (.inl rfl), .inl (.inl rfl), .inl (.inl rfl), .inl (.inl rfl), trivial⟩ ⟨.inl rfl, trivial⟩ (Nat.le_refl _))) ?_
            intro j5 i23 v2 hv2 hx3
            have h14 : span_merged__Meet_f1_L3 b1 x3 next2 out5 i19 j5 = some v2 := hv2; unfold span_merged__Meet_f1_L3 at h14
            refine AW.seq_w fun K17 hK17 wK17 => ?_
            refine AW.seq_w fun K18 hK18 wK18 => ?_
            refine AW.region ?_
            refine AOps.step rfl rfl rfl (OpQ.spec (sp_move rfl (.inl rfl)) _) ?_
            refine AOps.step rfl rfl rfl (OpQ.spec (sp_move rfl (.inl rfl)) _) ?_
            refine AOps.step rfl rfl rfl (OpQ.spec (ms_len rfl tg_31.slice (.inl rfl)) _) ?_
            refine AOps.step rfl rfl rfl (OpQ.spec (ms_mul rfl (.inl rfl) (.inl rfl) (fun _ => ex3)) _) ?_
            refine AOps.step rfl rfl rfl (OpQ.spec (sp_lss rfl (.inl rfl) (.inl rfl)) _) ?_
            refine AOps.step rfl rfl rfl (OpQ.spec (sp_move rfl (.inl rfl)) _) ?_
            refine AOps.stepW (.one rfl rfl rfl) rfl rfl (OpQ.spec (sp_move rfl (.inl rfl)) _) ?_
            refine AOps.stepW (.one rfl rfl rfl) rfl rfl (OpQ.spec (sp_move rfl (.inl rfl)) _) ?_
            refine ob1k h14 fun r2 er2 h15 => ?_
            refine AOps.stepW (.one rfl rfl rfl) rfl rfl (sp_call (r := .r (.int .i64 r2)) (caps := []) (bs := [.r (.sl (b1.map GSpan.row)), .r (.int .i64 j5)]) rfl (.inl rfl) rfl ⟨⟨_, (.inr ⟨_, (by exact id), rfl⟩), .d rfl⟩, ⟨_, (.inr ⟨_, (by exact id), rfl⟩), .d rfl⟩, trivial⟩ (fun hg => w_span_end (gdt er2 hg)) rfl) ?_
            refine AOps.stepW (.one rfl rfl rfl) rfl rfl (OpQ.spec (sp_move rfl (.inl rfl)) _) ?_
            refine AOps.stepW (.one rfl rfl rfl) rfl rfl (OpQ.spec (sp_eql rfl (.inr ⟨_, (by exact id), rfl⟩) (.inr ⟨_, (by exact id), rfl⟩)) _) ?_
            refine AOps.step rfl rfl rfl (OpQ.spec (sp_and rfl (.inl rfl) (.inr ⟨_, (by exact id), rfl⟩)) _) ?_
            refine AOps.nil ?_
            refine hK18 _ ?_
            refine AW.cond rfl (fun hc2 => ?_) (fun hc2 => ?_)
            · have h16 := ite_t hc2 h15
              refine AW.skip ?_
              refine hK17 _ ?_
              refine AW.block ?_
              refine AW.region ?_
              refine AOps.step rfl rfl rfl (OpQ.spec (sp_move rfl (.inl rfl)) _) ?_
              refine ob1k h16 fun j7 ej7 h17 => ?_
              refine AOps.step rfl rfl rfl (OpQ.spec (ms_add rfl (.inl rfl) (.inl rfl) (fun _ => ej7)) _) ?_
              refine AOps.step rfl rfl rfl (OpQ.spec (sp_assign rfl (.inl rfl)) _) ?_
              refine AOps.nil ?_
              exact NextQ1.mk h17 (vec [(i23 0)]) ((by exact Weak.cv ⟨.inl (.inl rfl), .inl (.inl rfl), .inl (.inl rfl), .inl (.inl rfl), .inl (.inl rfl), .inl (.inl rfl), .inl (.inl rfl), trivial⟩ ⟨.inl rfl, trivial⟩ (Nat.le_refl _)))
            · have h16 := ite_f hc2 h15
              refine AW.exit ?_
              exact NextQ4.mk (he6 _ (hx3 _ (Option.some.inj h16).symm)) (vec [(i11 0), (i23 0)]) ((by exact Weak.cv ⟨.inl (.inl rfl), .inl (.inl rfl), .inl (.inl rfl), .inl (.inl rfl), .inl (.inl rfl), .inl (.inl rfl), .inl (.inl rfl), trivial⟩ ⟨.inl rfl, trivial⟩ (Nat.le_refl _)))
          refine AW.iter1 (fun (i15 : Int) i16 => ⟨[(0, .r (.sl (a1.map GSpan.row))), (1, .r (.sl (b1.map GSpan.row))), (2, .fn 74 []), (7, .own 5007 (i11 0)), (8, .r (.int .i64 next2)), (9, .r (.int .i64 i15)), (10, .r (.int .i64 j2))], [(5007, some (.arr (i11 0) 38 2 (out5.map GSpan.row)))], (i16 0), 90⟩) (vec [(i11 1)]) hit2 ((by exact Weak.cv ⟨.inl (.inl rfl), .inl (.inl rfl), .inl (.inl rfl), .inl (.inl rfl), .inl (.inl rfl), .inl (.inl rfl), .inl (.inl rfl), trivial⟩ ⟨.inl rfl, trivial⟩ (Nat.le_refl _))) ?_
          intro i15 i16 v3 hv3 hx2
          have h18 : span_merged__Meet_f1_L2 a1 x1 next2 i15 = some v3 := hv3; unfold span_merged__Meet_f1_L2 at h18
          refine AW.seq_w fun K19 hK19 wK19 => ?_
          refine AW.seq_w fun K20 hK20 wK20 => ?_
          refine AW.region ?_
          refine AOps.step rfl rfl rfl (OpQ.spec (sp_move rfl (.inl rfl)) _) ?_
          refine AOps.step rfl rfl rfl (OpQ.spec (sp_move rfl (.inl rfl)) _) ?_
          refine AOps.step rfl rfl rfl (OpQ.spec (ms_len rfl tg_31.slice (.inl rfl)) _) ?_
          refine AOps.step rfl rfl rfl (OpQ.spec (ms_mul rfl (.inl rfl) (.inl rfl) (fun _ => ex1)) _) ?_
          refine AOps.step rfl rfl rfl (OpQ.spec (sp_lss rfl (.inl rfl) (.inl rfl)) _) ?_
          refine AOps.step rfl rfl rfl (OpQ.spec (sp_move rfl (.inl rfl)) _) ?_
          refine AOps.stepW (.one rfl rfl rfl) rfl rfl (OpQ.spec (sp_move rfl (.inl rfl)) _) ?_
          refine AOps.stepW (.one rfl rfl rfl) rfl rfl (OpQ.spec (sp_move rfl (.inl rfl)) _) ?_
          refine ob1k h18 fun r3 er3 h19 => ?_
          refine AOps.stepW (.one rfl rfl rfl) rfl rfl (sp_call (r := .r (.int .i64 r3)) (caps := []) (bs := [.r (.sl (a1.map GSpan.row)), .r (.int .i64 i15)]) rfl (.inl rfl) rfl ⟨⟨_, (.inr ⟨_, (by exact id), rfl⟩), .d rfl⟩, ⟨_, (.inr ⟨_, (by exact id), rfl⟩), .d rfl⟩, trivial⟩ (fun hg => w_span_end (gdt er3 hg)) rfl) ?_
          refine AOps.stepW (.one rfl rfl rfl) rfl rfl (OpQ.spec (sp_move rfl (.inl rfl)) _) ?_
          refine AOps.stepW (.one rfl rfl rfl) rfl rfl (OpQ.spec (sp_eql rfl (.inr ⟨_, (by exact id), rfl⟩) (.inr ⟨_, (by exact id), rfl⟩)) _) ?_
          refine AOps.step rfl rfl rfl (OpQ.spec (sp_and rfl (.inl rfl) (.inr ⟨_, (by exact id), rfl⟩)) _) ?_
          refine AOps.nil ?_
          refine hK20 _ ?_
          refine AW.cond rfl (fun hc3 => ?_) (fun hc3 => ?_)
          · have h20 := ite_t hc3 h19
            refine AW.skip ?_
            refine hK19 _ ?_
            refine AW.block ?_
            refine AW.region ?_
            refine AOps.step rfl rfl rfl (OpQ.spec (sp_move rfl (.inl rfl)) _) ?_
            refine ob1k h20 fun i25 ei25 h21 => ?_
            refine AOps.step rfl rfl rfl (OpQ.spec (ms_add rfl (.inl rfl) (.inl rfl) (fun _ => ei25)) _) ?_
            refine AOps.step rfl rfl rfl (OpQ.spec (sp_assign rfl (.inl rfl)) _) ?_
            refine AOps.nil ?_
            exact NextQ1.mk h21 (vec [(i16 0)]) ((by exact Weak.cv ⟨.inl (.inl rfl), .inl (.inl rfl), .inl (.inl rfl), .inl (.inl rfl), .inl (.inl rfl), .inl (.inl rfl), .inl (.inl rfl), trivial⟩ ⟨.inl rfl, trivial⟩ (Nat.le_refl _)))
          · have h20 := ite_f hc3 h19
            refine AW.exit ?_
            exact wK16 _ _ ((by exact Weak.cv ⟨.inl (.inl rfl), .inl (.inl rfl), .inl (.inl rfl), .inl (.inl rfl), .inl (.inl rfl), .inl (.inl rfl), .inl (.inl rfl), trivial⟩ ⟨.inl rfl, trivial⟩ (Nat.le_refl _))) (J5 _ (vec [(i16 0)]) (hx2 _ (Option.some.inj h20).symm))
        refine AW.cond rfl (fun hc4 => ?_) (fun hc4 => ?_)
        · have h22 := ite_t hc4 hp3
          refine AW.region ?_
          refine AOps.step rfl rfl rfl (OpQ.spec (sp_move rfl (.inl rfl)) _) ?_
          refine AOps.step rfl rfl rfl (OpQ.spec (sp_move rfl (.inl rfl)) _) ?_
          refine AOps.step rfl rfl rfl (OpQ.spec (sp_move rfl (.inl rfl)) _) ?_
          refine AOps.step rfl rfl rfl (OpQ.spec (sp_build rfl tb_38 (q := [(0, _), (1, _)]) (by exact ⟨rfl, rfl, rfl, (.inl rfl), rfl, rfl, rfl, (.inl rfl), trivial⟩) (cs := [.r (.int .i64 at2), .r (.int .i64 next2)]) (by rfl)) _) ?_
          refine ob1k h22 fun w1 ew1 h23 => ?_
          refine AOps.stepHI [5007] (hc := [(1000, some (.arr (i5 0) 38 2 (out2.map GSpan.row)))]) (bs := [.own 1000 (i5 0), .agg [.r (.int .i64 at2), .r (.int .i64 next2)]]) (caps := []) rfl rfl rfl rfl (.inl rfl) rfl ⟨.inl ⟨(.inl rfl), rfl⟩, .inl ⟨(.inl rfl), rfl⟩, trivial⟩ ⟨rfl, rfl, rfl, trivial⟩ (by decide) (w_span_add ew1) ?_
          intro i26 n1
          refine AOps.weak (s' := ⟨[(0, .r (.sl (a1.map GSpan.row))), (1, .r (.sl (b1.map GSpan.row))), (2, .fn 74 []), (8, .r (.int .i64 at2)), (9, .r (.int .i64 i4)), (10, .r (.int .i64 j2)), (11, .r (.int .i64 next2)), (42, .r (.int .i64 at2)), (43, .r (.int .i64 next2)), (44, .r (.bool (decide (at2 < next2)))), (45, .r (.bool (decide (at2 < next2)))), (54, .r (.bool ((decide (at2 < next2)) && r1))), (56, .r (.int .i64 at2)), (57, .r (.int .i64 next2)), (58, .agg [.r (.int .i64 at2), .r (.int .i64 next2)]), (59, .own 5007 (i26 0))], [(5007, some (.arr (i26 0) 38 2 (w1.map GSpan.row)))], n1, 90⟩) (by exact Weak.cv ⟨.inl (.inl rfl), .inl (.inl rfl), .inl (.inl rfl), .inl (.inl rfl), .inl (.inl rfl), .inl (.inl rfl), .inl (.inl rfl), .inl (.inl rfl), .inl (.inl rfl), .inl (.inl rfl), .inl (.inl rfl), .inl (.inl rfl), .inl (.inl rfl), .inl (.inl rfl), .inl (.inl rfl), .inl (.inl rfl), trivial⟩ ⟨.inl rfl, trivial⟩ (Nat.le_refl _)) ?_
          refine AOps.step rfl rfl rfl (OpQ.spec (sp_assign rfl (.inl rfl)) _) ?_
          refine AOps.nil ?_
          exact wK13 _ _ ((by exact Weak.cv ⟨.inl (.inl rfl), .inl (.inl rfl), .inl (.inl rfl), .inl (.inl rfl), .inl (.inl rfl), .inl (.inl rfl), .inl (.inl rfl), trivial⟩ ⟨.inl rfl, trivial⟩ (Nat.le_refl _))) (J4 _ (vec [(i26 0), n1]) (Option.some.inj h23).symm)
        · have h22 := ite_f hc4 hp3
          refine AW.skip ?_
          exact wK13 _ _ ((by exact Weak.cv ⟨.inl (.inl rfl), .inl (.inl rfl), .inl (.inl rfl), .inl (.inl rfl), .inl (.inl rfl), .inl (.inl rfl), .inl (.inl rfl), trivial⟩ ⟨.inl rfl, trivial⟩ (Nat.le_refl _))) (J4 _ (vec [(i5 0), (i10 0)]) (Option.some.inj h22).symm)
      refine AW.cond rfl (fun hc5 => ?_) (fun hc5 => ?_)
      · have h24 := ite_t hc5 hp2
        refine AW.region ?_
        refine AOps.step rfl rfl rfl (OpQ.spec (sp_move rfl (.inl rfl)) _) ?_
        refine AOps.step rfl rfl rfl (OpQ.spec (sp_move rfl (.inl rfl)) _) ?_
        refine AOps.step rfl rfl rfl (OpQ.spec (sp_move rfl (.inl rfl)) _) ?_
        refine ob1k h24 fun r4 er4 h25 => ?_
        refine AOps.step rfl rfl rfl (sp_call (r := .r (.int .i64 r4)) (caps := []) (bs := [.r (.sl (b1.map GSpan.row)), .r (.int .i64 j2)]) rfl (.inl rfl) rfl ⟨⟨_, (.inl rfl), .d rfl⟩, ⟨_, (.inl rfl), .d rfl⟩, trivial⟩ (fun _ => w_span_end (er4)) rfl) ?_
        refine AOps.step rfl rfl rfl (OpQ.spec (sp_min rfl (.inl rfl) (.inl rfl)) _) ?_
        refine AOps.step rfl rfl rfl (OpQ.spec (sp_assign rfl (.inl rfl)) _) ?_
        refine AOps.nil ?_
        exact wK11 _ _ ((by exact Weak.cv ⟨.inl (.inl rfl), .inl (.inl rfl), .inl (.inl rfl), .inl (.inl rfl), .inl (.inl rfl), .inl (.inl rfl), .inl (.inl rfl), .inl (.inl rfl), trivial⟩ ⟨.inl rfl, trivial⟩ (Nat.le_refl _))) (J3 _ (vec [(i9 0)]) (Option.some.inj h25).symm)
      · have h24 := ite_f hc5 hp2
        refine AW.skip ?_
        exact wK11 _ _ ((by exact Weak.cv ⟨.inl (.inl rfl), .inl (.inl rfl), .inl (.inl rfl), .inl (.inl rfl), .inl (.inl rfl), .inl (.inl rfl), .inl (.inl rfl), .inl (.inl rfl), trivial⟩ ⟨.inl rfl, trivial⟩ (Nat.le_refl _))) (J3 _ (vec [(i9 0)]) (Option.some.inj h24).symm)
    refine AW.cond rfl (fun hc6 => ?_) (fun hc6 => ?_)
    · have h26 := ite_t hc6 hp1
      refine AW.weak (s' := ⟨[(0, .r (.sl (a1.map GSpan.row))), (1, .r (.sl (b1.map GSpan.row))), (2, .fn 74 []), (7, .own 5007 (i5 0)), (8, .r (.int .i64 at2)), (9, .r (.int .i64 i4)), (10, .r (.int .i64 j2))], [(5007, some (.arr (i5 0) 38 2 (out2.map GSpan.row)))], (i5 1), 90⟩) (by exact Weak.cv ⟨.inl (.inl rfl), .inl (.inl rfl), .inl (.inl rfl), .inl (.inl rfl), .inl (.inl rfl), .inl (.inl rfl), .inl (.inl rfl), trivial⟩ ⟨.inl rfl, trivial⟩ (Nat.le_refl _)) ?_
      refine AW.region ?_
      refine AOps.step rfl rfl rfl (OpQ.spec (sp_move rfl (.inl rfl)) _) ?_
      refine AOps.step rfl rfl rfl (OpQ.spec (sp_move rfl (.inl rfl)) _) ?_
      refine ob1k h26 fun next3 enext3 h27 => ?_
      refine AOps.step rfl rfl rfl (sp_call (r := .r (.int .i64 next3)) (caps := []) (bs := [.r (.sl (a1.map GSpan.row)), .r (.int .i64 i4)]) rfl (.inl rfl) rfl ⟨⟨_, (.inl rfl), .d rfl⟩, ⟨_, (.inl rfl), .d rfl⟩, trivial⟩ (fun _ => w_span_end (enext3)) rfl) ?_
      refine AOps.step rfl rfl rfl (OpQ.spec (sp_assign rfl (.inl rfl)) _) ?_
      refine AOps.nil ?_
      exact wK9 _ _ ((by exact Weak.cv ⟨.inl (.inl rfl), .inl (.inl rfl), .inl (.inl rfl), .inl (.inl rfl), .inl (.inl rfl), .inl (.inl rfl), .inl (.inl rfl), .inl (.inl rfl), trivial⟩ ⟨.inl rfl, trivial⟩ (Nat.le_refl _))) (J2 _ (vec [(i5 1)]) (Option.some.inj h27).symm)
    · have h26 := ite_f hc6 hp1
      refine AW.skip ?_
      exact wK9 _ _ ((by exact Weak.cv ⟨.inl (.inl rfl), .inl (.inl rfl), .inl (.inl rfl), .inl (.inl rfl), .inl (.inl rfl), .inl (.inl rfl), .inl (.inl rfl), .inl (.inl rfl), trivial⟩ ⟨.inl rfl, trivial⟩ (Nat.le_refl _))) (J2 _ (vec [(i5 1)]) (Option.some.inj h26).symm)
  · have h5 := ite_f hc1 h4
    refine AW.exit ?_
    exact wK4 _ _ ((by exact Weak.cv ⟨.inl (.inl rfl), trivial⟩ ⟨.inl rfl, trivial⟩ (Nat.le_refl _))) (J1 _ (vec [(i5 0), (i5 1)]) (hx1 _ (Option.some.inj h5).symm))
set_option maxHeartbeats 4000000 in
set_option maxRecDepth 20000 in
theorem w_span_two__Meet_f1 {a1 : List GSpan} {b1 : List GSpan} {r : (List GSpan) × Int} (h : span_two__Meet_f1 a1 b1 = some r) : ARO Try.prog 72 [.r (.sl (a1.map GSpan.row)), .r (.sl (b1.map GSpan.row)), .fn 74 []] (.tup [.r (.sl (r.1.map GSpan.row)), .r (.int .i64 r.2)]) := by
  unfold span_two__Meet_f1 at h
  refine ARO.mkF Try.func72 rfl rfl Try.ntmps72 rfl (Nat.le_of_ble_eq_true rfl) fun n0 => ?_
  refine AW.seq_w fun K1 hK1 wK1 => ?_
  refine AW.region ?_
  refine AOps.step rfl rfl rfl (OpQ.spec (sp_assign rfl (.inl rfl)) _) ?_
  refine AOps.step rfl rfl rfl (OpQ.spec (sp_assign rfl (.inl rfl)) _) ?_
  refine AOps.nil ?_
  refine hK1 _ ?_
  refine AW.seq_w fun K2 hK2 wK2 => ?_
  refine AW.seq_w fun K3 hK3 wK3 => ?_
  refine AW.region ?_
  refine AOps.step rfl rfl rfl (OpQ.spec (sp_move rfl (.inl rfl)) _) ?_
  refine ob1k h fun e1 ee1 h1 => ?_
  refine AOps.step rfl rfl rfl (sp_call (r := .r (.int .i64 e1)) (caps := []) (bs := [.r (.sl (a1.map GSpan.row))]) rfl (.inl rfl) rfl ⟨⟨_, (.inl rfl), .d rfl⟩, trivial⟩ (fun _ => w_span_Check (ee1)) rfl) ?_
  refine AOps.step rfl rfl rfl (OpQ.spec (sp_assign rfl (.inl rfl)) _) ?_
  refine AOps.nil ?_
  refine hK3 _ ?_
  refine AW.seq_w fun K4 hK4 wK4 => ?_
  refine AW.region ?_
  refine AOps.step rfl rfl rfl (OpQ.spec (sp_move rfl (.inl rfl)) _) ?_
  refine AOps.step rfl rfl rfl (OpQ.spec (sp_neq rfl (.inl rfl) (.inl rfl)) _) ?_
  refine AOps.nil ?_
  refine hK4 _ ?_
  refine AW.cond rfl (fun hc1 => ?_) (fun hc1 => ?_)
  · have h2 := ite_t hc1 h1
    refine AW.seq_w fun K5 hK5 wK5 => ?_
    refine AW.weak (s' := ⟨[(8, .r (.int .i64 e1))], [], n0, 24⟩) (by exact Weak.cv ⟨.inl (.inl rfl), trivial⟩ trivial (Nat.le_refl _)) ?_
    refine AW.region ?_
    refine AOps.step rfl rfl rfl (OpQ.spec (sp_move rfl (.inl rfl)) _) ?_
    refine AOps.step rfl rfl rfl (OpQ.spec (sp_assign rfl (.inl rfl)) _) ?_
    refine AOps.step rfl rfl rfl (OpQ.spec (sp_assign rfl (.inl rfl)) _) ?_
    refine AOps.nil ?_
    refine hK5 _ ?_
    refine AW.ret ?_
    exact retf2 (P := Try.prog) (fun (r : (List GSpan) × Int) => .r (.sl (r.1.map GSpan.row))) (fun (r : (List GSpan) × Int) => .r (.int .i64 r.2)) h2 (.inl rfl) (.t (.one (.nil))) (.t (.d rfl))
  · have h2 := ite_f hc1 h1
    refine AW.skip ?_
    refine hK2 _ ?_
    refine AW.seq_w fun K6 hK6 wK6 => ?_
    refine AW.seq_w fun K7 hK7 wK7 => ?_
    refine AW.region ?_
    refine AOps.step rfl rfl rfl (OpQ.spec (sp_move rfl (.inl rfl)) _) ?_
    refine ob1k h2 fun e2 ee2 h3 => ?_
    refine AOps.step rfl rfl rfl (sp_call (r := .r (.int .i64 e2)) (caps := []) (bs := [.r (.sl (b1.map GSpan.row))]) rfl (.inl rfl) rfl ⟨⟨_, (.inl rfl), .d rfl⟩, trivial⟩ (fun _ => w_span_Check (ee2)) rfl) ?_
    refine AOps.step rfl rfl rfl (OpQ.spec (sp_assign rfl (.inl rfl)) _) ?_
    refine AOps.nil ?_
    refine hK7 _ ?_
    refine AW.seq_w fun K8 hK8 wK8 => ?_
    refine AW.weak (s' := ⟨[(0, .r (.sl (a1.map GSpan.row))), (1, .r (.sl (b1.map GSpan.row))), (2, .fn 74 []), (9, .r (.int .i64 e2))], [], n0, 24⟩) (by exact Weak.cv ⟨.inl (.inl rfl), .inl (.inl rfl), .inl (.inl rfl), .inl (.inl rfl), trivial⟩ trivial (Nat.le_refl _)) ?_
    refine AW.region ?_
    refine AOps.step rfl rfl rfl (OpQ.spec (sp_move rfl (.inl rfl)) _) ?_
    refine AOps.step rfl rfl rfl (OpQ.spec (sp_neq rfl (.inl rfl) (.inl rfl)) _) ?_
    refine AOps.nil ?_
    refine hK8 _ ?_
    refine AW.cond rfl (fun hc2 => ?_) (fun hc2 => ?_)
    · have h4 := ite_t hc2 h3
      refine AW.seq_w fun K9 hK9 wK9 => ?_
      refine AW.region ?_
      refine AOps.step rfl rfl rfl (OpQ.spec (sp_move rfl (.inl rfl)) _) ?_
      refine AOps.step rfl rfl rfl (OpQ.spec (sp_assign rfl (.inl rfl)) _) ?_
      refine AOps.step rfl rfl rfl (OpQ.spec (sp_assign rfl (.inl rfl)) _) ?_
      refine AOps.nil ?_
      refine hK9 _ ?_
      refine AW.ret ?_
      exact retf2 (P := Try.prog) (fun (r : (List GSpan) × Int) => .r (.sl (r.1.map GSpan.row))) (fun (r : (List GSpan) × Int) => .r (.int .i64 r.2)) h4 (.inl rfl) (.t (.one (.nil))) (.t (.d rfl))
    · have h4 := ite_f hc2 h3
      refine AW.skip ?_
      refine hK6 _ ?_
      refine AW.seq_w fun K10 hK10 wK10 => ?_
      refine AW.region ?_
      refine AOps.step rfl rfl rfl (OpQ.spec (sp_move rfl (.inl rfl)) _) ?_
      refine AOps.step rfl rfl rfl (OpQ.spec (sp_move rfl (.inl rfl)) _) ?_
      refine AOps.step rfl rfl rfl (OpQ.spec (sp_move rfl (.inl rfl)) _) ?_
      refine ob1k h4 fun r1 er1 h5 => ?_
      refine AOps.step rfl rfl rfl (sp_callS (r := .r (.sl (r1.map GSpan.row))) (caps := []) (bs := [.r (.sl (a1.map GSpan.row)), .r (.sl (b1.map GSpan.row)), .fn 74 []]) rfl (.inl rfl) rfl ⟨.inl ⟨(.inl rfl), rfl⟩, .inl ⟨(.inl rfl), rfl⟩, .inl ⟨(.inl rfl), rfl⟩, trivial⟩ (fun _ => w_span_merged__Meet_f1 (er1))) ?_
      refine AOps.step rfl rfl rfl (OpQ.spec (sp_assign rfl (.inl rfl)) _) ?_
      refine AOps.step rfl rfl rfl (OpQ.spec (sp_assign rfl (.inl rfl)) _) ?_
      refine AOps.nil ?_
      refine hK10 _ ?_
      refine AW.ret ?_
      exact retf2 (P := Try.prog) (fun (r : (List GSpan) × Int) => .r (.sl (r.1.map GSpan.row))) (fun (r : (List GSpan) × Int) => .r (.int .i64 r.2)) h5 (.inl rfl) (.t (.d rfl)) (.t (.d rfl))
set_option maxHeartbeats 4000000 in
set_option maxRecDepth 20000 in
theorem w_span_Meet {a1 : List GSpan} {b1 : List GSpan} {r : (List GSpan) × Int} (h : span_Meet a1 b1 = some r) : ARO Try.prog 23 [.r (.sl (a1.map GSpan.row)), .r (.sl (b1.map GSpan.row))] (.tup [.r (.sl (r.1.map GSpan.row)), .r (.int .i64 r.2)]) := by
  unfold span_Meet at h
  refine ARO.mkF Try.func23 rfl rfl Try.ntmps23 rfl (Nat.le_of_ble_eq_true rfl) fun n0 => ?_
  refine AW.seq_w fun K1 hK1 wK1 => ?_
  refine AW.region ?_
  refine AOps.step rfl rfl rfl (OpQ.spec (sp_assign rfl (.inl rfl)) _) ?_
  refine AOps.step rfl rfl rfl (OpQ.spec (sp_assign rfl (.inl rfl)) _) ?_
  refine AOps.nil ?_
  refine hK1 _ ?_
  refine AW.seq_w fun K2 hK2 wK2 => ?_
  refine AW.region ?_
  refine AOps.step rfl rfl rfl (OpQ.spec (sp_move rfl (.inl rfl)) _) ?_
  refine AOps.step rfl rfl rfl (OpQ.spec (sp_move rfl (.inl rfl)) _) ?_
  refine ob2k h fun r1 r2 er1 h1 => ?_
  refine AOps.step rfl rfl rfl (sp_callS (r := .tup [.r (.sl (r1.map GSpan.row)), .r (.int .i64 r2)]) (caps := []) (bs := [.r (.sl (a1.map GSpan.row)), .r (.sl (b1.map GSpan.row)), .fn 74 []]) rfl (.inl rfl) rfl ⟨.inl ⟨(.inl rfl), rfl⟩, .inl ⟨(.inl rfl), rfl⟩, .inl ⟨(.inl rfl), rfl⟩, trivial⟩ (fun _ => w_span_two__Meet_f1 (er1))) ?_
  refine AOps.step rfl rfl rfl (OpQ.spec (sp_extract (a := .r (.sl (r1.map GSpan.row))) rfl (.inl rfl) rfl) _) ?_
  refine AOps.step rfl rfl rfl (OpQ.spec (sp_extract (a := .r (.int .i64 r2)) rfl (.inl rfl) rfl) _) ?_
  refine AOps.step rfl rfl rfl (OpQ.spec (sp_assign rfl (.inl rfl)) _) ?_
  refine AOps.step rfl rfl rfl (OpQ.spec (sp_assign rfl (.inl rfl)) _) ?_
  refine AOps.nil ?_
  refine hK2 _ ?_
  refine AW.ret ?_
  exact retf2 (P := Try.prog) (fun (r : (List GSpan) × Int) => .r (.sl (r.1.map GSpan.row))) (fun (r : (List GSpan) × Int) => .r (.int .i64 r.2)) h1 (.inl rfl) (.t (.d rfl)) (.t (.d rfl))
set_option maxHeartbeats 4000000 in
set_option maxRecDepth 20000 in
theorem w_span_Minus_f1 {a1 : Bool} {b1 : Bool} {r : Bool} (h : span_Minus_f1 a1 b1 = some r) : ARO Try.prog 75 [.r (.bool a1), .r (.bool b1)] (.r (.bool r)) := by
  unfold span_Minus_f1 at h
  refine ARO.mkF Try.func75 rfl rfl Try.ntmps75 rfl (Nat.le_of_ble_eq_true rfl) fun n0 => ?_
  refine AW.seq_w fun K1 hK1 wK1 => ?_
  refine AW.region ?_
  refine AOps.step rfl rfl rfl (OpQ.spec (sp_assign rfl (.inl rfl)) _) ?_
  refine AOps.nil ?_
  refine hK1 _ ?_
  refine AW.seq_w fun K2 hK2 wK2 => ?_
  refine AW.region ?_
  refine AOps.step rfl rfl rfl (OpQ.spec (sp_move rfl (.inl rfl)) _) ?_
  refine AOps.step rfl rfl rfl (OpQ.spec (sp_move rfl (.inl rfl)) _) ?_
  refine AOps.stepW (.one rfl rfl rfl) rfl rfl (OpQ.spec (sp_move rfl (.inl rfl)) _) ?_
  refine AOps.stepW (.one rfl rfl rfl) rfl rfl (OpQ.spec (sp_not rfl (.inr ⟨_, (by exact id), rfl⟩)) _) ?_
  refine AOps.step rfl rfl rfl (OpQ.spec (sp_and rfl (.inl rfl) (.inr ⟨_, (by exact id), rfl⟩)) _) ?_
  refine AOps.step rfl rfl rfl (OpQ.spec (sp_assign rfl (.inl rfl)) _) ?_
  refine AOps.nil ?_
  refine hK2 _ ?_
  refine AW.ret ?_
  exact retf1 (P := Try.prog) (fun (r : Bool) => .r (.bool r)) h (.inl rfl) (.t (.d rfl))
set_option maxHeartbeats 4000000 in
set_option maxRecDepth 20000 in
theorem w_span_merged__Minus_f1 {a1 : List GSpan} {b1 : List GSpan} {r : (List GSpan)} (h : span_merged__Minus_f1 a1 b1 = some r) : ARO Try.prog 101 [.r (.sl (a1.map GSpan.row)), .r (.sl (b1.map GSpan.row)), .fn 75 []] (.r (.sl (r.map GSpan.row))) := by
  unfold span_merged__Minus_f1 at h
  refine ARO.mkF Try.func101 rfl rfl Try.ntmps101 rfl (Nat.le_of_ble_eq_true rfl) fun n0 => ?_
  refine AW.seq_w fun K1 hK1 wK1 => ?_
  refine AW.region ?_
  refine AOps.step rfl rfl rfl (OpQ.spec (sp_assign rfl (.inl rfl)) _) ?_
  refine AOps.nil ?_
  refine hK1 _ ?_
  refine AW.seq_w fun K2 hK2 wK2 => ?_
  refine AW.region ?_
  refine AOps.step rfl rfl rfl (OpQ.spec (sp_assign rfl (.inl rfl)) _) ?_
  refine AOps.nil ?_
  refine hK2 _ ?_
  refine AW.seq_w fun K3 hK3 wK3 => ?_
  refine AW.region ?_
  refine AOps.step rfl rfl rfl (OpQ.spec (sp_assign rfl (.inl rfl)) _) ?_
  refine AOps.step rfl rfl rfl (OpQ.spec (sp_assign rfl (.inl rfl)) _) ?_
  refine AOps.step rfl rfl rfl (OpQ.spec (sp_assign rfl (.inl rfl)) _) ?_
  refine AOps.nil ?_
  refine hK3 _ ?_
  refine AW.seq_w fun K4 hK4 wK4 => ?_
  refine AW.block ?_
  refine jb1k h fun o1 hit1 hk1 => ?_
  have J1 : ∀ (out4 : List GSpan) (i8 : Nat → Nat), o1 = out4 → K4 ⟨[(7, .own 5007 (i8 0))], [(5007, some (.arr (i8 0) 38 2 (out4.map GSpan.row)))], (i8 1), 90⟩ := by
    intro out4 i8 e
    have h1 := hk1 _ e
    refine hK4 _ ?_
    refine AW.seq_w fun K5 hK5 wK5 => ?_
    refine AW.region ?_
    refine AOps.step rfl rfl rfl (OpQ.spec (sp_move rfl (.inl rfl)) _) ?_
    refine AOps.step rfl rfl rfl (OpQ.spec (sp_assign rfl (.inl rfl)) _) ?_
    refine AOps.nil ?_
    refine hK5 _ ?_
    refine AW.ret ?_
    exact retf1 (P := Try.prog) (fun (r : (List GSpan)) => .r (.sl (r.map GSpan.row))) h1 (.inl rfl) (.t (.one (.own rfl)))
  refine AW.iter4 (fun (at2 : Int) (i4 : Int) (j2 : Int) (out2 : List GSpan) i5 => ⟨[(0, .r (.sl (a1.map GSpan.row))), (1, .r (.sl (b1.map GSpan.row))), (2, .fn 75 []), (7, .own 5007 (i5 0)), (8, .r (.int .i64 at2)), (9, .r (.int .i64 i4)), (10, .r (.int .i64 j2))], [(5007, some (.arr (i5 0) 38 2 (out2.map GSpan.row)))], (i5 1), 90⟩) (vec [n0, (n0 + 1)]) hit1 (Weak.trans (Weak.trans (Weak.adopt 7 5007 38 2 (by decide) rfl) (by exact Weak.cv (e' := [(0, .r (.sl (a1.map GSpan.row))), (1, .r (.sl (b1.map GSpan.row))), (2, .fn 75 []), (6, .cst (.slice none 0 0)), (7, .own 5007 n0), (8, .r (.int .i64 0)), (9, .r (.int .i64 0)), (10, .r (.int .i64 0))]) (h' := [(5007, some (.arr n0 38 2 (([] : List GSpan).map GSpan.row)))]) ⟨.inl (.inl rfl), .inl (.inl rfl), .inl (.inl rfl), .inl (.inl rfl), .inl (.inl rfl), .inl (.inl rfl), .inl (.inl rfl), .inl (.inl rfl), trivial⟩ ⟨.inl rfl, trivial⟩ (Nat.le_refl _))) (by exact Weak.cv ⟨.inl (.inl rfl), .inl (.inl rfl), .inl (.inl rfl), .inl (.inl rfl), .inl (.inl rfl), .inl (.inl rfl), .inl (.inl rfl), trivial⟩ ⟨.inl rfl, trivial⟩ (Nat.le_refl _))) ?_
  intro at2 i4 j2 out2 i5 v1 hv1 hx1
  have h2 : span_merged__Minus_f1_L1 a1 b1 at2 i4 j2 out2 = some v1 := hv1; unfold span_merged__Minus_f1_L1 at h2
  refine AW.seq_w fun K6 hK6 wK6 => ?_
  refine AW.seq_w fun K7 hK7 wK7 => ?_
  refine AW.region ?_
  refine AOps.step rfl rfl rfl (OpQ.spec (sp_move rfl (.inl rfl)) _) ?_
  refine AOps.step rfl rfl rfl (OpQ.spec (sp_move rfl (.inl rfl)) _) ?_
  refine AOps.step rfl rfl rfl (OpQ.spec (ms_len rfl tg_31.slice (.inl rfl)) _) ?_
  refine ob1k h2 fun x1 ex1 h3 => ?_
  refine AOps.step rfl rfl rfl (OpQ.spec (ms_mul rfl (.inl rfl) (.inl rfl) (fun _ => ex1)) _) ?_
  refine AOps.step rfl rfl rfl (OpQ.spec (sp_lss rfl (.inl rfl) (.inl rfl)) _) ?_
  refine AOps.step rfl rfl rfl (OpQ.spec (sp_move rfl (.inl rfl)) _) ?_
  refine AOps.stepW (.one rfl rfl rfl) rfl rfl (OpQ.spec (sp_move rfl (.inl rfl)) _) ?_
  refine AOps.stepW (.one rfl rfl rfl) rfl rfl (OpQ.spec (sp_move rfl (.inl rfl)) _) ?_
  refine AOps.stepW (.one rfl rfl rfl) rfl rfl (OpQ.spec (ms_len rfl tg_31.slice (.inr ⟨_, (by exact id), rfl⟩)) _) ?_
  refine ob1k h3 fun x2 ex2 h4 => ?_
  refine AOps.stepW (.one rfl rfl rfl) rfl rfl (OpQ.spec (ms_mul rfl (.inl rfl) (.inr ⟨_, (by exact id), rfl⟩) (gdt ex2)) _) ?_
  refine AOps.stepW (.one rfl rfl rfl) rfl rfl (OpQ.spec (sp_lss rfl (.inr ⟨_, (by exact id), rfl⟩) (.inr ⟨_, (by exact id), rfl⟩)) _) ?_
  refine AOps.step rfl rfl rfl (OpQ.spec (sp_or rfl (.inl rfl) (.inr ⟨_, (by exact id), rfl⟩)) _) ?_
  refine AOps.nil ?_
  refine hK7 _ ?_
  refine AW.cond rfl (fun hc1 => ?_) (fun hc1 => ?_)
  · have h5 := ite_t hc1 h4
    refine AW.skip ?_
    refine hK6 _ ?_
    refine AW.block ?_
    refine AW.seq_w fun K8 hK8 wK8 => ?_
    refine AW.region ?_
    refine AOps.step rfl rfl rfl (OpQ.spec (sp_assign rfl (.inl rfl)) _) ?_
    refine AOps.nil ?_
    refine hK8 _ ?_
    refine AW.seq_w fun K9 hK9 wK9 => ?_
    refine AW.seq_w fun K10 hK10 wK10 => ?_
    refine AW.region ?_
    refine AOps.step rfl rfl rfl (OpQ.spec (sp_move rfl (.inl rfl)) _) ?_
    refine AOps.step rfl rfl rfl (OpQ.spec (sp_move rfl (.inl rfl)) _) ?_
    refine AOps.step rfl rfl rfl (OpQ.spec (ms_len rfl tg_31.slice (.inl rfl)) _) ?_
    refine AOps.step rfl rfl rfl (OpQ.spec (ms_mul rfl (.inl rfl) (.inl rfl) (fun _ => ex1)) _) ?_
    refine AOps.step rfl rfl rfl (OpQ.spec (sp_lss rfl (.inl rfl) (.inl rfl)) _) ?_
    refine AOps.nil ?_
    refine hK10 _ ?_
    refine jb1k h5 fun p1 hp1 hk2 => ?_
    have J2 : ∀ (next1 : Int) (i9 : Nat → Nat), p1 = next1 → K9 ⟨[(0, .r (.sl (a1.map GSpan.row))), (1, .r (.sl (b1.map GSpan.row))), (2, .fn 75 []), (7, .own 5007 (i5 0)), (8, .r (.int .i64 at2)), (9, .r (.int .i64 i4)), (10, .r (.int .i64 j2)), (11, .r (.int .i64 next1))], [(5007, some (.arr (i5 0) 38 2 (out2.map GSpan.row)))], (i9 0), 90⟩ := by
      intro next1 i9 e
      have h6 := hk2 _ e
      refine hK9 _ ?_
      refine AW.seq_w fun K11 hK11 wK11 => ?_
      refine AW.seq_w fun K12 hK12 wK12 => ?_
      refine AW.region ?_
      refine AOps.step rfl rfl rfl (OpQ.spec (sp_move rfl (.inl rfl)) _) ?_
      refine AOps.step rfl rfl rfl (OpQ.spec (sp_move rfl (.inl rfl)) _) ?_
      refine AOps.step rfl rfl rfl (OpQ.spec (ms_len rfl tg_31.slice (.inl rfl)) _) ?_
      refine ob1k h6 fun x3 ex3 h7 => ?_
      refine AOps.step rfl rfl rfl (OpQ.spec (ms_mul rfl (.inl rfl) (.inl rfl) (fun _ => ex3)) _) ?_
      refine AOps.step rfl rfl rfl (OpQ.spec (sp_lss rfl (.inl rfl) (.inl rfl)) _) ?_
      refine AOps.nil ?_
      refine hK12 _ ?_
      refine jb1k h7 fun p2 hp2 hk3 => ?_
      have J3 : ∀ (next2 : Int) (i10 : Nat → Nat), p2 = next2 → K11 ⟨[(0, .r (.sl (a1.map GSpan.row))), (1, .r (.sl (b1.map GSpan.row))), (2, .fn 75 []), (7, .own 5007 (i5 0)), (8, .r (.int .i64 at2)), (9, .r (.int .i64 i4)), (10, .r (.int .i64 j2)), (11, .r (.int .i64 next2))], [(5007, some (.arr (i5 0) 38 2 (out2.map GSpan.row)))], (i10 0), 90⟩ := by
        intro next2 i10 e
        have h8 := hk3 _ e
        refine hK11 _ ?_
        refine AW.seq_w fun K13 hK13 wK13 => ?_
        refine AW.seq_w fun K14 hK14 wK14 => ?_
        refine AW.region ?_
        refine AOps.step rfl rfl rfl (OpQ.spec (sp_move rfl (.inl rfl)) _) ?_
        refine AOps.step rfl rfl rfl (OpQ.spec (sp_move rfl (.inl rfl)) _) ?_
        refine AOps.step rfl rfl rfl (OpQ.spec (sp_lss rfl (.inl rfl) (.inl rfl)) _) ?_
        refine AOps.step rfl rfl rfl (OpQ.spec (sp_move rfl (.inl rfl)) _) ?_
        refine AOps.stepW (.one rfl rfl rfl) rfl rfl (OpQ.spec (sp_move rfl (.inl rfl)) _) ?_
        refine AOps.stepW (.one rfl rfl rfl) rfl rfl (OpQ.spec (sp_move rfl (.inl rfl)) _) ?_
        refine ob1k h8 fun x4 ex4 h9 => ?_
        refine AOps.stepW (.one rfl rfl rfl) rfl rfl (OpQ.spec (ms_rem rfl (.inr ⟨_, (by exact id), rfl⟩) (.inl rfl) (gdt ex4)) _) ?_
        refine AOps.stepW (.one rfl rfl rfl) rfl rfl (OpQ.spec (sp_eql rfl (.inr ⟨_, (by exact id), rfl⟩) (.inl rfl)) _) ?_
        refine AOps.stepW (.one rfl rfl rfl) rfl rfl (OpQ.spec (sp_move rfl (.inl rfl)) _) ?_
        refine ob1k h9 fun x5 ex5 h10 => ?_
        refine AOps.stepW (.one rfl rfl rfl) rfl rfl (OpQ.spec (ms_rem rfl (.inr ⟨_, (by exact id), rfl⟩) (.inl rfl) (gdt ex5)) _) ?_
        refine AOps.stepW (.one rfl rfl rfl) rfl rfl (OpQ.spec (sp_eql rfl (.inr ⟨_, (by exact id), rfl⟩) (.inl rfl)) _) ?_
        refine ob1k h10 fun r1 er1 h11 => ?_
        refine AOps.stepW (.one rfl rfl rfl) rfl rfl (sp_call (r := .r (.bool r1)) (caps := []) (bs := [.r (.bool (decide (x4 = 1))), .r (.bool (decide (x5 = 1)))]) rfl (.inr ⟨_, (by exact id), rfl⟩) rfl ⟨⟨_, (.inr ⟨_, (by exact id), rfl⟩), .d rfl⟩, ⟨_, (.inr ⟨_, (by exact id), rfl⟩), .d rfl⟩, trivial⟩ (fun hg => w_span_Minus_f1 (gdt er1 hg)) rfl) ?_
        refine AOps.step rfl rfl rfl (OpQ.spec (sp_and rfl (.inl rfl) (.inr ⟨_, (by exact id), rfl⟩)) _) ?_
        refine AOps.nil ?_
        refine hK14 _ ?_
        refine jb1k h11 fun p3 hp3 hk4 => ?_
        have J4 : ∀ (out5 : List GSpan) (i11 : Nat → Nat), p3 = out5 → K13 ⟨[(0, .r (.sl (a1.map GSpan.row))), (1, .r (.sl (b1.map GSpan.row))), (2, .fn 75 []), (7, .own 5007 (i11 0)), (9, .r (.int .i64 i4)), (10, .r (.int .i64 j2)), (11, .r (.int .i64 next2))], [(5007, some (.arr (i11 0) 38 2 (out5.map GSpan.row)))], (i11 1), 90⟩ := by
          intro out5 i11 e
          have h12 := hk4 _ e
          refine hK13 _ ?_
          refine AW.seq_w fun K15 hK15 wK15 => ?_
          refine AW.region ?_
          refine AOps.step rfl rfl rfl (OpQ.spec (sp_move rfl (.inl rfl)) _) ?_
          refine AOps.step rfl rfl rfl (OpQ.spec (sp_assign rfl (.inl rfl)) _) ?_
          refine AOps.nil ?_
          refine hK15 _ ?_
          refine AW.seq_w fun K16 hK16 wK16 => ?_
          refine AW.block ?_
          refine jb1k h12 fun o2 hit2 hk5 => ?_
          have J5 : ∀ (i19 : Int) (i20 : Nat → Nat), o2 = i19 → K16 ⟨[(0, .r (.sl (a1.map GSpan.row))), (1, .r (.sl (b1.map GSpan.row))), (2, .fn 75 []), (7, .own 5007 (i11 0)), (8, .r (.int .i64 next2)), (9, .r (.int .i64 i19)), (10, .r (.int .i64 j2))], [(5007, some (.arr (i11 0) 38 2 (out5.map GSpan.row)))], (i20 0), 90⟩ := by
            intro i19 i20 e
            have h13 := hk5 _ e
            refine hK16 _ ?_
            refine AW.block ?_
            refine jc1k h13 fun o3 hit3 hk6 he6 => ?_
            refine AW.iter1 (fun (j5 : Int) i23 => ⟨[(0, .r (.sl (a1.map GSpan.row))), (1, .r (.sl (b1.map GSpan.row))), (2, .fn 75 []), (7, .own 5007 (i11 0)), (8, .r (.int .i64 next2)), (9, .r (.int .i64 i19)), (10, .r (.int .i64 j5))], [(5007, some (.arr (i11 0) 38 2 (out5.map GSpan.row)))], (i23 0), 90⟩) (vec [(i20 0)]) hit3 ((by exact Weak.cv ⟨.inl (.inl rfl), .inl (.inl rfl), .inl (.inl rfl), .inl (.inl rfl), .inl (.inl rfl), .inl (.inl rfl), .inl (.inl rfl), trivial⟩ ⟨.inl rfl, trivial⟩ (Nat.le_refl _))) ?_
            intro j5 i23 v2 hv2 hx3
            have h14 : span_merged__Minus_f1_L3 b1 x3 next2 out5 i19 j5 = some v2 := hv2; unfold span_merged__Minus_f1_L3 at h14
            refine AW.seq_w fun K17 hK17 wK17 => ?_
            refine AW.seq_w fun K18 hK18 wK18 => ?_
            refine AW.region ?_
            refine AOps.step rfl rfl rfl (OpQ.spec (sp_move rfl (.inl rfl)) _) ?_
            refine AOps.step rfl rfl rfl (OpQ.spec (sp_move rfl (.inl rfl)) _) ?_
            refine AOps.step rfl rfl rfl (OpQ.spec (ms_len rfl tg_31.slice (.inl rfl)) _) ?_
            refine AOps.step rfl rfl rfl (OpQ.spec (ms_mul rfl (.inl rfl) (.inl rfl) (fun _ => ex3)) _) ?_
            refine AOps.step rfl rfl rfl (OpQ.spec (sp_lss rfl (.inl rfl) (.inl rfl)) _) ?_
            refine AOps.step rfl rfl rfl (OpQ.spec (sp_move rfl (.inl rfl)) _) ?_
            refine AOps.stepW (.one rfl rfl rfl) rfl rfl (OpQ.spec (sp_move rfl (.inl rfl)) _) ?_
            refine AOps.stepW (.one rfl rfl rfl) rfl rfl (OpQ.spec (sp_move rfl (.inl rfl)) _) ?_
            refine ob1k h14 fun r2 er2 h15 => ?_
            refine AOps.stepW (.one rfl rfl rfl) rfl rfl (sp_call (r := .r (.int .i64 r2)) (caps := []) (bs := [.r (.sl (b1.map GSpan.row)), .r (.int .i64 j5)]) rfl (.inl rfl) rfl ⟨⟨_, (.inr ⟨_, (by exact id), rfl⟩), .d rfl⟩, ⟨_, (.inr ⟨_, (by exact id), rfl⟩), .d rfl⟩, trivial⟩ (fun hg => w_span_end (gdt er2 hg)) rfl) ?_
            refine AOps.stepW (.one rfl rfl rfl) rfl rfl (OpQ.spec (sp_move rfl (.inl rfl)) _) ?_
            refine AOps.stepW (.one rfl rfl rfl) rfl rfl (OpQ.spec (sp_eql rfl (.inr ⟨_, (by exact id), rfl⟩) (.inr ⟨_, (by exact id), rfl⟩)) _) ?_
            refine AOps.step rfl rfl rfl (OpQ.spec (sp_and rfl (.inl rfl) (.inr ⟨_, (by exact id), rfl⟩)) _) ?_
            refine AOps.nil ?_
            refine hK18 _ ?_
            refine AW.cond rfl (fun hc2 => ?_) (fun hc2 => ?_)
            · have h16 := ite_t hc2 h15
              refine AW.skip ?_
              refine hK17 _ ?_
              refine AW.block ?_
              refine AW.region ?_
              refine AOps.step rfl rfl rfl (OpQ.spec (sp_move rfl (.inl rfl)) _) ?_
              refine ob1k h16 fun j7 ej7 h17 => ?_
              refine AOps.step rfl rfl rfl (OpQ.spec (ms_add rfl (.inl rfl) (.inl rfl) (fun _ => ej7)) _) ?_
              refine AOps.step rfl rfl rfl (OpQ.spec (sp_assign rfl (.inl rfl)) _) ?_
              refine AOps.nil ?_
              exact NextQ1.mk h17 (vec [(i23 0)]) ((by exact Weak.cv ⟨.inl (.inl rfl), .inl (.inl rfl), .inl (.inl rfl), .inl (.inl rfl), .inl (.inl rfl), .inl (.inl rfl), .inl (.inl rfl), trivial⟩ ⟨.inl rfl, trivial⟩ (Nat.le_refl _)))
            · have h16 := ite_f hc2 h15
              refine AW.exit ?_
              exact NextQ4.mk (he6 _ (hx3 _ (Option.some.inj h16).symm)) (vec [(i11 0), (i23 0)]) ((by exact Weak.cv ⟨.inl (.inl rfl), .inl (.inl rfl), .inl (.inl rfl), .inl (.inl rfl), .inl (.inl rfl), .inl (.inl rfl), .inl (.inl rfl), trivial⟩ ⟨.inl rfl, trivial⟩ (Nat.le_refl _)))
          refine AW.iter1 (fun (i15 : Int) i16 => ⟨[(0, .r (.sl (a1.map GSpan.row))), (1, .r (.sl (b1.map GSpan.row))), (2, .fn 75 []), (7, .own 5007 (i11 0)), (8, .r (.int .i64 next2)), (9, .r (.int .i64 i15)), (10, .r (.int .i64 j2))], [(5007, some (.arr (i11 0) 38 2 (out5.map GSpan.row)))], (i16 0), 90⟩) (vec [(i11 1)]) hit2 ((by exact Weak.cv ⟨.inl (.inl rfl), .inl (.inl rfl), .inl (.inl rfl), .inl (.inl rfl), .inl (.inl rfl), .inl (.inl rfl), .inl (.inl rfl), trivial⟩ ⟨.inl rfl, trivial⟩ (Nat.le_refl _))) ?_
          intro i15 i16 v3 hv3 hx2
          have h18 : span_merged__Minus_f1_L2 a1 x1 next2 i15 = some v3 := hv3; unfold span_merged__Minus_f1_L2 at h18
          refine AW.seq_w fun K19 hK19 wK19 => ?_
          refine AW.seq_w fun K20 hK20 wK20 => ?_
          refine AW.region ?_
          refine AOps.step rfl rfl rfl (OpQ.spec (sp_move rfl (.inl rfl)) _) ?_
          refine AOps.step rfl rfl rfl (OpQ.spec (sp_move rfl (.inl rfl)) _) ?_
          refine AOps.step rfl rfl rfl (OpQ.spec (ms_len rfl tg_31.slice (.inl rfl)) _) ?_
          refine AOps.step rfl rfl rfl (OpQ.spec (ms_mul rfl (.inl rfl) (.inl rfl) (fun _ => ex1)) _) ?_
          refine AOps.step rfl rfl rfl (OpQ.spec (sp_lss rfl (.inl rfl) (.inl rfl)) _) ?_
          refine AOps.step rfl rfl rfl (OpQ.spec (sp_move rfl (.inl rfl)) _) ?_
          refine AOps.stepW (.one rfl rfl rfl) rfl rfl (OpQ.spec (sp_move rfl (.inl rfl)) _) ?_
          refine AOps.stepW (.one rfl rfl rfl) rfl rfl (OpQ.spec (sp_move rfl (.inl rfl)) _) ?_
          refine ob1k h18 fun r3 er3 h19 => ?_
          refine AOps.stepW (.one rfl rfl rfl) rfl rfl (sp_call (r := .r (.int .i64 r3)) (caps := []) (bs := [.r (.sl (a1.map GSpan.row)), .r (.int .i64 i15)]) rfl (.inl rfl) rfl ⟨⟨_, (.inr ⟨_, (by exact id), rfl⟩), .d rfl⟩, ⟨_, (.inr ⟨_, (by exact id), rfl⟩), .d rfl⟩, trivial⟩ (fun hg => w_span_end (gdt er3 hg)) rfl) ?_
          refine AOps.stepW (.one rfl rfl rfl) rfl rfl (OpQ.spec (sp_move rfl (.inl rfl)) _) ?_
          refine AOps.stepW (.one rfl rfl rfl) rfl rfl (OpQ.spec (sp_eql rfl (.inr ⟨_, (by exact id), rfl⟩) (.inr ⟨_, (by exact id), rfl⟩)) _) ?_
          refine AOps.step rfl rfl rfl (OpQ.spec (sp_and rfl (.inl rfl) (.inr ⟨_, (by exact id), rfl⟩)) _) ?_
          refine AOps.nil ?_
          refine hK20 _ ?_
          refine AW.cond rfl (fun hc3 => ?_) (fun hc3 => ?_)
          · have h20 := ite_t hc3 h19
            refine AW.skip ?_
            refine hK19 _ ?_
            refine AW.block ?_
            refine AW.region ?_
            refine AOps.step rfl rfl rfl (OpQ.spec (sp_move rfl (.inl rfl)) _) ?_
            refine ob1k h20 fun i25 ei25 h21 => ?_
            refine AOps.step rfl rfl rfl (OpQ.spec (ms_add rfl (.inl rfl) (.inl rfl) (fun _ => ei25)) _) ?_
            refine AOps.step rfl rfl rfl (OpQ.spec (sp_assign rfl (.inl rfl)) _) ?_
            refine AOps.nil ?_
            exact NextQ1.mk h21 (vec [(i16 0)]) ((by exact Weak.cv ⟨.inl (.inl rfl), .inl (.inl rfl), .inl (.inl rfl), .inl (.inl rfl), .inl (.inl rfl), .inl (.inl rfl), .inl (.inl rfl), trivial⟩ ⟨.inl rfl, trivial⟩ (Nat.le_refl _)))
          · have h20 := ite_f hc3 h19
            refine AW.exit ?_
            exact wK16 _ _ ((by exact Weak.cv ⟨.inl (.inl rfl), .inl (.inl rfl), .inl (.inl rfl), .inl (.inl rfl), .inl (.inl rfl), .inl (.inl rfl), .inl (.inl rfl), trivial⟩ ⟨.inl rfl, trivial⟩ (Nat.le_refl _))) (J5 _ (vec [(i16 0)]) (hx2 _ (Option.some.inj h20).symm))
        refine AW.cond rfl (fun hc4 => ?_) (fun hc4 => ?_)
        · have h22 := ite_t hc4 hp3
          refine AW.region ?_
          refine AOps.step rfl rfl rfl (OpQ.spec (sp_move rfl (.inl rfl)) _) ?_
          refine AOps.step rfl rfl rfl (OpQ.spec (sp_move rfl (.inl rfl)) _) ?_
          refine AOps.step rfl rfl rfl (OpQ.spec (sp_move rfl (.inl rfl)) _) ?_
          refine AOps.step rfl rfl rfl (OpQ.spec (sp_build rfl tb_38 (q := [(0, _), (1, _)]) (by exact ⟨rfl, rfl, rfl, (.inl rfl), rfl, rfl, rfl, (.inl rfl), trivial⟩) (cs := [.r (.int .i64 at2), .r (.int .i64 next2)]) (by rfl)) _) ?_
          refine ob1k h22 fun w1 ew1 h23 => ?_
          refine AOps.stepHI [5007] (hc := [(1000, some (.arr (i5 0) 38 2 (out2.map GSpan.row)))]) (bs := [.own 1000 (i5 0), .agg [.r (.int .i64 at2), .r (.int .i64 next2)]]) (caps := []) rfl rfl rfl rfl (.inl rfl) rfl ⟨.inl ⟨(.inl rfl), rfl⟩, .inl ⟨(.inl rfl), rfl⟩, trivial⟩ ⟨rfl, rfl, rfl, trivial⟩ (by decide) (w_span_add ew1) ?_
          intro i26 n1
          refine AOps.weak (s' := ⟨[(0, .r (.sl (a1.map GSpan.row))), (1, .r (.sl (b1.map GSpan.row))), (2, .fn 75 []), (8, .r (.int .i64 at2)), (9, .r (.int .i64 i4)), (10, .r (.int .i64 j2)), (11, .r (.int .i64 next2)), (42, .r (.int .i64 at2)), (43, .r (.int .i64 next2)), (44, .r (.bool (decide (at2 < next2)))), (45, .r (.bool (decide (at2 < next2)))), (54, .r (.bool ((decide (at2 < next2)) && r1))), (56, .r (.int .i64 at2)), (57, .r (.int .i64 next2)), (58, .agg [.r (.int .i64 at2), .r (.int .i64 next2)]), (59, .own 5007 (i26 0))], [(5007, some (.arr (i26 0) 38 2 (w1.map GSpan.row)))], n1, 90⟩) (by exact Weak.cv ⟨.inl (.inl rfl), .inl (.inl rfl), .inl (.inl rfl), .inl (.inl rfl), .inl (.inl rfl), .inl (.inl rfl), .inl (.inl rfl), .inl (.inl rfl), .inl (.inl rfl), .inl (.inl rfl), .inl (.inl rfl), .inl (.inl rfl), .inl (.inl rfl), .inl (.inl rfl), .inl (.inl rfl), .inl (.inl rfl), trivial⟩ ⟨.inl rfl, trivial⟩ (Nat.le_refl _)) ?_
          refine AOps.step rfl rfl rfl (OpQ.spec (sp_assign rfl (.inl rfl)) _) ?_
          refine AOps.nil ?_
          exact wK13 _ _ ((by exact Weak.cv ⟨.inl (.inl rfl), .inl (.inl rfl), .inl (.inl rfl), .inl (.inl rfl), .inl (.inl rfl), .inl (.inl rfl), .inl (.inl rfl), trivial⟩ ⟨.inl rfl, trivial⟩ (Nat.le_refl _))) (J4 _ (vec [(i26 0), n1]) (Option.some.inj h23).symm)
        · have h22 := ite_f hc4 hp3
          refine AW.skip ?_
          exact wK13 _ _ ((by exact Weak.cv ⟨.inl (.inl rfl), .inl (.inl rfl), .inl (.inl rfl), .inl (.inl rfl), .inl (.inl rfl), .inl (.inl rfl), .inl (.inl rfl), trivial⟩ ⟨.inl rfl, trivial⟩ (Nat.le_refl _))) (J4 _ (vec [(i5 0), (i10 0)]) (Option.some.inj h22).symm)
      refine AW.cond rfl (fun hc5 => ?_) (fun hc5 => ?_)
      · have h24 := ite_t hc5 hp2
        refine AW.region ?_
        refine AOps.step rfl rfl rfl (OpQ.spec (sp_move rfl (.inl rfl)) _) ?_
        refine AOps.step rfl rfl rfl (OpQ.spec (sp_move rfl (.inl rfl)) _) ?_
        refine AOps.step rfl rfl rfl (OpQ.spec (sp_move rfl (.inl rfl)) _) ?_
        refine ob1k h24 fun r4 er4 h25 => ?_
        refine AOps.step rfl rfl rfl (sp_call (r := .r (.int .i64 r4)) (caps := []) (bs := [.r (.sl (b1.map GSpan.row)), .r (.int .i64 j2)]) rfl (.inl rfl) rfl ⟨⟨_, (.inl rfl), .d rfl⟩, ⟨_, (.inl rfl), .d rfl⟩, trivial⟩ (fun _ => w_span_end (er4)) rfl) ?_
        refine AOps.step rfl rfl rfl (OpQ.spec (sp_min rfl (.inl rfl) (.inl rfl)) _) ?_
        refine AOps.step rfl rfl rfl (OpQ.spec (sp_assign rfl (.inl rfl)) _) ?_
        refine AOps.nil ?_
        exact wK11 _ _ ((by exact Weak.cv ⟨.inl (.inl rfl), .inl (.inl rfl), .inl (.inl rfl), .inl (.inl rfl), .inl (.inl rfl), .inl (.inl rfl), .inl (.inl rfl), .inl (.inl rfl), trivial⟩ ⟨.inl rfl, trivial⟩ (Nat.le_refl _))) (J3 _ (vec [(i9 0)]) (Option.some.inj h25).symm)
      · have h24 := ite_f hc5 hp2
        refine AW.skip ?_
        exact wK11 _ _ ((by exact Weak.cv ⟨.inl (.inl rfl), .inl (.inl rfl), .inl (.inl rfl), .inl (.inl rfl), .inl (.inl rfl), .inl (.inl rfl), .inl (.inl rfl), .inl (.inl rfl), trivial⟩ ⟨.inl rfl, trivial⟩ (Nat.le_refl _))) (J3 _ (vec [(i9 0)]) (Option.some.inj h24).symm)
    refine AW.cond rfl (fun hc6 => ?_) (fun hc6 => ?_)
    · have h26 := ite_t hc6 hp1
      refine AW.weak (s' := ⟨[(0, .r (.sl (a1.map GSpan.row))), (1, .r (.sl (b1.map GSpan.row))), (2, .fn 75 []), (7, .own 5007 (i5 0)), (8, .r (.int .i64 at2)), (9, .r (.int .i64 i4)), (10, .r (.int .i64 j2))], [(5007, some (.arr (i5 0) 38 2 (out2.map GSpan.row)))], (i5 1), 90⟩) (by exact Weak.cv ⟨.inl (.inl rfl), .inl (.inl rfl), .inl (.inl rfl), .inl (.inl rfl), .inl (.inl rfl), .inl (.inl rfl), .inl (.inl rfl), trivial⟩ ⟨.inl rfl, trivial⟩ (Nat.le_refl _)) ?_
      refine AW.region ?_
      refine AOps.step rfl rfl rfl (OpQ.spec (sp_move rfl (.inl rfl)) _) ?_
      refine AOps.step rfl rfl rfl (OpQ.spec (sp_move rfl (.inl rfl)) _) ?_
      refine ob1k h26 fun next3 enext3 h27 => ?_
      refine AOps.step rfl rfl rfl (sp_call (r := .r (.int .i64 next3)) (caps := []) (bs := [.r (.sl (a1.map GSpan.row)), .r (.int .i64 i4)]) rfl (.inl rfl) rfl ⟨⟨_, (.inl rfl), .d rfl⟩, ⟨_, (.inl rfl), .d rfl⟩, trivial⟩ (fun _ => w_span_end (enext3)) rfl) ?_
      refine AOps.step rfl rfl rfl (OpQ.spec (sp_assign rfl (.inl rfl)) _) ?_
      refine AOps.nil ?_
      exact wK9 _ _ ((by exact Weak.cv ⟨.inl (.inl rfl), .inl (.inl rfl), .inl (.inl rfl), .inl (.inl rfl), .inl (.inl rfl), .inl (.inl rfl), .inl (.inl rfl), .inl (.inl rfl), trivial⟩ ⟨.inl rfl, trivial⟩ (Nat.le_refl _))) (J2 _ (vec [(i5 1)]) (Option.some.inj h27).symm)
    · have h26 := ite_f hc6 hp1
      refine AW.skip ?_
      exact wK9 _ _ ((by exact Weak.cv ⟨.inl (.inl rfl), .inl (.inl rfl), .inl (.inl rfl), .inl (.inl rfl), .inl (.inl rfl), .inl (.inl rfl), .inl (.inl rfl), .inl (.inl rfl), trivial⟩ ⟨.inl rfl, trivial⟩ (Nat.le_refl _))) (J2 _ (vec [(i5 1)]) (Option.some.inj h26).symm)
  · have h5 := ite_f hc1 h4
    refine AW.exit ?_
    exact wK4 _ _ ((by exact Weak.cv ⟨.inl (.inl rfl), trivial⟩ ⟨.inl rfl, trivial⟩ (Nat.le_refl _))) (J1 _ (vec [(i5 0), (i5 1)]) (hx1 _ (Option.some.inj h5).symm))
set_option maxHeartbeats 4000000 in
set_option maxRecDepth 20000 in
theorem w_span_two__Minus_f1 {a1 : List GSpan} {b1 : List GSpan} {r : (List GSpan) × Int} (h : span_two__Minus_f1 a1 b1 = some r) : ARO Try.prog 72 [.r (.sl (a1.map GSpan.row)), .r (.sl (b1.map GSpan.row)), .fn 75 []] (.tup [.r (.sl (r.1.map GSpan.row)), .r (.int .i64 r.2)]) := by
  unfold span_two__Minus_f1 at h
  refine ARO.mkF Try.func72 rfl rfl Try.ntmps72 rfl (Nat.le_of_ble_eq_true rfl) fun n0 => ?_
  refine AW.seq_w fun K1 hK1 wK1 => ?_
  refine AW.region ?_
  refine AOps.step rfl rfl rfl (OpQ.spec (sp_assign rfl (.inl rfl)) _) ?_
  refine AOps.step rfl rfl rfl (OpQ.spec (sp_assign rfl (.inl rfl)) _) ?_
  refine AOps.nil ?_
  refine hK1 _ ?_
  refine AW.seq_w fun K2 hK2 wK2 => ?_
  refine AW.seq_w fun K3 hK3 wK3 => ?_
  refine AW.region ?_
  refine AOps.step rfl rfl rfl (OpQ.spec (sp_move rfl (.inl rfl)) _) ?_
  refine ob1k h fun e1 ee1 h1 => ?_
  refine AOps.step rfl rfl rfl (sp_call (r := .r (.int .i64 e1)) (caps := []) (bs := [.r (.sl (a1.map GSpan.row))]) rfl (.inl rfl) rfl ⟨⟨_, (.inl rfl), .d rfl⟩, trivial⟩ (fun _ => w_span_Check (ee1)) rfl) ?_
  refine AOps.step rfl rfl rfl (OpQ.spec (sp_assign rfl (.inl rfl)) _) ?_
  refine AOps.nil ?_
  refine hK3 _ ?_
  refine AW.seq_w fun K4 hK4 wK4 => ?_
  refine AW.region ?_
  refine AOps.step rfl rfl rfl (OpQ.spec (sp_move rfl (.inl rfl)) _) ?_
  refine AOps.step rfl rfl rfl (OpQ.spec (sp_neq rfl (.inl rfl) (.inl rfl)) _) ?_
  refine AOps.nil ?_
  refine hK4 _ ?_
  refine AW.cond rfl (fun hc1 => ?_) (fun hc1 => ?_)
  · have h2 := ite_t hc1 h1
    refine AW.seq_w fun K5 hK5 wK5 => ?_
    refine AW.weak (s' := ⟨[(8, .r (.int .i64 e1))], [], n0, 24⟩) (by exact Weak.cv ⟨.inl (.inl rfl), trivial⟩ trivial (Nat.le_refl _)) ?_
    refine AW.region ?_
    refine AOps.step rfl rfl rfl (OpQ.spec (sp_move rfl (.inl rfl)) _) ?_
    refine AOps.step rfl rfl rfl (OpQ.spec (sp_assign rfl (.inl rfl)) _) ?_
    refine AOps.step rfl rfl rfl (OpQ.spec (sp_assign rfl (.inl rfl)) _) ?_
    refine AOps.nil ?_
    refine hK5 _ ?_
    refine AW.ret ?_
    exact retf2 (P := Try.prog) (fun (r : (List GSpan) × Int) => .r (.sl (r.1.map GSpan.row))) (fun (r : (List GSpan) × Int) => .r (.int .i64 r.2)) h2 (.inl rfl) (.t (.one (.nil))) (.t (.d rfl))
  · have h2 := ite_f hc1 h1
    refine AW.skip ?_
    refine hK2 _ ?_
    refine AW.seq_w fun K6 hK6 wK6 => ?_
    refine AW.seq_w fun K7 hK7 wK7 => ?_
    refine AW.region ?_
    refine AOps.step rfl rfl rfl (OpQ.spec (sp_move rfl (.inl rfl)) _) ?_
    refine ob1k h2 fun e2 ee2 h3 => ?_
    refine AOps.step rfl rfl rfl (sp_call (r := .r (.int .i64 e2)) (caps := []) (bs := [.r (.sl (b1.map GSpan.row))]) rfl (.inl rfl) rfl ⟨⟨_, (.inl rfl), .d rfl⟩, trivial⟩ (fun _ => w_span_Check (ee2)) rfl) ?_
    refine AOps.step rfl rfl rfl (OpQ.spec (sp_assign rfl (.inl rfl)) _) ?_
    refine AOps.nil ?_
    refine hK7 _ ?_
    refine AW.seq_w fun K8 hK8 wK8 => ?_
    refine AW.weak (s' := ⟨[(0, .r (.sl (a1.map GSpan.row))), (1, .r (.sl (b1.map GSpan.row))), (2, .fn 75 []), (9, .r (.int .i64 e2))], [], n0, 24⟩) (by exact Weak.cv ⟨.inl (.inl rfl), .inl (.inl rfl), .inl (.inl rfl), .inl (.inl rfl), trivial⟩ trivial (Nat.le_refl _)) ?_
    refine AW.region ?_
    refine AOps.step rfl rfl rfl (OpQ.spec (sp_move rfl (.inl rfl)) _) ?_
    refine AOps.step rfl rfl rfl (OpQ.spec (sp_neq rfl (.inl rfl) (.inl rfl)) _) ?_
    refine AOps.nil ?_
    refine hK8 _ ?_
    refine AW.cond rfl (fun hc2 => ?_) (fun hc2 => ?_)
    · have h4 := ite_t hc2 h3
      refine AW.seq_w fun K9 hK9 wK9 => ?_
      refine AW.region ?_
      refine AOps.step rfl rfl rfl (OpQ.spec (sp_move rfl (.inl rfl)) _) ?_
      refine AOps.step rfl rfl rfl (OpQ.spec (sp_assign rfl (.inl rfl)) _) ?_
      refine AOps.step rfl rfl rfl (OpQ.spec (sp_assign rfl (.inl rfl)) _) ?_
      refine AOps.nil ?_
      refine hK9 _ ?_
      refine AW.ret ?_
      exact retf2 (P := Try.prog) (fun (r : (List GSpan) × Int) => .r (.sl (r.1.map GSpan.row))) (fun (r : (List GSpan) × Int) => .r (.int .i64 r.2)) h4 (.inl rfl) (.t (.one (.nil))) (.t (.d rfl))
    · have h4 := ite_f hc2 h3
      refine AW.skip ?_
      refine hK6 _ ?_
      refine AW.seq_w fun K10 hK10 wK10 => ?_
      refine AW.region ?_
      refine AOps.step rfl rfl rfl (OpQ.spec (sp_move rfl (.inl rfl)) _) ?_
      refine AOps.step rfl rfl rfl (OpQ.spec (sp_move rfl (.inl rfl)) _) ?_
      refine AOps.step rfl rfl rfl (OpQ.spec (sp_move rfl (.inl rfl)) _) ?_
      refine ob1k h4 fun r1 er1 h5 => ?_
      refine AOps.step rfl rfl rfl (sp_callS (r := .r (.sl (r1.map GSpan.row))) (caps := []) (bs := [.r (.sl (a1.map GSpan.row)), .r (.sl (b1.map GSpan.row)), .fn 75 []]) rfl (.inl rfl) rfl ⟨.inl ⟨(.inl rfl), rfl⟩, .inl ⟨(.inl rfl), rfl⟩, .inl ⟨(.inl rfl), rfl⟩, trivial⟩ (fun _ => w_span_merged__Minus_f1 (er1))) ?_
      refine AOps.step rfl rfl rfl (OpQ.spec (sp_assign rfl (.inl rfl)) _) ?_
      refine AOps.step rfl rfl rfl (OpQ.spec (sp_assign rfl (.inl rfl)) _) ?_
      refine AOps.nil ?_
      refine hK10 _ ?_
      refine AW.ret ?_
      exact retf2 (P := Try.prog) (fun (r : (List GSpan) × Int) => .r (.sl (r.1.map GSpan.row))) (fun (r : (List GSpan) × Int) => .r (.int .i64 r.2)) h5 (.inl rfl) (.t (.d rfl)) (.t (.d rfl))
set_option maxHeartbeats 4000000 in
set_option maxRecDepth 20000 in
theorem w_span_Minus {a1 : List GSpan} {b1 : List GSpan} {r : (List GSpan) × Int} (h : span_Minus a1 b1 = some r) : ARO Try.prog 24 [.r (.sl (a1.map GSpan.row)), .r (.sl (b1.map GSpan.row))] (.tup [.r (.sl (r.1.map GSpan.row)), .r (.int .i64 r.2)]) := by
  unfold span_Minus at h
  refine ARO.mkF Try.func24 rfl rfl Try.ntmps24 rfl (Nat.le_of_ble_eq_true rfl) fun n0 => ?_
  refine AW.seq_w fun K1 hK1 wK1 => ?_
  refine AW.region ?_
  refine AOps.step rfl rfl rfl (OpQ.spec (sp_assign rfl (.inl rfl)) _) ?_
  refine AOps.step rfl rfl rfl (OpQ.spec (sp_assign rfl (.inl rfl)) _) ?_
  refine AOps.nil ?_
  refine hK1 _ ?_
  refine AW.seq_w fun K2 hK2 wK2 => ?_
  refine AW.region ?_
  refine AOps.step rfl rfl rfl (OpQ.spec (sp_move rfl (.inl rfl)) _) ?_
  refine AOps.step rfl rfl rfl (OpQ.spec (sp_move rfl (.inl rfl)) _) ?_
  refine ob2k h fun r1 r2 er1 h1 => ?_
  refine AOps.step rfl rfl rfl (sp_callS (r := .tup [.r (.sl (r1.map GSpan.row)), .r (.int .i64 r2)]) (caps := []) (bs := [.r (.sl (a1.map GSpan.row)), .r (.sl (b1.map GSpan.row)), .fn 75 []]) rfl (.inl rfl) rfl ⟨.inl ⟨(.inl rfl), rfl⟩, .inl ⟨(.inl rfl), rfl⟩, .inl ⟨(.inl rfl), rfl⟩, trivial⟩ (fun _ => w_span_two__Minus_f1 (er1))) ?_
  refine AOps.step rfl rfl rfl (OpQ.spec (sp_extract (a := .r (.sl (r1.map GSpan.row))) rfl (.inl rfl) rfl) _) ?_
  refine AOps.step rfl rfl rfl (OpQ.spec (sp_extract (a := .r (.int .i64 r2)) rfl (.inl rfl) rfl) _) ?_
  refine AOps.step rfl rfl rfl (OpQ.spec (sp_assign rfl (.inl rfl)) _) ?_
  refine AOps.step rfl rfl rfl (OpQ.spec (sp_assign rfl (.inl rfl)) _) ?_
  refine AOps.nil ?_
  refine hK2 _ ?_
  refine AW.ret ?_
  exact retf2 (P := Try.prog) (fun (r : (List GSpan) × Int) => .r (.sl (r.1.map GSpan.row))) (fun (r : (List GSpan) × Int) => .r (.int .i64 r.2)) h1 (.inl rfl) (.t (.d rfl)) (.t (.d rfl))
set_option maxHeartbeats 4000000 in
set_option maxRecDepth 20000 in
theorem w_ref_In {x1 : Int} {low1 : Int} {high1 : Int} {r : Bool} (h : ref_In x1 low1 high1 = some r) : ARO Try.prog 31 [.r (.int .i64 x1), .r (.int .i64 low1), .r (.int .i64 high1)] (.r (.bool r)) := by
  unfold ref_In at h
  refine ARO.mkF Try.func31 rfl rfl Try.ntmps31 rfl (Nat.le_of_ble_eq_true rfl) fun n0 => ?_
  refine AW.seq_w fun K1 hK1 wK1 => ?_
  refine AW.region ?_
  refine AOps.step rfl rfl rfl (OpQ.spec (sp_assign rfl (.inl rfl)) _) ?_
  refine AOps.nil ?_
  refine hK1 _ ?_
  refine AW.seq_w fun K2 hK2 wK2 => ?_
  refine AW.region ?_
  refine AOps.step rfl rfl rfl (OpQ.spec (sp_move rfl (.inl rfl)) _) ?_
  refine AOps.step rfl rfl rfl (OpQ.spec (sp_move rfl (.inl rfl)) _) ?_
  refine AOps.step rfl rfl rfl (OpQ.spec (sp_geq rfl (.inl rfl) (.inl rfl)) _) ?_
  refine AOps.step rfl rfl rfl (OpQ.spec (sp_move rfl (.inl rfl)) _) ?_
  refine AOps.stepW (.one rfl rfl rfl) rfl rfl (OpQ.spec (sp_move rfl (.inl rfl)) _) ?_
  refine AOps.stepW (.one rfl rfl rfl) rfl rfl (OpQ.spec (sp_move rfl (.inl rfl)) _) ?_
  refine AOps.stepW (.one rfl rfl rfl) rfl rfl (OpQ.spec (sp_leq rfl (.inr ⟨_, (by exact id), rfl⟩) (.inr ⟨_, (by exact id), rfl⟩)) _) ?_
  refine AOps.step rfl rfl rfl (OpQ.spec (sp_and rfl (.inl rfl) (.inr ⟨_, (by exact id), rfl⟩)) _) ?_
  refine AOps.step rfl rfl rfl (OpQ.spec (sp_assign rfl (.inl rfl)) _) ?_
  refine AOps.nil ?_
  refine hK2 _ ?_
  refine AW.ret ?_
  exact retf1 (P := Try.prog) (fun (r : Bool) => .r (.bool r)) h (.inl rfl) (.t (.d rfl))
set_option maxHeartbeats 4000000 in
set_option maxRecDepth 20000 in
theorem w_law_member {l1 : List GSpan} {x1 : Int} {r : Bool} (h : law_member l1 x1 = some r) : ARO Try.prog 25 [.r (.sl (l1.map GSpan.row)), .r (.int .i64 x1)] (.r (.bool r)) := by
  unfold law_member at h
  refine ARO.mkF Try.func25 rfl rfl Try.ntmps25 rfl (Nat.le_of_ble_eq_true rfl) fun n0 => ?_
  refine AW.seq_w fun K1 hK1 wK1 => ?_
  refine AW.region ?_
  refine AOps.step rfl rfl rfl (OpQ.spec (sp_assign rfl (.inl rfl)) _) ?_
  refine AOps.nil ?_
  refine hK1 _ ?_
  refine AW.seq_w fun K2 hK2 wK2 => ?_
  refine AW.seq_w fun K3 hK3 wK3 => ?_
  refine AW.region ?_
  refine AOps.step rfl rfl rfl (OpQ.spec (sp_move rfl (.inl rfl)) _) ?_
  refine AOps.step rfl rfl rfl (OpQ.spec (ms_len rfl tg_31.slice (.inl rfl)) _) ?_
  refine AOps.step rfl rfl rfl (OpQ.spec (sp_move rfl (.inl rfl)) _) ?_
  refine AOps.nil ?_
  refine hK3 _ ?_
  refine AW.block ?_
  refine jc1k h fun o1 hit1 hk1 he1 => ?_
  have J1 : ∀ (u2 : Unit) (i5 : Nat → Nat), o1 = .nrm u2 → K2 ⟨[], [], (i5 0), 25⟩ := by
    intro u2 i5 e
    have h1 := hk1 _ e
    refine hK2 _ ?_
    refine AW.seq_w fun K4 hK4 wK4 => ?_
    refine AW.region ?_
    refine AOps.step rfl rfl rfl (OpQ.spec (sp_assign rfl (.inl rfl)) _) ?_
    refine AOps.nil ?_
    refine hK4 _ ?_
    refine AW.ret ?_
    exact retf1 (P := Try.prog) (fun (r : Bool) => .r (.bool r)) h1 (.inl rfl) (.t (.d rfl))
  refine AW.iter1 (fun (x3 : Int) i3 => ⟨[(0, .r (.sl (l1.map GSpan.row))), (1, .r (.int .i64 x1)), (7, .r (.int .i64 (l1.length : Int))), (8, .r (.int .i64 x3))], [], (i3 0), 25⟩) (vec [n0]) hit1 ((by exact Weak.cv ⟨.inl (.inl rfl), .inl (.inl rfl), .inl (.inl rfl), .inl (.inl rfl), trivial⟩ trivial (Nat.le_refl _))) ?_
  intro x3 i3 v1 hv1 hx1
  have h2 : law_member_L1 l1 x1 x3 = some v1 := hv1; unfold law_member_L1 at h2
  refine AW.seq_w fun K5 hK5 wK5 => ?_
  refine AW.region ?_
  refine AOps.step rfl rfl rfl (OpQ.spec (sp_lss rfl (.inl rfl) (.inl rfl)) _) ?_
  refine AOps.nil ?_
  refine hK5 _ ?_
  refine AW.seq_w fun K6 hK6 wK6 => ?_
  refine AW.cond rfl (fun hc1 => ?_) (fun hc1 => ?_)
  · have h3 := ite_t hc1 h2
    refine AW.skip ?_
    refine hK6 _ ?_
    refine AW.seq_w fun K7 hK7 wK7 => ?_
    refine AW.block ?_
    refine AW.seq_w fun K8 hK8 wK8 => ?_
    refine AW.region ?_
    refine AOps.step rfl rfl rfl (OpQ.spec (sp_move rfl (.inl rfl)) _) ?_
    refine AOps.step rfl rfl rfl (OpQ.spec (sp_assign rfl (.inl rfl)) _) ?_
    refine AOps.nil ?_
    refine hK8 _ ?_
    refine AW.seq_w fun K9 hK9 wK9 => ?_
    refine AW.regionQ hmix (by kernel_rfl) ?_
    refine AQ.step rfl rfl rfl (sp_move rfl (.inl rfl)) ?_
    refine AQ.step rfl rfl rfl (sp_move rfl (.inl rfl)) ?_
    refine AQ.step rfl rfl rfl (sp_move rfl (.inl rfl)) ?_
    refine ob1k h3 fun x5 ex5 h4 => ?_
    refine AQ.step rfl rfl rfl (ms_idx rfl tg_31.slice (.inl rfl) (.inl rfl) (fun _ => rfl) (fun _ => ex5)) ?_
    refine AQ.step rfl rfl rfl (sp_fieldAddr_ro rfl tf_38_0 (.inl rfl)) ?_
    refine AQ.step rfl rfl rfl (ms_load (d := .int .i64 x5.From) rfl ts_3 (.inl rfl) rfl) ?_
    refine AQ.step rfl rfl rfl (sp_move rfl (.inl rfl)) ?_
    refine AQ.step rfl rfl rfl (sp_move rfl (.inl rfl)) ?_
    refine AQ.step rfl rfl rfl (ms_idx rfl tg_31.slice (.inl rfl) (.inl rfl) (fun _ => rfl) (fun _ => ex5)) ?_
    refine AQ.step rfl rfl rfl (sp_fieldAddr_ro rfl tf_38_1 (.inl rfl)) ?_
    refine AQ.step rfl rfl rfl (ms_load (d := .int .i64 x5.To) rfl ts_3 (.inl rfl) rfl) ?_
    refine ob1k h4 fun x6 ex6 h5 => ?_
    refine AQ.step rfl rfl rfl (ms_sub rfl (.inl rfl) (.inl rfl) (fun _ => ex6)) ?_
    refine ob1k h5 fun r1 er1 h6 => ?_
    refine AQ.stepC rfl rfl rfl (r := .r (.bool r1)) (caps := []) (bs := [.r (.int .i64 x1), .r (.int .i64 x5.From), .r (.int .i64 x6)]) rfl (.inl rfl) rfl ⟨⟨_, (.inl rfl), .d rfl⟩, ⟨_, (.inl rfl), .d rfl⟩, ⟨_, (.inl rfl), .d rfl⟩, trivial⟩ (fun _ => w_ref_In (er1)) rfl ?_
    refine AQ.nil ?_
    refine hK9 _ ?_
    refine AW.cond rfl (fun hc2 => ?_) (fun hc2 => ?_)
    · have h7 := ite_t hc2 h6
      refine AW.seq_w fun K10 hK10 wK10 => ?_
      refine AW.weak (s' := ⟨[], [], (i3 0), 25⟩) (by exact Weak.cv trivial trivial (Nat.le_refl _)) ?_
      refine AW.region ?_
      refine AOps.step rfl rfl rfl (OpQ.spec (sp_assign rfl (.inl rfl)) _) ?_
      refine AOps.nil ?_
      refine hK10 _ ?_
      refine AW.ret ?_
      exact retf1 (P := Try.prog) (fun (r : Bool) => .r (.bool r)) (he1 _ (hx1 _ (Option.some.inj h7).symm)) (.inl rfl) (.t (.d rfl))
    · have h7 := ite_f hc2 h6
      refine AW.skip ?_
      refine hK7 _ ?_
      refine AW.weak (s' := ⟨[(0, .r (.sl (l1.map GSpan.row))), (1, .r (.int .i64 x1)), (7, .r (.int .i64 (l1.length : Int))), (8, .r (.int .i64 x3))], [], (i3 0), 25⟩) (by exact Weak.cv ⟨.inl (.inl rfl), .inl (.inl rfl), .inl (.inl rfl), .inl (.inl rfl), trivial⟩ trivial (Nat.le_refl _)) ?_
      refine AW.region ?_
      refine ob1k h7 fun x7 ex7 h8 => ?_
      refine AOps.step rfl rfl rfl (OpQ.spec (ms_add rfl (.inl rfl) (.inl rfl) (fun _ => ex7)) _) ?_
      refine AOps.step rfl rfl rfl (OpQ.spec (sp_move rfl (.inl rfl)) _) ?_
      refine AOps.nil ?_
      exact NextQ1.mk h8 (vec [(i3 0)]) ((by exact Weak.cv ⟨.inl (.inl rfl), .inl (.inl rfl), .inl (.inl rfl), .inl (.inl rfl), trivial⟩ trivial (Nat.le_refl _)))
  · have h3 := ite_f hc1 h2
    refine AW.exit ?_
    exact wK2 _ _ ((by exact Weak.cv trivial trivial (Nat.le_refl _))) (J1 _ (vec [(i3 0)]) (hx1 _ (Option.some.inj h3).symm))
set_option maxHeartbeats 4000000 in
set_option maxRecDepth 20000 in
theorem w_law_SpanSetsMatch {a1 : List GSpan} {b1 : List GSpan} {r : Bool} (h : law_SpanSetsMatch a1 b1 = some r) : ARO Try.prog 4 [.r (.sl (a1.map GSpan.row)), .r (.sl (b1.map GSpan.row))] (.r (.bool r)) := by
  unfold law_SpanSetsMatch at h
  refine ARO.mkF Try.func4 rfl rfl Try.ntmps4 rfl (Nat.le_of_ble_eq_true rfl) fun n0 => ?_
  refine AW.seq_w fun K1 hK1 wK1 => ?_
  refine AW.region ?_
  refine AOps.step rfl rfl rfl (OpQ.spec (sp_assign rfl (.inl rfl)) _) ?_
  refine AOps.nil ?_
  refine hK1 _ ?_
  refine AW.seq_w fun K2 hK2 wK2 => ?_
  refine AW.seq_w fun K3 hK3 wK3 => ?_
  refine AW.region ?_
  refine ob1k h fun r1 er1 h1 => ?_
  refine AOps.step rfl rfl rfl (sp_call (r := .r (.bool r1)) (caps := []) (bs := []) rfl (.inl rfl) rfl trivial (fun _ => w_law_spans (er1)) rfl) ?_
  refine AOps.step rfl rfl rfl (OpQ.spec (sp_not rfl (.inl rfl)) _) ?_
  refine AOps.step rfl rfl rfl (OpQ.spec (sp_move rfl (.inl rfl)) _) ?_
  refine AOps.stepW (.one rfl rfl rfl) rfl rfl (OpQ.spec (sp_move rfl (.inl rfl)) _) ?_
  refine ob1k h1 fun r2 er2 h2 => ?_
  refine AOps.stepW (.one rfl rfl rfl) rfl rfl (sp_call (r := .r (.int .i64 r2)) (caps := []) (bs := [.r (.sl (a1.map GSpan.row))]) rfl (.inl rfl) rfl ⟨⟨_, (.inr ⟨_, (by exact id), rfl⟩), .d rfl⟩, trivial⟩ (fun hg => w_span_Check (gdt er2 hg)) rfl) ?_
  refine AOps.stepW (.one rfl rfl rfl) rfl rfl (OpQ.spec (sp_move rfl (.inl rfl)) _) ?_
  refine ob1k h2 fun r3 er3 h3 => ?_
  refine AOps.stepW (.one rfl rfl rfl) rfl rfl (sp_call (r := .r (.int .i64 r3)) (caps := []) (bs := [.r (.sl (a1.map GSpan.row))]) rfl (.inl rfl) rfl ⟨⟨_, (.inr ⟨_, (by exact id), rfl⟩), .d rfl⟩, trivial⟩ (fun hg => w_law_setError (gdt er3 hg)) rfl) ?_
  refine AOps.stepW (.one rfl rfl rfl) rfl rfl (OpQ.spec (sp_neq rfl (.inr ⟨_, (by exact id), rfl⟩) (.inr ⟨_, (by exact id), rfl⟩)) _) ?_
  refine AOps.step rfl rfl rfl (OpQ.spec (sp_or rfl (.inl rfl) (.inr ⟨_, (by exact id), rfl⟩)) _) ?_
  refine AOps.nil ?_
  refine hK3 _ ?_
  refine AW.cond rfl (fun hc1 => ?_) (fun hc1 => ?_)
  · have h4 := ite_t hc1 h3
    refine AW.seq_w fun K4 hK4 wK4 => ?_
    refine AW.weak (s' := ⟨[], [], n0, 230⟩) (by exact Weak.cv trivial trivial (Nat.le_refl _)) ?_
    refine AW.region ?_
    refine AOps.step rfl rfl rfl (OpQ.spec (sp_assign rfl (.inl rfl)) _) ?_
    refine AOps.nil ?_
    refine hK4 _ ?_
    refine AW.ret ?_
    exact retf1 (P := Try.prog) (fun (r : Bool) => .r (.bool r)) h4 (.inl rfl) (.t (.d rfl))
  · have h4 := ite_f hc1 h3
    refine AW.skip ?_
    refine hK2 _ ?_
    refine AW.seq_w fun K5 hK5 wK5 => ?_
    refine AW.weak (s' := ⟨[(0, .r (.sl (a1.map GSpan.row))), (1, .r (.sl (b1.map GSpan.row)))], [], n0, 230⟩) (by exact Weak.cv ⟨.inl (.inl rfl), .inl (.inl rfl), trivial⟩ trivial (Nat.le_refl _)) ?_
    refine AW.region ?_
    refine AOps.step rfl rfl rfl (OpQ.spec (sp_move rfl (.inl rfl)) _) ?_
    refine AOps.step rfl rfl rfl (OpQ.spec (sp_move rfl (.inl rfl)) _) ?_
    refine ob2k h4 fun r4 r5 er4 h5 => ?_
    refine AOps.step rfl rfl rfl (sp_callS (r := .tup [.r (.sl (r4.map GSpan.row)), .r (.int .i64 r5)]) (caps := []) (bs := [.r (.sl (a1.map GSpan.row)), .r (.sl (b1.map GSpan.row))]) rfl (.inl rfl) rfl ⟨.inl ⟨(.inl rfl), rfl⟩, .inl ⟨(.inl rfl), rfl⟩, trivial⟩ (fun _ => w_span_Union (er4))) ?_
    refine AOps.step rfl rfl rfl (OpQ.spec (sp_move rfl (.inl rfl)) _) ?_
    refine AOps.step rfl rfl rfl (OpQ.spec (sp_extract (a := .r (.sl (r4.map GSpan.row))) rfl (.inl rfl) rfl) _) ?_
    refine AOps.step rfl rfl rfl (OpQ.spec (sp_extract (a := .r (.int .i64 r5)) rfl (.inl rfl) rfl) _) ?_
    refine AOps.step rfl rfl rfl (OpQ.spec (sp_assign rfl (.inl rfl)) _) ?_
    refine AOps.step rfl rfl rfl (OpQ.spec (sp_assign rfl (.inl rfl)) _) ?_
    refine AOps.nil ?_
    refine hK5 _ ?_
    refine AW.seq_w fun K6 hK6 wK6 => ?_
    refine AW.region ?_
    refine AOps.step rfl rfl rfl (OpQ.spec (sp_move rfl (.inl rfl)) _) ?_
    refine AOps.step rfl rfl rfl (OpQ.spec (sp_move rfl (.inl rfl)) _) ?_
    refine ob2k h5 fun r6 r7 er6 h6 => ?_
    refine AOps.step rfl rfl rfl (sp_callS (r := .tup [.r (.sl (r6.map GSpan.row)), .r (.int .i64 r7)]) (caps := []) (bs := [.r (.sl (a1.map GSpan.row)), .r (.sl (b1.map GSpan.row))]) rfl (.inl rfl) rfl ⟨.inl ⟨(.inl rfl), rfl⟩, .inl ⟨(.inl rfl), rfl⟩, trivial⟩ (fun _ => w_span_Meet (er6))) ?_
    refine AOps.step rfl rfl rfl (OpQ.spec (sp_move rfl (.inl rfl)) _) ?_
    refine AOps.step rfl rfl rfl (OpQ.spec (sp_extract (a := .r (.sl (r6.map GSpan.row))) rfl (.inl rfl) rfl) _) ?_
    refine AOps.step rfl rfl rfl (OpQ.spec (sp_extract (a := .r (.int .i64 r7)) rfl (.inl rfl) rfl) _) ?_
    refine AOps.step rfl rfl rfl (OpQ.spec (sp_assign rfl (.inl rfl)) _) ?_
    refine AOps.step rfl rfl rfl (OpQ.spec (sp_assign rfl (.inl rfl)) _) ?_
    refine AOps.nil ?_
    refine hK6 _ ?_
    refine AW.seq_w fun K7 hK7 wK7 => ?_
    refine AW.weak (s' := ⟨[(0, .r (.sl (a1.map GSpan.row))), (1, .r (.sl (b1.map GSpan.row))), (5, .r (.sl (r4.map GSpan.row))), (6, .r (.int .i64 r5)), (7, .r (.sl (r6.map GSpan.row))), (8, .r (.int .i64 r7))], [], n0, 230⟩) (by exact Weak.cv ⟨.inl (.inl rfl), .inl (.inl rfl), .inl (.inl rfl), .inl (.inl rfl), .inl (.inl rfl), .inl (.inl rfl), trivial⟩ trivial (Nat.le_refl _)) ?_
    refine AW.region ?_
    refine AOps.step rfl rfl rfl (OpQ.spec (sp_move rfl (.inl rfl)) _) ?_
    refine AOps.step rfl rfl rfl (OpQ.spec (sp_move rfl (.inl rfl)) _) ?_
    refine ob2k h6 fun r8 r9 er8 h7 => ?_
    refine AOps.step rfl rfl rfl (sp_callS (r := .tup [.r (.sl (r8.map GSpan.row)), .r (.int .i64 r9)]) (caps := []) (bs := [.r (.sl (a1.map GSpan.row)), .r (.sl (b1.map GSpan.row))]) rfl (.inl rfl) rfl ⟨.inl ⟨(.inl rfl), rfl⟩, .inl ⟨(.inl rfl), rfl⟩, trivial⟩ (fun _ => w_span_Minus (er8))) ?_
    refine AOps.step rfl rfl rfl (OpQ.spec (sp_move rfl (.inl rfl)) _) ?_
    refine AOps.step rfl rfl rfl (OpQ.spec (sp_extract (a := .r (.sl (r8.map GSpan.row))) rfl (.inl rfl) rfl) _) ?_
    refine AOps.step rfl rfl rfl (OpQ.spec (sp_extract (a := .r (.int .i64 r9)) rfl (.inl rfl) rfl) _) ?_
    refine AOps.step rfl rfl rfl (OpQ.spec (sp_assign rfl (.inl rfl)) _) ?_
    refine AOps.step rfl rfl rfl (OpQ.spec (sp_assign rfl (.inl rfl)) _) ?_
    refine AOps.nil ?_
    refine hK7 _ ?_
    refine AW.seq_w fun K8 hK8 wK8 => ?_
    refine AW.region ?_
    refine AOps.step rfl rfl rfl (OpQ.spec (sp_move rfl (.inl rfl)) _) ?_
    refine ob1k h7 fun h8 eh8 h9 => ?_
    refine AOps.step rfl rfl rfl (sp_call (r := .r (.int .i64 h8)) (caps := []) (bs := [.r (.sl (a1.map GSpan.row))]) rfl (.inl rfl) rfl ⟨⟨_, (.inl rfl), .d rfl⟩, trivial⟩ (fun _ => w_law_setError (eh8)) rfl) ?_
    refine AOps.step rfl rfl rfl (OpQ.spec (sp_assign rfl (.inl rfl)) _) ?_
    refine AOps.nil ?_
    refine hK8 _ ?_
    refine AW.seq_w fun K9 hK9 wK9 => ?_
    refine AW.seq_w fun K10 hK10 wK10 => ?_
    refine AW.region ?_
    refine AOps.step rfl rfl rfl (OpQ.spec (sp_move rfl (.inl rfl)) _) ?_
    refine AOps.step rfl rfl rfl (OpQ.spec (sp_eql rfl (.inl rfl) (.inl rfl)) _) ?_
    refine AOps.nil ?_
    refine hK10 _ ?_
    refine jb1k h9 fun p1 hp1 hk1 => ?_
    have J1 : ∀ (h10 : Int) (i1 : Nat → Nat), p1 = h10 → K9 ⟨[(0, .r (.sl (a1.map GSpan.row))), (1, .r (.sl (b1.map GSpan.row))), (5, .r (.sl (r4.map GSpan.row))), (6, .r (.int .i64 r5)), (7, .r (.sl (r6.map GSpan.row))), (8, .r (.int .i64 r7)), (9, .r (.sl (r8.map GSpan.row))), (10, .r (.int .i64 r9)), (11, .r (.int .i64 h10))], [], (i1 0), 230⟩ := by
      intro h10 i1 e
      have h11 := hk1 _ e
      refine hK9 _ ?_
      refine AW.seq_w fun K11 hK11 wK11 => ?_
      refine AW.seq_w fun K12 hK12 wK12 => ?_
      refine AW.region ?_
      refine AOps.step rfl rfl rfl (OpQ.spec (sp_move rfl (.inl rfl)) _) ?_
      refine AOps.step rfl rfl rfl (OpQ.spec (sp_neq rfl (.inl rfl) (.inl rfl)) _) ?_
      refine AOps.nil ?_
      refine hK12 _ ?_
      refine AW.cond rfl (fun hc2 => ?_) (fun hc2 => ?_)
      · have h12 := ite_t hc2 h11
        refine AW.seq_w fun K13 hK13 wK13 => ?_
        refine AW.region ?_
        refine AOps.step rfl rfl rfl (OpQ.spec (sp_move rfl (.inl rfl)) _) ?_
        refine AOps.step rfl rfl rfl (OpQ.spec (sp_move rfl (.inl rfl)) _) ?_
        refine AOps.step rfl rfl rfl (OpQ.spec (sp_eql rfl (.inl rfl) (.inl rfl)) _) ?_
        refine AOps.step rfl rfl rfl (OpQ.spec (sp_move rfl (.inl rfl)) _) ?_
        refine AOps.stepW (.one rfl rfl rfl) rfl rfl (OpQ.spec (sp_move rfl (.inl rfl)) _) ?_
        refine AOps.stepW (.one rfl rfl rfl) rfl rfl (OpQ.spec (sp_move rfl (.inl rfl)) _) ?_
        refine AOps.stepW (.one rfl rfl rfl) rfl rfl (OpQ.spec (sp_eql rfl (.inr ⟨_, (by exact id), rfl⟩) (.inr ⟨_, (by exact id), rfl⟩)) _) ?_
        refine AOps.step rfl rfl rfl (OpQ.spec (sp_and rfl (.inl rfl) (.inr ⟨_, (by exact id), rfl⟩)) _) ?_
        refine AOps.step rfl rfl rfl (OpQ.spec (sp_move rfl (.inl rfl)) _) ?_
        refine AOps.stepW (.one rfl rfl rfl) rfl rfl (OpQ.spec (sp_move rfl (.inl rfl)) _) ?_
        refine AOps.stepW (.one rfl rfl rfl) rfl rfl (OpQ.spec (sp_move rfl (.inl rfl)) _) ?_
        refine AOps.stepW (.one rfl rfl rfl) rfl rfl (OpQ.spec (sp_eql rfl (.inr ⟨_, (by exact id), rfl⟩) (.inr ⟨_, (by exact id), rfl⟩)) _) ?_
        refine AOps.step rfl rfl rfl (OpQ.spec (sp_and rfl (.inl rfl) (.inr ⟨_, (by exact id), rfl⟩)) _) ?_
        refine AOps.step rfl rfl rfl (OpQ.spec (sp_move rfl (.inl rfl)) _) ?_
        refine AOps.stepW (.one rfl rfl rfl) rfl rfl (OpQ.spec (sp_move rfl (.inl rfl)) _) ?_
        refine AOps.stepW (.one rfl rfl rfl) rfl rfl (OpQ.spec (ms_len rfl tg_31.slice (.inr ⟨_, (by exact id), rfl⟩)) _) ?_
        refine AOps.stepW (.one rfl rfl rfl) rfl rfl (OpQ.spec (sp_move rfl (.inl rfl)) _) ?_
        refine AOps.stepW (.one rfl rfl rfl) rfl rfl (OpQ.spec (ms_len rfl tg_31.slice (.inr ⟨_, (by exact id), rfl⟩)) _) ?_
        refine ob1k h12 fun x1 ex1 h13 => ?_
        refine AOps.stepW (.one rfl rfl rfl) rfl rfl (OpQ.spec (ms_add rfl (.inr ⟨_, (by exact id), rfl⟩) (.inr ⟨_, (by exact id), rfl⟩) (gdt ex1)) _) ?_
        refine AOps.stepW (.one rfl rfl rfl) rfl rfl (OpQ.spec (sp_move rfl (.inl rfl)) _) ?_
        refine AOps.stepW (.one rfl rfl rfl) rfl rfl (OpQ.spec (ms_len rfl tg_31.slice (.inr ⟨_, (by exact id), rfl⟩)) _) ?_
        refine ob1k h13 fun x2 ex2 h14 => ?_
        refine AOps.stepW (.one rfl rfl rfl) rfl rfl (OpQ.spec (ms_add rfl (.inr ⟨_, (by exact id), rfl⟩) (.inr ⟨_, (by exact id), rfl⟩) (gdt ex2)) _) ?_
        refine AOps.stepW (.one rfl rfl rfl) rfl rfl (OpQ.spec (sp_eql rfl (.inr ⟨_, (by exact id), rfl⟩) (.inl rfl)) _) ?_
        refine AOps.step rfl rfl rfl (OpQ.spec (sp_and rfl (.inl rfl) (.inr ⟨_, (by exact id), rfl⟩)) _) ?_
        refine AOps.step rfl rfl rfl (OpQ.spec (sp_assign rfl (.inl rfl)) _) ?_
        refine AOps.nil ?_
        refine hK13 _ ?_
        refine AW.ret ?_
        exact retf1 (P := Try.prog) (fun (r : Bool) => .r (.bool r)) h14 (.inl rfl) (.t (.d rfl))
      · have h12 := ite_f hc2 h11
        refine AW.skip ?_
        refine hK11 _ ?_
        refine AW.seq_w fun K14 hK14 wK14 => ?_
        refine AW.seq_w fun K15 hK15 wK15 => ?_
        refine AW.region ?_
        refine AOps.step rfl rfl rfl (OpQ.spec (sp_move rfl (.inl rfl)) _) ?_
        refine AOps.step rfl rfl rfl (OpQ.spec (sp_neq rfl (.inl rfl) (.inl rfl)) _) ?_
        refine AOps.step rfl rfl rfl (OpQ.spec (sp_move rfl (.inl rfl)) _) ?_
        refine AOps.stepW (.one rfl rfl rfl) rfl rfl (OpQ.spec (sp_move rfl (.inl rfl)) _) ?_
        refine AOps.stepW (.one rfl rfl rfl) rfl rfl (OpQ.spec (sp_neq rfl (.inr ⟨_, (by exact id), rfl⟩) (.inl rfl)) _) ?_
        refine AOps.step rfl rfl rfl (OpQ.spec (sp_or rfl (.inl rfl) (.inr ⟨_, (by exact id), rfl⟩)) _) ?_
        refine AOps.step rfl rfl rfl (OpQ.spec (sp_move rfl (.inl rfl)) _) ?_
        refine AOps.stepW (.one rfl rfl rfl) rfl rfl (OpQ.spec (sp_move rfl (.inl rfl)) _) ?_
        refine AOps.stepW (.one rfl rfl rfl) rfl rfl (OpQ.spec (sp_neq rfl (.inr ⟨_, (by exact id), rfl⟩) (.inl rfl)) _) ?_
        refine AOps.step rfl rfl rfl (OpQ.spec (sp_or rfl (.inl rfl) (.inr ⟨_, (by exact id), rfl⟩)) _) ?_
        refine AOps.step rfl rfl rfl (OpQ.spec (sp_move rfl (.inl rfl)) _) ?_
        refine AOps.stepW (.one rfl rfl rfl) rfl rfl (OpQ.spec (sp_move rfl (.inl rfl)) _) ?_
        refine ob1k h12 fun r10 er10 h15 => ?_
        refine AOps.stepW (.one rfl rfl rfl) rfl rfl (sp_call (r := .r (.int .i64 r10)) (caps := []) (bs := [.r (.sl (r4.map GSpan.row))]) rfl (.inl rfl) rfl ⟨⟨_, (.inr ⟨_, (by exact id), rfl⟩), .d rfl⟩, trivial⟩ (fun hg => w_law_setError (gdt er10 hg)) rfl) ?_
        refine AOps.stepW (.one rfl rfl rfl) rfl rfl (OpQ.spec (sp_neq rfl (.inr ⟨_, (by exact id), rfl⟩) (.inl rfl)) _) ?_
        refine AOps.step rfl rfl rfl (OpQ.spec (sp_or rfl (.inl rfl) (.inr ⟨_, (by exact id), rfl⟩)) _) ?_
        refine AOps.step rfl rfl rfl (OpQ.spec (sp_move rfl (.inl rfl)) _) ?_
        refine AOps.stepW (.one rfl rfl rfl) rfl rfl (OpQ.spec (sp_move rfl (.inl rfl)) _) ?_
        refine ob1k h15 fun r11 er11 h16 => ?_
        refine AOps.stepW (.one rfl rfl rfl) rfl rfl (sp_call (r := .r (.int .i64 r11)) (caps := []) (bs := [.r (.sl (r6.map GSpan.row))]) rfl (.inl rfl) rfl ⟨⟨_, (.inr ⟨_, (by exact id), rfl⟩), .d rfl⟩, trivial⟩ (fun hg => w_law_setError (gdt er11 hg)) rfl) ?_
        refine AOps.stepW (.one rfl rfl rfl) rfl rfl (OpQ.spec (sp_neq rfl (.inr ⟨_, (by exact id), rfl⟩) (.inl rfl)) _) ?_
        refine AOps.step rfl rfl rfl (OpQ.spec (sp_or rfl (.inl rfl) (.inr ⟨_, (by exact id), rfl⟩)) _) ?_
        refine AOps.step rfl rfl rfl (OpQ.spec (sp_move rfl (.inl rfl)) _) ?_
        refine AOps.stepW (.one rfl rfl rfl) rfl rfl (OpQ.spec (sp_move rfl (.inl rfl)) _) ?_
        refine ob1k h16 fun r12 er12 h17 => ?_
        refine AOps.stepW (.one rfl rfl rfl) rfl rfl (sp_call (r := .r (.int .i64 r12)) (caps := []) (bs := [.r (.sl (r8.map GSpan.row))]) rfl (.inl rfl) rfl ⟨⟨_, (.inr ⟨_, (by exact id), rfl⟩), .d rfl⟩, trivial⟩ (fun hg => w_law_setError (gdt er12 hg)) rfl) ?_
        refine AOps.stepW (.one rfl rfl rfl) rfl rfl (OpQ.spec (sp_neq rfl (.inr ⟨_, (by exact id), rfl⟩) (.inl rfl)) _) ?_
        refine AOps.step rfl rfl rfl (OpQ.spec (sp_or rfl (.inl rfl) (.inr ⟨_, (by exact id), rfl⟩)) _) ?_
        refine AOps.nil ?_
        refine hK15 _ ?_
        refine AW.cond rfl (fun hc3 => ?_) (fun hc3 => ?_)
        · have h18 := ite_t hc3 h17
          refine AW.seq_w fun K16 hK16 wK16 => ?_
          refine AW.weak (s' := ⟨[], [], (i1 0), 230⟩) (by exact Weak.cv trivial trivial (Nat.le_refl _)) ?_
          refine AW.region ?_
          refine AOps.step rfl rfl rfl (OpQ.spec (sp_assign rfl (.inl rfl)) _) ?_
          refine AOps.nil ?_
          refine hK16 _ ?_
          refine AW.ret ?_
          exact retf1 (P := Try.prog) (fun (r : Bool) => .r (.bool r)) h18 (.inl rfl) (.t (.d rfl))
        · have h18 := ite_f hc3 h17
          refine AW.skip ?_
          refine hK14 _ ?_
          refine AW.seq_w fun K17 hK17 wK17 => ?_
          refine AW.seq_w fun K18 hK18 wK18 => ?_
          refine AW.weak (s' := ⟨[(0, .r (.sl (a1.map GSpan.row))), (1, .r (.sl (b1.map GSpan.row))), (5, .r (.sl (r4.map GSpan.row))), (7, .r (.sl (r6.map GSpan.row))), (9, .r (.sl (r8.map GSpan.row)))], [], (i1 0), 230⟩) (by exact Weak.cv ⟨.inl (.inl rfl), .inl (.inl rfl), .inl (.inl rfl), .inl (.inl rfl), .inl (.inl rfl), trivial⟩ trivial (Nat.le_refl _)) ?_
          refine AW.region ?_
          refine AOps.step rfl rfl rfl (OpQ.spec (sp_move rfl (.inl rfl)) _) ?_
          refine AOps.step rfl rfl rfl (OpQ.spec (sp_move rfl (.inl rfl)) _) ?_
          refine AOps.step rfl rfl rfl (OpQ.spec (sp_buildArr rfl tb_36 (q := [(0, _), (1, _)]) (by exact ⟨rfl, rfl, rfl, (.inl rfl), rfl, rfl, rfl, (.inl rfl), trivial⟩) (cs := [.r (.sl (a1.map GSpan.row)), .r (.sl (b1.map GSpan.row))]) (by rfl)) _) ?_
          refine AOps.step rfl rfl rfl (OpQ.spec (sp_move rfl (.inl rfl)) _) ?_
          refine AOps.nil ?_
          refine hK18 _ ?_
          refine AW.block ?_
          refine jc1k h18 fun o1 hit1 hk2 he2 => ?_
          have J2 : ∀ (u2 : Unit) (i6 : Nat → Nat), o1 = .nrm u2 → K17 ⟨[(0, .r (.sl (a1.map GSpan.row))), (1, .r (.sl (b1.map GSpan.row))), (5, .r (.sl (r4.map GSpan.row))), (7, .r (.sl (r6.map GSpan.row))), (9, .r (.sl (r8.map GSpan.row)))], [], (i6 0), 230⟩ := by
            intro u2 i6 e
            have h19 := hk2 _ e
            refine hK17 _ ?_
            refine AW.seq_w fun K19 hK19 wK19 => ?_
            refine AW.seq_w fun K20 hK20 wK20 => ?_
            refine AW.region ?_
            refine AOps.step rfl rfl rfl (OpQ.spec (sp_move rfl (.inl rfl)) _) ?_
            refine AOps.step rfl rfl rfl (OpQ.spec (sp_move rfl (.inl rfl)) _) ?_
            refine AOps.step rfl rfl rfl (OpQ.spec (sp_move rfl (.inl rfl)) _) ?_
            refine AOps.step rfl rfl rfl (OpQ.spec (sp_buildArr rfl tb_41 (q := [(0, _), (1, _), (2, _)]) (by exact ⟨rfl, rfl, rfl, (.inl rfl), rfl, rfl, rfl, (.inl rfl), rfl, rfl, rfl, (.inl rfl), trivial⟩) (cs := [.r (.sl (r4.map GSpan.row)), .r (.sl (r6.map GSpan.row)), .r (.sl (r8.map GSpan.row))]) (by rfl)) _) ?_
            refine AOps.step rfl rfl rfl (OpQ.spec (sp_move rfl (.inl rfl)) _) ?_
            refine AOps.nil ?_
            refine hK20 _ ?_
            refine AW.block ?_
            refine jc1k h19 fun o2 hit2 hk3 he3 => ?_
            have J3 : ∀ (u4 : Unit) (i11 : Nat → Nat), o2 = .nrm u4 → K19 ⟨[], [], (i11 0), 230⟩ := by
              intro u4 i11 e
              have h20 := hk3 _ e
              refine hK19 _ ?_
              refine AW.seq_w fun K21 hK21 wK21 => ?_
              refine AW.region ?_
              refine AOps.step rfl rfl rfl (OpQ.spec (sp_assign rfl (.inl rfl)) _) ?_
              refine AOps.nil ?_
              refine hK21 _ ?_
              refine AW.ret ?_
              exact retf1 (P := Try.prog) (fun (r : Bool) => .r (.bool r)) h20 (.inl rfl) (.t (.d rfl))
            refine AW.iter1 (fun (x7 : Int) i9 => ⟨[(0, .r (.sl (a1.map GSpan.row))), (1, .r (.sl (b1.map GSpan.row))), (186, .agg [.r (.sl (r4.map GSpan.row)), .r (.sl (r6.map GSpan.row)), .r (.sl (r8.map GSpan.row))]), (187, .r (.int .i64 x7))], [], (i9 0), 230⟩) (vec [(i6 0)]) hit2 ((by exact Weak.cv ⟨.inl (.inl rfl), .inl (.inl rfl), .inl (.inl rfl), .inl (.inl rfl), trivial⟩ trivial (Nat.le_refl _))) ?_
            intro x7 i9 v1 hv1 hx2
            have h21 : law_SpanSetsMatch_L2 a1 b1 r4 r6 r8 x7 = some v1 := hv1; unfold law_SpanSetsMatch_L2 at h21
            refine AW.seq_w fun K22 hK22 wK22 => ?_
            refine AW.region ?_
            refine AOps.step rfl rfl rfl (OpQ.spec (sp_lss rfl (.inl rfl) (.inl rfl)) _) ?_
            refine AOps.nil ?_
            refine hK22 _ ?_
            refine AW.seq_w fun K23 hK23 wK23 => ?_
            refine AW.cond rfl (fun hc4 => ?_) (fun hc4 => ?_)
            · have h22 := ite_t hc4 h21
              refine AW.skip ?_
              refine hK23 _ ?_
              refine AW.seq_w fun K24 hK24 wK24 => ?_
              refine AW.block ?_
              refine AW.seq_w fun K25 hK25 wK25 => ?_
              refine AW.region ?_
              refine ob1k h22 fun l1 el1 h23 => ?_
              refine AOps.step rfl rfl rfl (OpQ.spec (ms_idx_arr (f := fun a => .r (.sl (a.map GSpan.row))) (l := [r4, r6, r8]) rfl tq_41 (.inl rfl) (.inl rfl) rfl (fun _ => el1)) _) ?_
              refine AOps.step rfl rfl rfl (OpQ.spec (sp_assign rfl (.inl rfl)) _) ?_
              refine AOps.nil ?_
              refine hK25 _ ?_
              refine AW.seq_w fun K26 hK26 wK26 => ?_
              refine AW.region ?_
              refine AOps.step rfl rfl rfl (OpQ.spec (sp_move rfl (.inl rfl)) _) ?_
              refine AOps.step rfl rfl rfl (OpQ.spec (ms_len rfl tg_31.slice (.inl rfl)) _) ?_
              refine AOps.step rfl rfl rfl (OpQ.spec (sp_move rfl (.inl rfl)) _) ?_
              refine AOps.nil ?_
              refine hK26 _ ?_
              refine AW.block ?_
              refine jc1k h23 fun o3 hit3 hk4 he4 => ?_
              have J4 : ∀ (u6 : Unit) (i16 : Nat → Nat), o3 = .nrm u6 → K24 ⟨[(0, .r (.sl (a1.map GSpan.row))), (1, .r (.sl (b1.map GSpan.row))), (186, .agg [.r (.sl (r4.map GSpan.row)), .r (.sl (r6.map GSpan.row)), .r (.sl (r8.map GSpan.row))]), (187, .r (.int .i64 x7))], [], (i16 0), 230⟩ := by
                intro u6 i16 e
                have h24 := hk4 _ e
                refine hK24 _ ?_
                refine AW.region ?_
                refine ob1k h24 fun x12 ex12 h25 => ?_
                refine AOps.step rfl rfl rfl (OpQ.spec (ms_add rfl (.inl rfl) (.inl rfl) (fun _ => ex12)) _) ?_
                refine AOps.step rfl rfl rfl (OpQ.spec (sp_move rfl (.inl rfl)) _) ?_
                refine AOps.nil ?_
                exact NextQ1.mk h25 (vec [(i16 0)]) ((by exact Weak.cv ⟨.inl (.inl rfl), .inl (.inl rfl), .inl (.inl rfl), .inl (.inl rfl), trivial⟩ trivial (Nat.le_refl _)))
              refine AW.iter1 (fun (x10 : Int) i14 => ⟨[(0, .r (.sl (a1.map GSpan.row))), (1, .r (.sl (b1.map GSpan.row))), (20, .r (.sl (l1.map GSpan.row))), (186, .agg [.r (.sl (r4.map GSpan.row)), .r (.sl (r6.map GSpan.row)), .r (.sl (r8.map GSpan.row))]), (187, .r (.int .i64 x7)), (191, .r (.int .i64 (l1.length : Int))), (192, .r (.int .i64 x10))], [], (i14 0), 230⟩) (vec [(i9 0)]) hit3 ((by exact Weak.cv ⟨.inl (.inl rfl), .inl (.inl rfl), .inl (.inl rfl), .inl (.inl rfl), .inl (.inl rfl), .inl (.inl rfl), .inl (.inl rfl), trivial⟩ trivial (Nat.le_refl _))) ?_
              intro x10 i14 v2 hv2 hx3
              have h26 : law_SpanSetsMatch_L3 a1 b1 l1 x10 = some v2 := hv2; unfold law_SpanSetsMatch_L3 at h26
              refine AW.seq_w fun K27 hK27 wK27 => ?_
              refine AW.region ?_
              refine AOps.step rfl rfl rfl (OpQ.spec (sp_lss rfl (.inl rfl) (.inl rfl)) _) ?_
              refine AOps.nil ?_
              refine hK27 _ ?_
              refine AW.seq_w fun K28 hK28 wK28 => ?_
              refine AW.cond rfl (fun hc5 => ?_) (fun hc5 => ?_)
              · have h27 := ite_t hc5 h26
                refine AW.skip ?_
                refine hK28 _ ?_
                refine AW.seq_w fun K29 hK29 wK29 => ?_
                refine AW.block ?_
                refine AW.seq_w fun K30 hK30 wK30 => ?_
                refine AW.region ?_
                refine AOps.step rfl rfl rfl (OpQ.spec (sp_move rfl (.inl rfl)) _) ?_
                refine AOps.step rfl rfl rfl (OpQ.spec (sp_assign rfl (.inl rfl)) _) ?_
                refine AOps.nil ?_
                refine hK30 _ ?_
                refine AW.seq_w fun K31 hK31 wK31 => ?_
                refine AW.regionQ hmix (by kernel_rfl) ?_
                refine AQ.step rfl rfl rfl (sp_move rfl (.inl rfl)) ?_
                refine AQ.step rfl rfl rfl (sp_move rfl (.inl rfl)) ?_
                refine ob1k h27 fun x13 ex13 h28 => ?_
                refine AQ.step rfl rfl rfl (ms_idx rfl tg_31.slice (.inl rfl) (.inl rfl) (fun _ => rfl) (fun _ => ex13)) ?_
                refine AQ.step rfl rfl rfl (sp_fieldAddr_ro rfl tf_38_0 (.inl rfl)) ?_
                refine AQ.step rfl rfl rfl (ms_load (d := .int .i64 x13.From) rfl ts_3 (.inl rfl) rfl) ?_
                refine AQ.step rfl rfl rfl (sp_move rfl (.inl rfl)) ?_
                refine AQ.step rfl rfl rfl (sp_move rfl (.inl rfl)) ?_
                refine AQ.step rfl rfl rfl (ms_idx rfl tg_31.slice (.inl rfl) (.inl rfl) (fun _ => rfl) (fun _ => ex13)) ?_
                refine AQ.step rfl rfl rfl (sp_fieldAddr_ro rfl tf_38_1 (.inl rfl)) ?_
                refine AQ.step rfl rfl rfl (ms_load (d := .int .i64 x13.To) rfl ts_3 (.inl rfl) rfl) ?_
                refine AQ.step rfl rfl rfl (sp_buildArr rfl tb_42 (q := [(0, _), (1, _)]) (by exact ⟨rfl, rfl, rfl, (.inl rfl), rfl, rfl, rfl, (.inl rfl), trivial⟩) (cs := [.r (.int .i64 x13.From), .r (.int .i64 x13.To)]) (by rfl)) ?_
                refine AQ.step rfl rfl rfl (sp_move rfl (.inl rfl)) ?_
                refine AQ.nil ?_
                refine hK31 _ ?_
                refine AW.block ?_
                refine jc1k h28 fun o4 hit4 hk5 he5 => ?_
                have J5 : ∀ (u8 : Unit) (i21 : Nat → Nat), o4 = .nrm u8 → K29 ⟨[(0, .r (.sl (a1.map GSpan.row))), (1, .r (.sl (b1.map GSpan.row))), (20, .r (.sl (l1.map GSpan.row))), (186, .agg [.r (.sl (r4.map GSpan.row)), .r (.sl (r6.map GSpan.row)), .r (.sl (r8.map GSpan.row))]), (187, .r (.int .i64 x7)), (191, .r (.int .i64 (l1.length : Int))), (192, .r (.int .i64 x10))], [], (i21 0), 230⟩ := by
                  intro u8 i21 e
                  have h29 := hk5 _ e
                  refine hK29 _ ?_
                  refine AW.region ?_
                  refine ob1k h29 fun x17 ex17 h30 => ?_
                  refine AOps.step rfl rfl rfl (OpQ.spec (ms_add rfl (.inl rfl) (.inl rfl) (fun _ => ex17)) _) ?_
                  refine AOps.step rfl rfl rfl (OpQ.spec (sp_move rfl (.inl rfl)) _) ?_
                  refine AOps.nil ?_
                  exact NextQ1.mk h30 (vec [(i21 0)]) ((by exact Weak.cv ⟨.inl (.inl rfl), .inl (.inl rfl), .inl (.inl rfl), .inl (.inl rfl), .inl (.inl rfl), .inl (.inl rfl), .inl (.inl rfl), trivial⟩ trivial (Nat.le_refl _)))
                refine AW.iter1 (fun (x15 : Int) i19 => ⟨[(0, .r (.sl (a1.map GSpan.row))), (1, .r (.sl (b1.map GSpan.row))), (20, .r (.sl (l1.map GSpan.row))), (186, .agg [.r (.sl (r4.map GSpan.row)), .r (.sl (r6.map GSpan.row)), .r (.sl (r8.map GSpan.row))]), (187, .r (.int .i64 x7)), (191, .r (.int .i64 (l1.length : Int))), (192, .r (.int .i64 x10)), (205, .agg [.r (.int .i64 x13.From), .r (.int .i64 x13.To)]), (206, .r (.int .i64 x15))], [], (i19 0), 230⟩) (vec [(i14 0)]) hit4 ((by exact Weak.cv ⟨.inl (.inl rfl), .inl (.inl rfl), .inl (.inl rfl), .inl (.inl rfl), .inl (.inl rfl), .inl (.inl rfl), .inl (.inl rfl), .inl (.inl rfl), .inl (.inl rfl), trivial⟩ trivial (Nat.le_refl _))) ?_
                intro x15 i19 v3 hv3 hx4
                have h31 : law_SpanSetsMatch_L4 a1 b1 x13 x15 = some v3 := hv3; unfold law_SpanSetsMatch_L4 at h31
                refine AW.seq_w fun K32 hK32 wK32 => ?_
                refine AW.region ?_
                refine AOps.step rfl rfl rfl (OpQ.spec (sp_lss rfl (.inl rfl) (.inl rfl)) _) ?_
                refine AOps.nil ?_
                refine hK32 _ ?_
                refine AW.seq_w fun K33 hK33 wK33 => ?_
                refine AW.cond rfl (fun hc6 => ?_) (fun hc6 => ?_)
                · have h32 := ite_t hc6 h31
                  refine AW.skip ?_
                  refine hK33 _ ?_
                  refine AW.seq_w fun K34 hK34 wK34 => ?_
                  refine AW.block ?_
                  refine AW.seq_w fun K35 hK35 wK35 => ?_
                  refine AW.region ?_
                  refine ob1k h32 fun x18 ex18 h33 => ?_
                  refine AOps.step rfl rfl rfl (OpQ.spec (ms_idx_arr (f := fun a => .r (.int .i64 a)) (l := [x13.From, x13.To]) rfl tq_42 (.inl rfl) (.inl rfl) rfl (fun _ => ex18)) _) ?_
                  refine AOps.step rfl rfl rfl (OpQ.spec (sp_assign rfl (.inl rfl)) _) ?_
                  refine AOps.nil ?_
                  refine hK35 _ ?_
                  refine AW.seq_w fun K36 hK36 wK36 => ?_
                  refine AW.region ?_
                  refine AOps.step rfl rfl rfl (OpQ.spec (sp_move rfl (.inl rfl)) _) ?_
                  refine AOps.step rfl rfl rfl (OpQ.spec (sp_move rfl (.inl rfl)) _) ?_
                  refine ob1k h33 fun r13 er13 h34 => ?_
                  refine AOps.step rfl rfl rfl (sp_call (r := .r (.bool r13)) (caps := []) (bs := [.r (.sl (a1.map GSpan.row)), .r (.int .i64 x18)]) rfl (.inl rfl) rfl ⟨⟨_, (.inl rfl), .d rfl⟩, ⟨_, (.inl rfl), .d rfl⟩, trivial⟩ (fun _ => w_law_member (er13)) rfl) ?_
                  refine AOps.step rfl rfl rfl (OpQ.spec (sp_move rfl (.inl rfl)) _) ?_
                  refine AOps.step rfl rfl rfl (OpQ.spec (sp_move rfl (.inl rfl)) _) ?_
                  refine ob1k h34 fun x19 ex19 h35 => ?_
                  refine AOps.step rfl rfl rfl (OpQ.spec (ms_sub rfl (.inl rfl) (.inl rfl) (fun _ => ex19)) _) ?_
                  refine ob1k h35 fun r14 er14 h36 => ?_
                  refine AOps.step rfl rfl rfl (sp_call (r := .r (.bool r14)) (caps := []) (bs := [.r (.sl (a1.map GSpan.row)), .r (.int .i64 x19)]) rfl (.inl rfl) rfl ⟨⟨_, (.inl rfl), .d rfl⟩, ⟨_, (.inl rfl), .d rfl⟩, trivial⟩ (fun _ => w_law_member (er14)) rfl) ?_
                  refine AOps.step rfl rfl rfl (OpQ.spec (sp_beql rfl Try.underlying4 (.inl rfl) (.inl rfl)) _) ?_
                  refine AOps.step rfl rfl rfl (OpQ.spec (sp_move rfl (.inl rfl)) _) ?_
                  refine AOps.stepW (.one rfl rfl rfl) rfl rfl (OpQ.spec (sp_move rfl (.inl rfl)) _) ?_
                  refine AOps.stepW (.one rfl rfl rfl) rfl rfl (OpQ.spec (sp_move rfl (.inl rfl)) _) ?_
                  refine ob1k h36 fun r15 er15 h37 => ?_
                  refine AOps.stepW (.one rfl rfl rfl) rfl rfl (sp_call (r := .r (.bool r15)) (caps := []) (bs := [.r (.sl (b1.map GSpan.row)), .r (.int .i64 x18)]) rfl (.inl rfl) rfl ⟨⟨_, (.inr ⟨_, (by exact id), rfl⟩), .d rfl⟩, ⟨_, (.inr ⟨_, (by exact id), rfl⟩), .d rfl⟩, trivial⟩ (fun hg => w_law_member (gdt er15 hg)) rfl) ?_
                  refine AOps.stepW (.one rfl rfl rfl) rfl rfl (OpQ.spec (sp_move rfl (.inl rfl)) _) ?_
                  refine AOps.stepW (.one rfl rfl rfl) rfl rfl (OpQ.spec (sp_move rfl (.inl rfl)) _) ?_
                  refine AOps.stepW (.one rfl rfl rfl) rfl rfl (OpQ.spec (ms_sub rfl (.inr ⟨_, (by exact id), rfl⟩) (.inl rfl) (fun _ => ex19)) _) ?_
                  refine ob1k h37 fun r16 er16 h38 => ?_
                  refine AOps.stepW (.one rfl rfl rfl) rfl rfl (sp_call (r := .r (.bool r16)) (caps := []) (bs := [.r (.sl (b1.map GSpan.row)), .r (.int .i64 x19)]) rfl (.inl rfl) rfl ⟨⟨_, (.inr ⟨_, (by exact id), rfl⟩), .d rfl⟩, ⟨_, (.inr ⟨_, (by exact id), rfl⟩), .d rfl⟩, trivial⟩ (fun hg => w_law_member (gdt er16 hg)) rfl) ?_
                  refine AOps.stepW (.one rfl rfl rfl) rfl rfl (OpQ.spec (sp_beql rfl Try.underlying4 (.inr ⟨_, (by exact id), rfl⟩) (.inr ⟨_, (by exact id), rfl⟩)) _) ?_
                  refine AOps.step rfl rfl rfl (OpQ.spec (sp_and rfl (.inl rfl) (.inr ⟨_, (by exact id), rfl⟩)) _) ?_
                  refine AOps.nil ?_
                  refine hK36 _ ?_
                  refine AW.cond rfl (fun hc7 => ?_) (fun hc7 => ?_)
                  · have h39 := ite_t hc7 h38
                    refine AW.seq_w fun K37 hK37 wK37 => ?_
                    refine AW.weak (s' := ⟨[], [], (i19 0), 230⟩) (by exact Weak.cv trivial trivial (Nat.le_refl _)) ?_
                    refine AW.region ?_
                    refine AOps.step rfl rfl rfl (OpQ.spec (sp_assign rfl (.inl rfl)) _) ?_
                    refine AOps.nil ?_
                    refine hK37 _ ?_
                    refine AW.ret ?_
                    exact retf1 (P := Try.prog) (fun (r : Bool) => .r (.bool r)) (he3 _ (hx2 _ (Option.some.inj (he4 _ (hx3 _ (Option.some.inj (he5 _ (hx4 _ (Option.some.inj h39).symm))).symm))).symm)) (.inl rfl) (.t (.d rfl))
                  · have h39 := ite_f hc7 h38
                    refine AW.skip ?_
                    refine hK34 _ ?_
                    refine AW.weak (s' := ⟨[(0, .r (.sl (a1.map GSpan.row))), (1, .r (.sl (b1.map GSpan.row))), (20, .r (.sl (l1.map GSpan.row))), (186, .agg [.r (.sl (r4.map GSpan.row)), .r (.sl (r6.map GSpan.row)), .r (.sl (r8.map GSpan.row))]), (187, .r (.int .i64 x7)), (191, .r (.int .i64 (l1.length : Int))), (192, .r (.int .i64 x10)), (205, .agg [.r (.int .i64 x13.From), .r (.int .i64 x13.To)]), (206, .r (.int .i64 x15))], [], (i19 0), 230⟩) (by exact Weak.cv ⟨.inl (.inl rfl), .inl (.inl rfl), .inl (.inl rfl), .inl (.inl rfl), .inl (.inl rfl), .inl (.inl rfl), .inl (.inl rfl), .inl (.inl rfl), .inl (.inl rfl), trivial⟩ trivial (Nat.le_refl _)) ?_
                    refine AW.region ?_
                    refine ob1k h39 fun x20 ex20 h40 => ?_
                    refine AOps.step rfl rfl rfl (OpQ.spec (ms_add rfl (.inl rfl) (.inl rfl) (fun _ => ex20)) _) ?_
                    refine AOps.step rfl rfl rfl (OpQ.spec (sp_move rfl (.inl rfl)) _) ?_
                    refine AOps.nil ?_
                    exact NextQ1.mk h40 (vec [(i19 0)]) ((by exact Weak.cv ⟨.inl (.inl rfl), .inl (.inl rfl), .inl (.inl rfl), .inl (.inl rfl), .inl (.inl rfl), .inl (.inl rfl), .inl (.inl rfl), .inl (.inl rfl), .inl (.inl rfl), trivial⟩ trivial (Nat.le_refl _)))
                · have h32 := ite_f hc6 h31
                  refine AW.exit ?_
                  exact wK29 _ _ ((by exact Weak.cv ⟨.inl (.inl rfl), .inl (.inl rfl), .inl (.inl rfl), .inl (.inl rfl), .inl (.inl rfl), .inl (.inl rfl), .inl (.inl rfl), trivial⟩ trivial (Nat.le_refl _))) (J5 _ (vec [(i19 0)]) (hx4 _ (Option.some.inj h32).symm))
              · have h27 := ite_f hc5 h26
                refine AW.exit ?_
                exact wK24 _ _ ((by exact Weak.cv ⟨.inl (.inl rfl), .inl (.inl rfl), .inl (.inl rfl), .inl (.inl rfl), trivial⟩ trivial (Nat.le_refl _))) (J4 _ (vec [(i14 0)]) (hx3 _ (Option.some.inj h27).symm))
            · have h22 := ite_f hc4 h21
              refine AW.exit ?_
              exact wK19 _ _ ((by exact Weak.cv trivial trivial (Nat.le_refl _))) (J3 _ (vec [(i9 0)]) (hx2 _ (Option.some.inj h22).symm))
          refine AW.iter1 (fun (x4 : Int) i4 => ⟨[(0, .r (.sl (a1.map GSpan.row))), (1, .r (.sl (b1.map GSpan.row))), (5, .r (.sl (r4.map GSpan.row))), (7, .r (.sl (r6.map GSpan.row))), (9, .r (.sl (r8.map GSpan.row))), (110, .agg [.r (.sl (a1.map GSpan.row)), .r (.sl (b1.map GSpan.row))]), (111, .r (.int .i64 x4))], [], (i4 0), 230⟩) (vec [(i1 0)]) hit1 ((by exact Weak.cv ⟨.inl (.inl rfl), .inl (.inl rfl), .inl (.inl rfl), .inl (.inl rfl), .inl (.inl rfl), .inl (.inl rfl), .inl (.inl rfl), trivial⟩ trivial (Nat.le_refl _))) ?_
          intro x4 i4 v4 hv4 hx1
          have h41 : law_SpanSetsMatch_L1 a1 b1 r4 r6 r8 x4 = some v4 := hv4; unfold law_SpanSetsMatch_L1 at h41
          refine AW.seq_w fun K38 hK38 wK38 => ?_
          refine AW.region ?_
          refine AOps.step rfl rfl rfl (OpQ.spec (sp_lss rfl (.inl rfl) (.inl rfl)) _) ?_
          refine AOps.nil ?_
          refine hK38 _ ?_
          refine AW.seq_w fun K39 hK39 wK39 => ?_
          refine AW.cond rfl (fun hc8 => ?_) (fun hc8 => ?_)
          · have h42 := ite_t hc8 h41
            refine AW.skip ?_
            refine hK39 _ ?_
            refine AW.seq_w fun K40 hK40 wK40 => ?_
            refine AW.block ?_
            refine AW.seq_w fun K41 hK41 wK41 => ?_
            refine AW.region ?_
            refine ob1k h42 fun l2 el2 h43 => ?_
            refine AOps.step rfl rfl rfl (OpQ.spec (ms_idx_arr (f := fun a => .r (.sl (a.map GSpan.row))) (l := [a1, b1]) rfl tq_36 (.inl rfl) (.inl rfl) rfl (fun _ => el2)) _) ?_
            refine AOps.step rfl rfl rfl (OpQ.spec (sp_assign rfl (.inl rfl)) _) ?_
            refine AOps.nil ?_
            refine hK41 _ ?_
            refine AW.seq_w fun K42 hK42 wK42 => ?_
            refine AW.region ?_
            refine AOps.step rfl rfl rfl (OpQ.spec (sp_move rfl (.inl rfl)) _) ?_
            refine AOps.step rfl rfl rfl (OpQ.spec (ms_len rfl tg_31.slice (.inl rfl)) _) ?_
            refine AOps.step rfl rfl rfl (OpQ.spec (sp_move rfl (.inl rfl)) _) ?_
            refine AOps.nil ?_
            refine hK42 _ ?_
            refine AW.block ?_
            refine jc1k h43 fun o5 hit5 hk6 he6 => ?_
            have J6 : ∀ (u10 : Unit) (i26 : Nat → Nat), o5 = .nrm u10 → K40 ⟨[(0, .r (.sl (a1.map GSpan.row))), (1, .r (.sl (b1.map GSpan.row))), (5, .r (.sl (r4.map GSpan.row))), (7, .r (.sl (r6.map GSpan.row))), (9, .r (.sl (r8.map GSpan.row))), (110, .agg [.r (.sl (a1.map GSpan.row)), .r (.sl (b1.map GSpan.row))]), (111, .r (.int .i64 x4))], [], (i26 0), 230⟩ := by
              intro u10 i26 e
              have h44 := hk6 _ e
              refine hK40 _ ?_
              refine AW.region ?_
              refine ob1k h44 fun x24 ex24 h45 => ?_
              refine AOps.step rfl rfl rfl (OpQ.spec (ms_add rfl (.inl rfl) (.inl rfl) (fun _ => ex24)) _) ?_
              refine AOps.step rfl rfl rfl (OpQ.spec (sp_move rfl (.inl rfl)) _) ?_
              refine AOps.nil ?_
              exact NextQ1.mk h45 (vec [(i26 0)]) ((by exact Weak.cv ⟨.inl (.inl rfl), .inl (.inl rfl), .inl (.inl rfl), .inl (.inl rfl), .inl (.inl rfl), .inl (.inl rfl), .inl (.inl rfl), trivial⟩ trivial (Nat.le_refl _)))
            refine AW.iter1 (fun (x22 : Int) i24 => ⟨[(0, .r (.sl (a1.map GSpan.row))), (1, .r (.sl (b1.map GSpan.row))), (5, .r (.sl (r4.map GSpan.row))), (7, .r (.sl (r6.map GSpan.row))), (9, .r (.sl (r8.map GSpan.row))), (13, .r (.sl (l2.map GSpan.row))), (110, .agg [.r (.sl (a1.map GSpan.row)), .r (.sl (b1.map GSpan.row))]), (111, .r (.int .i64 x4)), (115, .r (.int .i64 (l2.length : Int))), (116, .r (.int .i64 x22))], [], (i24 0), 230⟩) (vec [(i4 0)]) hit5 ((by exact Weak.cv ⟨.inl (.inl rfl), .inl (.inl rfl), .inl (.inl rfl), .inl (.inl rfl), .inl (.inl rfl), .inl (.inl rfl), .inl (.inl rfl), .inl (.inl rfl), .inl (.inl rfl), .inl (.inl rfl), trivial⟩ trivial (Nat.le_refl _))) ?_
            intro x22 i24 v5 hv5 hx5
            have h46 : law_SpanSetsMatch_L5 a1 b1 r4 r6 r8 l2 x22 = some v5 := hv5; unfold law_SpanSetsMatch_L5 at h46
            refine AW.seq_w fun K43 hK43 wK43 => ?_
            refine AW.region ?_
            refine AOps.step rfl rfl rfl (OpQ.spec (sp_lss rfl (.inl rfl) (.inl rfl)) _) ?_
            refine AOps.nil ?_
            refine hK43 _ ?_
            refine AW.seq_w fun K44 hK44 wK44 => ?_
            refine AW.cond rfl (fun hc9 => ?_) (fun hc9 => ?_)
            · have h47 := ite_t hc9 h46
              refine AW.skip ?_
              refine hK44 _ ?_
              refine AW.seq_w fun K45 hK45 wK45 => ?_
              refine AW.block ?_
              refine AW.seq_w fun K46 hK46 wK46 => ?_
              refine AW.region ?_
              refine AOps.step rfl rfl rfl (OpQ.spec (sp_move rfl (.inl rfl)) _) ?_
              refine AOps.step rfl rfl rfl (OpQ.spec (sp_assign rfl (.inl rfl)) _) ?_
              refine AOps.nil ?_
              refine hK46 _ ?_
              refine AW.seq_w fun K47 hK47 wK47 => ?_
              refine AW.regionQ hmix (by kernel_rfl) ?_
              refine AQ.step rfl rfl rfl (sp_move rfl (.inl rfl)) ?_
              refine AQ.step rfl rfl rfl (sp_move rfl (.inl rfl)) ?_
              refine ob1k h47 fun x25 ex25 h48 => ?_
              refine AQ.step rfl rfl rfl (ms_idx rfl tg_31.slice (.inl rfl) (.inl rfl) (fun _ => rfl) (fun _ => ex25)) ?_
              refine AQ.step rfl rfl rfl (sp_fieldAddr_ro rfl tf_38_0 (.inl rfl)) ?_
              refine AQ.step rfl rfl rfl (ms_load (d := .int .i64 x25.From) rfl ts_3 (.inl rfl) rfl) ?_
              refine ob1k h48 fun x26 ex26 h49 => ?_
              refine AQ.step rfl rfl rfl (ms_sub rfl (.inl rfl) (.inl rfl) (fun _ => ex26)) ?_
              refine AQ.step rfl rfl rfl (sp_move rfl (.inl rfl)) ?_
              refine AQ.step rfl rfl rfl (sp_move rfl (.inl rfl)) ?_
              refine AQ.step rfl rfl rfl (ms_idx rfl tg_31.slice (.inl rfl) (.inl rfl) (fun _ => rfl) (fun _ => ex25)) ?_
              refine AQ.step rfl rfl rfl (sp_fieldAddr_ro rfl tf_38_0 (.inl rfl)) ?_
              refine AQ.step rfl rfl rfl (ms_load (d := .int .i64 x25.From) rfl ts_3 (.inl rfl) rfl) ?_
              refine AQ.step rfl rfl rfl (sp_move rfl (.inl rfl)) ?_
              refine AQ.step rfl rfl rfl (sp_move rfl (.inl rfl)) ?_
              refine AQ.step rfl rfl rfl (ms_idx rfl tg_31.slice (.inl rfl) (.inl rfl) (fun _ => rfl) (fun _ => ex25)) ?_
              refine AQ.step rfl rfl rfl (sp_fieldAddr_ro rfl tf_38_1 (.inl rfl)) ?_
              refine AQ.step rfl rfl rfl (ms_load (d := .int .i64 x25.To) rfl ts_3 (.inl rfl) rfl) ?_
              refine ob1k h49 fun x27 ex27 h50 => ?_
              refine AQ.step rfl rfl rfl (ms_sub rfl (.inl rfl) (.inl rfl) (fun _ => ex27)) ?_
              refine AQ.step rfl rfl rfl (sp_move rfl (.inl rfl)) ?_
              refine AQ.step rfl rfl rfl (sp_move rfl (.inl rfl)) ?_
              refine AQ.step rfl rfl rfl (ms_idx rfl tg_31.slice (.inl rfl) (.inl rfl) (fun _ => rfl) (fun _ => ex25)) ?_
              refine AQ.step rfl rfl rfl (sp_fieldAddr_ro rfl tf_38_1 (.inl rfl)) ?_
              refine AQ.step rfl rfl rfl (ms_load (d := .int .i64 x25.To) rfl ts_3 (.inl rfl) rfl) ?_
              refine AQ.step rfl rfl rfl (sp_buildArr rfl tb_39 (q := [(0, _), (1, _), (2, _), (3, _)]) (by exact ⟨rfl, rfl, rfl, (.inl rfl), rfl, rfl, rfl, (.inl rfl), rfl, rfl, rfl, (.inl rfl), rfl, rfl, rfl, (.inl rfl), trivial⟩) (cs := [.r (.int .i64 x26), .r (.int .i64 x25.From), .r (.int .i64 x27), .r (.int .i64 x25.To)]) (by rfl)) ?_
              refine AQ.step rfl rfl rfl (sp_move rfl (.inl rfl)) ?_
              refine AQ.nil ?_
              refine hK47 _ ?_
              refine AW.block ?_
              refine jc1k h50 fun o6 hit6 hk7 he7 => ?_
              have J7 : ∀ (u12 : Unit) (i31 : Nat → Nat), o6 = .nrm u12 → K45 ⟨[(0, .r (.sl (a1.map GSpan.row))), (1, .r (.sl (b1.map GSpan.row))), (5, .r (.sl (r4.map GSpan.row))), (7, .r (.sl (r6.map GSpan.row))), (9, .r (.sl (r8.map GSpan.row))), (13, .r (.sl (l2.map GSpan.row))), (110, .agg [.r (.sl (a1.map GSpan.row)), .r (.sl (b1.map GSpan.row))]), (111, .r (.int .i64 x4)), (115, .r (.int .i64 (l2.length : Int))), (116, .r (.int .i64 x22))], [], (i31 0), 230⟩ := by
                intro u12 i31 e
                have h51 := hk7 _ e
                refine hK45 _ ?_
                refine AW.region ?_
                refine ob1k h51 fun x31 ex31 h52 => ?_
                refine AOps.step rfl rfl rfl (OpQ.spec (ms_add rfl (.inl rfl) (.inl rfl) (fun _ => ex31)) _) ?_
                refine AOps.step rfl rfl rfl (OpQ.spec (sp_move rfl (.inl rfl)) _) ?_
                refine AOps.nil ?_
                exact NextQ1.mk h52 (vec [(i31 0)]) ((by exact Weak.cv ⟨.inl (.inl rfl), .inl (.inl rfl), .inl (.inl rfl), .inl (.inl rfl), .inl (.inl rfl), .inl (.inl rfl), .inl (.inl rfl), .inl (.inl rfl), .inl (.inl rfl), .inl (.inl rfl), trivial⟩ trivial (Nat.le_refl _)))
              refine AW.iter1 (fun (x29 : Int) i29 => ⟨[(0, .r (.sl (a1.map GSpan.row))), (1, .r (.sl (b1.map GSpan.row))), (5, .r (.sl (r4.map GSpan.row))), (7, .r (.sl (r6.map GSpan.row))), (9, .r (.sl (r8.map GSpan.row))), (13, .r (.sl (l2.map GSpan.row))), (110, .agg [.r (.sl (a1.map GSpan.row)), .r (.sl (b1.map GSpan.row))]), (111, .r (.int .i64 x4)), (115, .r (.int .i64 (l2.length : Int))), (116, .r (.int .i64 x22)), (141, .agg [.r (.int .i64 x26), .r (.int .i64 x25.From), .r (.int .i64 x27), .r (.int .i64 x25.To)]), (142, .r (.int .i64 x29))], [], (i29 0), 230⟩) (vec [(i24 0)]) hit6 ((by exact Weak.cv ⟨.inl (.inl rfl), .inl (.inl rfl), .inl (.inl rfl), .inl (.inl rfl), .inl (.inl rfl), .inl (.inl rfl), .inl (.inl rfl), .inl (.inl rfl), .inl (.inl rfl), .inl (.inl rfl), .inl (.inl rfl), .inl (.inl rfl), trivial⟩ trivial (Nat.le_refl _))) ?_
              intro x29 i29 v6 hv6 hx6
              have h53 : law_SpanSetsMatch_L6 a1 b1 r4 r6 r8 x25 x26 x27 x29 = some v6 := hv6; unfold law_SpanSetsMatch_L6 at h53
              refine AW.seq_w fun K48 hK48 wK48 => ?_
              refine AW.region ?_
              refine AOps.step rfl rfl rfl (OpQ.spec (sp_lss rfl (.inl rfl) (.inl rfl)) _) ?_
              refine AOps.nil ?_
              refine hK48 _ ?_
              refine AW.seq_w fun K49 hK49 wK49 => ?_
              refine AW.cond rfl (fun hc10 => ?_) (fun hc10 => ?_)
              · have h54 := ite_t hc10 h53
                refine AW.skip ?_
                refine hK49 _ ?_
                refine AW.seq_w fun K50 hK50 wK50 => ?_
                refine AW.block ?_
                refine AW.seq_w fun K51 hK51 wK51 => ?_
                refine AW.region ?_
                refine ob1k h54 fun x32 ex32 h55 => ?_
                refine AOps.step rfl rfl rfl (OpQ.spec (ms_idx_arr (f := fun a => .r (.int .i64 a)) (l := [x26, x25.From, x27, x25.To]) rfl tq_39 (.inl rfl) (.inl rfl) rfl (fun _ => ex32)) _) ?_
                refine AOps.step rfl rfl rfl (OpQ.spec (sp_assign rfl (.inl rfl)) _) ?_
                refine AOps.nil ?_
                refine hK51 _ ?_
                refine AW.seq_w fun K52 hK52 wK52 => ?_
                refine AW.region ?_
                refine AOps.step rfl rfl rfl (OpQ.spec (sp_move rfl (.inl rfl)) _) ?_
                refine AOps.step rfl rfl rfl (OpQ.spec (sp_move rfl (.inl rfl)) _) ?_
                refine ob1k h55 fun p2 ep2 h56 => ?_
                refine AOps.step rfl rfl rfl (sp_call (r := .r (.bool p2)) (caps := []) (bs := [.r (.sl (a1.map GSpan.row)), .r (.int .i64 x32)]) rfl (.inl rfl) rfl ⟨⟨_, (.inl rfl), .d rfl⟩, ⟨_, (.inl rfl), .d rfl⟩, trivial⟩ (fun _ => w_law_member (ep2)) rfl) ?_
                refine AOps.step rfl rfl rfl (OpQ.spec (sp_move rfl (.inl rfl)) _) ?_
                refine AOps.step rfl rfl rfl (OpQ.spec (sp_move rfl (.inl rfl)) _) ?_
                refine ob1k h56 fun q1 eq1 h57 => ?_
                refine AOps.step rfl rfl rfl (sp_call (r := .r (.bool q1)) (caps := []) (bs := [.r (.sl (b1.map GSpan.row)), .r (.int .i64 x32)]) rfl (.inl rfl) rfl ⟨⟨_, (.inl rfl), .d rfl⟩, ⟨_, (.inl rfl), .d rfl⟩, trivial⟩ (fun _ => w_law_member (eq1)) rfl) ?_
                refine AOps.step rfl rfl rfl (OpQ.spec (sp_assign rfl (.inl rfl)) _) ?_
                refine AOps.step rfl rfl rfl (OpQ.spec (sp_assign rfl (.inl rfl)) _) ?_
                refine AOps.nil ?_
                refine hK52 _ ?_
                refine AW.seq_w fun K53 hK53 wK53 => ?_
                refine AW.region ?_
                refine AOps.step rfl rfl rfl (OpQ.spec (sp_move rfl (.inl rfl)) _) ?_
                refine AOps.step rfl rfl rfl (OpQ.spec (sp_move rfl (.inl rfl)) _) ?_
                refine ob1k h57 fun r17 er17 h58 => ?_
                refine AOps.step rfl rfl rfl (sp_call (r := .r (.bool r17)) (caps := []) (bs := [.r (.sl (r4.map GSpan.row)), .r (.int .i64 x32)]) rfl (.inl rfl) rfl ⟨⟨_, (.inl rfl), .d rfl⟩, ⟨_, (.inl rfl), .d rfl⟩, trivial⟩ (fun _ => w_law_member (er17)) rfl) ?_
                refine AOps.step rfl rfl rfl (OpQ.spec (sp_move rfl (.inl rfl)) _) ?_
                refine AOps.step rfl rfl rfl (OpQ.spec (sp_move rfl (.inl rfl)) _) ?_
                refine AOps.stepW (.one rfl rfl rfl) rfl rfl (OpQ.spec (sp_move rfl (.inl rfl)) _) ?_
                refine AOps.step rfl rfl rfl (OpQ.spec (sp_or rfl (.inl rfl) (.inr ⟨_, (by exact id), rfl⟩)) _) ?_
                refine AOps.step rfl rfl rfl (OpQ.spec (sp_bneq rfl Try.underlying4 (.inl rfl) (.inl rfl)) _) ?_
                refine AOps.step rfl rfl rfl (OpQ.spec (sp_move rfl (.inl rfl)) _) ?_
                refine AOps.stepW (.one rfl rfl rfl) rfl rfl (OpQ.spec (sp_move rfl (.inl rfl)) _) ?_
                refine AOps.stepW (.one rfl rfl rfl) rfl rfl (OpQ.spec (sp_move rfl (.inl rfl)) _) ?_
                refine ob1k h58 fun r18 er18 h59 => ?_
                refine AOps.stepW (.one rfl rfl rfl) rfl rfl (sp_call (r := .r (.bool r18)) (caps := []) (bs := [.r (.sl (r6.map GSpan.row)), .r (.int .i64 x32)]) rfl (.inl rfl) rfl ⟨⟨_, (.inr ⟨_, (by exact id), rfl⟩), .d rfl⟩, ⟨_, (.inr ⟨_, (by exact id), rfl⟩), .d rfl⟩, trivial⟩ (fun hg => w_law_member (gdt er18 hg)) rfl) ?_
                refine AOps.stepW (.one rfl rfl rfl) rfl rfl (OpQ.spec (sp_move rfl (.inl rfl)) _) ?_
                refine AOps.stepW (.one rfl rfl rfl) rfl rfl (OpQ.spec (sp_move rfl (.inr ⟨_, (by exact id), rfl⟩)) _) ?_
                refine AOps.stepW (.two rfl rfl rfl) rfl rfl (OpQ.spec (sp_move rfl (.inl rfl)) _) ?_
                refine AOps.stepW (.one rfl rfl rfl) rfl rfl (OpQ.spec (sp_and rfl (.inr ⟨_, (by exact id), rfl⟩) (.inr ⟨_, (by exact id), rfl⟩)) _) ?_
                refine AOps.stepW (.one rfl rfl rfl) rfl rfl (OpQ.spec (sp_bneq rfl Try.underlying4 (.inr ⟨_, (by exact id), rfl⟩) (.inr ⟨_, (by exact id), rfl⟩)) _) ?_
                refine AOps.step rfl rfl rfl (OpQ.spec (sp_or rfl (.inl rfl) (.inr ⟨_, (by exact id), rfl⟩)) _) ?_
                refine AOps.step rfl rfl rfl (OpQ.spec (sp_move rfl (.inl rfl)) _) ?_
                refine AOps.stepW (.one rfl rfl rfl) rfl rfl (OpQ.spec (sp_move rfl (.inl rfl)) _) ?_
                refine AOps.stepW (.one rfl rfl rfl) rfl rfl (OpQ.spec (sp_move rfl (.inl rfl)) _) ?_
                refine ob1k h59 fun r19 er19 h60 => ?_
                refine AOps.stepW (.one rfl rfl rfl) rfl rfl (sp_call (r := .r (.bool r19)) (caps := []) (bs := [.r (.sl (r8.map GSpan.row)), .r (.int .i64 x32)]) rfl (.inl rfl) rfl ⟨⟨_, (.inr ⟨_, (by exact id), rfl⟩), .d rfl⟩, ⟨_, (.inr ⟨_, (by exact id), rfl⟩), .d rfl⟩, trivial⟩ (fun hg => w_law_member (gdt er19 hg)) rfl) ?_
                refine AOps.stepW (.one rfl rfl rfl) rfl rfl (OpQ.spec (sp_move rfl (.inl rfl)) _) ?_
                refine AOps.stepW (.one rfl rfl rfl) rfl rfl (OpQ.spec (sp_move rfl (.inr ⟨_, (by exact id), rfl⟩)) _) ?_
                refine AOps.stepW (.two rfl rfl rfl) rfl rfl (OpQ.spec (sp_move rfl (.inl rfl)) _) ?_
                refine AOps.stepW (.two rfl rfl rfl) rfl rfl (OpQ.spec (sp_not rfl (.inr ⟨_, (by exact id), rfl⟩)) _) ?_
                refine AOps.stepW (.one rfl rfl rfl) rfl rfl (OpQ.spec (sp_and rfl (.inr ⟨_, (by exact id), rfl⟩) (.inr ⟨_, (by exact id), rfl⟩)) _) ?_
                refine AOps.stepW (.one rfl rfl rfl) rfl rfl (OpQ.spec (sp_bneq rfl Try.underlying4 (.inr ⟨_, (by exact id), rfl⟩) (.inr ⟨_, (by exact id), rfl⟩)) _) ?_
                refine AOps.step rfl rfl rfl (OpQ.spec (sp_or rfl (.inl rfl) (.inr ⟨_, (by exact id), rfl⟩)) _) ?_
                refine AOps.nil ?_
                refine hK53 _ ?_
                refine AW.cond rfl (fun hc11 => ?_) (fun hc11 => ?_)
                · have h61 := ite_t hc11 h60
                  refine AW.seq_w fun K54 hK54 wK54 => ?_
                  refine AW.weak (s' := ⟨[], [], (i29 0), 230⟩) (by exact Weak.cv trivial trivial (Nat.le_refl _)) ?_
                  refine AW.region ?_
                  refine AOps.step rfl rfl rfl (OpQ.spec (sp_assign rfl (.inl rfl)) _) ?_
                  refine AOps.nil ?_
                  refine hK54 _ ?_
                  refine AW.ret ?_
                  exact retf1 (P := Try.prog) (fun (r : Bool) => .r (.bool r)) (he2 _ (hx1 _ (Option.some.inj (he6 _ (hx5 _ (Option.some.inj (he7 _ (hx6 _ (Option.some.inj h61).symm))).symm))).symm)) (.inl rfl) (.t (.d rfl))
                · have h61 := ite_f hc11 h60
                  refine AW.skip ?_
                  refine hK50 _ ?_
                  refine AW.weak (s' := ⟨[(0, .r (.sl (a1.map GSpan.row))), (1, .r (.sl (b1.map GSpan.row))), (5, .r (.sl (r4.map GSpan.row))), (7, .r (.sl (r6.map GSpan.row))), (9, .r (.sl (r8.map GSpan.row))), (13, .r (.sl (l2.map GSpan.row))), (110, .agg [.r (.sl (a1.map GSpan.row)), .r (.sl (b1.map GSpan.row))]), (111, .r (.int .i64 x4)), (115, .r (.int .i64 (l2.length : Int))), (116, .r (.int .i64 x22)), (141, .agg [.r (.int .i64 x26), .r (.int .i64 x25.From), .r (.int .i64 x27), .r (.int .i64 x25.To)]), (142, .r (.int .i64 x29))], [], (i29 0), 230⟩) (by exact Weak.cv ⟨.inl (.inl rfl), .inl (.inl rfl), .inl (.inl rfl), .inl (.inl rfl), .inl (.inl rfl), .inl (.inl rfl), .inl (.inl rfl), .inl (.inl rfl), .inl (.inl rfl), .inl (.inl rfl), .inl (.inl rfl), .inl (.inl rfl), trivial⟩ trivial (Nat.le_refl _)) ?_
                  refine AW.region ?_
                  refine ob1k h61 fun x33 ex33 h62 => ?_
                  refine AOps.step rfl rfl rfl (OpQ.spec (ms_add rfl (.inl rfl) (.inl rfl) (fun _ => ex33)) _) ?_
                  refine AOps.step rfl rfl rfl (OpQ.spec (sp_move rfl (.inl rfl)) _) ?_
                  refine AOps.nil ?_
                  exact NextQ1.mk h62 (vec [(i29 0)]) ((by exact Weak.cv ⟨.inl (.inl rfl), .inl (.inl rfl), .inl (.inl rfl), .inl (.inl rfl), .inl (.inl rfl), .inl (.inl rfl), .inl (.inl rfl), .inl (.inl rfl), .inl (.inl rfl), .inl (.inl rfl), .inl (.inl rfl), .inl (.inl rfl), trivial⟩ trivial (Nat.le_refl _)))
              · have h54 := ite_f hc10 h53
                refine AW.exit ?_
                exact wK45 _ _ ((by exact Weak.cv ⟨.inl (.inl rfl), .inl (.inl rfl), .inl (.inl rfl), .inl (.inl rfl), .inl (.inl rfl), .inl (.inl rfl), .inl (.inl rfl), .inl (.inl rfl), .inl (.inl rfl), .inl (.inl rfl), trivial⟩ trivial (Nat.le_refl _))) (J7 _ (vec [(i29 0)]) (hx6 _ (Option.some.inj h54).symm))
            · have h47 := ite_f hc9 h46
              refine AW.exit ?_
              exact wK40 _ _ ((by exact Weak.cv ⟨.inl (.inl rfl), .inl (.inl rfl), .inl (.inl rfl), .inl (.inl rfl), .inl (.inl rfl), .inl (.inl rfl), .inl (.inl rfl), trivial⟩ trivial (Nat.le_refl _))) (J6 _ (vec [(i24 0)]) (hx5 _ (Option.some.inj h47).symm))
          · have h42 := ite_f hc8 h41
            refine AW.exit ?_
            exact wK17 _ _ ((by exact Weak.cv ⟨.inl (.inl rfl), .inl (.inl rfl), .inl (.inl rfl), .inl (.inl rfl), .inl (.inl rfl), trivial⟩ trivial (Nat.le_refl _))) (J2 _ (vec [(i4 0)]) (hx1 _ (Option.some.inj h42).symm))
    refine AW.cond rfl (fun hc12 => ?_) (fun hc12 => ?_)
    · have h63 := ite_t hc12 hp1
      refine AW.weak (s' := ⟨[(0, .r (.sl (a1.map GSpan.row))), (1, .r (.sl (b1.map GSpan.row))), (5, .r (.sl (r4.map GSpan.row))), (6, .r (.int .i64 r5)), (7, .r (.sl (r6.map GSpan.row))), (8, .r (.int .i64 r7)), (9, .r (.sl (r8.map GSpan.row))), (10, .r (.int .i64 r9))], [], n0, 230⟩) (by exact Weak.cv ⟨.inl (.inl rfl), .inl (.inl rfl), .inl (.inl rfl), .inl (.inl rfl), .inl (.inl rfl), .inl (.inl rfl), .inl (.inl rfl), .inl (.inl rfl), trivial⟩ trivial (Nat.le_refl _)) ?_
      refine AW.region ?_
      refine AOps.step rfl rfl rfl (OpQ.spec (sp_move rfl (.inl rfl)) _) ?_
      refine ob1k h63 fun h64 eh64 h65 => ?_
      refine AOps.step rfl rfl rfl (sp_call (r := .r (.int .i64 h64)) (caps := []) (bs := [.r (.sl (b1.map GSpan.row))]) rfl (.inl rfl) rfl ⟨⟨_, (.inl rfl), .d rfl⟩, trivial⟩ (fun _ => w_law_setError (eh64)) rfl) ?_
      refine AOps.step rfl rfl rfl (OpQ.spec (sp_assign rfl (.inl rfl)) _) ?_
      refine AOps.nil ?_
      exact wK9 _ _ ((by exact Weak.cv ⟨.inl (.inl rfl), .inl (.inl rfl), .inl (.inl rfl), .inl (.inl rfl), .inl (.inl rfl), .inl (.inl rfl), .inl (.inl rfl), .inl (.inl rfl), .inl (.inl rfl), trivial⟩ trivial (Nat.le_refl _))) (J1 _ (vec [n0]) (Option.some.inj h65).symm)
    · have h63 := ite_f hc12 hp1
      refine AW.skip ?_
      exact wK9 _ _ ((by exact Weak.cv ⟨.inl (.inl rfl), .inl (.inl rfl), .inl (.inl rfl), .inl (.inl rfl), .inl (.inl rfl), .inl (.inl rfl), .inl (.inl rfl), .inl (.inl rfl), .inl (.inl rfl), trivial⟩ trivial (Nat.le_refl _))) (J1 _ (vec [n0]) (Option.some.inj h63).symm)
end Go.Proofs.Ythhodpedkdapcaa.Al
