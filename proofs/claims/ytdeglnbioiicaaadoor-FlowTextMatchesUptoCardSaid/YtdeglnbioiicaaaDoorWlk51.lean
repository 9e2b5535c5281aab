/- Walks, as printed. -/
import Derived.Test.YtdeglnbioiicaaaDoorPL1
import Derived.Test.YtdeglnbioiicaaaDoorProg
set_option linter.unusedVariables false
namespace Go.Proofs.YtdeglnbioiicaaaDoor.Al
open Go.Proofs
theorem hmix : Tryd.prog.follows .mixedOrders = true := by kernel_rfl
theorem i_3 : (Tryd.prog.info? 3).map (fun i => (i.zero, i.size, i.bytes)) = some (some (.int .i64 0), 1, 8) := by kernel_rfl
theorem i_30 : (Tryd.prog.info? 30).map (fun i => (i.zero, i.size, i.bytes)) = some (some (.slice none 0 0), 1, 24) := by kernel_rfl
theorem i_32 : (Tryd.prog.info? 32).map (fun i => (i.zero, i.size, i.bytes)) = some (some (.agg #[.int .i64 0, .int .i64 0, .slice none 0 0]), 3, 40) := by kernel_rfl
theorem i_5 : (Tryd.prog.info? 5).map (fun i => (i.zero, i.size, i.bytes)) = some (some (.int .u8 0), 1, 1) := by kernel_rfl
theorem i_63 : (Tryd.prog.info? 63).map (fun i => (i.zero, i.size, i.bytes)) = some (some (.agg #[.string ⟨#[]⟩, .string ⟨#[]⟩]), 2, 32) := by kernel_rfl
theorem i_83 : (Tryd.prog.info? 83).map (fun i => (i.zero, i.size, i.bytes)) = some (some (.agg #[.int .u8 0, .int .u8 0]), 2, 2) := by kernel_rfl
theorem i_9 : (Tryd.prog.info? 9).map (fun i => (i.zero, i.size, i.bytes)) = some (some (.string ⟨#[]⟩), 1, 16) := by kernel_rfl
theorem t0_32 : ZeroTy Tryd.prog 32 (.agg #[.int .i64 0, .int .i64 0, .slice none 0 0]) := ZeroTy.of i_32
theorem t0_63 : ZeroTy Tryd.prog 63 (.agg #[.string ⟨#[]⟩, .string ⟨#[]⟩]) := ZeroTy.of i_63
theorem t0_83 : ZeroTy Tryd.prog 83 (.agg #[.int .u8 0, .int .u8 0]) := ZeroTy.of i_83
theorem ta_32 : AggTy Tryd.prog 32 3 := AggTy.of Tryd.underlying32 rfl i_32
theorem ta_63 : AggTy Tryd.prog 63 2 := AggTy.of Tryd.underlying63 rfl i_63
theorem ta_83 : AggTy Tryd.prog 83 2 := AggTy.of Tryd.underlying83 rfl i_83
theorem tab_g3 : theTabs 3 = some (tabFirst.flatMap (rInt .u8)) := by kernel_rfl
theorem tab_g4 : theTabs 4 = some (tabAccept.flatMap Utf8_AcceptRange.row) := by kernel_rfl
theorem tb_32 : BuildTy Tryd.prog 32 [(0, 1), (1, 1), (2, 1)] [.int .i64 0, .int .i64 0, .slice none 0 0] := BuildTy.of Tryd.underlying32 (fun w => by kernel_rfl) i_32
theorem tb_63 : BuildTy Tryd.prog 63 [(0, 1), (1, 1)] [.string ⟨#[]⟩, .string ⟨#[]⟩] := BuildTy.of Tryd.underlying63 (fun w => by kernel_rfl) i_63
theorem te_63 : EqTy Tryd.prog 63 [some .string, some .string] := EqTy.of Tryd.underlying63 (by kernel_rfl) (by kernel_rfl) (by exact ⟨rfl, rfl, Tryd.underlying9, rfl, rfl, Tryd.underlying9, trivial⟩)
theorem tf_32_0 : FieldTy Tryd.prog 32 0 0 := FieldTy.of Tryd.underlying32 rfl rfl i_3 (by decide)
theorem tf_32_1 : FieldTy Tryd.prog 32 1 1 := FieldTy.of Tryd.underlying32 rfl rfl i_3 (by decide)
theorem tf_32_2 : FieldTy Tryd.prog 32 2 2 := FieldTy.of Tryd.underlying32 rfl rfl i_30 (by decide)
theorem tf_63_0 : FieldTy Tryd.prog 63 0 0 := FieldTy.of Tryd.underlying63 rfl rfl i_9 (by decide)
theorem tf_63_1 : FieldTy Tryd.prog 63 1 1 := FieldTy.of Tryd.underlying63 rfl rfl i_9 (by decide)
theorem tf_83_0 : FieldTy Tryd.prog 83 0 0 := FieldTy.of Tryd.underlying83 rfl rfl i_5 (by decide)
theorem tf_83_1 : FieldTy Tryd.prog 83 1 1 := FieldTy.of Tryd.underlying83 rfl rfl i_5 (by decide)
theorem tg_22 : GrowTy Tryd.prog 22 32 3 40 := GrowTy.of Tryd.underlying22 i_32 rfl rfl (by decide)
theorem tg_30 : GrowTy Tryd.prog 30 63 2 32 := GrowTy.of Tryd.underlying30 i_63 rfl rfl (by decide)
theorem tg_53 : GrowTy Tryd.prog 53 5 1 1 := GrowTy.of Tryd.underlying53 i_5 rfl rfl (by decide)
theorem tr_32 : ZRow Tryd.prog 32 [.int .i64 0, .int .i64 0, .sl []] := ZRow.of i_32 rfl
theorem ts_3 : ScalTy Tryd.prog 3 := ScalTy.of Tryd.underlying3 rfl i_3
theorem ts_30 : ScalTy Tryd.prog 30 := ScalTy.of Tryd.underlying30 rfl i_30
theorem ts_5 : ScalTy Tryd.prog 5 := ScalTy.of Tryd.underlying5 rfl i_5
theorem ts_9 : ScalTy Tryd.prog 9 := ScalTy.of Tryd.underlying9 rfl i_9
theorem tt_66 : TabTy Tryd.prog 66 256 5 1 := ⟨Tryd.underlying66, size_of i_5⟩
theorem tt_84 : TabTy Tryd.prog 84 16 83 2 := ⟨Tryd.underlying84, size_of i_83⟩
theorem tz_32 : ∃ i, Tryd.prog.info? 32 = some i ∧ i.size = 3 := size_of i_32
theorem tz_63 : ∃ i, Tryd.prog.info? 63 = some i ∧ i.size = 2 := size_of i_63
theorem tz_83 : ∃ i, Tryd.prog.info? 83 = some i ∧ i.size = 2 := size_of i_83
set_option maxHeartbeats 4000000 in
set_option maxRecDepth 20000 in
theorem w_law_on {name1 : List UInt8} {r : (List GAttr)} (h : law_on name1 = some r) : ARO Tryd.prog 24 [.r (.str name1)] (.r (.sl (r.map GAttr.row))) := by
  unfold law_on at h
  refine ARO.mkF Tryd.func24 rfl rfl Tryd.ntmps24 rfl (Nat.le_of_ble_eq_true rfl) fun n0 => ?_
  refine AW.seq_w fun K1 hK1 wK1 => ?_
  refine AW.region ?_
  refine AOps.step rfl rfl rfl (OpQ.spec (sp_assign rfl (.inl rfl)) _) ?_
  refine AOps.nil ?_
  refine hK1 _ ?_
  refine AW.seq_w fun K2 hK2 wK2 => ?_
  refine AW.region ?_
  refine AOps.step rfl rfl rfl (OpQ.spec (sp_move rfl (.inl rfl)) _) ?_
  refine AOps.step rfl rfl rfl (OpQ.spec (sp_build rfl tb_63 (q := [(0, _), (1, _)]) (by exact ⟨rfl, rfl, rfl, (.inl rfl), rfl, rfl, rfl, (.inl rfl), trivial⟩) (cs := [.r (.str name1), .r (.str [111, 110])]) (by rfl)) _) ?_
  refine AOps.step rfl rfl rfl (ms_lit 5 rfl tg_30 (f := GAttr.row) (l := ([(GAttr.mk name1 [111, 110])] : List GAttr)) ⟨rfl, ⟨_, (.inl rfl), rfl⟩, trivial⟩ rfl (fun _ => rfl) rfl) ?_
  refine AOps.step rfl rfl rfl (OpQ.spec (sp_assign rfl (.inl rfl)) _) ?_
  refine AOps.nil ?_
  refine hK2 _ ?_
  refine AW.ret ?_
  exact retf1 (P := Tryd.prog) (fun (r : (List GAttr)) => .r (.sl (r.map GAttr.row))) h (.inl rfl) (.t (.one (.own rfl)))
set_option maxHeartbeats 4000000 in
set_option maxRecDepth 20000 in
theorem w_attr_Name {s1 : List UInt8} {r : Bool} (h : attr_Name s1 = some r) : ARO Tryd.prog 49 [.r (.str s1)] (.r (.bool r)) := by
  unfold attr_Name at h
  refine ARO.mkF Tryd.func49 rfl rfl Tryd.ntmps49 rfl (Nat.le_of_ble_eq_true rfl) fun n0 => ?_
  refine AW.seq_w fun K1 hK1 wK1 => ?_
  refine AW.region ?_
  refine AOps.step rfl rfl rfl (OpQ.spec (sp_assign rfl (.inl rfl)) _) ?_
  refine AOps.nil ?_
  refine hK1 _ ?_
  refine AW.seq_w fun K2 hK2 wK2 => ?_
  refine AW.seq_w fun K3 hK3 wK3 => ?_
  refine AW.region ?_
  refine AOps.step rfl rfl rfl (OpQ.spec (sp_move rfl (.inl rfl)) _) ?_
  refine AOps.step rfl rfl rfl (OpQ.spec (sp_seql rfl (.inl rfl) (.inl rfl)) _) ?_
  refine AOps.step rfl rfl rfl (OpQ.spec (sp_move rfl (.inl rfl)) _) ?_
  refine AOps.stepW (.one rfl rfl rfl) rfl rfl (OpQ.spec (sp_move rfl (.inl rfl)) _) ?_
  refine AOps.stepW (.one rfl rfl rfl) rfl rfl (OpQ.spec (sp_len_str rfl Tryd.underlying9 (.inr ⟨_, (by exact id), rfl⟩)) _) ?_
  refine AOps.stepW (.one rfl rfl rfl) rfl rfl (OpQ.spec (sp_gtr rfl (.inr ⟨_, (by exact id), rfl⟩) (.inl rfl)) _) ?_
  refine AOps.step rfl rfl rfl (OpQ.spec (sp_or rfl (.inl rfl) (.inr ⟨_, (by exact id), rfl⟩)) _) ?_
  refine AOps.step rfl rfl rfl (OpQ.spec (sp_move rfl (.inl rfl)) _) ?_
  refine AOps.stepW (.one rfl rfl rfl) rfl rfl (OpQ.spec (sp_move rfl (.inl rfl)) _) ?_
  refine ob1k h fun ch1 ech1 h1 => ?_
  refine AOps.stepW (.one rfl rfl rfl) rfl rfl (OpQ.spec (ms_idx_str rfl Tryd.underlying9 (.inr ⟨_, (by exact id), rfl⟩) (.inl rfl) (gdt ech1)) _) ?_
  refine AOps.stepW (.one rfl rfl rfl) rfl rfl (OpQ.spec (sp_lss rfl (.inr ⟨_, (by exact id), rfl⟩) (.inl rfl)) _) ?_
  refine AOps.step rfl rfl rfl (OpQ.spec (sp_or rfl (.inl rfl) (.inr ⟨_, (by exact id), rfl⟩)) _) ?_
  refine AOps.step rfl rfl rfl (OpQ.spec (sp_move rfl (.inl rfl)) _) ?_
  refine AOps.stepW (.one rfl rfl rfl) rfl rfl (OpQ.spec (sp_move rfl (.inl rfl)) _) ?_
  refine ob1k h1 fun ch2 ech2 h2 => ?_
  refine AOps.stepW (.one rfl rfl rfl) rfl rfl (OpQ.spec (ms_idx_str rfl Tryd.underlying9 (.inr ⟨_, (by exact id), rfl⟩) (.inl rfl) (gdt ech2)) _) ?_
  refine AOps.stepW (.one rfl rfl rfl) rfl rfl (OpQ.spec (sp_gtr rfl (.inr ⟨_, (by exact id), rfl⟩) (.inl rfl)) _) ?_
  refine AOps.step rfl rfl rfl (OpQ.spec (sp_or rfl (.inl rfl) (.inr ⟨_, (by exact id), rfl⟩)) _) ?_
  refine AOps.nil ?_
  refine hK3 _ ?_
  refine AW.cond rfl (fun hc1 => ?_) (fun hc1 => ?_)
  · have h3 := ite_t hc1 h2
    refine AW.seq_w fun K4 hK4 wK4 => ?_
    refine AW.weak (s' := ⟨[], [], n0, 53⟩) (by exact Weak.cv trivial trivial (Nat.le_refl _)) ?_
    refine AW.region ?_
    refine AOps.step rfl rfl rfl (OpQ.spec (sp_assign rfl (.inl rfl)) _) ?_
    refine AOps.nil ?_
    refine hK4 _ ?_
    refine AW.ret ?_
    exact retf1 (P := Tryd.prog) (fun (r : Bool) => .r (.bool r)) h3 (.inl rfl) (.t (.d rfl))
  · have h3 := ite_f hc1 h2
    refine AW.skip ?_
    refine hK2 _ ?_
    refine AW.seq_w fun K5 hK5 wK5 => ?_
    refine AW.seq_w fun K6 hK6 wK6 => ?_
    refine AW.weak (s' := ⟨[(0, .r (.str s1))], [], n0, 53⟩) (by exact Weak.cv ⟨.inl (.inl rfl), trivial⟩ trivial (Nat.le_refl _)) ?_
    refine AW.region ?_
    refine AOps.step rfl rfl rfl (OpQ.spec (sp_move rfl (.inl rfl)) _) ?_
    refine AOps.step rfl rfl rfl (OpQ.spec (sp_len_str rfl Tryd.underlying9 (.inl rfl)) _) ?_
    refine AOps.step rfl rfl rfl (OpQ.spec (sp_move rfl (.inl rfl)) _) ?_
    refine AOps.nil ?_
    refine hK6 _ ?_
    refine AW.block ?_
    refine jc1k h3 fun o1 hit1 hk1 he1 => ?_
    have J1 : ∀ (u2 : Unit) (i5 : Nat → Nat), o1 = .nrm u2 → K5 ⟨[], [], (i5 0), 53⟩ := by
      intro u2 i5 e
      have h4 := hk1 _ e
      refine hK5 _ ?_
      refine AW.seq_w fun K7 hK7 wK7 => ?_
      refine AW.region ?_
      refine AOps.step rfl rfl rfl (OpQ.spec (sp_assign rfl (.inl rfl)) _) ?_
      refine AOps.nil ?_
      refine hK7 _ ?_
      refine AW.ret ?_
      exact retf1 (P := Tryd.prog) (fun (r : Bool) => .r (.bool r)) h4 (.inl rfl) (.t (.d rfl))
    refine AW.iter1 (fun (x2 : Int) i3 => ⟨[(0, .r (.str s1)), (23, .r (.int .i64 (s1.length : Int))), (24, .r (.int .i64 x2))], [], (i3 0), 53⟩) (vec [n0]) hit1 ((by exact Weak.cv ⟨.inl (.inl rfl), .inl (.inl rfl), .inl (.inl rfl), trivial⟩ trivial (Nat.le_refl _))) ?_
    intro x2 i3 v1 hv1 hx1
    have h5 : attr_Name_L1 s1 x2 = some v1 := hv1; unfold attr_Name_L1 at h5
    refine AW.seq_w fun K8 hK8 wK8 => ?_
    refine AW.region ?_
    refine AOps.step rfl rfl rfl (OpQ.spec (sp_lss rfl (.inl rfl) (.inl rfl)) _) ?_
    refine AOps.nil ?_
    refine hK8 _ ?_
    refine AW.seq_w fun K9 hK9 wK9 => ?_
    refine AW.cond rfl (fun hc2 => ?_) (fun hc2 => ?_)
    · have h6 := ite_t hc2 h5
      refine AW.skip ?_
      refine hK9 _ ?_
      refine AW.seq_w fun K10 hK10 wK10 => ?_
      refine AW.block ?_
      refine AW.seq_w fun K11 hK11 wK11 => ?_
      refine AW.region ?_
      refine AOps.step rfl rfl rfl (OpQ.spec (sp_move rfl (.inl rfl)) _) ?_
      refine AOps.step rfl rfl rfl (OpQ.spec (sp_assign rfl (.inl rfl)) _) ?_
      refine AOps.nil ?_
      refine hK11 _ ?_
      refine AW.seq_w fun K12 hK12 wK12 => ?_
      refine AW.region ?_
      refine AOps.step rfl rfl rfl (OpQ.spec (sp_move rfl (.inl rfl)) _) ?_
      refine AOps.step rfl rfl rfl (OpQ.spec (sp_move rfl (.inl rfl)) _) ?_
      refine ob1k h6 fun c1 ec1 h7 => ?_
      refine AOps.step rfl rfl rfl (OpQ.spec (ms_idx_str rfl Tryd.underlying9 (.inl rfl) (.inl rfl) (fun _ => ec1)) _) ?_
      refine AOps.step rfl rfl rfl (OpQ.spec (sp_assign rfl (.inl rfl)) _) ?_
      refine AOps.nil ?_
      refine hK12 _ ?_
      refine AW.seq_w fun K13 hK13 wK13 => ?_
      refine AW.region ?_
      refine AOps.step rfl rfl rfl (OpQ.spec (sp_move rfl (.inl rfl)) _) ?_
      refine AOps.step rfl rfl rfl (OpQ.spec (sp_lss rfl (.inl rfl) (.inl rfl)) _) ?_
      refine AOps.step rfl rfl rfl (OpQ.spec (sp_move rfl (.inl rfl)) _) ?_
      refine AOps.stepW (.one rfl rfl rfl) rfl rfl (OpQ.spec (sp_move rfl (.inl rfl)) _) ?_
      refine AOps.stepW (.one rfl rfl rfl) rfl rfl (OpQ.spec (sp_gtr rfl (.inr ⟨_, (by exact id), rfl⟩) (.inl rfl)) _) ?_
      refine AOps.step rfl rfl rfl (OpQ.spec (sp_or rfl (.inl rfl) (.inr ⟨_, (by exact id), rfl⟩)) _) ?_
      refine AOps.step rfl rfl rfl (OpQ.spec (sp_move rfl (.inl rfl)) _) ?_
      refine AOps.stepW (.one rfl rfl rfl) rfl rfl (OpQ.spec (sp_move rfl (.inl rfl)) _) ?_
      refine AOps.stepW (.one rfl rfl rfl) rfl rfl (OpQ.spec (sp_lss rfl (.inr ⟨_, (by exact id), rfl⟩) (.inl rfl)) _) ?_
      refine AOps.stepW (.one rfl rfl rfl) rfl rfl (OpQ.spec (sp_move rfl (.inr ⟨_, (by exact id), rfl⟩)) _) ?_
      refine AOps.stepW (.two rfl rfl rfl) rfl rfl (OpQ.spec (sp_move rfl (.inl rfl)) _) ?_
      refine AOps.stepW (.two rfl rfl rfl) rfl rfl (OpQ.spec (sp_gtr rfl (.inr ⟨_, (by exact id), rfl⟩) (.inl rfl)) _) ?_
      refine AOps.stepW (.one rfl rfl rfl) rfl rfl (OpQ.spec (sp_or rfl (.inr ⟨_, (by exact id), rfl⟩) (.inr ⟨_, (by exact id), rfl⟩)) _) ?_
      refine AOps.step rfl rfl rfl (OpQ.spec (sp_and rfl (.inl rfl) (.inr ⟨_, (by exact id), rfl⟩)) _) ?_
      refine AOps.step rfl rfl rfl (OpQ.spec (sp_move rfl (.inl rfl)) _) ?_
      refine AOps.stepW (.one rfl rfl rfl) rfl rfl (OpQ.spec (sp_move rfl (.inl rfl)) _) ?_
      refine AOps.stepW (.one rfl rfl rfl) rfl rfl (OpQ.spec (sp_neq rfl (.inr ⟨_, (by exact id), rfl⟩) (.inl rfl)) _) ?_
      refine AOps.step rfl rfl rfl (OpQ.spec (sp_and rfl (.inl rfl) (.inr ⟨_, (by exact id), rfl⟩)) _) ?_
      refine AOps.step rfl rfl rfl (OpQ.spec (sp_move rfl (.inl rfl)) _) ?_
      refine AOps.stepW (.one rfl rfl rfl) rfl rfl (OpQ.spec (sp_move rfl (.inl rfl)) _) ?_
      refine AOps.stepW (.one rfl rfl rfl) rfl rfl (OpQ.spec (sp_neq rfl (.inr ⟨_, (by exact id), rfl⟩) (.inl rfl)) _) ?_
      refine AOps.step rfl rfl rfl (OpQ.spec (sp_and rfl (.inl rfl) (.inr ⟨_, (by exact id), rfl⟩)) _) ?_
      refine AOps.nil ?_
      refine hK13 _ ?_
      refine AW.cond rfl (fun hc3 => ?_) (fun hc3 => ?_)
      · have h8 := ite_t hc3 h7
        refine AW.seq_w fun K14 hK14 wK14 => ?_
        refine AW.weak (s' := ⟨[], [], (i3 0), 53⟩) (by exact Weak.cv trivial trivial (Nat.le_refl _)) ?_
        refine AW.region ?_
        refine AOps.step rfl rfl rfl (OpQ.spec (sp_assign rfl (.inl rfl)) _) ?_
        refine AOps.nil ?_
        refine hK14 _ ?_
        refine AW.ret ?_
        exact retf1 (P := Tryd.prog) (fun (r : Bool) => .r (.bool r)) (he1 _ (hx1 _ (Option.some.inj h8).symm)) (.inl rfl) (.t (.d rfl))
      · have h8 := ite_f hc3 h7
        refine AW.skip ?_
        refine hK10 _ ?_
        refine AW.weak (s' := ⟨[(0, .r (.str s1)), (23, .r (.int .i64 (s1.length : Int))), (24, .r (.int .i64 x2))], [], (i3 0), 53⟩) (by exact Weak.cv ⟨.inl (.inl rfl), .inl (.inl rfl), .inl (.inl rfl), trivial⟩ trivial (Nat.le_refl _)) ?_
        refine AW.region ?_
        refine ob1k h8 fun x4 ex4 h9 => ?_
        refine AOps.step rfl rfl rfl (OpQ.spec (ms_add rfl (.inl rfl) (.inl rfl) (fun _ => ex4)) _) ?_
        refine AOps.step rfl rfl rfl (OpQ.spec (sp_move rfl (.inl rfl)) _) ?_
        refine AOps.nil ?_
        exact NextQ1.mk h9 (vec [(i3 0)]) ((by exact Weak.cv ⟨.inl (.inl rfl), .inl (.inl rfl), .inl (.inl rfl), trivial⟩ trivial (Nat.le_refl _)))
    · have h6 := ite_f hc2 h5
      refine AW.exit ?_
      exact wK5 _ _ ((by exact Weak.cv trivial trivial (Nat.le_refl _))) (J1 _ (vec [(i3 0)]) (hx1 _ (Option.some.inj h6).symm))
set_option maxHeartbeats 4000000 in
set_option maxRecDepth 20000 in
theorem w_attr_Value {s1 : List UInt8} {r : Bool} (h : attr_Value s1 = some r) : ARO Tryd.prog 50 [.r (.str s1)] (.r (.bool r)) := by
  unfold attr_Value at h
  refine ARO.mkF Tryd.func50 rfl rfl Tryd.ntmps50 rfl (Nat.le_of_ble_eq_true rfl) fun n0 => ?_
  refine AW.seq_w fun K1 hK1 wK1 => ?_
  refine AW.region ?_
  refine AOps.step rfl rfl rfl (OpQ.spec (sp_assign rfl (.inl rfl)) _) ?_
  refine AOps.nil ?_
  refine hK1 _ ?_
  refine AW.seq_w fun K2 hK2 wK2 => ?_
  refine AW.seq_w fun K3 hK3 wK3 => ?_
  refine AW.region ?_
  refine AOps.step rfl rfl rfl (OpQ.spec (sp_move rfl (.inl rfl)) _) ?_
  refine AOps.step rfl rfl rfl (OpQ.spec (sp_seql rfl (.inl rfl) (.inl rfl)) _) ?_
  refine AOps.step rfl rfl rfl (OpQ.spec (sp_move rfl (.inl rfl)) _) ?_
  refine AOps.stepW (.one rfl rfl rfl) rfl rfl (OpQ.spec (sp_move rfl (.inl rfl)) _) ?_
  refine AOps.stepW (.one rfl rfl rfl) rfl rfl (OpQ.spec (sp_len_str rfl Tryd.underlying9 (.inr ⟨_, (by exact id), rfl⟩)) _) ?_
  refine AOps.stepW (.one rfl rfl rfl) rfl rfl (OpQ.spec (sp_gtr rfl (.inr ⟨_, (by exact id), rfl⟩) (.inl rfl)) _) ?_
  refine AOps.step rfl rfl rfl (OpQ.spec (sp_or rfl (.inl rfl) (.inr ⟨_, (by exact id), rfl⟩)) _) ?_
  refine AOps.nil ?_
  refine hK3 _ ?_
  refine AW.cond rfl (fun hc1 => ?_) (fun hc1 => ?_)
  · have h1 := ite_t hc1 h
    refine AW.seq_w fun K4 hK4 wK4 => ?_
    refine AW.weak (s' := ⟨[], [], n0, 27⟩) (by exact Weak.cv trivial trivial (Nat.le_refl _)) ?_
    refine AW.region ?_
    refine AOps.step rfl rfl rfl (OpQ.spec (sp_assign rfl (.inl rfl)) _) ?_
    refine AOps.nil ?_
    refine hK4 _ ?_
    refine AW.ret ?_
    exact retf1 (P := Tryd.prog) (fun (r : Bool) => .r (.bool r)) h1 (.inl rfl) (.t (.d rfl))
  · have h1 := ite_f hc1 h
    refine AW.skip ?_
    refine hK2 _ ?_
    refine AW.seq_w fun K5 hK5 wK5 => ?_
    refine AW.seq_w fun K6 hK6 wK6 => ?_
    refine AW.region ?_
    refine AOps.step rfl rfl rfl (OpQ.spec (sp_move rfl (.inl rfl)) _) ?_
    refine AOps.step rfl rfl rfl (OpQ.spec (sp_len_str rfl Tryd.underlying9 (.inl rfl)) _) ?_
    refine AOps.step rfl rfl rfl (OpQ.spec (sp_move rfl (.inl rfl)) _) ?_
    refine AOps.nil ?_
    refine hK6 _ ?_
    refine AW.block ?_
    refine jc1k h1 fun o1 hit1 hk1 he1 => ?_
    have J1 : ∀ (u2 : Unit) (i5 : Nat → Nat), o1 = .nrm u2 → K5 ⟨[], [], (i5 0), 27⟩ := by
      intro u2 i5 e
      have h2 := hk1 _ e
      refine hK5 _ ?_
      refine AW.seq_w fun K7 hK7 wK7 => ?_
      refine AW.region ?_
      refine AOps.step rfl rfl rfl (OpQ.spec (sp_assign rfl (.inl rfl)) _) ?_
      refine AOps.nil ?_
      refine hK7 _ ?_
      refine AW.ret ?_
      exact retf1 (P := Tryd.prog) (fun (r : Bool) => .r (.bool r)) h2 (.inl rfl) (.t (.d rfl))
    refine AW.iter1 (fun (x2 : Int) i3 => ⟨[(0, .r (.str s1)), (12, .r (.int .i64 (s1.length : Int))), (13, .r (.int .i64 x2))], [], (i3 0), 27⟩) (vec [n0]) hit1 ((by exact Weak.cv ⟨.inl (.inl rfl), .inl (.inl rfl), .inl (.inl rfl), trivial⟩ trivial (Nat.le_refl _))) ?_
    intro x2 i3 v1 hv1 hx1
    have h3 : attr_Value_L1 s1 x2 = some v1 := hv1; unfold attr_Value_L1 at h3
    refine AW.seq_w fun K8 hK8 wK8 => ?_
    refine AW.region ?_
    refine AOps.step rfl rfl rfl (OpQ.spec (sp_lss rfl (.inl rfl) (.inl rfl)) _) ?_
    refine AOps.nil ?_
    refine hK8 _ ?_
    refine AW.seq_w fun K9 hK9 wK9 => ?_
    refine AW.cond rfl (fun hc2 => ?_) (fun hc2 => ?_)
    · have h4 := ite_t hc2 h3
      refine AW.skip ?_
      refine hK9 _ ?_
      refine AW.seq_w fun K10 hK10 wK10 => ?_
      refine AW.block ?_
      refine AW.seq_w fun K11 hK11 wK11 => ?_
      refine AW.region ?_
      refine AOps.step rfl rfl rfl (OpQ.spec (sp_move rfl (.inl rfl)) _) ?_
      refine AOps.step rfl rfl rfl (OpQ.spec (sp_assign rfl (.inl rfl)) _) ?_
      refine AOps.nil ?_
      refine hK11 _ ?_
      refine AW.seq_w fun K12 hK12 wK12 => ?_
      refine AW.region ?_
      refine AOps.step rfl rfl rfl (OpQ.spec (sp_move rfl (.inl rfl)) _) ?_
      refine AOps.step rfl rfl rfl (OpQ.spec (sp_move rfl (.inl rfl)) _) ?_
      refine ob1k h4 fun ch1 ech1 h5 => ?_
      refine AOps.step rfl rfl rfl (OpQ.spec (ms_idx_str rfl Tryd.underlying9 (.inl rfl) (.inl rfl) (fun _ => ech1)) _) ?_
      refine AOps.step rfl rfl rfl (OpQ.spec (sp_lss rfl (.inl rfl) (.inl rfl)) _) ?_
      refine AOps.step rfl rfl rfl (OpQ.spec (sp_move rfl (.inl rfl)) _) ?_
      refine AOps.stepW (.one rfl rfl rfl) rfl rfl (OpQ.spec (sp_move rfl (.inl rfl)) _) ?_
      refine AOps.stepW (.one rfl rfl rfl) rfl rfl (OpQ.spec (sp_move rfl (.inl rfl)) _) ?_
      refine AOps.stepW (.one rfl rfl rfl) rfl rfl (OpQ.spec (ms_idx_str rfl Tryd.underlying9 (.inr ⟨_, (by exact id), rfl⟩) (.inr ⟨_, (by exact id), rfl⟩) (fun _ => ech1)) _) ?_
      refine AOps.stepW (.one rfl rfl rfl) rfl rfl (OpQ.spec (sp_gtr rfl (.inr ⟨_, (by exact id), rfl⟩) (.inl rfl)) _) ?_
      refine AOps.step rfl rfl rfl (OpQ.spec (sp_or rfl (.inl rfl) (.inr ⟨_, (by exact id), rfl⟩)) _) ?_
      refine AOps.nil ?_
      refine hK12 _ ?_
      refine AW.cond rfl (fun hc3 => ?_) (fun hc3 => ?_)
      · have h6 := ite_t hc3 h5
        refine AW.seq_w fun K13 hK13 wK13 => ?_
        refine AW.weak (s' := ⟨[], [], (i3 0), 27⟩) (by exact Weak.cv trivial trivial (Nat.le_refl _)) ?_
        refine AW.region ?_
        refine AOps.step rfl rfl rfl (OpQ.spec (sp_assign rfl (.inl rfl)) _) ?_
        refine AOps.nil ?_
        refine hK13 _ ?_
        refine AW.ret ?_
        exact retf1 (P := Tryd.prog) (fun (r : Bool) => .r (.bool r)) (he1 _ (hx1 _ (Option.some.inj h6).symm)) (.inl rfl) (.t (.d rfl))
      · have h6 := ite_f hc3 h5
        refine AW.skip ?_
        refine hK10 _ ?_
        refine AW.weak (s' := ⟨[(0, .r (.str s1)), (12, .r (.int .i64 (s1.length : Int))), (13, .r (.int .i64 x2))], [], (i3 0), 27⟩) (by exact Weak.cv ⟨.inl (.inl rfl), .inl (.inl rfl), .inl (.inl rfl), trivial⟩ trivial (Nat.le_refl _)) ?_
        refine AW.region ?_
        refine ob1k h6 fun x4 ex4 h7 => ?_
        refine AOps.step rfl rfl rfl (OpQ.spec (ms_add rfl (.inl rfl) (.inl rfl) (fun _ => ex4)) _) ?_
        refine AOps.step rfl rfl rfl (OpQ.spec (sp_move rfl (.inl rfl)) _) ?_
        refine AOps.nil ?_
        exact NextQ1.mk h7 (vec [(i3 0)]) ((by exact Weak.cv ⟨.inl (.inl rfl), .inl (.inl rfl), .inl (.inl rfl), trivial⟩ trivial (Nat.le_refl _)))
    · have h4 := ite_f hc2 h3
      refine AW.exit ?_
      exact wK5 _ _ ((by exact Weak.cv trivial trivial (Nat.le_refl _))) (J1 _ (vec [(i3 0)]) (hx1 _ (Option.some.inj h4).symm))
set_option maxHeartbeats 4000000 in
set_option maxRecDepth 20000 in
theorem w_attr_check {l1 : List GAttr} {empty1 : Bool} {r : Int} (h : attr_check l1 empty1 = some r) : ARO Tryd.prog 43 [.r (.sl (l1.map GAttr.row)), .r (.bool empty1)] (.r (.int .i64 r)) := by
  unfold attr_check at h
  refine ARO.mkF Tryd.func43 rfl rfl Tryd.ntmps43 rfl (Nat.le_of_ble_eq_true rfl) fun n0 => ?_
  refine AW.seq_w fun K1 hK1 wK1 => ?_
  refine AW.region ?_
  refine AOps.step rfl rfl rfl (OpQ.spec (sp_assign rfl (.inl rfl)) _) ?_
  refine AOps.nil ?_
  refine hK1 _ ?_
  refine AW.seq_w fun K2 hK2 wK2 => ?_
  refine AW.seq_w fun K3 hK3 wK3 => ?_
  refine AW.region ?_
  refine AOps.step rfl rfl rfl (OpQ.spec (sp_move rfl (.inl rfl)) _) ?_
  refine AOps.step rfl rfl rfl (OpQ.spec (ms_len rfl tg_30.slice (.inl rfl)) _) ?_
  refine AOps.step rfl rfl rfl (OpQ.spec (sp_move rfl (.inl rfl)) _) ?_
  refine AOps.nil ?_
  refine hK3 _ ?_
  refine AW.block ?_
  refine jc1k h fun o1 hit1 hk1 he1 => ?_
  have J1 : ∀ (u2 : Unit) (i5 : Nat → Nat), o1 = .nrm u2 → K2 ⟨[], [], (i5 0), 48⟩ := by
    intro u2 i5 e
    have h1 := hk1 _ e
    refine hK2 _ ?_
    refine AW.seq_w fun K4 hK4 wK4 => ?_
    refine AW.region ?_
    refine AOps.step rfl rfl rfl (OpQ.spec (sp_assign rfl (.inl rfl)) _) ?_
    refine AOps.nil ?_
    refine hK4 _ ?_
    refine AW.ret ?_
    exact retf1 (P := Tryd.prog) (fun (r : Int) => .r (.int .i64 r)) h1 (.inl rfl) (.t (.d rfl))
  refine AW.iter1 (fun (x2 : Int) i3 => ⟨[(0, .r (.sl (l1.map GAttr.row))), (1, .r (.bool empty1)), (7, .r (.sl (l1.map GAttr.row))), (8, .r (.int .i64 (l1.length : Int))), (9, .r (.int .i64 x2))], [], (i3 0), 48⟩) (vec [n0]) hit1 ((by exact Weak.cv ⟨.inl (.inl rfl), .inl (.inl rfl), .inl (.inl rfl), .inl (.inl rfl), .inl (.inl rfl), trivial⟩ trivial (Nat.le_refl _))) ?_
  intro x2 i3 v1 hv1 hx1
  have h2 : attr_check_L1 l1 empty1 x2 = some v1 := hv1; unfold attr_check_L1 at h2
  refine AW.seq_w fun K5 hK5 wK5 => ?_
  refine AW.region ?_
  refine AOps.step rfl rfl rfl (OpQ.spec (sp_lss rfl (.inl rfl) (.inl rfl)) _) ?_
  refine AOps.nil ?_
  refine hK5 _ ?_
  refine AW.seq_w fun K6 hK6 wK6 => ?_
  refine AW.cond rfl (fun hc1 => ?_) (fun hc1 => ?_)
  · have h3 := ite_t hc1 h2
    refine AW.skip ?_
    refine hK6 _ ?_
    refine AW.seq_w fun K7 hK7 wK7 => ?_
    refine AW.block ?_
    refine AW.seq_w fun K8 hK8 wK8 => ?_
    refine AW.region ?_
    refine AOps.step rfl rfl rfl (OpQ.spec (sp_move rfl (.inl rfl)) _) ?_
    refine ob1k h3 fun x4 ex4 h4 => ?_
    refine AOps.step rfl rfl rfl (OpQ.spec (ms_idx rfl tg_30.slice (.inl rfl) (.inl rfl) (fun _ => rfl) (fun _ => ex4)) _) ?_
    refine AOps.step rfl rfl rfl (OpQ.spec (ms_loadA (cs := [.r (.str x4.Name), .r (.str x4.Value)]) rfl ta_63 (.inl rfl) rfl rfl) _) ?_
    refine AOps.step rfl rfl rfl (ms_alloc (cs := [.r (.str []), .r (.str [])]) 6 rfl t0_63 rfl rfl) ?_
    refine AOps.step rfl rfl rfl (OpQ.spec (sp_assign rfl (.inl rfl)) _) ?_
    refine AOps.step0 rfl rfl (ms_store_box (ds := [.r (.str x4.Name), .r (.str x4.Value)]) rfl tz_63 (.inl rfl) rfl (.inl rfl) rfl rfl rfl rfl) ?_
    refine AOps.nil ?_
    refine hK8 _ ?_
    refine AW.block ?_
    refine AW.seq_w fun K9 hK9 wK9 => ?_
    refine AW.region ?_
    refine AOps.step rfl rfl rfl (OpQ.spec (sp_fieldAddr_own (ob := .box _ _ _) rfl tf_63_0 (.inl rfl) (fun _ => rfl) rfl) _) ?_
    refine AOps.step rfl rfl rfl (OpQ.spec (ms_load_box (a := .r (.str x4.Name)) rfl ts_9 (.inl rfl) rfl rfl) _) ?_
    refine ob1k h4 fun r1 er1 h5 => ?_
    refine AOps.step rfl rfl rfl (sp_call (r := .r (.bool r1)) (caps := []) (bs := [.r (.str x4.Name)]) rfl (.inl rfl) rfl ⟨⟨_, (.inl rfl), .d rfl⟩, trivial⟩ (fun _ => w_attr_Name (er1)) rfl) ?_
    refine AOps.step rfl rfl rfl (OpQ.spec (sp_not rfl (.inl rfl)) _) ?_
    refine AOps.step rfl rfl rfl (OpQ.spec (sp_assign rfl (.inl rfl)) _) ?_
    refine AOps.nil ?_
    refine hK9 _ ?_
    refine AW.cond rfl (fun hc2 => ?_) (fun hc2 => ?_)
    · have h6 := ite_t hc2 h5
      refine AW.seq_w fun K10 hK10 wK10 => ?_
      refine AW.weak (s' := ⟨[], [], ((i3 0) + 1), 48⟩) (by exact Weak.cv trivial trivial (Nat.le_refl _)) ?_
      refine AW.region ?_
      refine AOps.step rfl rfl rfl (OpQ.spec (sp_assign rfl (.inl rfl)) _) ?_
      refine AOps.nil ?_
      refine hK10 _ ?_
      refine AW.ret ?_
      exact retf1 (P := Tryd.prog) (fun (r : Int) => .r (.int .i64 r)) (he1 _ (hx1 _ (Option.some.inj h6).symm)) (.inl rfl) (.t (.d rfl))
    · have h6 := ite_f hc2 h5
      refine AW.seq_w fun K11 hK11 wK11 => ?_
      refine AW.weak (s' := ⟨[(0, .r (.sl (l1.map GAttr.row))), (1, .r (.bool empty1)), (5, .r (.int .i64 x2)), (6, .ptr 6 (i3 0) 0 0), (7, .r (.sl (l1.map GAttr.row))), (8, .r (.int .i64 (l1.length : Int))), (9, .r (.int .i64 x2))], [(6, some (.box (i3 0) 63 [.r (.str x4.Name), .r (.str x4.Value)]))], ((i3 0) + 1), 48⟩) (by exact Weak.cv ⟨.inl (.inl rfl), .inl (.inl rfl), .inl (.inl rfl), .inl (.inl rfl), .inl (.inl rfl), .inl (.inl rfl), .inl (.inl rfl), trivial⟩ ⟨.inl rfl, trivial⟩ (Nat.le_refl _)) ?_
      refine AW.region ?_
      refine AOps.step rfl rfl rfl (OpQ.spec (sp_fieldAddr_own (ob := .box _ _ _) rfl tf_63_1 (.inl rfl) (fun _ => rfl) rfl) _) ?_
      refine AOps.step rfl rfl rfl (OpQ.spec (ms_load_box (a := .r (.str x4.Value)) rfl ts_9 (.inl rfl) rfl rfl) _) ?_
      refine ob1k h6 fun r2 er2 h7 => ?_
      refine AOps.step rfl rfl rfl (sp_call (r := .r (.bool r2)) (caps := []) (bs := [.r (.str x4.Value)]) rfl (.inl rfl) rfl ⟨⟨_, (.inl rfl), .d rfl⟩, trivial⟩ (fun _ => w_attr_Value (er2)) rfl) ?_
      refine AOps.step rfl rfl rfl (OpQ.spec (sp_not rfl (.inl rfl)) _) ?_
      refine AOps.step rfl rfl rfl (OpQ.spec (sp_move rfl (.inl rfl)) _) ?_
      refine AOps.stepW (.one rfl rfl rfl) rfl rfl (OpQ.spec (sp_move rfl (.inl rfl)) _) ?_
      refine AOps.stepW (.one rfl rfl rfl) rfl rfl (OpQ.spec (sp_move rfl (.inr ⟨_, (by exact id), rfl⟩)) _) ?_
      refine AOps.stepW (.two rfl rfl rfl) rfl rfl (OpQ.spec (sp_fieldAddr_own (ob := .box _ _ _) rfl tf_63_1 (.inl rfl) (fun _ => rfl) rfl) _) ?_
      refine AOps.stepW (.two rfl rfl rfl) rfl rfl (OpQ.spec (ms_load_box (a := .r (.str x4.Value)) rfl ts_9 (.inr ⟨_, (by exact id), rfl⟩) rfl rfl) _) ?_
      refine AOps.stepW (.two rfl rfl rfl) rfl rfl (OpQ.spec (sp_seql rfl (.inr ⟨_, (by exact id), rfl⟩) (.inl rfl)) _) ?_
      refine AOps.stepW (.one rfl rfl rfl) rfl rfl (OpQ.spec (sp_and rfl (.inr ⟨_, (by exact id), rfl⟩) (.inr ⟨_, (by exact id), rfl⟩)) _) ?_
      refine AOps.stepW (.one rfl rfl rfl) rfl rfl (OpQ.spec (sp_not rfl (.inr ⟨_, (by exact id), rfl⟩)) _) ?_
      refine AOps.step rfl rfl rfl (OpQ.spec (sp_and rfl (.inl rfl) (.inr ⟨_, (by exact id), rfl⟩)) _) ?_
      refine AOps.step rfl rfl rfl (OpQ.spec (sp_assign rfl (.inl rfl)) _) ?_
      refine AOps.nil ?_
      refine hK11 _ ?_
      refine AW.cond rfl (fun hc3 => ?_) (fun hc3 => ?_)
      · have h8 := ite_t hc3 h7
        refine AW.seq_w fun K12 hK12 wK12 => ?_
        refine AW.weak (s' := ⟨[], [], ((i3 0) + 1), 48⟩) (by exact Weak.cv trivial trivial (Nat.le_refl _)) ?_
        refine AW.region ?_
        refine AOps.step rfl rfl rfl (OpQ.spec (sp_assign rfl (.inl rfl)) _) ?_
        refine AOps.nil ?_
        refine hK12 _ ?_
        refine AW.ret ?_
        exact retf1 (P := Tryd.prog) (fun (r : Int) => .r (.int .i64 r)) (he1 _ (hx1 _ (Option.some.inj h8).symm)) (.inl rfl) (.t (.d rfl))
      · have h8 := ite_f hc3 h7
        refine AW.seq_w fun K13 hK13 wK13 => ?_
        refine AW.regionQ hmix (by kernel_rfl) ?_
        refine AQ.step rfl rfl rfl (sp_move rfl (.inl rfl)) ?_
        refine AQ.step rfl rfl rfl (sp_gtr rfl (.inl rfl) (.inl rfl)) ?_
        refine AQ.step rfl rfl rfl (sp_move rfl (.inl rfl)) ?_
        refine AQ.stepW (.one rfl rfl rfl) rfl rfl (sp_fieldAddr_own (ob := .box _ _ _) rfl tf_63_0 (.inl rfl) (fun _ => rfl) rfl) ?_
        refine AQ.stepW (.one rfl rfl rfl) rfl rfl (ms_load_box (a := .r (.str x4.Name)) rfl ts_9 (.inr ⟨_, (by exact id), rfl⟩) rfl rfl) ?_
        refine AQ.stepW (.one rfl rfl rfl) rfl rfl (sp_move rfl (.inl rfl)) ?_
        refine AQ.stepW (.one rfl rfl rfl) rfl rfl (sp_move rfl (.inl rfl)) ?_
        refine ob1k h8 fun x5 ex5 h9 => ?_
        refine AQ.stepW (.one rfl rfl rfl) rfl rfl (ms_sub rfl (.inr ⟨_, (by exact id), rfl⟩) (.inl rfl) (gdt ex5)) ?_
        refine ob1k h9 fun x6 ex6 h10 => ?_
        refine AQ.stepW (.one rfl rfl rfl) rfl rfl (ms_idx rfl tg_30.slice (.inr ⟨_, (by exact id), rfl⟩) (.inr ⟨_, (by exact id), rfl⟩) (fun _ => rfl) (gdt ex6)) ?_
        refine AQ.stepW (.one rfl rfl rfl) rfl rfl (sp_fieldAddr_ro rfl tf_63_0 (.inr ⟨_, (by exact id), rfl⟩)) ?_
        refine AQ.stepW (.one rfl rfl rfl) rfl rfl (ms_load (d := .str x6.Name) rfl ts_9 (.inr ⟨_, (by exact id), rfl⟩) rfl) ?_
        refine AQ.stepW (.one rfl rfl rfl) rfl rfl (sp_sleq rfl (.inr ⟨_, (by exact id), rfl⟩) (.inr ⟨_, (by exact id), rfl⟩)) ?_
        refine AQ.step rfl rfl rfl (sp_and rfl (.inl rfl) (.inr ⟨_, (by exact id), rfl⟩)) ?_
        refine AQ.step rfl rfl rfl (sp_assign rfl (.inl rfl)) ?_
        refine AQ.nil ?_
        refine hK13 _ ?_
        refine AW.cond rfl (fun hc4 => ?_) (fun hc4 => ?_)
        · have h11 := ite_t hc4 h10
          refine AW.seq_w fun K14 hK14 wK14 => ?_
          refine AW.weak (s' := ⟨[], [], ((i3 0) + 1), 48⟩) (by exact Weak.cv trivial trivial (Nat.le_refl _)) ?_
          refine AW.region ?_
          refine AOps.step rfl rfl rfl (OpQ.spec (sp_assign rfl (.inl rfl)) _) ?_
          refine AOps.nil ?_
          refine hK14 _ ?_
          refine AW.ret ?_
          exact retf1 (P := Tryd.prog) (fun (r : Int) => .r (.int .i64 r)) (he1 _ (hx1 _ (Option.some.inj h11).symm)) (.inl rfl) (.t (.d rfl))
        · have h11 := ite_f hc4 h10
          refine AW.skip ?_
          refine hK7 _ ?_
          refine AW.weak (s' := ⟨[(0, .r (.sl (l1.map GAttr.row))), (1, .r (.bool empty1)), (7, .r (.sl (l1.map GAttr.row))), (8, .r (.int .i64 (l1.length : Int))), (9, .r (.int .i64 x2))], [], ((i3 0) + 1), 48⟩) (by exact Weak.cv ⟨.inl (.inl rfl), .inl (.inl rfl), .inl (.inl rfl), .inl (.inl rfl), .inl (.inl rfl), trivial⟩ trivial (Nat.le_refl _)) ?_
          refine AW.region ?_
          refine ob1k h11 fun x7 ex7 h12 => ?_
          refine AOps.step rfl rfl rfl (OpQ.spec (ms_add rfl (.inl rfl) (.inl rfl) (fun _ => ex7)) _) ?_
          refine AOps.step rfl rfl rfl (OpQ.spec (sp_move rfl (.inl rfl)) _) ?_
          refine AOps.nil ?_
          exact NextQ1.mk h12 (vec [((i3 0) + 1)]) ((by exact Weak.cv ⟨.inl (.inl rfl), .inl (.inl rfl), .inl (.inl rfl), .inl (.inl rfl), .inl (.inl rfl), trivial⟩ trivial (Nat.le_refl _)))
  · have h3 := ite_f hc1 h2
    refine AW.exit ?_
    exact wK2 _ _ ((by exact Weak.cv trivial trivial (Nat.le_refl _))) (J1 _ (vec [(i3 0)]) (hx1 _ (Option.some.inj h3).symm))
set_option maxHeartbeats 4000000 in
set_option maxRecDepth 20000 in
theorem w_attr_Check {l1 : List GAttr} {r : Int} (h : attr_Check l1 = some r) : ARO Tryd.prog 38 [.r (.sl (l1.map GAttr.row))] (.r (.int .i64 r)) := by
  unfold attr_Check at h
  refine ARO.mkF Tryd.func38 rfl rfl Tryd.ntmps38 rfl (Nat.le_of_ble_eq_true rfl) fun n0 => ?_
  refine AW.seq_w fun K1 hK1 wK1 => ?_
  refine AW.region ?_
  refine AOps.step rfl rfl rfl (OpQ.spec (sp_assign rfl (.inl rfl)) _) ?_
  refine AOps.nil ?_
  refine hK1 _ ?_
  refine AW.seq_w fun K2 hK2 wK2 => ?_
  refine AW.region ?_
  refine AOps.step rfl rfl rfl (OpQ.spec (sp_move rfl (.inl rfl)) _) ?_
  refine ob1k h fun r1 er1 h1 => ?_
  refine AOps.step rfl rfl rfl (sp_call (r := .r (.int .i64 r1)) (caps := []) (bs := [.r (.sl (l1.map GAttr.row)), .r (.bool false)]) rfl (.inl rfl) rfl ⟨⟨_, (.inl rfl), .d rfl⟩, ⟨_, (.inl rfl), .d rfl⟩, trivial⟩ (fun _ => w_attr_check (er1)) rfl) ?_
  refine AOps.step rfl rfl rfl (OpQ.spec (sp_assign rfl (.inl rfl)) _) ?_
  refine AOps.nil ?_
  refine hK2 _ ?_
  refine AW.ret ?_
  exact retf1 (P := Tryd.prog) (fun (r : Int) => .r (.int .i64 r)) h1 (.inl rfl) (.t (.d rfl))
set_option maxHeartbeats 4000000 in
set_option maxRecDepth 20000 in
theorem w_unicode_utf8_decodeRuneInStringSlow {s1 : List UInt8} {r : Int × Int} (h : unicode_utf8_decodeRuneInStringSlow s1 = some r) : ARO Tryd.prog 44 [.r (.str s1)] (.tup [.r (.int .i32 r.1), .r (.int .i64 r.2)]) := by
  unfold unicode_utf8_decodeRuneInStringSlow at h
  refine ARO.mkF Tryd.func44 rfl rfl Tryd.ntmps44 rfl (Nat.le_of_ble_eq_true rfl) fun n0 => ?_
  refine AW.seq_w fun K1 hK1 wK1 => ?_
  refine AW.region ?_
  refine AOps.step rfl rfl rfl (OpQ.spec (sp_assign rfl (.inl rfl)) _) ?_
  refine AOps.step rfl rfl rfl (OpQ.spec (sp_assign rfl (.inl rfl)) _) ?_
  refine AOps.nil ?_
  refine hK1 _ ?_
  refine AW.seq_w fun K2 hK2 wK2 => ?_
  refine AW.region ?_
  refine AOps.step rfl rfl rfl (OpQ.spec (sp_move rfl (.inl rfl)) _) ?_
  refine AOps.step rfl rfl rfl (OpQ.spec (sp_len_str rfl Tryd.underlying9 (.inl rfl)) _) ?_
  refine AOps.step rfl rfl rfl (OpQ.spec (sp_assign rfl (.inl rfl)) _) ?_
  refine AOps.nil ?_
  refine hK2 _ ?_
  refine AW.seq_w fun K3 hK3 wK3 => ?_
  refine AW.seq_w fun K4 hK4 wK4 => ?_
  refine AW.region ?_
  refine AOps.step rfl rfl rfl (OpQ.spec (sp_move rfl (.inl rfl)) _) ?_
  refine AOps.step rfl rfl rfl (OpQ.spec (sp_lss rfl (.inl rfl) (.inl rfl)) _) ?_
  refine AOps.nil ?_
  refine hK4 _ ?_
  refine AW.cond rfl (fun hc1 => ?_) (fun hc1 => ?_)
  · have h1 := ite_t hc1 h
    refine AW.seq_w fun K5 hK5 wK5 => ?_
    refine AW.region ?_
    refine AOps.step rfl rfl rfl (OpQ.spec (sp_assign rfl (.inl rfl)) _) ?_
    refine AOps.step rfl rfl rfl (OpQ.spec (sp_assign rfl (.inl rfl)) _) ?_
    refine AOps.nil ?_
    refine hK5 _ ?_
    refine AW.ret ?_
    exact retf2 (P := Tryd.prog) (fun (r : Int × Int) => .r (.int .i32 r.1)) (fun (r : Int × Int) => .r (.int .i64 r.2)) h1 (.inl rfl) (.t (.d rfl)) (.t (.d rfl))
  · have h1 := ite_f hc1 h
    refine AW.skip ?_
    refine hK3 _ ?_
    refine AW.seq_w fun K6 hK6 wK6 => ?_
    refine AW.region ?_
    refine AOps.step rfl rfl rfl (OpQ.spec (sp_move rfl (.inl rfl)) _) ?_
    refine ob1k h1 fun s01 es01 h2 => ?_
    refine AOps.step rfl rfl rfl (OpQ.spec (ms_idx_str rfl Tryd.underlying9 (.inl rfl) (.inl rfl) (fun _ => es01)) _) ?_
    refine AOps.step rfl rfl rfl (OpQ.spec (sp_assign rfl (.inl rfl)) _) ?_
    refine AOps.nil ?_
    refine hK6 _ ?_
    refine AW.seq_w fun K7 hK7 wK7 => ?_
    refine AW.region ?_
    refine AOps.step rfl rfl rfl (OpQ.spec (sp_move rfl (.inl rfl)) _) ?_
    refine ob1k h2 fun x1 ex1 h3 => ?_
    refine AOps.step rfl rfl rfl (OpQ.spec (ms_idx_tab (f := (rInt .u8)) (l := tabFirst) rfl tt_66 tab_g3 (by kernel_rfl) (.inl rfl) (fun _ => rfl) (by decide) (fun _ => ex1)) _) ?_
    refine AOps.step rfl rfl rfl (OpQ.spec (ms_load (d := .int .u8 x1) rfl ts_5 (.inl rfl) rfl) _) ?_
    refine AOps.step rfl rfl rfl (OpQ.spec (sp_assign rfl (.inl rfl)) _) ?_
    refine AOps.nil ?_
    refine hK7 _ ?_
    refine AW.seq_w fun K8 hK8 wK8 => ?_
    refine AW.seq_w fun K9 hK9 wK9 => ?_
    refine AW.weak (s' := ⟨[(0, .r (.str s1)), (4, .r (.int .i64 (s1.length : Int))), (5, .r (.int .u8 (s01.toNat : Int))), (6, .r (.int .u8 x1))], [], n0, 117⟩) (by exact Weak.cv ⟨.inl (.inl rfl), .inl (.inl rfl), .inl (.inl rfl), .inl (.inl rfl), trivial⟩ trivial (Nat.le_refl _)) ?_
    refine AW.region ?_
    refine AOps.step rfl rfl rfl (OpQ.spec (sp_move rfl (.inl rfl)) _) ?_
    refine AOps.step rfl rfl rfl (OpQ.spec (sp_geq rfl (.inl rfl) (.inl rfl)) _) ?_
    refine AOps.nil ?_
    refine hK9 _ ?_
    refine AW.cond rfl (fun hc2 => ?_) (fun hc2 => ?_)
    · have h4 := ite_t hc2 h3
      refine AW.seq_w fun K10 hK10 wK10 => ?_
      refine AW.region ?_
      refine AOps.step rfl rfl rfl (OpQ.spec (sp_move rfl (.inl rfl)) _) ?_
      refine AOps.step rfl rfl rfl (OpQ.spec (sp_convert_int rfl Tryd.underlying5 Tryd.underlying21 (.inl rfl)) _) ?_
      refine AOps.step rfl rfl rfl (OpQ.spec (sp_shl (b := 31) rfl (.inl rfl) (.inl rfl)) _) ?_
      refine AOps.step rfl rfl rfl (OpQ.spec (sp_shr (b := 31) rfl (.inl rfl) (.inl rfl)) _) ?_
      refine AOps.step rfl rfl rfl (OpQ.spec (sp_assign rfl (.inl rfl)) _) ?_
      refine AOps.nil ?_
      refine hK10 _ ?_
      refine AW.seq_w fun K11 hK11 wK11 => ?_
      refine AW.weak (s' := ⟨[(0, .r (.str s1)), (7, .r (.int .i32 (shrC .i32 (shlC .i32 (IntKind.i32.wrap x1) 31) 31)))], [], n0, 117⟩) (by exact Weak.cv ⟨.inl (.inl rfl), .inl (.inl rfl), trivial⟩ trivial (Nat.le_refl _)) ?_
      refine AW.region ?_
      refine AOps.step rfl rfl rfl (OpQ.spec (sp_move rfl (.inl rfl)) _) ?_
      refine AOps.step rfl rfl rfl (OpQ.spec (ms_idx_str rfl Tryd.underlying9 (.inl rfl) (.inl rfl) (fun _ => es01)) _) ?_
      refine AOps.step rfl rfl rfl (OpQ.spec (sp_convert_int rfl Tryd.underlying5 Tryd.underlying21 (.inl rfl)) _) ?_
      refine AOps.step rfl rfl rfl (OpQ.spec (sp_move rfl (.inl rfl)) _) ?_
      refine AOps.step rfl rfl rfl (OpQ.spec (sp_bAndNot rfl (.inl rfl) (.inl rfl)) _) ?_
      refine AOps.step rfl rfl rfl (OpQ.spec (sp_move rfl (.inl rfl)) _) ?_
      refine AOps.step rfl rfl rfl (OpQ.spec (sp_bAnd rfl (.inl rfl) (.inl rfl)) _) ?_
      refine AOps.step rfl rfl rfl (OpQ.spec (sp_bOr rfl (.inl rfl) (.inl rfl)) _) ?_
      refine AOps.step rfl rfl rfl (OpQ.spec (sp_assign rfl (.inl rfl)) _) ?_
      refine AOps.step rfl rfl rfl (OpQ.spec (sp_assign rfl (.inl rfl)) _) ?_
      refine AOps.nil ?_
      refine hK11 _ ?_
      refine AW.ret ?_
      exact retf2 (P := Tryd.prog) (fun (r : Int × Int) => .r (.int .i32 r.1)) (fun (r : Int × Int) => .r (.int .i64 r.2)) h4 (.inl rfl) (.t (.d rfl)) (.t (.d rfl))
    · have h4 := ite_f hc2 h3
      refine AW.skip ?_
      refine hK8 _ ?_
      refine AW.seq_w fun K12 hK12 wK12 => ?_
      refine AW.region ?_
      refine AOps.step rfl rfl rfl (OpQ.spec (sp_move rfl (.inl rfl)) _) ?_
      refine AOps.step rfl rfl rfl (OpQ.spec (sp_bAnd rfl (.inl rfl) (.inl rfl)) _) ?_
      refine AOps.step rfl rfl rfl (OpQ.spec (sp_convert_int rfl Tryd.underlying5 Tryd.underlying3 (.inl rfl)) _) ?_
      refine AOps.step rfl rfl rfl (OpQ.spec (sp_assign rfl (.inl rfl)) _) ?_
      refine AOps.nil ?_
      refine hK12 _ ?_
      refine AW.seq_w fun K13 hK13 wK13 => ?_
      refine AW.region ?_
      refine AOps.step rfl rfl rfl (OpQ.spec (sp_move rfl (.inl rfl)) _) ?_
      refine AOps.step rfl rfl rfl (OpQ.spec (sp_shr (b := 4) rfl (.inl rfl) (.inl rfl)) _) ?_
      refine ob1k h4 fun x2 ex2 h5 => ?_
      refine AOps.step rfl rfl rfl (OpQ.spec (ms_idx_tab (f := Utf8_AcceptRange.row) (l := tabAccept) rfl tt_84 tab_g4 (by kernel_rfl) (.inl rfl) (fun _ => rfl) (by decide) (fun _ => ex2)) _) ?_
      refine AOps.step rfl rfl rfl (OpQ.spec (ms_loadA (cs := [.r (.int .u8 x2.lo), .r (.int .u8 x2.hi)]) rfl ta_83 (.inl rfl) rfl rfl) _) ?_
      refine AOps.step rfl rfl rfl (ms_alloc (cs := [.r (.int .u8 0), .r (.int .u8 0)]) 9 rfl t0_83 rfl rfl) ?_
      refine AOps.step0 rfl rfl (ms_store_box (ds := [.r (.int .u8 x2.lo), .r (.int .u8 x2.hi)]) rfl tz_83 (.inl rfl) rfl (.inl rfl) rfl rfl rfl rfl) ?_
      refine AOps.nil ?_
      refine hK13 _ ?_
      refine AW.seq_w fun K14 hK14 wK14 => ?_
      refine AW.seq_w fun K15 hK15 wK15 => ?_
      refine AW.weak (s' := ⟨[(0, .r (.str s1)), (4, .r (.int .i64 (s1.length : Int))), (5, .r (.int .u8 (s01.toNat : Int))), (8, .r (.int .i64 (IntKind.i64.wrap (bAnd .u8 x1 7)))), (9, .ptr 9 n0 0 0)], [(9, some (.box n0 83 [.r (.int .u8 x2.lo), .r (.int .u8 x2.hi)]))], (n0 + 1), 117⟩) (by exact Weak.cv ⟨.inl (.inl rfl), .inl (.inl rfl), .inl (.inl rfl), .inl (.inl rfl), .inl (.inl rfl), trivial⟩ ⟨.inl rfl, trivial⟩ (Nat.le_refl _)) ?_
      refine AW.region ?_
      refine AOps.step rfl rfl rfl (OpQ.spec (sp_move rfl (.inl rfl)) _) ?_
      refine AOps.step rfl rfl rfl (OpQ.spec (sp_move rfl (.inl rfl)) _) ?_
      refine AOps.step rfl rfl rfl (OpQ.spec (sp_lss rfl (.inl rfl) (.inl rfl)) _) ?_
      refine AOps.nil ?_
      refine hK15 _ ?_
      refine AW.cond rfl (fun hc3 => ?_) (fun hc3 => ?_)
      · have h6 := ite_t hc3 h5
        refine AW.seq_w fun K16 hK16 wK16 => ?_
        refine AW.region ?_
        refine AOps.step rfl rfl rfl (OpQ.spec (sp_assign rfl (.inl rfl)) _) ?_
        refine AOps.step rfl rfl rfl (OpQ.spec (sp_assign rfl (.inl rfl)) _) ?_
        refine AOps.nil ?_
        refine hK16 _ ?_
        refine AW.ret ?_
        exact retf2 (P := Tryd.prog) (fun (r : Int × Int) => .r (.int .i32 r.1)) (fun (r : Int × Int) => .r (.int .i64 r.2)) h6 (.inl rfl) (.t (.d rfl)) (.t (.d rfl))
      · have h6 := ite_f hc3 h5
        refine AW.skip ?_
        refine hK14 _ ?_
        refine AW.seq_w fun K17 hK17 wK17 => ?_
        refine AW.region ?_
        refine AOps.step rfl rfl rfl (OpQ.spec (sp_move rfl (.inl rfl)) _) ?_
        refine ob1k h6 fun s11 es11 h7 => ?_
        refine AOps.step rfl rfl rfl (OpQ.spec (ms_idx_str rfl Tryd.underlying9 (.inl rfl) (.inl rfl) (fun _ => es11)) _) ?_
        refine AOps.step rfl rfl rfl (OpQ.spec (sp_assign rfl (.inl rfl)) _) ?_
        refine AOps.nil ?_
        refine hK17 _ ?_
        refine AW.seq_w fun K18 hK18 wK18 => ?_
        refine AW.seq_w fun K19 hK19 wK19 => ?_
        refine AW.region ?_
        refine AOps.step rfl rfl rfl (OpQ.spec (sp_move rfl (.inl rfl)) _) ?_
        refine AOps.step rfl rfl rfl (OpQ.spec (sp_fieldAddr_own (ob := .box _ _ _) rfl tf_83_0 (.inl rfl) (fun _ => rfl) rfl) _) ?_
        refine AOps.step rfl rfl rfl (OpQ.spec (ms_load_box (a := .r (.int .u8 x2.lo)) rfl ts_5 (.inl rfl) rfl rfl) _) ?_
        refine AOps.step rfl rfl rfl (OpQ.spec (sp_lss rfl (.inl rfl) (.inl rfl)) _) ?_
        refine AOps.step rfl rfl rfl (OpQ.spec (sp_move rfl (.inl rfl)) _) ?_
        refine AOps.stepW (.one rfl rfl rfl) rfl rfl (OpQ.spec (sp_fieldAddr_own (ob := .box _ _ _) rfl tf_83_1 (.inl rfl) (fun _ => rfl) rfl) _) ?_
        refine AOps.stepW (.one rfl rfl rfl) rfl rfl (OpQ.spec (ms_load_box (a := .r (.int .u8 x2.hi)) rfl ts_5 (.inr ⟨_, (by exact id), rfl⟩) rfl rfl) _) ?_
        refine AOps.stepW (.one rfl rfl rfl) rfl rfl (OpQ.spec (sp_move rfl (.inl rfl)) _) ?_
        refine AOps.stepW (.one rfl rfl rfl) rfl rfl (OpQ.spec (sp_lss rfl (.inr ⟨_, (by exact id), rfl⟩) (.inr ⟨_, (by exact id), rfl⟩)) _) ?_
        refine AOps.step rfl rfl rfl (OpQ.spec (sp_or rfl (.inl rfl) (.inr ⟨_, (by exact id), rfl⟩)) _) ?_
        refine AOps.nil ?_
        refine hK19 _ ?_
        refine AW.cond rfl (fun hc4 => ?_) (fun hc4 => ?_)
        · have h8 := ite_t hc4 h7
          refine AW.seq_w fun K20 hK20 wK20 => ?_
          refine AW.weak (s' := ⟨[], [], (n0 + 1), 117⟩) (by exact Weak.cv trivial trivial (Nat.le_refl _)) ?_
          refine AW.region ?_
          refine AOps.step rfl rfl rfl (OpQ.spec (sp_assign rfl (.inl rfl)) _) ?_
          refine AOps.step rfl rfl rfl (OpQ.spec (sp_assign rfl (.inl rfl)) _) ?_
          refine AOps.nil ?_
          refine hK20 _ ?_
          refine AW.ret ?_
          exact retf2 (P := Tryd.prog) (fun (r : Int × Int) => .r (.int .i32 r.1)) (fun (r : Int × Int) => .r (.int .i64 r.2)) h8 (.inl rfl) (.t (.d rfl)) (.t (.d rfl))
        · have h8 := ite_f hc4 h7
          refine AW.skip ?_
          refine hK18 _ ?_
          refine AW.seq_w fun K21 hK21 wK21 => ?_
          refine AW.seq_w fun K22 hK22 wK22 => ?_
          refine AW.weak (s' := ⟨[(0, .r (.str s1)), (5, .r (.int .u8 (s01.toNat : Int))), (8, .r (.int .i64 (IntKind.i64.wrap (bAnd .u8 x1 7)))), (10, .r (.int .u8 (s11.toNat : Int)))], [], (n0 + 1), 117⟩) (by exact Weak.cv ⟨.inl (.inl rfl), .inl (.inl rfl), .inl (.inl rfl), .inl (.inl rfl), trivial⟩ trivial (Nat.le_refl _)) ?_
          refine AW.region ?_
          refine AOps.step rfl rfl rfl (OpQ.spec (sp_move rfl (.inl rfl)) _) ?_
          refine AOps.step rfl rfl rfl (OpQ.spec (sp_leq rfl (.inl rfl) (.inl rfl)) _) ?_
          refine AOps.nil ?_
          refine hK22 _ ?_
          refine AW.cond rfl (fun hc5 => ?_) (fun hc5 => ?_)
          · have h9 := ite_t hc5 h8
            refine AW.seq_w fun K23 hK23 wK23 => ?_
            refine AW.region ?_
            refine AOps.step rfl rfl rfl (OpQ.spec (sp_move rfl (.inl rfl)) _) ?_
            refine AOps.step rfl rfl rfl (OpQ.spec (sp_bAnd rfl (.inl rfl) (.inl rfl)) _) ?_
            refine AOps.step rfl rfl rfl (OpQ.spec (sp_convert_int rfl Tryd.underlying5 Tryd.underlying21 (.inl rfl)) _) ?_
            refine AOps.step rfl rfl rfl (OpQ.spec (sp_shl (b := 6) rfl (.inl rfl) (.inl rfl)) _) ?_
            refine AOps.step rfl rfl rfl (OpQ.spec (sp_move rfl (.inl rfl)) _) ?_
            refine AOps.step rfl rfl rfl (OpQ.spec (sp_bAnd rfl (.inl rfl) (.inl rfl)) _) ?_
            refine AOps.step rfl rfl rfl (OpQ.spec (sp_convert_int rfl Tryd.underlying5 Tryd.underlying21 (.inl rfl)) _) ?_
            refine AOps.step rfl rfl rfl (OpQ.spec (sp_bOr rfl (.inl rfl) (.inl rfl)) _) ?_
            refine AOps.step rfl rfl rfl (OpQ.spec (sp_assign rfl (.inl rfl)) _) ?_
            refine AOps.step rfl rfl rfl (OpQ.spec (sp_assign rfl (.inl rfl)) _) ?_
            refine AOps.nil ?_
            refine hK23 _ ?_
            refine AW.ret ?_
            exact retf2 (P := Tryd.prog) (fun (r : Int × Int) => .r (.int .i32 r.1)) (fun (r : Int × Int) => .r (.int .i64 r.2)) h9 (.inl rfl) (.t (.d rfl)) (.t (.d rfl))
          · have h9 := ite_f hc5 h8
            refine AW.skip ?_
            refine hK21 _ ?_
            refine AW.seq_w fun K24 hK24 wK24 => ?_
            refine AW.region ?_
            refine AOps.step rfl rfl rfl (OpQ.spec (sp_move rfl (.inl rfl)) _) ?_
            refine ob1k h9 fun s21 es21 h10 => ?_
            refine AOps.step rfl rfl rfl (OpQ.spec (ms_idx_str rfl Tryd.underlying9 (.inl rfl) (.inl rfl) (fun _ => es21)) _) ?_
            refine AOps.step rfl rfl rfl (OpQ.spec (sp_assign rfl (.inl rfl)) _) ?_
            refine AOps.nil ?_
            refine hK24 _ ?_
            refine AW.seq_w fun K25 hK25 wK25 => ?_
            refine AW.seq_w fun K26 hK26 wK26 => ?_
            refine AW.region ?_
            refine AOps.step rfl rfl rfl (OpQ.spec (sp_move rfl (.inl rfl)) _) ?_
            refine AOps.step rfl rfl rfl (OpQ.spec (sp_lss rfl (.inl rfl) (.inl rfl)) _) ?_
            refine AOps.step rfl rfl rfl (OpQ.spec (sp_move rfl (.inl rfl)) _) ?_
            refine AOps.stepW (.one rfl rfl rfl) rfl rfl (OpQ.spec (sp_move rfl (.inl rfl)) _) ?_
            refine AOps.stepW (.one rfl rfl rfl) rfl rfl (OpQ.spec (sp_lss rfl (.inl rfl) (.inr ⟨_, (by exact id), rfl⟩)) _) ?_
            refine AOps.step rfl rfl rfl (OpQ.spec (sp_or rfl (.inl rfl) (.inr ⟨_, (by exact id), rfl⟩)) _) ?_
            refine AOps.nil ?_
            refine hK26 _ ?_
            refine AW.cond rfl (fun hc6 => ?_) (fun hc6 => ?_)
            · have h11 := ite_t hc6 h10
              refine AW.seq_w fun K27 hK27 wK27 => ?_
              refine AW.weak (s' := ⟨[], [], (n0 + 1), 117⟩) (by exact Weak.cv trivial trivial (Nat.le_refl _)) ?_
              refine AW.region ?_
              refine AOps.step rfl rfl rfl (OpQ.spec (sp_assign rfl (.inl rfl)) _) ?_
              refine AOps.step rfl rfl rfl (OpQ.spec (sp_assign rfl (.inl rfl)) _) ?_
              refine AOps.nil ?_
              refine hK27 _ ?_
              refine AW.ret ?_
              exact retf2 (P := Tryd.prog) (fun (r : Int × Int) => .r (.int .i32 r.1)) (fun (r : Int × Int) => .r (.int .i64 r.2)) h11 (.inl rfl) (.t (.d rfl)) (.t (.d rfl))
            · have h11 := ite_f hc6 h10
              refine AW.skip ?_
              refine hK25 _ ?_
              refine AW.seq_w fun K28 hK28 wK28 => ?_
              refine AW.seq_w fun K29 hK29 wK29 => ?_
              refine AW.weak (s' := ⟨[(0, .r (.str s1)), (5, .r (.int .u8 (s01.toNat : Int))), (8, .r (.int .i64 (IntKind.i64.wrap (bAnd .u8 x1 7)))), (10, .r (.int .u8 (s11.toNat : Int))), (11, .r (.int .u8 (s21.toNat : Int)))], [], (n0 + 1), 117⟩) (by exact Weak.cv ⟨.inl (.inl rfl), .inl (.inl rfl), .inl (.inl rfl), .inl (.inl rfl), .inl (.inl rfl), trivial⟩ trivial (Nat.le_refl _)) ?_
              refine AW.region ?_
              refine AOps.step rfl rfl rfl (OpQ.spec (sp_move rfl (.inl rfl)) _) ?_
              refine AOps.step rfl rfl rfl (OpQ.spec (sp_leq rfl (.inl rfl) (.inl rfl)) _) ?_
              refine AOps.nil ?_
              refine hK29 _ ?_
              refine AW.cond rfl (fun hc7 => ?_) (fun hc7 => ?_)
              · have h12 := ite_t hc7 h11
                refine AW.seq_w fun K30 hK30 wK30 => ?_
                refine AW.region ?_
                refine AOps.step rfl rfl rfl (OpQ.spec (sp_move rfl (.inl rfl)) _) ?_
                refine AOps.step rfl rfl rfl (OpQ.spec (sp_bAnd rfl (.inl rfl) (.inl rfl)) _) ?_
                refine AOps.step rfl rfl rfl (OpQ.spec (sp_convert_int rfl Tryd.underlying5 Tryd.underlying21 (.inl rfl)) _) ?_
                refine AOps.step rfl rfl rfl (OpQ.spec (sp_shl (b := 12) rfl (.inl rfl) (.inl rfl)) _) ?_
                refine AOps.step rfl rfl rfl (OpQ.spec (sp_move rfl (.inl rfl)) _) ?_
                refine AOps.step rfl rfl rfl (OpQ.spec (sp_bAnd rfl (.inl rfl) (.inl rfl)) _) ?_
                refine AOps.step rfl rfl rfl (OpQ.spec (sp_convert_int rfl Tryd.underlying5 Tryd.underlying21 (.inl rfl)) _) ?_
                refine AOps.step rfl rfl rfl (OpQ.spec (sp_shl (b := 6) rfl (.inl rfl) (.inl rfl)) _) ?_
                refine AOps.step rfl rfl rfl (OpQ.spec (sp_bOr rfl (.inl rfl) (.inl rfl)) _) ?_
                refine AOps.step rfl rfl rfl (OpQ.spec (sp_move rfl (.inl rfl)) _) ?_
                refine AOps.step rfl rfl rfl (OpQ.spec (sp_bAnd rfl (.inl rfl) (.inl rfl)) _) ?_
                refine AOps.step rfl rfl rfl (OpQ.spec (sp_convert_int rfl Tryd.underlying5 Tryd.underlying21 (.inl rfl)) _) ?_
                refine AOps.step rfl rfl rfl (OpQ.spec (sp_bOr rfl (.inl rfl) (.inl rfl)) _) ?_
                refine AOps.step rfl rfl rfl (OpQ.spec (sp_assign rfl (.inl rfl)) _) ?_
                refine AOps.step rfl rfl rfl (OpQ.spec (sp_assign rfl (.inl rfl)) _) ?_
                refine AOps.nil ?_
                refine hK30 _ ?_
                refine AW.ret ?_
                exact retf2 (P := Tryd.prog) (fun (r : Int × Int) => .r (.int .i32 r.1)) (fun (r : Int × Int) => .r (.int .i64 r.2)) h12 (.inl rfl) (.t (.d rfl)) (.t (.d rfl))
              · have h12 := ite_f hc7 h11
                refine AW.skip ?_
                refine hK28 _ ?_
                refine AW.seq_w fun K31 hK31 wK31 => ?_
                refine AW.region ?_
                refine AOps.step rfl rfl rfl (OpQ.spec (sp_move rfl (.inl rfl)) _) ?_
                refine ob1k h12 fun s31 es31 h13 => ?_
                refine AOps.step rfl rfl rfl (OpQ.spec (ms_idx_str rfl Tryd.underlying9 (.inl rfl) (.inl rfl) (fun _ => es31)) _) ?_
                refine AOps.step rfl rfl rfl (OpQ.spec (sp_assign rfl (.inl rfl)) _) ?_
                refine AOps.nil ?_
                refine hK31 _ ?_
                refine AW.seq_w fun K32 hK32 wK32 => ?_
                refine AW.seq_w fun K33 hK33 wK33 => ?_
                refine AW.region ?_
                refine AOps.step rfl rfl rfl (OpQ.spec (sp_move rfl (.inl rfl)) _) ?_
                refine AOps.step rfl rfl rfl (OpQ.spec (sp_lss rfl (.inl rfl) (.inl rfl)) _) ?_
                refine AOps.step rfl rfl rfl (OpQ.spec (sp_move rfl (.inl rfl)) _) ?_
                refine AOps.stepW (.one rfl rfl rfl) rfl rfl (OpQ.spec (sp_move rfl (.inl rfl)) _) ?_
                refine AOps.stepW (.one rfl rfl rfl) rfl rfl (OpQ.spec (sp_lss rfl (.inl rfl) (.inr ⟨_, (by exact id), rfl⟩)) _) ?_
                refine AOps.step rfl rfl rfl (OpQ.spec (sp_or rfl (.inl rfl) (.inr ⟨_, (by exact id), rfl⟩)) _) ?_
                refine AOps.nil ?_
                refine hK33 _ ?_
                refine AW.cond rfl (fun hc8 => ?_) (fun hc8 => ?_)
                · have h14 := ite_t hc8 h13
                  refine AW.seq_w fun K34 hK34 wK34 => ?_
                  refine AW.weak (s' := ⟨[], [], (n0 + 1), 117⟩) (by exact Weak.cv trivial trivial (Nat.le_refl _)) ?_
                  refine AW.region ?_
                  refine AOps.step rfl rfl rfl (OpQ.spec (sp_assign rfl (.inl rfl)) _) ?_
                  refine AOps.step rfl rfl rfl (OpQ.spec (sp_assign rfl (.inl rfl)) _) ?_
                  refine AOps.nil ?_
                  refine hK34 _ ?_
                  refine AW.ret ?_
                  exact retf2 (P := Tryd.prog) (fun (r : Int × Int) => .r (.int .i32 r.1)) (fun (r : Int × Int) => .r (.int .i64 r.2)) h14 (.inl rfl) (.t (.d rfl)) (.t (.d rfl))
                · have h14 := ite_f hc8 h13
                  refine AW.skip ?_
                  refine hK32 _ ?_
                  refine AW.seq_w fun K35 hK35 wK35 => ?_
                  refine AW.weak (s' := ⟨[(5, .r (.int .u8 (s01.toNat : Int))), (10, .r (.int .u8 (s11.toNat : Int))), (11, .r (.int .u8 (s21.toNat : Int))), (12, .r (.int .u8 (s31.toNat : Int)))], [], (n0 + 1), 117⟩) (by exact Weak.cv ⟨.inl (.inl rfl), .inl (.inl rfl), .inl (.inl rfl), .inl (.inl rfl), trivial⟩ trivial (Nat.le_refl _)) ?_
                  refine AW.region ?_
                  refine AOps.step rfl rfl rfl (OpQ.spec (sp_move rfl (.inl rfl)) _) ?_
                  refine AOps.step rfl rfl rfl (OpQ.spec (sp_bAnd rfl (.inl rfl) (.inl rfl)) _) ?_
                  refine AOps.step rfl rfl rfl (OpQ.spec (sp_convert_int rfl Tryd.underlying5 Tryd.underlying21 (.inl rfl)) _) ?_
                  refine AOps.step rfl rfl rfl (OpQ.spec (sp_shl (b := 18) rfl (.inl rfl) (.inl rfl)) _) ?_
                  refine AOps.step rfl rfl rfl (OpQ.spec (sp_move rfl (.inl rfl)) _) ?_
                  refine AOps.step rfl rfl rfl (OpQ.spec (sp_bAnd rfl (.inl rfl) (.inl rfl)) _) ?_
                  refine AOps.step rfl rfl rfl (OpQ.spec (sp_convert_int rfl Tryd.underlying5 Tryd.underlying21 (.inl rfl)) _) ?_
                  refine AOps.step rfl rfl rfl (OpQ.spec (sp_shl (b := 12) rfl (.inl rfl) (.inl rfl)) _) ?_
                  refine AOps.step rfl rfl rfl (OpQ.spec (sp_bOr rfl (.inl rfl) (.inl rfl)) _) ?_
                  refine AOps.step rfl rfl rfl (OpQ.spec (sp_move rfl (.inl rfl)) _) ?_
                  refine AOps.step rfl rfl rfl (OpQ.spec (sp_bAnd rfl (.inl rfl) (.inl rfl)) _) ?_
                  refine AOps.step rfl rfl rfl (OpQ.spec (sp_convert_int rfl Tryd.underlying5 Tryd.underlying21 (.inl rfl)) _) ?_
                  refine AOps.step rfl rfl rfl (OpQ.spec (sp_shl (b := 6) rfl (.inl rfl) (.inl rfl)) _) ?_
                  refine AOps.step rfl rfl rfl (OpQ.spec (sp_bOr rfl (.inl rfl) (.inl rfl)) _) ?_
                  refine AOps.step rfl rfl rfl (OpQ.spec (sp_move rfl (.inl rfl)) _) ?_
                  refine AOps.step rfl rfl rfl (OpQ.spec (sp_bAnd rfl (.inl rfl) (.inl rfl)) _) ?_
                  refine AOps.step rfl rfl rfl (OpQ.spec (sp_convert_int rfl Tryd.underlying5 Tryd.underlying21 (.inl rfl)) _) ?_
                  refine AOps.step rfl rfl rfl (OpQ.spec (sp_bOr rfl (.inl rfl) (.inl rfl)) _) ?_
                  refine AOps.step rfl rfl rfl (OpQ.spec (sp_assign rfl (.inl rfl)) _) ?_
                  refine AOps.step rfl rfl rfl (OpQ.spec (sp_assign rfl (.inl rfl)) _) ?_
                  refine AOps.nil ?_
                  refine hK35 _ ?_
                  refine AW.ret ?_
                  exact retf2 (P := Tryd.prog) (fun (r : Int × Int) => .r (.int .i32 r.1)) (fun (r : Int × Int) => .r (.int .i64 r.2)) h14 (.inl rfl) (.t (.d rfl)) (.t (.d rfl))
set_option maxHeartbeats 4000000 in
set_option maxRecDepth 20000 in
theorem w_unicode_utf8_DecodeRuneInString {s1 : List UInt8} {r : Int × Int} (h : unicode_utf8_DecodeRuneInString s1 = some r) : ARO Tryd.prog 39 [.r (.str s1)] (.tup [.r (.int .i32 r.1), .r (.int .i64 r.2)]) := by
  unfold unicode_utf8_DecodeRuneInString at h
  refine ARO.mkF Tryd.func39 rfl rfl Tryd.ntmps39 rfl (Nat.le_of_ble_eq_true rfl) fun n0 => ?_
  refine AW.seq_w fun K1 hK1 wK1 => ?_
  refine AW.region ?_
  refine AOps.step rfl rfl rfl (OpQ.spec (sp_assign rfl (.inl rfl)) _) ?_
  refine AOps.step rfl rfl rfl (OpQ.spec (sp_assign rfl (.inl rfl)) _) ?_
  refine AOps.nil ?_
  refine hK1 _ ?_
  refine AW.seq_w fun K2 hK2 wK2 => ?_
  refine AW.seq_w fun K3 hK3 wK3 => ?_
  refine AW.region ?_
  refine AOps.step rfl rfl rfl (OpQ.spec (sp_move rfl (.inl rfl)) _) ?_
  refine AOps.step rfl rfl rfl (OpQ.spec (sp_sneq rfl (.inl rfl) (.inl rfl)) _) ?_
  refine AOps.step rfl rfl rfl (OpQ.spec (sp_move rfl (.inl rfl)) _) ?_
  refine AOps.stepW (.one rfl rfl rfl) rfl rfl (OpQ.spec (sp_move rfl (.inl rfl)) _) ?_
  refine ob1k h fun ch1 ech1 h1 => ?_
  refine AOps.stepW (.one rfl rfl rfl) rfl rfl (OpQ.spec (ms_idx_str rfl Tryd.underlying9 (.inr ⟨_, (by exact id), rfl⟩) (.inl rfl) (gdt ech1)) _) ?_
  refine AOps.stepW (.one rfl rfl rfl) rfl rfl (OpQ.spec (sp_lss rfl (.inr ⟨_, (by exact id), rfl⟩) (.inl rfl)) _) ?_
  refine AOps.step rfl rfl rfl (OpQ.spec (sp_and rfl (.inl rfl) (.inr ⟨_, (by exact id), rfl⟩)) _) ?_
  refine AOps.nil ?_
  refine hK3 _ ?_
  refine AW.cond rfl (fun hc1 => ?_) (fun hc1 => ?_)
  · have h2 := ite_t hc1 h1
    refine AW.seq_w fun K4 hK4 wK4 => ?_
    refine AW.weak (s' := ⟨[(0, .r (.str s1))], [], n0, 19⟩) (by exact Weak.cv ⟨.inl (.inl rfl), trivial⟩ trivial (Nat.le_refl _)) ?_
    refine AW.region ?_
    refine AOps.step rfl rfl rfl (OpQ.spec (sp_move rfl (.inl rfl)) _) ?_
    refine ob1k h2 fun ch2 ech2 h3 => ?_
    refine AOps.step rfl rfl rfl (OpQ.spec (ms_idx_str rfl Tryd.underlying9 (.inl rfl) (.inl rfl) (fun _ => ech2)) _) ?_
    refine AOps.step rfl rfl rfl (OpQ.spec (sp_convert_int rfl Tryd.underlying5 Tryd.underlying21 (.inl rfl)) _) ?_
    refine AOps.step rfl rfl rfl (OpQ.spec (sp_assign rfl (.inl rfl)) _) ?_
    refine AOps.step rfl rfl rfl (OpQ.spec (sp_assign rfl (.inl rfl)) _) ?_
    refine AOps.nil ?_
    refine hK4 _ ?_
    refine AW.ret ?_
    exact retf2 (P := Tryd.prog) (fun (r : Int × Int) => .r (.int .i32 r.1)) (fun (r : Int × Int) => .r (.int .i64 r.2)) h3 (.inl rfl) (.t (.d rfl)) (.t (.d rfl))
  · have h2 := ite_f hc1 h1
    refine AW.weak (s' := ⟨[(0, .r (.str s1))], [], n0, 19⟩) (by exact Weak.cv ⟨.inl (.inl rfl), trivial⟩ trivial (Nat.le_refl _)) ?_
    refine AW.region ?_
    refine AOps.step rfl rfl rfl (OpQ.spec (sp_move rfl (.inl rfl)) _) ?_
    refine ob2k h2 fun r1 r2 er1 h4 => ?_
    refine AOps.step rfl rfl rfl (sp_call (r := .tup [.r (.int .i32 r1), .r (.int .i64 r2)]) (caps := []) (bs := [.r (.str s1)]) rfl (.inl rfl) rfl ⟨⟨_, (.inl rfl), .d rfl⟩, trivial⟩ (fun _ => w_unicode_utf8_decodeRuneInStringSlow (er1)) rfl) ?_
    refine AOps.step rfl rfl rfl (OpQ.spec (sp_move rfl (.inl rfl)) _) ?_
    refine AOps.step rfl rfl rfl (OpQ.spec (sp_extract (a := .r (.int .i32 r1)) rfl (.inl rfl) rfl) _) ?_
    refine AOps.step rfl rfl rfl (OpQ.spec (sp_extract (a := .r (.int .i64 r2)) rfl (.inl rfl) rfl) _) ?_
    refine AOps.step rfl rfl rfl (OpQ.spec (sp_assign rfl (.inl rfl)) _) ?_
    refine AOps.step rfl rfl rfl (OpQ.spec (sp_assign rfl (.inl rfl)) _) ?_
    refine AOps.nil ?_
    refine hK2 _ ?_
    refine AW.ret ?_
    exact retf2 (P := Tryd.prog) (fun (r : Int × Int) => .r (.int .i32 r.1)) (fun (r : Int × Int) => .r (.int .i64 r.2)) h4 (.inl rfl) (.t (.d rfl)) (.t (.d rfl))
set_option maxHeartbeats 4000000 in
set_option maxRecDepth 20000 in
theorem w_flow_Char {c1 : Int} {r : Bool} (h : flow_Char c1 = some r) : ARO Tryd.prog 7 [.r (.int .i64 c1)] (.r (.bool r)) := by
  unfold flow_Char at h
  refine ARO.mkF Tryd.func7 rfl rfl Tryd.ntmps7 rfl (Nat.le_of_ble_eq_true rfl) fun n0 => ?_
  refine AW.seq_w fun K1 hK1 wK1 => ?_
  refine AW.region ?_
  refine AOps.step rfl rfl rfl (OpQ.spec (sp_assign rfl (.inl rfl)) _) ?_
  refine AOps.nil ?_
  refine hK1 _ ?_
  refine AW.seq_w fun K2 hK2 wK2 => ?_
  refine AW.region ?_
  refine AOps.step rfl rfl rfl (OpQ.spec (sp_move rfl (.inl rfl)) _) ?_
  refine AOps.step rfl rfl rfl (OpQ.spec (sp_eql rfl (.inl rfl) (.inl rfl)) _) ?_
  refine AOps.step rfl rfl rfl (OpQ.spec (sp_move rfl (.inl rfl)) _) ?_
  refine AOps.stepW (.one rfl rfl rfl) rfl rfl (OpQ.spec (sp_move rfl (.inl rfl)) _) ?_
  refine AOps.stepW (.one rfl rfl rfl) rfl rfl (OpQ.spec (sp_eql rfl (.inr ⟨_, (by exact id), rfl⟩) (.inl rfl)) _) ?_
  refine AOps.step rfl rfl rfl (OpQ.spec (sp_or rfl (.inl rfl) (.inr ⟨_, (by exact id), rfl⟩)) _) ?_
  refine AOps.step rfl rfl rfl (OpQ.spec (sp_move rfl (.inl rfl)) _) ?_
  refine AOps.stepW (.one rfl rfl rfl) rfl rfl (OpQ.spec (sp_move rfl (.inl rfl)) _) ?_
  refine AOps.stepW (.one rfl rfl rfl) rfl rfl (OpQ.spec (sp_geq rfl (.inr ⟨_, (by exact id), rfl⟩) (.inl rfl)) _) ?_
  refine AOps.stepW (.one rfl rfl rfl) rfl rfl (OpQ.spec (sp_move rfl (.inr ⟨_, (by exact id), rfl⟩)) _) ?_
  refine AOps.stepW (.two rfl rfl rfl) rfl rfl (OpQ.spec (sp_move rfl (.inl rfl)) _) ?_
  refine AOps.stepW (.two rfl rfl rfl) rfl rfl (OpQ.spec (sp_lss rfl (.inr ⟨_, (by exact id), rfl⟩) (.inl rfl)) _) ?_
  refine AOps.stepW (.one rfl rfl rfl) rfl rfl (OpQ.spec (sp_and rfl (.inr ⟨_, (by exact id), rfl⟩) (.inr ⟨_, (by exact id), rfl⟩)) _) ?_
  refine AOps.step rfl rfl rfl (OpQ.spec (sp_or rfl (.inl rfl) (.inr ⟨_, (by exact id), rfl⟩)) _) ?_
  refine AOps.step rfl rfl rfl (OpQ.spec (sp_move rfl (.inl rfl)) _) ?_
  refine AOps.stepW (.one rfl rfl rfl) rfl rfl (OpQ.spec (sp_move rfl (.inl rfl)) _) ?_
  refine AOps.stepW (.one rfl rfl rfl) rfl rfl (OpQ.spec (sp_geq rfl (.inr ⟨_, (by exact id), rfl⟩) (.inl rfl)) _) ?_
  refine AOps.stepW (.one rfl rfl rfl) rfl rfl (OpQ.spec (sp_move rfl (.inr ⟨_, (by exact id), rfl⟩)) _) ?_
  refine AOps.stepW (.two rfl rfl rfl) rfl rfl (OpQ.spec (sp_move rfl (.inl rfl)) _) ?_
  refine AOps.stepW (.two rfl rfl rfl) rfl rfl (OpQ.spec (sp_lss rfl (.inr ⟨_, (by exact id), rfl⟩) (.inl rfl)) _) ?_
  refine AOps.stepW (.one rfl rfl rfl) rfl rfl (OpQ.spec (sp_and rfl (.inr ⟨_, (by exact id), rfl⟩) (.inr ⟨_, (by exact id), rfl⟩)) _) ?_
  refine AOps.step rfl rfl rfl (OpQ.spec (sp_or rfl (.inl rfl) (.inr ⟨_, (by exact id), rfl⟩)) _) ?_
  refine AOps.step rfl rfl rfl (OpQ.spec (sp_move rfl (.inl rfl)) _) ?_
  refine AOps.stepW (.one rfl rfl rfl) rfl rfl (OpQ.spec (sp_move rfl (.inl rfl)) _) ?_
  refine AOps.stepW (.one rfl rfl rfl) rfl rfl (OpQ.spec (sp_gtr rfl (.inr ⟨_, (by exact id), rfl⟩) (.inl rfl)) _) ?_
  refine AOps.stepW (.one rfl rfl rfl) rfl rfl (OpQ.spec (sp_move rfl (.inr ⟨_, (by exact id), rfl⟩)) _) ?_
  refine AOps.stepW (.two rfl rfl rfl) rfl rfl (OpQ.spec (sp_move rfl (.inl rfl)) _) ?_
  refine AOps.stepW (.two rfl rfl rfl) rfl rfl (OpQ.spec (sp_leq rfl (.inr ⟨_, (by exact id), rfl⟩) (.inl rfl)) _) ?_
  refine AOps.stepW (.one rfl rfl rfl) rfl rfl (OpQ.spec (sp_and rfl (.inr ⟨_, (by exact id), rfl⟩) (.inr ⟨_, (by exact id), rfl⟩)) _) ?_
  refine AOps.step rfl rfl rfl (OpQ.spec (sp_or rfl (.inl rfl) (.inr ⟨_, (by exact id), rfl⟩)) _) ?_
  refine AOps.step rfl rfl rfl (OpQ.spec (sp_assign rfl (.inl rfl)) _) ?_
  refine AOps.nil ?_
  refine hK2 _ ?_
  refine AW.ret ?_
  exact retf1 (P := Tryd.prog) (fun (r : Bool) => .r (.bool r)) h (.inl rfl) (.t (.d rfl))
set_option maxHeartbeats 4000000 in
set_option maxRecDepth 20000 in
theorem w_flow_Of {s1 : List UInt8} {attrs1 : List GAttr} {r : (List GElem) × Int} (h : flow_Of s1 attrs1 = some r) : ARO Tryd.prog 23 [.r (.str s1), .r (.sl (attrs1.map GAttr.row))] (.tup [.r (.sl (r.1.map GElem.row)), .r (.int .i64 r.2)]) := by
  unfold flow_Of at h
  refine ARO.mkF Tryd.func23 rfl rfl Tryd.ntmps23 rfl (Nat.le_of_ble_eq_true rfl) fun n0 => ?_
  refine AW.seq_w fun K1 hK1 wK1 => ?_
  refine AW.region ?_
  refine AOps.step rfl rfl rfl (OpQ.spec (sp_assign rfl (.inl rfl)) _) ?_
  refine AOps.step rfl rfl rfl (OpQ.spec (sp_assign rfl (.inl rfl)) _) ?_
  refine AOps.nil ?_
  refine hK1 _ ?_
  refine AW.seq_w fun K2 hK2 wK2 => ?_
  refine AW.seq_w fun K3 hK3 wK3 => ?_
  refine AW.region ?_
  refine AOps.step rfl rfl rfl (OpQ.spec (sp_move rfl (.inl rfl)) _) ?_
  refine ob1k h fun e1 ee1 h1 => ?_
  refine AOps.step rfl rfl rfl (sp_call (r := .r (.int .i64 e1)) (caps := []) (bs := [.r (.sl (attrs1.map GAttr.row))]) rfl (.inl rfl) rfl ⟨⟨_, (.inl rfl), .d rfl⟩, trivial⟩ (fun _ => w_attr_Check (ee1)) rfl) ?_
  refine AOps.step rfl rfl rfl (OpQ.spec (sp_assign rfl (.inl rfl)) _) ?_
  refine AOps.nil ?_
  refine hK3 _ ?_
  refine AW.seq_w fun K4 hK4 wK4 => ?_
  refine AW.region ?_
  refine AOps.step rfl rfl rfl (OpQ.spec (sp_move rfl (.inl rfl)) _) ?_
  refine AOps.step rfl rfl rfl (OpQ.spec (sp_neq rfl (.inl rfl) (.inl rfl)) _) ?_
  refine AOps.nil ?_
  refine hK4 _ ?_
  refine AW.cond rfl (fun hc1 => ?_) (fun hc1 => ?_)
  · have h2 := ite_t hc1 h1
    refine AW.seq_w fun K5 hK5 wK5 => ?_
    refine AW.region ?_
    refine AOps.step rfl rfl rfl (OpQ.spec (sp_move rfl (.inl rfl)) _) ?_
    refine AOps.step rfl rfl rfl (OpQ.spec (sp_assign rfl (.inl rfl)) _) ?_
    refine AOps.step rfl rfl rfl (OpQ.spec (sp_assign rfl (.inl rfl)) _) ?_
    refine AOps.nil ?_
    refine hK5 _ ?_
    refine AW.ret ?_
    exact retf2 (P := Tryd.prog) (fun (r : (List GElem) × Int) => .r (.sl (r.1.map GElem.row))) (fun (r : (List GElem) × Int) => .r (.int .i64 r.2)) h2 (.inl rfl) (.t (.one (.nil))) (.t (.d rfl))
  · have h2 := ite_f hc1 h1
    refine AW.skip ?_
    refine hK2 _ ?_
    refine AW.seq_w fun K6 hK6 wK6 => ?_
    refine AW.region ?_
    refine AOps.step rfl rfl rfl (OpQ.spec (sp_assign rfl (.inl rfl)) _) ?_
    refine AOps.nil ?_
    refine hK6 _ ?_
    refine AW.seq_w fun K7 hK7 wK7 => ?_
    refine AW.block ?_
    refine jc1k h2 fun o1 hit1 hk1 he1 => ?_
    have J1 : ∀ (out4 : List GElem) (i5 : Nat → Nat), o1 = .nrm out4 → K7 ⟨[(7, .own 5007 (i5 0))], [(5007, some (.arr (i5 0) 32 3 (out4.map GElem.row)))], (i5 1), 44⟩ := by
      intro out4 i5 e
      have h3 := hk1 _ e
      refine hK7 _ ?_
      refine AW.seq_w fun K8 hK8 wK8 => ?_
      refine AW.region ?_
      refine AOps.step rfl rfl rfl (OpQ.spec (sp_move rfl (.inl rfl)) _) ?_
      refine AOps.step rfl rfl rfl (OpQ.spec (sp_assign rfl (.inl rfl)) _) ?_
      refine AOps.step rfl rfl rfl (OpQ.spec (sp_assign rfl (.inl rfl)) _) ?_
      refine AOps.nil ?_
      refine hK8 _ ?_
      refine AW.ret ?_
      exact retf2 (P := Tryd.prog) (fun (r : (List GElem) × Int) => .r (.sl (r.1.map GElem.row))) (fun (r : (List GElem) × Int) => .r (.int .i64 r.2)) h3 (.inl rfl) (.t (.one (.own rfl))) (.t (.d rfl))
    refine AW.iter2 (fun (s3 : List UInt8) (out2 : List GElem) i3 => ⟨[(0, .r (.str s3)), (1, .r (.sl (attrs1.map GAttr.row))), (7, .own 5007 (i3 0))], [(5007, some (.arr (i3 0) 32 3 (out2.map GElem.row)))], (i3 1), 44⟩) (vec [n0, (n0 + 1)]) hit1 (Weak.trans (Weak.trans (Weak.adopt 7 5007 32 3 (by decide) rfl) (by exact Weak.cv (e' := [(0, .r (.str s1)), (1, .r (.sl (attrs1.map GAttr.row))), (4, .cst (.slice none 0 0)), (5, .r (.int .i64 0)), (6, .r (.int .i64 e1)), (7, .own 5007 n0), (10, .r (.sl (attrs1.map GAttr.row))), (11, .r (.int .i64 e1)), (12, .r (.int .i64 e1)), (13, .r (.bool (!decide (e1 = 0))))]) (h' := [(5007, some (.arr n0 32 3 (([] : List GElem).map GElem.row)))]) ⟨.inl (.inl rfl), .inl (.inl rfl), .inl (.inl rfl), .inl (.inl rfl), .inl (.inl rfl), .inl (.inl rfl), .inl (.inl rfl), .inl (.inl rfl), .inl (.inl rfl), .inl (.inl rfl), trivial⟩ ⟨.inl rfl, trivial⟩ (Nat.le_refl _))) (by exact Weak.cv ⟨.inl (.inl rfl), .inl (.inl rfl), .inl (.inl rfl), trivial⟩ ⟨.inl rfl, trivial⟩ (Nat.le_refl _))) ?_
    intro s3 out2 i3 v1 hv1 hx1
    have h4 : flow_Of_L1 attrs1 s3 out2 = some v1 := hv1; unfold flow_Of_L1 at h4
    refine AW.seq_w fun K9 hK9 wK9 => ?_
    refine AW.seq_w fun K10 hK10 wK10 => ?_
    refine AW.region ?_
    refine AOps.step rfl rfl rfl (OpQ.spec (sp_move rfl (.inl rfl)) _) ?_
    refine AOps.step rfl rfl rfl (OpQ.spec (sp_sneq rfl (.inl rfl) (.inl rfl)) _) ?_
    refine AOps.nil ?_
    refine hK10 _ ?_
    refine AW.cond rfl (fun hc2 => ?_) (fun hc2 => ?_)
    · have h5 := ite_t hc2 h4
      refine AW.skip ?_
      refine hK9 _ ?_
      refine AW.block ?_
      refine AW.seq_w fun K11 hK11 wK11 => ?_
      refine AW.region ?_
      refine AOps.step rfl rfl rfl (OpQ.spec (sp_move rfl (.inl rfl)) _) ?_
      refine ob2k h5 fun r1 r2 er1 h6 => ?_
      refine AOps.step rfl rfl rfl (sp_call (r := .tup [.r (.int .i32 r1), .r (.int .i64 r2)]) (caps := []) (bs := [.r (.str s3)]) rfl (.inl rfl) rfl ⟨⟨_, (.inl rfl), .d rfl⟩, trivial⟩ (fun _ => w_unicode_utf8_DecodeRuneInString (er1)) rfl) ?_
      refine AOps.step rfl rfl rfl (OpQ.spec (sp_move rfl (.inl rfl)) _) ?_
      refine AOps.step rfl rfl rfl (OpQ.spec (sp_extract (a := .r (.int .i32 r1)) rfl (.inl rfl) rfl) _) ?_
      refine AOps.step rfl rfl rfl (OpQ.spec (sp_extract (a := .r (.int .i64 r2)) rfl (.inl rfl) rfl) _) ?_
      refine AOps.step rfl rfl rfl (OpQ.spec (sp_assign rfl (.inl rfl)) _) ?_
      refine AOps.step rfl rfl rfl (OpQ.spec (sp_assign rfl (.inl rfl)) _) ?_
      refine AOps.nil ?_
      refine hK11 _ ?_
      refine AW.seq_w fun K12 hK12 wK12 => ?_
      refine AW.seq_w fun K13 hK13 wK13 => ?_
      refine AW.region ?_
      refine AOps.step rfl rfl rfl (OpQ.spec (sp_move rfl (.inl rfl)) _) ?_
      refine AOps.step rfl rfl rfl (OpQ.spec (sp_eql rfl (.inl rfl) (.inl rfl)) _) ?_
      refine AOps.step rfl rfl rfl (OpQ.spec (sp_move rfl (.inl rfl)) _) ?_
      refine AOps.stepW (.one rfl rfl rfl) rfl rfl (OpQ.spec (sp_move rfl (.inl rfl)) _) ?_
      refine AOps.stepW (.one rfl rfl rfl) rfl rfl (OpQ.spec (sp_eql rfl (.inr ⟨_, (by exact id), rfl⟩) (.inl rfl)) _) ?_
      refine AOps.step rfl rfl rfl (OpQ.spec (sp_and rfl (.inl rfl) (.inr ⟨_, (by exact id), rfl⟩)) _) ?_
      refine AOps.nil ?_
      refine hK13 _ ?_
      refine AW.cond rfl (fun hc3 => ?_) (fun hc3 => ?_)
      · have h7 := ite_t hc3 h6
        refine AW.seq_w fun K14 hK14 wK14 => ?_
        refine AW.weak (s' := ⟨[], [], (i3 1), 44⟩) (by exact Weak.cv trivial trivial (Nat.le_refl _)) ?_
        refine AW.region ?_
        refine AOps.step rfl rfl rfl (OpQ.spec (sp_assign rfl (.inl rfl)) _) ?_
        refine AOps.step rfl rfl rfl (OpQ.spec (sp_assign rfl (.inl rfl)) _) ?_
        refine AOps.nil ?_
        refine hK14 _ ?_
        refine AW.ret ?_
        exact retf2 (P := Tryd.prog) (fun (r : (List GElem) × Int) => .r (.sl (r.1.map GElem.row))) (fun (r : (List GElem) × Int) => .r (.int .i64 r.2)) (he1 _ (hx1 _ (Option.some.inj h7).symm)) (.inl rfl) (.t (.one (.nil))) (.t (.d rfl))
      · have h7 := ite_f hc3 h6
        refine AW.skip ?_
        refine hK12 _ ?_
        refine AW.seq_w fun K15 hK15 wK15 => ?_
        refine AW.seq_w fun K16 hK16 wK16 => ?_
        refine AW.weak (s' := ⟨[(0, .r (.str s3)), (1, .r (.sl (attrs1.map GAttr.row))), (7, .own 5007 (i3 0)), (8, .r (.int .i32 r1)), (9, .r (.int .i64 r2))], [(5007, some (.arr (i3 0) 32 3 (out2.map GElem.row)))], (i3 1), 44⟩) (by exact Weak.cv ⟨.inl (.inl rfl), .inl (.inl rfl), .inl (.inl rfl), .inl (.inl rfl), .inl (.inl rfl), trivial⟩ ⟨.inl rfl, trivial⟩ (Nat.le_refl _)) ?_
        refine AW.region ?_
        refine AOps.step rfl rfl rfl (OpQ.spec (sp_move rfl (.inl rfl)) _) ?_
        refine AOps.step rfl rfl rfl (OpQ.spec (sp_convert_int rfl Tryd.underlying21 Tryd.underlying3 (.inl rfl)) _) ?_
        refine ob1k h7 fun r3 er3 h8 => ?_
        refine AOps.step rfl rfl rfl (sp_call (r := .r (.bool r3)) (caps := []) (bs := [.r (.int .i64 (IntKind.i64.wrap r1))]) rfl (.inl rfl) rfl ⟨⟨_, (.inl rfl), .d rfl⟩, trivial⟩ (fun _ => w_flow_Char (er3)) rfl) ?_
        refine AOps.step rfl rfl rfl (OpQ.spec (sp_not rfl (.inl rfl)) _) ?_
        refine AOps.nil ?_
        refine hK16 _ ?_
        refine AW.cond rfl (fun hc4 => ?_) (fun hc4 => ?_)
        · have h9 := ite_t hc4 h8
          refine AW.seq_w fun K17 hK17 wK17 => ?_
          refine AW.weak (s' := ⟨[], [], (i3 1), 44⟩) (by exact Weak.cv trivial trivial (Nat.le_refl _)) ?_
          refine AW.region ?_
          refine AOps.step rfl rfl rfl (OpQ.spec (sp_assign rfl (.inl rfl)) _) ?_
          refine AOps.step rfl rfl rfl (OpQ.spec (sp_assign rfl (.inl rfl)) _) ?_
          refine AOps.nil ?_
          refine hK17 _ ?_
          refine AW.ret ?_
          exact retf2 (P := Tryd.prog) (fun (r : (List GElem) × Int) => .r (.sl (r.1.map GElem.row))) (fun (r : (List GElem) × Int) => .r (.int .i64 r.2)) (he1 _ (hx1 _ (Option.some.inj h9).symm)) (.inl rfl) (.t (.one (.nil))) (.t (.d rfl))
        · have h9 := ite_f hc4 h8
          refine AW.skip ?_
          refine hK15 _ ?_
          refine AW.seq_w fun K18 hK18 wK18 => ?_
          refine AW.region ?_
          refine AOps.step rfl rfl rfl (OpQ.spec (sp_move rfl (.inl rfl)) _) ?_
          refine AOps.step rfl rfl rfl (OpQ.spec (sp_move rfl (.inl rfl)) _) ?_
          refine AOps.step rfl rfl rfl (OpQ.spec (sp_convert_int rfl Tryd.underlying21 Tryd.underlying3 (.inl rfl)) _) ?_
          refine AOps.step rfl rfl rfl (OpQ.spec (sp_move rfl (.inl rfl)) _) ?_
          refine ob1k h9 fun l1 el1 h10 => ?_
          refine AOps.step rfl rfl rfl (ms_app_nil 36 (f := GAttr.row) rfl tg_30 (.inl rfl) (.inl ⟨(.inl rfl), fun _ => rfl⟩) el1) ?_
          refine AOps.step rfl rfl rfl (OpQ.spec (sp_build rfl tb_32 (q := [(0, _), (2, _)]) (by exact ⟨rfl, rfl, rfl, (.inl rfl), rfl, rfl, rfl, (.inl rfl), trivial⟩) (cs := [.r (.int .i64 (IntKind.i64.wrap r1)), .r (.int .i64 0), .own 36 (i3 1)]) (by rfl)) _) ?_
          refine AOps.weak (by exact Weak.frz (e' := [(0, .r (.str s3)), (1, .r (.sl (attrs1.map GAttr.row))), (7, .own 5007 (i3 0)), (8, .r (.int .i32 r1)), (9, .r (.int .i64 r2)), (28, .r (.int .i32 r1)), (29, .r (.int .i64 (IntKind.i64.wrap r1))), (30, .r (.bool r3)), (31, .r (.bool (!r3))), (32, .own 5007 (i3 0)), (33, .r (.int .i32 r1)), (34, .r (.int .i64 (IntKind.i64.wrap r1))), (35, .r (.sl (attrs1.map GAttr.row))), (36, .r (.sl (l1.map GAttr.row))), (37, .agg [.r (.int .i64 (IntKind.i64.wrap r1)), .r (.int .i64 0), .r (.sl (l1.map GAttr.row))])]) (h' := [(5007, some (.arr (i3 0) 32 3 (out2.map GElem.row)))]) 36 rfl ⟨.inl (.inl rfl), .inl (.inl rfl), .inl (.inl rfl), .inl (.inl rfl), .inl (.inl rfl), .inl (.inl rfl), .inl (.inl rfl), .inl (.inl rfl), .inl (.inl rfl), .inl (.inl rfl), .inl (.inl rfl), .inl (.inl rfl), .inl (.inl rfl), .inl (.inr (.inr ⟨rfl, rfl⟩)), .inr ⟨_, _, rfl, rfl, ⟨.inl rfl, .inl rfl, .inr (.inr ⟨rfl, rfl⟩), trivial⟩⟩, trivial⟩ ⟨rfl, .inl rfl, trivial⟩) ?_
          refine AOps.step rfl rfl rfl (ms_lit 38 rfl tg_22 (f := GElem.row) (l := ([(GElem.mk (IntKind.i64.wrap r1) 0 l1)] : List GElem)) ⟨rfl, ⟨_, (.inl rfl), rfl⟩, trivial⟩ rfl (fun _ => rfl) rfl) ?_
          refine ob1k h10 fun out5 eout5 h11 => ?_
          refine AOps.step rfl rfl rfl (ms_app rfl tg_22 (.inl rfl) rfl (.inr (.inl ⟨_, _, (.inl rfl), rfl⟩)) eout5) ?_
          refine AOps.step rfl rfl rfl (OpQ.spec (sp_assign rfl (.inl rfl)) _) ?_
          refine AOps.nil ?_
          refine hK18 _ ?_
          refine AW.weak (s' := ⟨[(0, .r (.str s3)), (1, .r (.sl (attrs1.map GAttr.row))), (7, .own 5007 ((i3 1) + 2)), (9, .r (.int .i64 r2))], [(5007, some (.arr ((i3 1) + 2) 32 3 (out5.map GElem.row)))], ((i3 1) + 3), 44⟩) (by exact Weak.cv ⟨.inl (.inl rfl), .inl (.inl rfl), .inl (.inl rfl), .inl (.inl rfl), trivial⟩ ⟨.inl rfl, trivial⟩ (Nat.le_refl _)) ?_
          refine AW.region ?_
          refine AOps.step rfl rfl rfl (OpQ.spec (sp_move rfl (.inl rfl)) _) ?_
          refine AOps.step rfl rfl rfl (OpQ.spec (sp_move rfl (.inl rfl)) _) ?_
          refine ob1k h11 fun s5 es5 h12 => ?_
          refine AOps.step rfl rfl rfl (OpQ.spec (ms_slice_str rfl Tryd.underlying9 (.inl rfl) (by exact ⟨_, (.inl rfl)⟩) (by exact rfl) (fun _ => es5)) _) ?_
          refine AOps.step rfl rfl rfl (OpQ.spec (sp_assign rfl (.inl rfl)) _) ?_
          refine AOps.nil ?_
          exact NextQ2.mk h12 (vec [((i3 1) + 2), ((i3 1) + 3)]) ((by exact Weak.cv ⟨.inl (.inl rfl), .inl (.inl rfl), .inl (.inl rfl), trivial⟩ ⟨.inl rfl, trivial⟩ (Nat.le_refl _)))
    · have h5 := ite_f hc2 h4
      refine AW.exit ?_
      exact wK7 _ _ ((by exact Weak.cv ⟨.inl (.inl rfl), trivial⟩ ⟨.inl rfl, trivial⟩ (Nat.le_refl _))) (J1 _ (vec [(i3 0), (i3 1)]) (hx1 _ (Option.some.inj h5).symm))
set_option maxHeartbeats 4000000 in
set_option maxRecDepth 20000 in
theorem w_ref_SameAttrs {a1 : List GAttr} {b1 : List GAttr} {r : Bool} (h : ref_SameAttrs a1 b1 = some r) : ARO Tryd.prog 25 [.r (.sl (a1.map GAttr.row)), .r (.sl (b1.map GAttr.row))] (.r (.bool r)) := by
  unfold ref_SameAttrs at h
  refine ARO.mkF Tryd.func25 rfl rfl Tryd.ntmps25 rfl (Nat.le_of_ble_eq_true rfl) fun n0 => ?_
  refine AW.seq_w fun K1 hK1 wK1 => ?_
  refine AW.region ?_
  refine AOps.step rfl rfl rfl (OpQ.spec (sp_assign rfl (.inl rfl)) _) ?_
  refine AOps.nil ?_
  refine hK1 _ ?_
  refine AW.seq_w fun K2 hK2 wK2 => ?_
  refine AW.seq_w fun K3 hK3 wK3 => ?_
  refine AW.region ?_
  refine AOps.step rfl rfl rfl (OpQ.spec (sp_move rfl (.inl rfl)) _) ?_
  refine AOps.step rfl rfl rfl (OpQ.spec (ms_len rfl tg_30.slice (.inl rfl)) _) ?_
  refine AOps.step rfl rfl rfl (OpQ.spec (sp_move rfl (.inl rfl)) _) ?_
  refine AOps.step rfl rfl rfl (OpQ.spec (ms_len rfl tg_30.slice (.inl rfl)) _) ?_
  refine AOps.step rfl rfl rfl (OpQ.spec (sp_neq rfl (.inl rfl) (.inl rfl)) _) ?_
  refine AOps.nil ?_
  refine hK3 _ ?_
  refine AW.cond rfl (fun hc1 => ?_) (fun hc1 => ?_)
  · have h1 := ite_t hc1 h
    refine AW.seq_w fun K4 hK4 wK4 => ?_
    refine AW.region ?_
    refine AOps.step rfl rfl rfl (OpQ.spec (sp_assign rfl (.inl rfl)) _) ?_
    refine AOps.nil ?_
    refine hK4 _ ?_
    refine AW.ret ?_
    exact retf1 (P := Tryd.prog) (fun (r : Bool) => .r (.bool r)) h1 (.inl rfl) (.t (.d rfl))
  · have h1 := ite_f hc1 h
    refine AW.skip ?_
    refine hK2 _ ?_
    refine AW.seq_w fun K5 hK5 wK5 => ?_
    refine AW.seq_w fun K6 hK6 wK6 => ?_
    refine AW.region ?_
    refine AOps.step rfl rfl rfl (OpQ.spec (sp_move rfl (.inl rfl)) _) ?_
    refine AOps.step rfl rfl rfl (OpQ.spec (ms_len rfl tg_30.slice (.inl rfl)) _) ?_
    refine AOps.step rfl rfl rfl (OpQ.spec (sp_move rfl (.inl rfl)) _) ?_
    refine AOps.nil ?_
    refine hK6 _ ?_
    refine AW.block ?_
    refine jc1k h1 fun o1 hit1 hk1 he1 => ?_
    have J1 : ∀ (u2 : Unit) (i5 : Nat → Nat), o1 = .nrm u2 → K5 ⟨[], [], (i5 0), 26⟩ := by
      intro u2 i5 e
      have h2 := hk1 _ e
      refine hK5 _ ?_
      refine AW.seq_w fun K7 hK7 wK7 => ?_
      refine AW.region ?_
      refine AOps.step rfl rfl rfl (OpQ.spec (sp_assign rfl (.inl rfl)) _) ?_
      refine AOps.nil ?_
      refine hK7 _ ?_
      refine AW.ret ?_
      exact retf1 (P := Tryd.prog) (fun (r : Bool) => .r (.bool r)) h2 (.inl rfl) (.t (.d rfl))
    refine AW.iter1 (fun (x2 : Int) i3 => ⟨[(0, .r (.sl (a1.map GAttr.row))), (1, .r (.sl (b1.map GAttr.row))), (12, .r (.int .i64 (a1.length : Int))), (13, .r (.int .i64 x2))], [], (i3 0), 26⟩) (vec [n0]) hit1 ((by exact Weak.cv ⟨.inl (.inl rfl), .inl (.inl rfl), .inl (.inl rfl), .inl (.inl rfl), trivial⟩ trivial (Nat.le_refl _))) ?_
    intro x2 i3 v1 hv1 hx1
    have h3 : ref_SameAttrs_L1 a1 b1 x2 = some v1 := hv1; unfold ref_SameAttrs_L1 at h3
    refine AW.seq_w fun K8 hK8 wK8 => ?_
    refine AW.region ?_
    refine AOps.step rfl rfl rfl (OpQ.spec (sp_lss rfl (.inl rfl) (.inl rfl)) _) ?_
    refine AOps.nil ?_
    refine hK8 _ ?_
    refine AW.seq_w fun K9 hK9 wK9 => ?_
    refine AW.cond rfl (fun hc2 => ?_) (fun hc2 => ?_)
    · have h4 := ite_t hc2 h3
      refine AW.skip ?_
      refine hK9 _ ?_
      refine AW.seq_w fun K10 hK10 wK10 => ?_
      refine AW.block ?_
      refine AW.seq_w fun K11 hK11 wK11 => ?_
      refine AW.region ?_
      refine AOps.step rfl rfl rfl (OpQ.spec (sp_move rfl (.inl rfl)) _) ?_
      refine AOps.step rfl rfl rfl (OpQ.spec (sp_assign rfl (.inl rfl)) _) ?_
      refine AOps.nil ?_
      refine hK11 _ ?_
      refine AW.seq_w fun K12 hK12 wK12 => ?_
      refine AW.regionQ hmix (by kernel_rfl) ?_
      refine AQ.step rfl rfl rfl (sp_move rfl (.inl rfl)) ?_
      refine AQ.step rfl rfl rfl (sp_move rfl (.inl rfl)) ?_
      refine ob1k h4 fun x4 ex4 h5 => ?_
      refine AQ.step rfl rfl rfl (ms_idx rfl tg_30.slice (.inl rfl) (.inl rfl) (fun _ => rfl) (fun _ => ex4)) ?_
      refine AQ.step rfl rfl rfl (ms_loadA (cs := [.r (.str x4.Name), .r (.str x4.Value)]) rfl ta_63 (.inl rfl) rfl rfl) ?_
      refine AQ.step rfl rfl rfl (sp_move rfl (.inl rfl)) ?_
      refine AQ.step rfl rfl rfl (sp_move rfl (.inl rfl)) ?_
      refine ob1k h5 fun x5 ex5 h6 => ?_
      refine AQ.step rfl rfl rfl (ms_idx rfl tg_30.slice (.inl rfl) (.inl rfl) (fun _ => rfl) (fun _ => ex5)) ?_
      refine AQ.step rfl rfl rfl (ms_loadA (cs := [.r (.str x5.Name), .r (.str x5.Value)]) rfl ta_63 (.inl rfl) rfl rfl) ?_
      refine AQ.step rfl rfl rfl (sp_aggneq rfl te_63 (.inl rfl) (.inl rfl) rfl) ?_
      refine AQ.nil ?_
      refine hK12 _ ?_
      refine AW.cond rfl (fun hc3 => ?_) (fun hc3 => ?_)
      · have h7 := ite_t hc3 h6
        refine AW.seq_w fun K13 hK13 wK13 => ?_
        refine AW.weak (s' := ⟨[], [], (i3 0), 26⟩) (by exact Weak.cv trivial trivial (Nat.le_refl _)) ?_
        refine AW.region ?_
        refine AOps.step rfl rfl rfl (OpQ.spec (sp_assign rfl (.inl rfl)) _) ?_
        refine AOps.nil ?_
        refine hK13 _ ?_
        refine AW.ret ?_
        exact retf1 (P := Tryd.prog) (fun (r : Bool) => .r (.bool r)) (he1 _ (hx1 _ (Option.some.inj h7).symm)) (.inl rfl) (.t (.d rfl))
      · have h7 := ite_f hc3 h6
        refine AW.skip ?_
        refine hK10 _ ?_
        refine AW.weak (s' := ⟨[(0, .r (.sl (a1.map GAttr.row))), (1, .r (.sl (b1.map GAttr.row))), (12, .r (.int .i64 (a1.length : Int))), (13, .r (.int .i64 x2))], [], (i3 0), 26⟩) (by exact Weak.cv ⟨.inl (.inl rfl), .inl (.inl rfl), .inl (.inl rfl), .inl (.inl rfl), trivial⟩ trivial (Nat.le_refl _)) ?_
        refine AW.region ?_
        refine ob1k h7 fun x6 ex6 h8 => ?_
        refine AOps.step rfl rfl rfl (OpQ.spec (ms_add rfl (.inl rfl) (.inl rfl) (fun _ => ex6)) _) ?_
        refine AOps.step rfl rfl rfl (OpQ.spec (sp_move rfl (.inl rfl)) _) ?_
        refine AOps.nil ?_
        exact NextQ1.mk h8 (vec [(i3 0)]) ((by exact Weak.cv ⟨.inl (.inl rfl), .inl (.inl rfl), .inl (.inl rfl), .inl (.inl rfl), trivial⟩ trivial (Nat.le_refl _)))
    · have h4 := ite_f hc2 h3
      refine AW.exit ?_
      exact wK5 _ _ ((by exact Weak.cv trivial trivial (Nat.le_refl _))) (J1 _ (vec [(i3 0)]) (hx1 _ (Option.some.inj h4).symm))
set_option maxHeartbeats 4000000 in
set_option maxRecDepth 20000 in
theorem w_flow_elem {x1 : GElem} {r : Int} (h : flow_elem x1 = some r) : ARO Tryd.prog 27 [.agg [.r (.int .i64 x1.Char), .r (.int .i64 x1.Ref), .r (.sl (x1.Attrs.map GAttr.row))]] (.r (.int .i64 r)) := by
  unfold flow_elem at h
  refine ARO.mkF Tryd.func27 rfl rfl Tryd.ntmps27 rfl (Nat.le_of_ble_eq_true rfl) fun n0 => ?_
  refine AW.seq_w fun K1 hK1 wK1 => ?_
  refine AW.region ?_
  refine AOps.step rfl rfl rfl (ms_box (cs := [.r (.int .i64 x1.Char), .r (.int .i64 x1.Ref), .r (.sl (x1.Attrs.map GAttr.row))]) 1 rfl (.inl rfl) rfl rfl) ?_
  refine AOps.step rfl rfl rfl (OpQ.spec (sp_assign rfl (.inl rfl)) _) ?_
  refine AOps.nil ?_
  refine hK1 _ ?_
  refine AW.seq_w fun K2 hK2 wK2 => ?_
  refine AW.block ?_
  refine AW.seq_w fun K3 hK3 wK3 => ?_
  refine AW.region ?_
  refine AOps.step rfl rfl rfl (OpQ.spec (sp_fieldAddr_own (ob := .box _ _ _) rfl tf_32_0 (.inl rfl) (fun _ => rfl) rfl) _) ?_
  refine AOps.step rfl rfl rfl (OpQ.spec (ms_load_box (a := .r (.int .i64 x1.Char)) rfl ts_3 (.inl rfl) rfl rfl) _) ?_
  refine AOps.step rfl rfl rfl (OpQ.spec (sp_neq rfl (.inl rfl) (.inl rfl)) _) ?_
  refine AOps.step rfl rfl rfl (OpQ.spec (sp_fieldAddr_own (ob := .box _ _ _) rfl tf_32_1 (.inl rfl) (fun _ => rfl) rfl) _) ?_
  refine AOps.step rfl rfl rfl (OpQ.spec (ms_load_box (a := .r (.int .i64 x1.Ref)) rfl ts_3 (.inl rfl) rfl rfl) _) ?_
  refine AOps.step rfl rfl rfl (OpQ.spec (sp_neq rfl (.inl rfl) (.inl rfl)) _) ?_
  refine AOps.step rfl rfl rfl (OpQ.spec (sp_beql rfl Tryd.underlying4 (.inl rfl) (.inl rfl)) _) ?_
  refine AOps.step rfl rfl rfl (OpQ.spec (sp_assign rfl (.inl rfl)) _) ?_
  refine AOps.nil ?_
  refine hK3 _ ?_
  refine AW.cond rfl (fun hc1 => ?_) (fun hc1 => ?_)
  · have h1 := ite_t hc1 h
    refine AW.seq_w fun K4 hK4 wK4 => ?_
    refine AW.weak (s' := ⟨[], [], (n0 + 1), 37⟩) (by exact Weak.cv trivial trivial (Nat.le_refl _)) ?_
    refine AW.region ?_
    refine AOps.step rfl rfl rfl (OpQ.spec (sp_assign rfl (.inl rfl)) _) ?_
    refine AOps.nil ?_
    refine hK4 _ ?_
    refine AW.ret ?_
    exact retf1 (P := Tryd.prog) (fun (r : Int) => .r (.int .i64 r)) h1 (.inl rfl) (.t (.d rfl))
  · have h1 := ite_f hc1 h
    refine AW.seq_w fun K5 hK5 wK5 => ?_
    refine AW.seq_w fun K6 hK6 wK6 => ?_
    refine AW.weak (s' := ⟨[(1, .ptr 1 n0 0 0)], [(1, some (.box n0 32 [.r (.int .i64 x1.Char), .r (.int .i64 x1.Ref), .r (.sl (x1.Attrs.map GAttr.row))]))], (n0 + 1), 37⟩) (by exact Weak.cv ⟨.inl (.inl rfl), trivial⟩ ⟨.inl rfl, trivial⟩ (Nat.le_refl _)) ?_
    refine AW.region ?_
    refine AOps.step rfl rfl rfl (OpQ.spec (sp_fieldAddr_own (ob := .box _ _ _) rfl tf_32_1 (.inl rfl) (fun _ => rfl) rfl) _) ?_
    refine AOps.step rfl rfl rfl (OpQ.spec (ms_load_box (a := .r (.int .i64 x1.Ref)) rfl ts_3 (.inl rfl) rfl rfl) _) ?_
    refine AOps.step rfl rfl rfl (OpQ.spec (sp_eql rfl (.inl rfl) (.inl rfl)) _) ?_
    refine AOps.step rfl rfl rfl (OpQ.spec (sp_move rfl (.inl rfl)) _) ?_
    refine AOps.stepW (.one rfl rfl rfl) rfl rfl (OpQ.spec (sp_fieldAddr_own (ob := .box _ _ _) rfl tf_32_0 (.inl rfl) (fun _ => rfl) rfl) _) ?_
    refine AOps.stepW (.one rfl rfl rfl) rfl rfl (OpQ.spec (ms_load_box (a := .r (.int .i64 x1.Char)) rfl ts_3 (.inr ⟨_, (by exact id), rfl⟩) rfl rfl) _) ?_
    refine ob1k h1 fun r1 er1 h2 => ?_
    refine AOps.stepW (.one rfl rfl rfl) rfl rfl (sp_call (r := .r (.bool r1)) (caps := []) (bs := [.r (.int .i64 x1.Char)]) rfl (.inl rfl) rfl ⟨⟨_, (.inr ⟨_, (by exact id), rfl⟩), .d rfl⟩, trivial⟩ (fun hg => w_flow_Char (gdt er1 hg)) rfl) ?_
    refine AOps.stepW (.one rfl rfl rfl) rfl rfl (OpQ.spec (sp_not rfl (.inr ⟨_, (by exact id), rfl⟩)) _) ?_
    refine AOps.step rfl rfl rfl (OpQ.spec (sp_and rfl (.inl rfl) (.inr ⟨_, (by exact id), rfl⟩)) _) ?_
    refine AOps.step rfl rfl rfl (OpQ.spec (sp_assign rfl (.inl rfl)) _) ?_
    refine AOps.nil ?_
    refine hK6 _ ?_
    refine jb1k h2 fun p1 hp1 hk1 => ?_
    have J1 : ∀ (x2 : Bool) (i1 : Nat → Nat), p1 = x2 → K5 ⟨[(1, .ptr 1 n0 0 0), (11, .r (.bool x2))], [(1, some (.box n0 32 [.r (.int .i64 x1.Char), .r (.int .i64 x1.Ref), .r (.sl (x1.Attrs.map GAttr.row))]))], (i1 0), 37⟩ := by
      intro x2 i1 e
      have h3 := hk1 _ e
      refine hK5 _ ?_
      refine AW.cond rfl (fun hc2 => ?_) (fun hc2 => ?_)
      · have h4 := ite_t hc2 h3
        refine AW.seq_w fun K7 hK7 wK7 => ?_
        refine AW.region ?_
        refine AOps.step rfl rfl rfl (OpQ.spec (sp_assign rfl (.inl rfl)) _) ?_
        refine AOps.nil ?_
        refine hK7 _ ?_
        refine AW.ret ?_
        exact retf1 (P := Tryd.prog) (fun (r : Int) => .r (.int .i64 r)) h4 (.inl rfl) (.t (.d rfl))
      · have h4 := ite_f hc2 h3
        refine AW.skip ?_
        refine hK2 _ ?_
        refine AW.seq_w fun K8 hK8 wK8 => ?_
        refine AW.region ?_
        refine AOps.step rfl rfl rfl (OpQ.spec (sp_fieldAddr_own (ob := .box _ _ _) rfl tf_32_2 (.inl rfl) (fun _ => rfl) rfl) _) ?_
        refine AOps.step rfl rfl rfl (OpQ.spec (ms_load_box (a := .r (.sl (x1.Attrs.map GAttr.row))) rfl ts_30 (.inl rfl) rfl rfl) _) ?_
        refine ob1k h4 fun r2 er2 h5 => ?_
        refine AOps.step rfl rfl rfl (sp_call (r := .r (.int .i64 r2)) (caps := []) (bs := [.r (.sl (x1.Attrs.map GAttr.row))]) rfl (.inl rfl) rfl ⟨⟨_, (.inl rfl), .d rfl⟩, trivial⟩ (fun _ => w_attr_Check (er2)) rfl) ?_
        refine AOps.step rfl rfl rfl (OpQ.spec (sp_assign rfl (.inl rfl)) _) ?_
        refine AOps.nil ?_
        refine hK8 _ ?_
        refine AW.ret ?_
        exact retf1 (P := Tryd.prog) (fun (r : Int) => .r (.int .i64 r)) h5 (.inl rfl) (.t (.d rfl))
    refine AW.cond rfl (fun hc3 => ?_) (fun hc3 => ?_)
    · have h6 := ite_t hc3 hp1
      refine AW.skip ?_
      exact wK5 _ _ ((by exact Weak.cv ⟨.inl (.inl rfl), .inl (.inl rfl), trivial⟩ ⟨.inl rfl, trivial⟩ (Nat.le_refl _))) (J1 _ (vec [(n0 + 1)]) (Option.some.inj h6).symm)
    · have h6 := ite_f hc3 hp1
      refine AW.weak (s' := ⟨[(1, .ptr 1 n0 0 0)], [(1, some (.box n0 32 [.r (.int .i64 x1.Char), .r (.int .i64 x1.Ref), .r (.sl (x1.Attrs.map GAttr.row))]))], (n0 + 1), 37⟩) (by exact Weak.cv ⟨.inl (.inl rfl), trivial⟩ ⟨.inl rfl, trivial⟩ (Nat.le_refl _)) ?_
      refine AW.region ?_
      refine AOps.step rfl rfl rfl (OpQ.spec (sp_fieldAddr_own (ob := .box _ _ _) rfl tf_32_1 (.inl rfl) (fun _ => rfl) rfl) _) ?_
      refine AOps.step rfl rfl rfl (OpQ.spec (ms_load_box (a := .r (.int .i64 x1.Ref)) rfl ts_3 (.inl rfl) rfl rfl) _) ?_
      refine AOps.step rfl rfl rfl (OpQ.spec (sp_neq rfl (.inl rfl) (.inl rfl)) _) ?_
      refine AOps.step rfl rfl rfl (OpQ.spec (sp_move rfl (.inl rfl)) _) ?_
      refine AOps.stepW (.one rfl rfl rfl) rfl rfl (OpQ.spec (sp_fieldAddr_own (ob := .box _ _ _) rfl tf_32_1 (.inl rfl) (fun _ => rfl) rfl) _) ?_
      refine AOps.stepW (.one rfl rfl rfl) rfl rfl (OpQ.spec (ms_load_box (a := .r (.int .i64 x1.Ref)) rfl ts_3 (.inr ⟨_, (by exact id), rfl⟩) rfl rfl) _) ?_
      refine AOps.stepW (.one rfl rfl rfl) rfl rfl (OpQ.spec (sp_lss rfl (.inr ⟨_, (by exact id), rfl⟩) (.inl rfl)) _) ?_
      refine AOps.stepW (.one rfl rfl rfl) rfl rfl (OpQ.spec (sp_move rfl (.inr ⟨_, (by exact id), rfl⟩)) _) ?_
      refine AOps.stepW (.two rfl rfl rfl) rfl rfl (OpQ.spec (sp_fieldAddr_own (ob := .box _ _ _) rfl tf_32_1 (.inl rfl) (fun _ => rfl) rfl) _) ?_
      refine AOps.stepW (.two rfl rfl rfl) rfl rfl (OpQ.spec (ms_load_box (a := .r (.int .i64 x1.Ref)) rfl ts_3 (.inr ⟨_, (by exact id), rfl⟩) rfl rfl) _) ?_
      refine AOps.stepW (.two rfl rfl rfl) rfl rfl (OpQ.spec (sp_gtr rfl (.inr ⟨_, (by exact id), rfl⟩) (.inl rfl)) _) ?_
      refine AOps.stepW (.one rfl rfl rfl) rfl rfl (OpQ.spec (sp_or rfl (.inr ⟨_, (by exact id), rfl⟩) (.inr ⟨_, (by exact id), rfl⟩)) _) ?_
      refine AOps.step rfl rfl rfl (OpQ.spec (sp_and rfl (.inl rfl) (.inr ⟨_, (by exact id), rfl⟩)) _) ?_
      refine AOps.step rfl rfl rfl (OpQ.spec (sp_assign rfl (.inl rfl)) _) ?_
      refine AOps.nil ?_
      exact wK5 _ _ ((by exact Weak.cv ⟨.inl (.inl rfl), .inl (.inl rfl), trivial⟩ ⟨.inl rfl, trivial⟩ (Nat.le_refl _))) (J1 _ (vec [(n0 + 1)]) (Option.some.inj h6).symm)
set_option maxHeartbeats 4000000 in
set_option maxRecDepth 20000 in
theorem w_flow_Check {f1 : List GElem} {text1 : Bool} {r : Int} (h : flow_Check f1 text1 = some r) : ARO Tryd.prog 11 [.r (.sl (f1.map GElem.row)), .r (.bool text1)] (.r (.int .i64 r)) := by
  unfold flow_Check at h
  refine ARO.mkF Tryd.func11 rfl rfl Tryd.ntmps11 rfl (Nat.le_of_ble_eq_true rfl) fun n0 => ?_
  refine AW.seq_w fun K1 hK1 wK1 => ?_
  refine AW.region ?_
  refine AOps.step rfl rfl rfl (OpQ.spec (sp_assign rfl (.inl rfl)) _) ?_
  refine AOps.nil ?_
  refine hK1 _ ?_
  refine AW.seq_w fun K2 hK2 wK2 => ?_
  refine AW.seq_w fun K3 hK3 wK3 => ?_
  refine AW.region ?_
  refine AOps.step rfl rfl rfl (OpQ.spec (sp_move rfl (.inl rfl)) _) ?_
  refine AOps.step rfl rfl rfl (OpQ.spec (ms_len rfl tg_22.slice (.inl rfl)) _) ?_
  refine AOps.step rfl rfl rfl (OpQ.spec (sp_move rfl (.inl rfl)) _) ?_
  refine AOps.nil ?_
  refine hK3 _ ?_
  refine AW.block ?_
  refine jc1k h fun o1 hit1 hk1 he1 => ?_
  have J1 : ∀ (u2 : Unit) (i5 : Nat → Nat), o1 = .nrm u2 → K2 ⟨[(0, .r (.sl (f1.map GElem.row))), (1, .r (.bool text1))], [], (i5 0), 43⟩ := by
    intro u2 i5 e
    have h1 := hk1 _ e
    refine hK2 _ ?_
    refine AW.seq_w fun K4 hK4 wK4 => ?_
    refine AW.seq_w fun K5 hK5 wK5 => ?_
    refine AW.region ?_
    refine AOps.step rfl rfl rfl (OpQ.spec (sp_move rfl (.inl rfl)) _) ?_
    refine AOps.step rfl rfl rfl (OpQ.spec (sp_move rfl (.inl rfl)) _) ?_
    refine AOps.stepW (.one rfl rfl rfl) rfl rfl (OpQ.spec (sp_move rfl (.inl rfl)) _) ?_
    refine AOps.stepW (.one rfl rfl rfl) rfl rfl (OpQ.spec (ms_len rfl tg_22.slice (.inr ⟨_, (by exact id), rfl⟩)) _) ?_
    refine AOps.stepW (.one rfl rfl rfl) rfl rfl (OpQ.spec (sp_eql rfl (.inr ⟨_, (by exact id), rfl⟩) (.inl rfl)) _) ?_
    refine AOps.stepW (.one rfl rfl rfl) rfl rfl (OpQ.spec (sp_move rfl (.inr ⟨_, (by exact id), rfl⟩)) _) ?_
    refine AOps.stepW (.two rfl rfl rfl) rfl rfl (OpQ.spec (sp_move rfl (.inl rfl)) _) ?_
    refine AOps.stepW (.two rfl rfl rfl) rfl rfl (OpQ.spec (sp_move rfl (.inl rfl)) _) ?_
    refine AOps.stepW (.two rfl rfl rfl) rfl rfl (OpQ.spec (ms_len rfl tg_22.slice (.inr ⟨_, (by exact id), rfl⟩)) _) ?_
    refine ob1k h1 fun x4 ex4 h2 => ?_
    refine AOps.stepW (.two rfl rfl rfl) rfl rfl (OpQ.spec (ms_sub rfl (.inr ⟨_, (by exact id), rfl⟩) (.inl rfl) (gdt ex4)) _) ?_
    refine ob1k h2 fun x5 ex5 h3 => ?_
    refine AOps.stepW (.two rfl rfl rfl) rfl rfl (OpQ.spec (ms_idx rfl tg_22.slice (.inr ⟨_, (by exact id), rfl⟩) (.inr ⟨_, (by exact id), rfl⟩) (fun _ => rfl) (gdt ex5)) _) ?_
    refine AOps.stepW (.two rfl rfl rfl) rfl rfl (OpQ.spec (sp_fieldAddr_ro rfl tf_32_0 (.inr ⟨_, (by exact id), rfl⟩)) _) ?_
    refine AOps.stepW (.two rfl rfl rfl) rfl rfl (OpQ.spec (ms_load (d := .int .i64 x5.Char) rfl ts_3 (.inr ⟨_, (by exact id), rfl⟩) rfl) _) ?_
    refine AOps.stepW (.two rfl rfl rfl) rfl rfl (OpQ.spec (sp_neq rfl (.inr ⟨_, (by exact id), rfl⟩) (.inl rfl)) _) ?_
    refine AOps.stepW (.one rfl rfl rfl) rfl rfl (OpQ.spec (sp_or rfl (.inr ⟨_, (by exact id), rfl⟩) (.inr ⟨_, (by exact id), rfl⟩)) _) ?_
    refine AOps.step rfl rfl rfl (OpQ.spec (sp_and rfl (.inl rfl) (.inr ⟨_, (by exact id), rfl⟩)) _) ?_
    refine AOps.nil ?_
    refine hK5 _ ?_
    refine AW.cond rfl (fun hc1 => ?_) (fun hc1 => ?_)
    · have h4 := ite_t hc1 h3
      refine AW.seq_w fun K6 hK6 wK6 => ?_
      refine AW.weak (s' := ⟨[], [], (i5 0), 43⟩) (by exact Weak.cv trivial trivial (Nat.le_refl _)) ?_
      refine AW.region ?_
      refine AOps.step rfl rfl rfl (OpQ.spec (sp_assign rfl (.inl rfl)) _) ?_
      refine AOps.nil ?_
      refine hK6 _ ?_
      refine AW.ret ?_
      exact retf1 (P := Tryd.prog) (fun (r : Int) => .r (.int .i64 r)) h4 (.inl rfl) (.t (.d rfl))
    · have h4 := ite_f hc1 h3
      refine AW.skip ?_
      refine hK4 _ ?_
      refine AW.seq_w fun K7 hK7 wK7 => ?_
      refine AW.weak (s' := ⟨[], [], (i5 0), 43⟩) (by exact Weak.cv trivial trivial (Nat.le_refl _)) ?_
      refine AW.region ?_
      refine AOps.step rfl rfl rfl (OpQ.spec (sp_assign rfl (.inl rfl)) _) ?_
      refine AOps.nil ?_
      refine hK7 _ ?_
      refine AW.ret ?_
      exact retf1 (P := Tryd.prog) (fun (r : Int) => .r (.int .i64 r)) h4 (.inl rfl) (.t (.d rfl))
  refine AW.iter1 (fun (x2 : Int) i3 => ⟨[(0, .r (.sl (f1.map GElem.row))), (1, .r (.bool text1)), (8, .r (.sl (f1.map GElem.row))), (9, .r (.int .i64 (f1.length : Int))), (10, .r (.int .i64 x2))], [], (i3 0), 43⟩) (vec [n0]) hit1 ((by exact Weak.cv ⟨.inl (.inl rfl), .inl (.inl rfl), .inl (.inl rfl), .inl (.inl rfl), .inl (.inl rfl), trivial⟩ trivial (Nat.le_refl _))) ?_
  intro x2 i3 v1 hv1 hx1
  have h5 : flow_Check_L1 f1 text1 x2 = some v1 := hv1; unfold flow_Check_L1 at h5
  refine AW.seq_w fun K8 hK8 wK8 => ?_
  refine AW.region ?_
  refine AOps.step rfl rfl rfl (OpQ.spec (sp_lss rfl (.inl rfl) (.inl rfl)) _) ?_
  refine AOps.nil ?_
  refine hK8 _ ?_
  refine AW.seq_w fun K9 hK9 wK9 => ?_
  refine AW.cond rfl (fun hc2 => ?_) (fun hc2 => ?_)
  · have h6 := ite_t hc2 h5
    refine AW.skip ?_
    refine hK9 _ ?_
    refine AW.seq_w fun K10 hK10 wK10 => ?_
    refine AW.block ?_
    refine AW.seq_w fun K11 hK11 wK11 => ?_
    refine AW.region ?_
    refine ob1k h6 fun x6 ex6 h7 => ?_
    refine AOps.step rfl rfl rfl (OpQ.spec (ms_idx rfl tg_22.slice (.inl rfl) (.inl rfl) (fun _ => rfl) (fun _ => ex6)) _) ?_
    refine AOps.step rfl rfl rfl (OpQ.spec (ms_loadA (cs := [.r (.int .i64 x6.Char), .r (.int .i64 x6.Ref), .r (.sl (x6.Attrs.map GAttr.row))]) rfl ta_32 (.inl rfl) rfl rfl) _) ?_
    refine AOps.step rfl rfl rfl (ms_alloc (cs := [.r (.int .i64 0), .r (.int .i64 0), .cst (.slice none 0 0)]) 6 rfl t0_32 rfl rfl) ?_
    refine AOps.step0 rfl rfl (ms_store_box (ds := [.r (.int .i64 x6.Char), .r (.int .i64 x6.Ref), .r (.sl (x6.Attrs.map GAttr.row))]) rfl tz_32 (.inl rfl) rfl (.inl rfl) rfl rfl rfl rfl) ?_
    refine AOps.nil ?_
    refine hK11 _ ?_
    refine AW.seq_w fun K12 hK12 wK12 => ?_
    refine AW.seq_w fun K13 hK13 wK13 => ?_
    refine AW.region ?_
    refine AOps.step rfl rfl rfl (OpQ.spec (ms_loadA_box rfl ta_32 (.inl rfl) rfl rfl) _) ?_
    refine ob1k h7 fun e1 ee1 h8 => ?_
    refine AOps.step rfl rfl rfl (sp_call (r := .r (.int .i64 e1)) (caps := []) (bs := [.agg [.r (.int .i64 x6.Char), .r (.int .i64 x6.Ref), .r (.sl (x6.Attrs.map GAttr.row))]]) rfl (.inl rfl) rfl ⟨⟨_, (.inl rfl), .g (cs := [.int .i64 x6.Char, .int .i64 x6.Ref, .sl (x6.Attrs.map GAttr.row)]) rfl rfl⟩, trivial⟩ (fun _ => w_flow_elem (ee1)) rfl) ?_
    refine AOps.step rfl rfl rfl (OpQ.spec (sp_assign rfl (.inl rfl)) _) ?_
    refine AOps.nil ?_
    refine hK13 _ ?_
    refine AW.seq_w fun K14 hK14 wK14 => ?_
    refine AW.region ?_
    refine AOps.step rfl rfl rfl (OpQ.spec (sp_move rfl (.inl rfl)) _) ?_
    refine AOps.step rfl rfl rfl (OpQ.spec (sp_neq rfl (.inl rfl) (.inl rfl)) _) ?_
    refine AOps.nil ?_
    refine hK14 _ ?_
    refine AW.cond rfl (fun hc3 => ?_) (fun hc3 => ?_)
    · have h9 := ite_t hc3 h8
      refine AW.seq_w fun K15 hK15 wK15 => ?_
      refine AW.weak (s' := ⟨[(7, .r (.int .i64 e1))], [], ((i3 0) + 1), 43⟩) (by exact Weak.cv ⟨.inl (.inl rfl), trivial⟩ trivial (Nat.le_refl _)) ?_
      refine AW.region ?_
      refine AOps.step rfl rfl rfl (OpQ.spec (sp_move rfl (.inl rfl)) _) ?_
      refine AOps.step rfl rfl rfl (OpQ.spec (sp_assign rfl (.inl rfl)) _) ?_
      refine AOps.nil ?_
      refine hK15 _ ?_
      refine AW.ret ?_
      exact retf1 (P := Tryd.prog) (fun (r : Int) => .r (.int .i64 r)) (he1 _ (hx1 _ (Option.some.inj h9).symm)) (.inl rfl) (.t (.d rfl))
    · have h9 := ite_f hc3 h8
      refine AW.skip ?_
      refine hK12 _ ?_
      refine AW.seq_w fun K16 hK16 wK16 => ?_
      refine AW.region ?_
      refine AOps.step rfl rfl rfl (OpQ.spec (sp_move rfl (.inl rfl)) _) ?_
      refine AOps.step rfl rfl rfl (OpQ.spec (sp_not rfl (.inl rfl)) _) ?_
      refine AOps.step rfl rfl rfl (OpQ.spec (sp_move rfl (.inl rfl)) _) ?_
      refine AOps.stepW (.one rfl rfl rfl) rfl rfl (OpQ.spec (sp_fieldAddr_own (ob := .box _ _ _) rfl tf_32_1 (.inl rfl) (fun _ => rfl) rfl) _) ?_
      refine AOps.stepW (.one rfl rfl rfl) rfl rfl (OpQ.spec (ms_load_box (a := .r (.int .i64 x6.Ref)) rfl ts_3 (.inr ⟨_, (by exact id), rfl⟩) rfl rfl) _) ?_
      refine AOps.stepW (.one rfl rfl rfl) rfl rfl (OpQ.spec (sp_eql rfl (.inr ⟨_, (by exact id), rfl⟩) (.inl rfl)) _) ?_
      refine AOps.step rfl rfl rfl (OpQ.spec (sp_and rfl (.inl rfl) (.inr ⟨_, (by exact id), rfl⟩)) _) ?_
      refine AOps.nil ?_
      refine hK16 _ ?_
      refine AW.cond rfl (fun hc4 => ?_) (fun hc4 => ?_)
      · have h10 := ite_t hc4 h9
        refine AW.seq_w fun K17 hK17 wK17 => ?_
        refine AW.weak (s' := ⟨[], [], ((i3 0) + 1), 43⟩) (by exact Weak.cv trivial trivial (Nat.le_refl _)) ?_
        refine AW.region ?_
        refine AOps.step rfl rfl rfl (OpQ.spec (sp_assign rfl (.inl rfl)) _) ?_
        refine AOps.nil ?_
        refine hK17 _ ?_
        refine AW.ret ?_
        exact retf1 (P := Tryd.prog) (fun (r : Int) => .r (.int .i64 r)) (he1 _ (hx1 _ (Option.some.inj h10).symm)) (.inl rfl) (.t (.d rfl))
      · have h10 := ite_f hc4 h9
        refine AW.skip ?_
        refine hK10 _ ?_
        refine AW.weak (s' := ⟨[(0, .r (.sl (f1.map GElem.row))), (1, .r (.bool text1)), (8, .r (.sl (f1.map GElem.row))), (9, .r (.int .i64 (f1.length : Int))), (10, .r (.int .i64 x2))], [], ((i3 0) + 1), 43⟩) (by exact Weak.cv ⟨.inl (.inl rfl), .inl (.inl rfl), .inl (.inl rfl), .inl (.inl rfl), .inl (.inl rfl), trivial⟩ trivial (Nat.le_refl _)) ?_
        refine AW.region ?_
        refine ob1k h10 fun x7 ex7 h11 => ?_
        refine AOps.step rfl rfl rfl (OpQ.spec (ms_add rfl (.inl rfl) (.inl rfl) (fun _ => ex7)) _) ?_
        refine AOps.step rfl rfl rfl (OpQ.spec (sp_move rfl (.inl rfl)) _) ?_
        refine AOps.nil ?_
        exact NextQ1.mk h11 (vec [((i3 0) + 1)]) ((by exact Weak.cv ⟨.inl (.inl rfl), .inl (.inl rfl), .inl (.inl rfl), .inl (.inl rfl), .inl (.inl rfl), trivial⟩ trivial (Nat.le_refl _)))
  · have h6 := ite_f hc2 h5
    refine AW.exit ?_
    exact wK2 _ _ ((by exact Weak.cv ⟨.inl (.inl rfl), .inl (.inl rfl), trivial⟩ trivial (Nat.le_refl _))) (J1 _ (vec [(i3 0)]) (hx1 _ (Option.some.inj h6).symm))
set_option maxHeartbeats 4000000 in
set_option maxRecDepth 20000 in
theorem w_law_flows {r : Bool} (h : law_flows = some r) : ARO Tryd.prog 6 [] (.r (.bool r)) := by
  unfold law_flows at h
  refine ARO.mkF Tryd.func6 rfl rfl Tryd.ntmps6 rfl (Nat.le_of_ble_eq_true rfl) fun n0 => ?_
  refine AW.seq_w fun K1 hK1 wK1 => ?_
  refine AW.region ?_
  refine AOps.step rfl rfl rfl (OpQ.spec (sp_assign rfl (.inl rfl)) _) ?_
  refine AOps.nil ?_
  refine hK1 _ ?_
  refine AW.seq_w fun K2 hK2 wK2 => ?_
  refine AW.region ?_
  refine ob1k h fun r1 er1 h1 => ?_
  refine AOps.step rfl rfl rfl (sp_callS (r := .r (.sl (r1.map GAttr.row))) (caps := []) (bs := [.r (.str [98, 111, 108, 100])]) rfl (.inl rfl) rfl ⟨.inl ⟨(.inl rfl), rfl⟩, trivial⟩ (fun _ => w_law_on (er1))) ?_
  refine ob2k h1 fun r2 r3 er2 h2 => ?_
  refine AOps.step rfl rfl rfl (sp_callS (r := .tup [.r (.sl (r2.map GElem.row)), .r (.int .i64 r3)]) (caps := []) (bs := [.r (.str [97, 98]), .r (.sl (r1.map GAttr.row))]) rfl (.inl rfl) rfl ⟨.inl ⟨(.inl rfl), rfl⟩, .inl ⟨(.inl rfl), rfl⟩, trivial⟩ (fun _ => w_flow_Of (er2))) ?_
  refine AOps.step rfl rfl rfl (OpQ.spec (sp_move rfl (.inl rfl)) _) ?_
  refine AOps.step rfl rfl rfl (OpQ.spec (sp_extract (a := .r (.sl (r2.map GElem.row))) rfl (.inl rfl) rfl) _) ?_
  refine AOps.step rfl rfl rfl (OpQ.spec (sp_extract (a := .r (.int .i64 r3)) rfl (.inl rfl) rfl) _) ?_
  refine AOps.step rfl rfl rfl (OpQ.spec (sp_assign rfl (.inl rfl)) _) ?_
  refine AOps.step rfl rfl rfl (OpQ.spec (sp_assign rfl (.inl rfl)) _) ?_
  refine AOps.nil ?_
  refine hK2 _ ?_
  refine AW.seq_w fun K3 hK3 wK3 => ?_
  refine ob1k h2 fun x1 ex1 h3 => ?_
  refine ob1k h3 fun x2 ex2 h4 => ?_
  refine AW.regionP 20 [⟨some 8, (fun _ => .r (.int .i64 r3)), none, []⟩, ⟨some 9, (fun _ => .r (.bool (decide (r3 = 0)))), none, []⟩, ⟨some 10, (fun _ => .r (.bool (decide (r3 = 0)))), none, []⟩, ⟨some 11, (fun _ => .whn ((decide (r3 = 0)) == true) (.r (.sl (r2.map GElem.row)))), none, []⟩, ⟨some 12, (fun _ => .whn ((decide (r3 = 0)) == true) (.r (.int .i64 (r2.length : Int)))), none, []⟩, ⟨some 13, (fun _ => .whn ((decide (r3 = 0)) == true) (.r (.bool (decide ((r2.length : Int) = 2))))), none, []⟩, ⟨some 14, (fun _ => .r (.bool ((decide (r3 = 0)) && (decide ((r2.length : Int) = 2))))), none, []⟩, ⟨some 15, (fun _ => .r (.bool ((decide (r3 = 0)) && (decide ((r2.length : Int) = 2))))), none, []⟩, ⟨some 16, (fun _ => .whn (((decide (r3 = 0)) && (decide ((r2.length : Int) = 2))) == true) (.r (.sl (r2.map GElem.row)))), none, []⟩, ⟨some 17, (fun _ => .whn (((decide (r3 = 0)) && (decide ((r2.length : Int) = 2))) == true) (.rop (GElem.row x1) 0)), none, []⟩, ⟨some 18, (fun _ => .whn (((decide (r3 = 0)) && (decide ((r2.length : Int) = 2))) == true) (.rop (GElem.row x1) 0)), none, []⟩, ⟨some 19, (fun _ => .whn (((decide (r3 = 0)) && (decide ((r2.length : Int) = 2))) == true) (.r (.int .i64 x1.Char))), none, []⟩, ⟨some 20, (fun _ => .whn (((decide (r3 = 0)) && (decide ((r2.length : Int) = 2))) == true) (.r (.bool (decide (x1.Char = 98))))), none, []⟩, ⟨some 21, (fun _ => .r (.bool (((decide (r3 = 0)) && (decide ((r2.length : Int) = 2))) && (decide (x1.Char = 98))))), none, []⟩, ⟨some 22, (fun _ => .r (.bool (((decide (r3 = 0)) && (decide ((r2.length : Int) = 2))) && (decide (x1.Char = 98))))), none, []⟩, ⟨some 23, (fun _ => .whn ((((decide (r3 = 0)) && (decide ((r2.length : Int) = 2))) && (decide (x1.Char = 98))) == true) (.r (.sl (r2.map GElem.row)))), none, []⟩, ⟨some 24, (fun _ => .whn ((((decide (r3 = 0)) && (decide ((r2.length : Int) = 2))) && (decide (x1.Char = 98))) == true) (.rop (GElem.row x2) 0)), none, []⟩, ⟨some 25, (fun _ => .whn ((((decide (r3 = 0)) && (decide ((r2.length : Int) = 2))) && (decide (x1.Char = 98))) == true) (.rop (GElem.row x2) 2)), none, []⟩, ⟨some 26, (fun _ => .whn ((((decide (r3 = 0)) && (decide ((r2.length : Int) = 2))) && (decide (x1.Char = 98))) == true) (.r (.sl (x2.Attrs.map GAttr.row)))), none, []⟩, ⟨some 27, (fun _ => .whn ((((decide (r3 = 0)) && (decide ((r2.length : Int) = 2))) && (decide (x1.Char = 98))) == true) (.r (.sl (r1.map GAttr.row)))), none, []⟩] hmix (by kernel_rfl) (by exact ⟨fun _ _ h => ⟨rfl, fun _ _ e => by cases e⟩, fun _ _ h => ⟨rfl, fun _ _ e => by cases e⟩, fun _ _ h => ⟨rfl, fun _ _ e => by cases e⟩, fun _ _ h => ⟨rfl, fun _ _ e => by cases e⟩, fun _ _ h => ⟨rfl, fun _ _ e => by cases e⟩, fun _ _ h => ⟨rfl, fun _ _ e => by cases e⟩, fun _ _ h => ⟨rfl, fun _ _ e => by cases e⟩, fun _ _ h => ⟨rfl, fun _ _ e => by cases e⟩, fun _ _ h => ⟨rfl, fun _ _ e => by cases e⟩, fun _ _ h => ⟨rfl, fun _ _ e => by cases e⟩, fun _ _ h => ⟨rfl, fun _ _ e => by cases e⟩, fun _ _ h => ⟨rfl, fun _ _ e => by cases e⟩, fun _ _ h => ⟨rfl, fun _ _ e => by cases e⟩, fun _ _ h => ⟨rfl, fun _ _ e => by cases e⟩, fun _ _ h => ⟨rfl, fun _ _ e => by cases e⟩, fun _ _ h => ⟨rfl, fun _ _ e => by cases e⟩, fun _ _ h => ⟨rfl, fun _ _ e => by cases e⟩, fun _ _ h => ⟨rfl, fun _ _ e => by cases e⟩, fun _ _ h => ⟨rfl, fun _ _ e => by cases e⟩, fun _ _ h => ⟨rfl, fun _ _ e => by cases e⟩, trivial⟩) rfl (by exact ⟨Ob.quiet (n1 := fun n => n) rfl rfl (by intro d h; cases h; rfl) rfl (fun _ => [(2, .r (.int .i64 r3))]) (fun _ => []) (fun D G1 hr => ⟨inE_base rfl rfl, trivial⟩) (fun D G1 hr => trivial) (fun _ _ => rfl) (fun G1 e h' n => OpQ.spec (v := .r (.int .i64 r3)) (sp_move rfl (.inl rfl)) _),
      Ob.quiet (n1 := fun n => n) rfl rfl (by intro d h; cases h; rfl) rfl (fun _ => [(8, .r (.int .i64 r3))]) (fun _ => []) (fun D G1 hr => ⟨inE_op hr 0 rfl rfl (by kernel_rfl) rfl rfl, trivial⟩) (fun D G1 hr => trivial) (fun _ _ => rfl) (fun G1 e h' n => OpQ.spec (v := .r (.bool (decide (r3 = 0)))) (sp_eql rfl (.inl rfl) (.inl rfl)) _),
      Ob.quiet (n1 := fun n => n) rfl rfl (by intro d h; cases h; rfl) rfl (fun _ => [(9, .r (.bool (decide (r3 = 0))))]) (fun _ => []) (fun D G1 hr => ⟨inE_op hr 1 rfl rfl (by kernel_rfl) rfl rfl, trivial⟩) (fun D G1 hr => trivial) (fun _ _ => rfl) (fun G1 e h' n => OpQ.spec (v := .r (.bool (decide (r3 = 0)))) (sp_move rfl (.inl rfl)) _),
      Ob.quietG (n1 := fun n => n) (c := ((decide (r3 = 0)) == true)) (v0 := fun _ => .r (.sl (r2.map GElem.row))) rfl (by intro d h; cases h; rfl) rfl (fun _ => [(1, .r (.sl (r2.map GElem.row))), (10, .r (.bool (decide (r3 = 0))))]) (fun _ => []) (fun D G1 hr => ⟨inE_base rfl rfl, inE_op hr 2 rfl rfl (by kernel_rfl) rfl rfl, trivial⟩) (fun D G1 hr => trivial) (fun _ _ => rfl) (fun _ _ => (.one rfl rfl rfl)) (fun G1 e h' n => OpQ.spec (v := .r (.sl (r2.map GElem.row))) (sp_move rfl (.inl rfl)) _),
      Ob.quietG (n1 := fun n => n) (c := ((decide (r3 = 0)) == true)) (v0 := fun _ => .r (.int .i64 (r2.length : Int))) rfl (by intro d h; cases h; rfl) rfl (fun _ => [(10, .r (.bool (decide (r3 = 0)))), (11, .whn ((decide (r3 = 0)) == true) (.r (.sl (r2.map GElem.row))))]) (fun _ => []) (fun D G1 hr => ⟨inE_op hr 2 rfl rfl (by kernel_rfl) rfl rfl, inE_op hr 3 rfl rfl (by kernel_rfl) rfl rfl, trivial⟩) (fun D G1 hr => trivial) (fun _ _ => rfl) (fun _ _ => (.one rfl rfl rfl)) (fun G1 e h' n => OpQ.spec (v := .r (.int .i64 (r2.length : Int))) (ms_len rfl tg_22.slice (.inr ⟨_, (by exact id), rfl⟩)) _),
      Ob.quietG (n1 := fun n => n) (c := ((decide (r3 = 0)) == true)) (v0 := fun _ => .r (.bool (decide ((r2.length : Int) = 2)))) rfl (by intro d h; cases h; rfl) rfl (fun _ => [(10, .r (.bool (decide (r3 = 0)))), (12, .whn ((decide (r3 = 0)) == true) (.r (.int .i64 (r2.length : Int))))]) (fun _ => []) (fun D G1 hr => ⟨inE_op hr 2 rfl rfl (by kernel_rfl) rfl rfl, inE_op hr 4 rfl rfl (by kernel_rfl) rfl rfl, trivial⟩) (fun D G1 hr => trivial) (fun _ _ => rfl) (fun _ _ => (.one rfl rfl rfl)) (fun G1 e h' n => OpQ.spec (v := .r (.bool (decide ((r2.length : Int) = 2)))) (sp_eql rfl (.inr ⟨_, (by exact id), rfl⟩) (.inl rfl)) _),
      Ob.quiet (n1 := fun n => n) rfl rfl (by intro d h; cases h; rfl) rfl (fun _ => [(10, .r (.bool (decide (r3 = 0)))), (13, .whn ((decide (r3 = 0)) == true) (.r (.bool (decide ((r2.length : Int) = 2)))))]) (fun _ => []) (fun D G1 hr => ⟨inE_op hr 2 rfl rfl (by kernel_rfl) rfl rfl, inE_op hr 5 rfl rfl (by kernel_rfl) rfl rfl, trivial⟩) (fun D G1 hr => trivial) (fun _ _ => rfl) (fun G1 e h' n => OpQ.spec (v := .r (.bool ((decide (r3 = 0)) && (decide ((r2.length : Int) = 2))))) (sp_and rfl (.inl rfl) (.inr ⟨_, (by exact id), rfl⟩)) _),
      Ob.quiet (n1 := fun n => n) rfl rfl (by intro d h; cases h; rfl) rfl (fun _ => [(14, .r (.bool ((decide (r3 = 0)) && (decide ((r2.length : Int) = 2)))))]) (fun _ => []) (fun D G1 hr => ⟨inE_op hr 6 rfl rfl (by kernel_rfl) rfl rfl, trivial⟩) (fun D G1 hr => trivial) (fun _ _ => rfl) (fun G1 e h' n => OpQ.spec (v := .r (.bool ((decide (r3 = 0)) && (decide ((r2.length : Int) = 2))))) (sp_move rfl (.inl rfl)) _),
      Ob.quietG (n1 := fun n => n) (c := (((decide (r3 = 0)) && (decide ((r2.length : Int) = 2))) == true)) (v0 := fun _ => .r (.sl (r2.map GElem.row))) rfl (by intro d h; cases h; rfl) rfl (fun _ => [(1, .r (.sl (r2.map GElem.row))), (15, .r (.bool ((decide (r3 = 0)) && (decide ((r2.length : Int) = 2)))))]) (fun _ => []) (fun D G1 hr => ⟨inE_base rfl rfl, inE_op hr 7 rfl rfl (by kernel_rfl) rfl rfl, trivial⟩) (fun D G1 hr => trivial) (fun _ _ => rfl) (fun _ _ => (.one rfl rfl rfl)) (fun G1 e h' n => OpQ.spec (v := .r (.sl (r2.map GElem.row))) (sp_move rfl (.inl rfl)) _),
      Ob.quietG (n1 := fun n => n) (c := (((decide (r3 = 0)) && (decide ((r2.length : Int) = 2))) == true)) (v0 := fun _ => .rop (GElem.row x1) 0) rfl (by intro d h; cases h; rfl) rfl (fun _ => [(15, .r (.bool ((decide (r3 = 0)) && (decide ((r2.length : Int) = 2))))), (16, .whn (((decide (r3 = 0)) && (decide ((r2.length : Int) = 2))) == true) (.r (.sl (r2.map GElem.row))))]) (fun _ => []) (fun D G1 hr => ⟨inE_op hr 7 rfl rfl (by kernel_rfl) rfl rfl, inE_op hr 8 rfl rfl (by kernel_rfl) rfl rfl, trivial⟩) (fun D G1 hr => trivial) (fun _ _ => rfl) (fun _ _ => (.one rfl rfl rfl)) (fun G1 e h' n => OpQ.spec (v := .rop (GElem.row x1) 0) (ms_idx rfl tg_22.slice (.inr ⟨_, (by exact id), rfl⟩) (.inl rfl) (fun _ => rfl) (gdt ex1)) _),
      Ob.quietG (n1 := fun n => n) (c := (((decide (r3 = 0)) && (decide ((r2.length : Int) = 2))) == true)) (v0 := fun _ => .rop (GElem.row x1) 0) rfl (by intro d h; cases h; rfl) rfl (fun _ => [(15, .r (.bool ((decide (r3 = 0)) && (decide ((r2.length : Int) = 2))))), (17, .whn (((decide (r3 = 0)) && (decide ((r2.length : Int) = 2))) == true) (.rop (GElem.row x1) 0))]) (fun _ => []) (fun D G1 hr => ⟨inE_op hr 7 rfl rfl (by kernel_rfl) rfl rfl, inE_op hr 9 rfl rfl (by kernel_rfl) rfl rfl, trivial⟩) (fun D G1 hr => trivial) (fun _ _ => rfl) (fun _ _ => (.one rfl rfl rfl)) (fun G1 e h' n => OpQ.spec (v := .rop (GElem.row x1) 0) (sp_fieldAddr_ro rfl tf_32_0 (.inr ⟨_, (by exact id), rfl⟩)) _),
      Ob.quietG (n1 := fun n => n) (c := (((decide (r3 = 0)) && (decide ((r2.length : Int) = 2))) == true)) (v0 := fun _ => .r (.int .i64 x1.Char)) rfl (by intro d h; cases h; rfl) rfl (fun _ => [(15, .r (.bool ((decide (r3 = 0)) && (decide ((r2.length : Int) = 2))))), (18, .whn (((decide (r3 = 0)) && (decide ((r2.length : Int) = 2))) == true) (.rop (GElem.row x1) 0))]) (fun _ => []) (fun D G1 hr => ⟨inE_op hr 7 rfl rfl (by kernel_rfl) rfl rfl, inE_op hr 10 rfl rfl (by kernel_rfl) rfl rfl, trivial⟩) (fun D G1 hr => trivial) (fun _ _ => rfl) (fun _ _ => (.one rfl rfl rfl)) (fun G1 e h' n => OpQ.spec (v := .r (.int .i64 x1.Char)) (ms_load (d := .int .i64 x1.Char) rfl ts_3 (.inr ⟨_, (by exact id), rfl⟩) rfl) _),
      Ob.quietG (n1 := fun n => n) (c := (((decide (r3 = 0)) && (decide ((r2.length : Int) = 2))) == true)) (v0 := fun _ => .r (.bool (decide (x1.Char = 98)))) rfl (by intro d h; cases h; rfl) rfl (fun _ => [(15, .r (.bool ((decide (r3 = 0)) && (decide ((r2.length : Int) = 2))))), (19, .whn (((decide (r3 = 0)) && (decide ((r2.length : Int) = 2))) == true) (.r (.int .i64 x1.Char)))]) (fun _ => []) (fun D G1 hr => ⟨inE_op hr 7 rfl rfl (by kernel_rfl) rfl rfl, inE_op hr 11 rfl rfl (by kernel_rfl) rfl rfl, trivial⟩) (fun D G1 hr => trivial) (fun _ _ => rfl) (fun _ _ => (.one rfl rfl rfl)) (fun G1 e h' n => OpQ.spec (v := .r (.bool (decide (x1.Char = 98)))) (sp_eql rfl (.inr ⟨_, (by exact id), rfl⟩) (.inl rfl)) _),
      Ob.quiet (n1 := fun n => n) rfl rfl (by intro d h; cases h; rfl) rfl (fun _ => [(15, .r (.bool ((decide (r3 = 0)) && (decide ((r2.length : Int) = 2))))), (20, .whn (((decide (r3 = 0)) && (decide ((r2.length : Int) = 2))) == true) (.r (.bool (decide (x1.Char = 98)))))]) (fun _ => []) (fun D G1 hr => ⟨inE_op hr 7 rfl rfl (by kernel_rfl) rfl rfl, inE_op hr 12 rfl rfl (by kernel_rfl) rfl rfl, trivial⟩) (fun D G1 hr => trivial) (fun _ _ => rfl) (fun G1 e h' n => OpQ.spec (v := .r (.bool (((decide (r3 = 0)) && (decide ((r2.length : Int) = 2))) && (decide (x1.Char = 98))))) (sp_and rfl (.inl rfl) (.inr ⟨_, (by exact id), rfl⟩)) _),
      Ob.quiet (n1 := fun n => n) rfl rfl (by intro d h; cases h; rfl) rfl (fun _ => [(21, .r (.bool (((decide (r3 = 0)) && (decide ((r2.length : Int) = 2))) && (decide (x1.Char = 98)))))]) (fun _ => []) (fun D G1 hr => ⟨inE_op hr 13 rfl rfl (by kernel_rfl) rfl rfl, trivial⟩) (fun D G1 hr => trivial) (fun _ _ => rfl) (fun G1 e h' n => OpQ.spec (v := .r (.bool (((decide (r3 = 0)) && (decide ((r2.length : Int) = 2))) && (decide (x1.Char = 98))))) (sp_move rfl (.inl rfl)) _),
      Ob.quietG (n1 := fun n => n) (c := ((((decide (r3 = 0)) && (decide ((r2.length : Int) = 2))) && (decide (x1.Char = 98))) == true)) (v0 := fun _ => .r (.sl (r2.map GElem.row))) rfl (by intro d h; cases h; rfl) rfl (fun _ => [(1, .r (.sl (r2.map GElem.row))), (22, .r (.bool (((decide (r3 = 0)) && (decide ((r2.length : Int) = 2))) && (decide (x1.Char = 98)))))]) (fun _ => []) (fun D G1 hr => ⟨inE_base rfl rfl, inE_op hr 14 rfl rfl (by kernel_rfl) rfl rfl, trivial⟩) (fun D G1 hr => trivial) (fun _ _ => rfl) (fun _ _ => (.one rfl rfl rfl)) (fun G1 e h' n => OpQ.spec (v := .r (.sl (r2.map GElem.row))) (sp_move rfl (.inl rfl)) _),
      Ob.quietG (n1 := fun n => n) (c := ((((decide (r3 = 0)) && (decide ((r2.length : Int) = 2))) && (decide (x1.Char = 98))) == true)) (v0 := fun _ => .rop (GElem.row x2) 0) rfl (by intro d h; cases h; rfl) rfl (fun _ => [(22, .r (.bool (((decide (r3 = 0)) && (decide ((r2.length : Int) = 2))) && (decide (x1.Char = 98))))), (23, .whn ((((decide (r3 = 0)) && (decide ((r2.length : Int) = 2))) && (decide (x1.Char = 98))) == true) (.r (.sl (r2.map GElem.row))))]) (fun _ => []) (fun D G1 hr => ⟨inE_op hr 14 rfl rfl (by kernel_rfl) rfl rfl, inE_op hr 15 rfl rfl (by kernel_rfl) rfl rfl, trivial⟩) (fun D G1 hr => trivial) (fun _ _ => rfl) (fun _ _ => (.one rfl rfl rfl)) (fun G1 e h' n => OpQ.spec (v := .rop (GElem.row x2) 0) (ms_idx rfl tg_22.slice (.inr ⟨_, (by exact id), rfl⟩) (.inl rfl) (fun _ => rfl) (gdt ex2)) _),
      Ob.quietG (n1 := fun n => n) (c := ((((decide (r3 = 0)) && (decide ((r2.length : Int) = 2))) && (decide (x1.Char = 98))) == true)) (v0 := fun _ => .rop (GElem.row x2) 2) rfl (by intro d h; cases h; rfl) rfl (fun _ => [(22, .r (.bool (((decide (r3 = 0)) && (decide ((r2.length : Int) = 2))) && (decide (x1.Char = 98))))), (24, .whn ((((decide (r3 = 0)) && (decide ((r2.length : Int) = 2))) && (decide (x1.Char = 98))) == true) (.rop (GElem.row x2) 0))]) (fun _ => []) (fun D G1 hr => ⟨inE_op hr 14 rfl rfl (by kernel_rfl) rfl rfl, inE_op hr 16 rfl rfl (by kernel_rfl) rfl rfl, trivial⟩) (fun D G1 hr => trivial) (fun _ _ => rfl) (fun _ _ => (.one rfl rfl rfl)) (fun G1 e h' n => OpQ.spec (v := .rop (GElem.row x2) 2) (sp_fieldAddr_ro rfl tf_32_2 (.inr ⟨_, (by exact id), rfl⟩)) _),
      Ob.quietG (n1 := fun n => n) (c := ((((decide (r3 = 0)) && (decide ((r2.length : Int) = 2))) && (decide (x1.Char = 98))) == true)) (v0 := fun _ => .r (.sl (x2.Attrs.map GAttr.row))) rfl (by intro d h; cases h; rfl) rfl (fun _ => [(22, .r (.bool (((decide (r3 = 0)) && (decide ((r2.length : Int) = 2))) && (decide (x1.Char = 98))))), (25, .whn ((((decide (r3 = 0)) && (decide ((r2.length : Int) = 2))) && (decide (x1.Char = 98))) == true) (.rop (GElem.row x2) 2))]) (fun _ => []) (fun D G1 hr => ⟨inE_op hr 14 rfl rfl (by kernel_rfl) rfl rfl, inE_op hr 17 rfl rfl (by kernel_rfl) rfl rfl, trivial⟩) (fun D G1 hr => trivial) (fun _ _ => rfl) (fun _ _ => (.one rfl rfl rfl)) (fun G1 e h' n => OpQ.spec (v := .r (.sl (x2.Attrs.map GAttr.row))) (ms_load (d := .sl (x2.Attrs.map GAttr.row)) rfl ts_30 (.inr ⟨_, (by exact id), rfl⟩) rfl) _),
      Ob.quietG (n1 := fun n => n) (c := ((((decide (r3 = 0)) && (decide ((r2.length : Int) = 2))) && (decide (x1.Char = 98))) == true)) (v0 := fun _ => .r (.sl (r1.map GAttr.row))) rfl (by intro d h; cases h; rfl) rfl (fun _ => [(22, .r (.bool (((decide (r3 = 0)) && (decide ((r2.length : Int) = 2))) && (decide (x1.Char = 98)))))]) (fun _ => []) (fun D G1 hr => ⟨inE_op hr 14 rfl rfl (by kernel_rfl) rfl rfl, trivial⟩) (fun D G1 hr => trivial) (fun _ _ => rfl) (fun _ _ => (.one rfl rfl rfl)) (fun G1 e h' n => sp_callS (r := .r (.sl (r1.map GAttr.row))) (caps := []) (bs := [.r (.str [98, 111, 108, 100])]) rfl (.inl rfl) rfl ⟨.inl ⟨(.inl rfl), rfl⟩, trivial⟩ (fun hg => w_law_on (er1))),
      trivial⟩) fun G1 n1 => ?_
  refine AOps.weak (s' := ⟨[(0, .r (.bool false)), (1, .r (.sl (r2.map GElem.row))), (2, .r (.int .i64 r3)), (3, .tup [.r (.sl (r2.map GElem.row)), .r (.int .i64 r3)]), (4, .r (.sl (r1.map GAttr.row))), (5, .tup [.r (.sl (r2.map GElem.row)), .r (.int .i64 r3)]), (6, .r (.sl (r2.map GElem.row))), (7, .r (.int .i64 r3)), (8, .r (.int .i64 r3)), (9, .r (.bool (decide (r3 = 0)))), (10, .r (.bool (decide (r3 = 0)))), (11, .whn ((decide (r3 = 0)) == true) (.r (.sl (r2.map GElem.row)))), (12, .whn ((decide (r3 = 0)) == true) (.r (.int .i64 (r2.length : Int)))), (13, .whn ((decide (r3 = 0)) == true) (.r (.bool (decide ((r2.length : Int) = 2))))), (14, .r (.bool ((decide (r3 = 0)) && (decide ((r2.length : Int) = 2))))), (15, .r (.bool ((decide (r3 = 0)) && (decide ((r2.length : Int) = 2))))), (16, .whn (((decide (r3 = 0)) && (decide ((r2.length : Int) = 2))) == true) (.r (.sl (r2.map GElem.row)))), (17, .whn (((decide (r3 = 0)) && (decide ((r2.length : Int) = 2))) == true) (.rop (GElem.row x1) 0)), (18, .whn (((decide (r3 = 0)) && (decide ((r2.length : Int) = 2))) == true) (.rop (GElem.row x1) 0)), (19, .whn (((decide (r3 = 0)) && (decide ((r2.length : Int) = 2))) == true) (.r (.int .i64 x1.Char))), (20, .whn (((decide (r3 = 0)) && (decide ((r2.length : Int) = 2))) == true) (.r (.bool (decide (x1.Char = 98))))), (21, .r (.bool (((decide (r3 = 0)) && (decide ((r2.length : Int) = 2))) && (decide (x1.Char = 98))))), (22, .r (.bool (((decide (r3 = 0)) && (decide ((r2.length : Int) = 2))) && (decide (x1.Char = 98))))), (23, .whn ((((decide (r3 = 0)) && (decide ((r2.length : Int) = 2))) && (decide (x1.Char = 98))) == true) (.r (.sl (r2.map GElem.row)))), (24, .whn ((((decide (r3 = 0)) && (decide ((r2.length : Int) = 2))) && (decide (x1.Char = 98))) == true) (.rop (GElem.row x2) 0)), (25, .whn ((((decide (r3 = 0)) && (decide ((r2.length : Int) = 2))) && (decide (x1.Char = 98))) == true) (.rop (GElem.row x2) 2)), (26, .whn ((((decide (r3 = 0)) && (decide ((r2.length : Int) = 2))) && (decide (x1.Char = 98))) == true) (.r (.sl (x2.Attrs.map GAttr.row)))), (27, .whn ((((decide (r3 = 0)) && (decide ((r2.length : Int) = 2))) && (decide (x1.Char = 98))) == true) (.r (.sl (r1.map GAttr.row))))], [], n1, 34⟩) (by exact Weak.cv ⟨.inl (.inl rfl), .inl (.inl rfl), .inl (.inl rfl), .inl (.inl rfl), .inl (.inl rfl), .inl (.inl rfl), .inl (.inl rfl), .inl (.inl rfl), .inl (.inl rfl), .inl (.inl rfl), .inl (.inl rfl), .inl (.inl rfl), .inl (.inl rfl), .inl (.inl rfl), .inl (.inl rfl), .inl (.inl rfl), .inl (.inl rfl), .inl (.inl rfl), .inl (.inl rfl), .inl (.inl rfl), .inl (.inl rfl), .inl (.inl rfl), .inl (.inl rfl), .inl (.inl rfl), .inl (.inl rfl), .inl (.inl rfl), .inl (.inl rfl), .inl (.inl rfl), trivial⟩ trivial (Nat.le_refl _)) ?_
  refine ob1k h4 fun r5 er5 h5 => ?_
  refine AOps.stepW (.one rfl rfl rfl) rfl rfl (sp_call (r := .r (.bool r5)) (caps := []) (bs := [.r (.sl (x2.Attrs.map GAttr.row)), .r (.sl (r1.map GAttr.row))]) rfl (.inl rfl) rfl ⟨⟨_, (.inr ⟨_, (by exact id), rfl⟩), .d rfl⟩, ⟨_, (.inr ⟨_, (by exact id), rfl⟩), .d rfl⟩, trivial⟩ (fun hg => w_ref_SameAttrs (gdt er5 hg)) rfl) ?_
  refine AOps.step rfl rfl rfl (OpQ.spec (sp_and rfl (.inl rfl) (.inr ⟨_, (by exact id), rfl⟩)) _) ?_
  refine AOps.step rfl rfl rfl (OpQ.spec (sp_move rfl (.inl rfl)) _) ?_
  refine ob1k h5 fun r6 er6 h6 => ?_
  refine AOps.stepW (.one rfl rfl rfl) rfl rfl (sp_call (r := .r (.int .i64 r6)) (caps := []) (bs := [.r (.sl []), .r (.bool true)]) rfl (.inl rfl) rfl ⟨⟨_, (.inl rfl), .one .nil⟩, ⟨_, (.inl rfl), .d rfl⟩, trivial⟩ (fun hg => w_flow_Check (gdt er6 hg)) rfl) ?_
  refine AOps.stepW (.one rfl rfl rfl) rfl rfl (OpQ.spec (sp_eql rfl (.inr ⟨_, (by exact id), rfl⟩) (.inl rfl)) _) ?_
  refine AOps.step rfl rfl rfl (OpQ.spec (sp_and rfl (.inl rfl) (.inr ⟨_, (by exact id), rfl⟩)) _) ?_
  refine AOps.step rfl rfl rfl (OpQ.spec (sp_assign rfl (.inl rfl)) _) ?_
  refine AOps.nil ?_
  refine hK3 _ ?_
  refine AW.ret ?_
  exact retf1 (P := Tryd.prog) (fun (r : Bool) => .r (.bool r)) h6 (.inl rfl) (.t (.d rfl))
set_option maxHeartbeats 4000000 in
set_option maxRecDepth 20000 in
theorem w_flow_CheckPart {f1 : List GElem} {r : Int} (h : flow_CheckPart f1 = some r) : ARO Tryd.prog 9 [.r (.sl (f1.map GElem.row))] (.r (.int .i64 r)) := by
  unfold flow_CheckPart at h
  refine ARO.mkF Tryd.func9 rfl rfl Tryd.ntmps9 rfl (Nat.le_of_ble_eq_true rfl) fun n0 => ?_
  refine AW.seq_w fun K1 hK1 wK1 => ?_
  refine AW.region ?_
  refine AOps.step rfl rfl rfl (OpQ.spec (sp_assign rfl (.inl rfl)) _) ?_
  refine AOps.nil ?_
  refine hK1 _ ?_
  refine AW.seq_w fun K2 hK2 wK2 => ?_
  refine AW.seq_w fun K3 hK3 wK3 => ?_
  refine AW.region ?_
  refine AOps.step rfl rfl rfl (OpQ.spec (sp_move rfl (.inl rfl)) _) ?_
  refine AOps.step rfl rfl rfl (OpQ.spec (ms_len rfl tg_22.slice (.inl rfl)) _) ?_
  refine AOps.step rfl rfl rfl (OpQ.spec (sp_move rfl (.inl rfl)) _) ?_
  refine AOps.nil ?_
  refine hK3 _ ?_
  refine AW.block ?_
  refine jc1k h fun o1 hit1 hk1 he1 => ?_
  have J1 : ∀ (u2 : Unit) (i5 : Nat → Nat), o1 = .nrm u2 → K2 ⟨[], [], (i5 0), 18⟩ := by
    intro u2 i5 e
    have h1 := hk1 _ e
    refine hK2 _ ?_
    refine AW.seq_w fun K4 hK4 wK4 => ?_
    refine AW.region ?_
    refine AOps.step rfl rfl rfl (OpQ.spec (sp_assign rfl (.inl rfl)) _) ?_
    refine AOps.nil ?_
    refine hK4 _ ?_
    refine AW.ret ?_
    exact retf1 (P := Tryd.prog) (fun (r : Int) => .r (.int .i64 r)) h1 (.inl rfl) (.t (.d rfl))
  refine AW.iter1 (fun (x2 : Int) i3 => ⟨[(6, .r (.sl (f1.map GElem.row))), (7, .r (.int .i64 (f1.length : Int))), (8, .r (.int .i64 x2))], [], (i3 0), 18⟩) (vec [n0]) hit1 ((by exact Weak.cv ⟨.inl (.inl rfl), .inl (.inl rfl), .inl (.inl rfl), trivial⟩ trivial (Nat.le_refl _))) ?_
  intro x2 i3 v1 hv1 hx1
  have h2 : flow_CheckPart_L1 f1 x2 = some v1 := hv1; unfold flow_CheckPart_L1 at h2
  refine AW.seq_w fun K5 hK5 wK5 => ?_
  refine AW.region ?_
  refine AOps.step rfl rfl rfl (OpQ.spec (sp_lss rfl (.inl rfl) (.inl rfl)) _) ?_
  refine AOps.nil ?_
  refine hK5 _ ?_
  refine AW.seq_w fun K6 hK6 wK6 => ?_
  refine AW.cond rfl (fun hc1 => ?_) (fun hc1 => ?_)
  · have h3 := ite_t hc1 h2
    refine AW.skip ?_
    refine hK6 _ ?_
    refine AW.seq_w fun K7 hK7 wK7 => ?_
    refine AW.block ?_
    refine AW.seq_w fun K8 hK8 wK8 => ?_
    refine AW.region ?_
    refine ob1k h3 fun x4 ex4 h4 => ?_
    refine AOps.step rfl rfl rfl (OpQ.spec (ms_idx rfl tg_22.slice (.inl rfl) (.inl rfl) (fun _ => rfl) (fun _ => ex4)) _) ?_
    refine AOps.step rfl rfl rfl (OpQ.spec (ms_loadA (cs := [.r (.int .i64 x4.Char), .r (.int .i64 x4.Ref), .r (.sl (x4.Attrs.map GAttr.row))]) rfl ta_32 (.inl rfl) rfl rfl) _) ?_
    refine AOps.step rfl rfl rfl (ms_alloc (cs := [.r (.int .i64 0), .r (.int .i64 0), .cst (.slice none 0 0)]) 4 rfl t0_32 rfl rfl) ?_
    refine AOps.step0 rfl rfl (ms_store_box (ds := [.r (.int .i64 x4.Char), .r (.int .i64 x4.Ref), .r (.sl (x4.Attrs.map GAttr.row))]) rfl tz_32 (.inl rfl) rfl (.inl rfl) rfl rfl rfl rfl) ?_
    refine AOps.nil ?_
    refine hK8 _ ?_
    refine AW.seq_w fun K9 hK9 wK9 => ?_
    refine AW.region ?_
    refine AOps.step rfl rfl rfl (OpQ.spec (ms_loadA_box rfl ta_32 (.inl rfl) rfl rfl) _) ?_
    refine ob1k h4 fun e1 ee1 h5 => ?_
    refine AOps.step rfl rfl rfl (sp_call (r := .r (.int .i64 e1)) (caps := []) (bs := [.agg [.r (.int .i64 x4.Char), .r (.int .i64 x4.Ref), .r (.sl (x4.Attrs.map GAttr.row))]]) rfl (.inl rfl) rfl ⟨⟨_, (.inl rfl), .g (cs := [.int .i64 x4.Char, .int .i64 x4.Ref, .sl (x4.Attrs.map GAttr.row)]) rfl rfl⟩, trivial⟩ (fun _ => w_flow_elem (ee1)) rfl) ?_
    refine AOps.step rfl rfl rfl (OpQ.spec (sp_assign rfl (.inl rfl)) _) ?_
    refine AOps.nil ?_
    refine hK9 _ ?_
    refine AW.seq_w fun K10 hK10 wK10 => ?_
    refine AW.region ?_
    refine AOps.step rfl rfl rfl (OpQ.spec (sp_move rfl (.inl rfl)) _) ?_
    refine AOps.step rfl rfl rfl (OpQ.spec (sp_neq rfl (.inl rfl) (.inl rfl)) _) ?_
    refine AOps.nil ?_
    refine hK10 _ ?_
    refine AW.cond rfl (fun hc2 => ?_) (fun hc2 => ?_)
    · have h6 := ite_t hc2 h5
      refine AW.seq_w fun K11 hK11 wK11 => ?_
      refine AW.weak (s' := ⟨[(5, .r (.int .i64 e1))], [], ((i3 0) + 1), 18⟩) (by exact Weak.cv ⟨.inl (.inl rfl), trivial⟩ trivial (Nat.le_refl _)) ?_
      refine AW.region ?_
      refine AOps.step rfl rfl rfl (OpQ.spec (sp_move rfl (.inl rfl)) _) ?_
      refine AOps.step rfl rfl rfl (OpQ.spec (sp_assign rfl (.inl rfl)) _) ?_
      refine AOps.nil ?_
      refine hK11 _ ?_
      refine AW.ret ?_
      exact retf1 (P := Tryd.prog) (fun (r : Int) => .r (.int .i64 r)) (he1 _ (hx1 _ (Option.some.inj h6).symm)) (.inl rfl) (.t (.d rfl))
    · have h6 := ite_f hc2 h5
      refine AW.skip ?_
      refine hK7 _ ?_
      refine AW.weak (s' := ⟨[(6, .r (.sl (f1.map GElem.row))), (7, .r (.int .i64 (f1.length : Int))), (8, .r (.int .i64 x2))], [], ((i3 0) + 1), 18⟩) (by exact Weak.cv ⟨.inl (.inl rfl), .inl (.inl rfl), .inl (.inl rfl), trivial⟩ trivial (Nat.le_refl _)) ?_
      refine AW.region ?_
      refine ob1k h6 fun x5 ex5 h7 => ?_
      refine AOps.step rfl rfl rfl (OpQ.spec (ms_add rfl (.inl rfl) (.inl rfl) (fun _ => ex5)) _) ?_
      refine AOps.step rfl rfl rfl (OpQ.spec (sp_move rfl (.inl rfl)) _) ?_
      refine AOps.nil ?_
      exact NextQ1.mk h7 (vec [((i3 0) + 1)]) ((by exact Weak.cv ⟨.inl (.inl rfl), .inl (.inl rfl), .inl (.inl rfl), trivial⟩ trivial (Nat.le_refl _)))
  · have h3 := ite_f hc1 h2
    refine AW.exit ?_
    exact wK2 _ _ ((by exact Weak.cv trivial trivial (Nat.le_refl _))) (J1 _ (vec [(i3 0)]) (hx1 _ (Option.some.inj h3).symm))
set_option maxHeartbeats 4000000 in
set_option maxRecDepth 20000 in
theorem w_unicode_utf8_appendRuneNonASCII {p1 : List Int} {r1 : Int} {r : (List Int)} {ga1000 : Nat} (h : unicode_utf8_appendRuneNonASCII p1 r1 = some r) : AHC Tryd.prog 41 1 [.own 1000 ga1000, .r (.int .i32 r1)] [(1000, some (.arr ga1000 5 1 (p1.map (rInt .u8))))] (fun rr h' => ∃ (i : Nat → Nat), rr = .own 1000 (i 0) ∧ h' = [(1000, some (.arr (i 0) 5 1 (r.map (rInt .u8))))]) := by
  unfold unicode_utf8_appendRuneNonASCII at h
  refine AHC.mkw Tryd.func41 rfl rfl Tryd.ntmps41 (Nat.le_of_ble_eq_true rfl) fun n0 => ?_
  refine AW.seq_w fun K1 hK1 wK1 => ?_
  refine AW.region ?_
  refine AOps.step rfl rfl rfl (OpQ.spec (sp_assign rfl (.inl rfl)) _) ?_
  refine AOps.nil ?_
  refine hK1 _ ?_
  refine AW.seq_w fun K2 hK2 wK2 => ?_
  refine AW.region ?_
  refine AOps.step rfl rfl rfl (OpQ.spec (sp_move rfl (.inl rfl)) _) ?_
  refine AOps.step rfl rfl rfl (OpQ.spec (sp_convert_int rfl Tryd.underlying21 Tryd.underlying65 (.inl rfl)) _) ?_
  refine AOps.step rfl rfl rfl (OpQ.spec (sp_assign rfl (.inl rfl)) _) ?_
  refine AOps.nil ?_
  refine hK2 _ ?_
  refine AW.block ?_
  refine AW.seq_w fun K3 hK3 wK3 => ?_
  refine AW.region ?_
  refine AOps.step rfl rfl rfl (OpQ.spec (sp_move rfl (.inl rfl)) _) ?_
  refine AOps.step rfl rfl rfl (OpQ.spec (sp_leq rfl (.inl rfl) (.inl rfl)) _) ?_
  refine AOps.step rfl rfl rfl (OpQ.spec (sp_assign rfl (.inl rfl)) _) ?_
  refine AOps.nil ?_
  refine hK3 _ ?_
  refine AW.cond rfl (fun hc1 => ?_) (fun hc1 => ?_)
  · have h1 := ite_t hc1 h
    refine AW.seq_w fun K4 hK4 wK4 => ?_
    refine AW.region ?_
    refine AOps.step rfl rfl rfl (OpQ.spec (sp_move rfl (.inl rfl)) _) ?_
    refine AOps.step rfl rfl rfl (OpQ.spec (sp_move rfl (.inl rfl)) _) ?_
    refine AOps.step rfl rfl rfl (OpQ.spec (sp_shr (b := 6) rfl (.inl rfl) (.inl rfl)) _) ?_
    refine AOps.step rfl rfl rfl (OpQ.spec (sp_convert_int rfl Tryd.underlying21 Tryd.underlying5 (.inl rfl)) _) ?_
    refine AOps.step rfl rfl rfl (OpQ.spec (sp_bOr rfl (.inl rfl) (.inl rfl)) _) ?_
    refine AOps.step rfl rfl rfl (OpQ.spec (sp_move rfl (.inl rfl)) _) ?_
    refine AOps.step rfl rfl rfl (OpQ.spec (sp_convert_int rfl Tryd.underlying21 Tryd.underlying5 (.inl rfl)) _) ?_
    refine AOps.step rfl rfl rfl (OpQ.spec (sp_bAnd rfl (.inl rfl) (.inl rfl)) _) ?_
    refine AOps.step rfl rfl rfl (OpQ.spec (sp_bOr rfl (.inl rfl) (.inl rfl)) _) ?_
    refine AOps.step rfl rfl rfl (ms_lit 23 rfl tg_53 (f := (rInt .u8)) (l := ([(bOr .u8 192 (IntKind.u8.wrap (shrC .i32 r1 6))), (bOr .u8 128 (bAnd .u8 (IntKind.u8.wrap r1) 63))] : List Int)) ⟨rfl, ⟨_, (.inl rfl), rfl⟩, rfl, ⟨_, (.inl rfl), rfl⟩, trivial⟩ rfl (fun _ => rfl) rfl) ?_
    refine ob1k h1 fun l1 el1 h2 => ?_
    refine AOps.step rfl rfl rfl (ms_app rfl tg_53 (.inl rfl) rfl (.inr (.inl ⟨_, _, (.inl rfl), rfl⟩)) el1) ?_
    refine AOps.step rfl rfl rfl (OpQ.spec (sp_assign rfl (.inl rfl)) _) ?_
    refine AOps.nil ?_
    refine hK4 _ ?_
    refine AW.ret ?_
    exact RetW.mk (s' := ⟨[(4, .own 1000 (n0 + 1))], [(1000, some (.arr (n0 + 1) 5 1 (l1.map (rInt .u8))))], (n0 + 2), 78⟩) ((by exact Weak.cv ⟨.inl (.inl rfl), trivial⟩ ⟨.inl rfl, trivial⟩ (Nat.le_refl _))) (reth_cast (fun (r : (List Int)) rr h' => ∃ (i : Nat → Nat), rr = .own 1000 (i 0) ∧ h' = [(1000, some (.arr (i 0) 5 1 (r.map (rInt .u8))))]) h2 (by exact ⟨.own 1000 (n0 + 1), [(1000, some (.arr (n0 + 1) 5 1 (l1.map (rInt .u8))))], rfl, ⟨.inr rfl, trivial⟩, rfl, rfl, vec [(n0 + 1)], rfl, rfl⟩))
  · have h1 := ite_f hc1 h
    refine AW.seq_w fun K5 hK5 wK5 => ?_
    refine AW.seq_w fun K6 hK6 wK6 => ?_
    refine AW.region ?_
    refine AOps.step rfl rfl rfl (OpQ.spec (sp_move rfl (.inl rfl)) _) ?_
    refine AOps.step rfl rfl rfl (OpQ.spec (sp_lss rfl (.inl rfl) (.inl rfl)) _) ?_
    refine AOps.step rfl rfl rfl (OpQ.spec (sp_assign rfl (.inl rfl)) _) ?_
    refine AOps.nil ?_
    refine hK6 _ ?_
    refine jb1k h1 fun p2 hp1 hk1 => ?_
    have J1 : ∀ (x1 : Bool) (i1 : Nat → Nat), p2 = x1 → K5 ⟨[(0, .own 1000 ga1000), (1, .r (.int .i32 r1)), (5, .r (.int .u32 (IntKind.u32.wrap r1))), (25, .r (.bool x1))], [(1000, some (.arr ga1000 5 1 (p1.map (rInt .u8))))], (i1 0), 78⟩ := by
      intro x1 i1 e
      have h3 := hk1 _ e
      refine hK5 _ ?_
      refine AW.cond rfl (fun hc2 => ?_) (fun hc2 => ?_)
      · have h4 := ite_t hc2 h3
        refine AW.seq_w fun K7 hK7 wK7 => ?_
        refine AW.region ?_
        refine AOps.step rfl rfl rfl (OpQ.spec (sp_move rfl (.inl rfl)) _) ?_
        refine AOps.step rfl rfl rfl (OpQ.spec (sp_move rfl (.inl rfl)) _) ?_
        refine AOps.step rfl rfl rfl (OpQ.spec (sp_shr (b := 12) rfl (.inl rfl) (.inl rfl)) _) ?_
        refine AOps.step rfl rfl rfl (OpQ.spec (sp_convert_int rfl Tryd.underlying21 Tryd.underlying5 (.inl rfl)) _) ?_
        refine AOps.step rfl rfl rfl (OpQ.spec (sp_bOr rfl (.inl rfl) (.inl rfl)) _) ?_
        refine AOps.step rfl rfl rfl (OpQ.spec (sp_move rfl (.inl rfl)) _) ?_
        refine AOps.step rfl rfl rfl (OpQ.spec (sp_shr (b := 6) rfl (.inl rfl) (.inl rfl)) _) ?_
        refine AOps.step rfl rfl rfl (OpQ.spec (sp_convert_int rfl Tryd.underlying21 Tryd.underlying5 (.inl rfl)) _) ?_
        refine AOps.step rfl rfl rfl (OpQ.spec (sp_bAnd rfl (.inl rfl) (.inl rfl)) _) ?_
        refine AOps.step rfl rfl rfl (OpQ.spec (sp_bOr rfl (.inl rfl) (.inl rfl)) _) ?_
        refine AOps.step rfl rfl rfl (OpQ.spec (sp_move rfl (.inl rfl)) _) ?_
        refine AOps.step rfl rfl rfl (OpQ.spec (sp_convert_int rfl Tryd.underlying21 Tryd.underlying5 (.inl rfl)) _) ?_
        refine AOps.step rfl rfl rfl (OpQ.spec (sp_bAnd rfl (.inl rfl) (.inl rfl)) _) ?_
        refine AOps.step rfl rfl rfl (OpQ.spec (sp_bOr rfl (.inl rfl) (.inl rfl)) _) ?_
        refine AOps.step rfl rfl rfl (ms_lit 48 rfl tg_53 (f := (rInt .u8)) (l := ([(bOr .u8 224 (IntKind.u8.wrap (shrC .i32 r1 12))), (bOr .u8 128 (bAnd .u8 (IntKind.u8.wrap (shrC .i32 r1 6)) 63)), (bOr .u8 128 (bAnd .u8 (IntKind.u8.wrap r1) 63))] : List Int)) ⟨rfl, ⟨_, (.inl rfl), rfl⟩, rfl, ⟨_, (.inl rfl), rfl⟩, rfl, ⟨_, (.inl rfl), rfl⟩, trivial⟩ rfl (fun _ => rfl) rfl) ?_
        refine ob1k h4 fun l2 el2 h5 => ?_
        refine AOps.step rfl rfl rfl (ms_app rfl tg_53 (.inl rfl) rfl (.inr (.inl ⟨_, _, (.inl rfl), rfl⟩)) el2) ?_
        refine AOps.step rfl rfl rfl (OpQ.spec (sp_assign rfl (.inl rfl)) _) ?_
        refine AOps.nil ?_
        refine hK7 _ ?_
        refine AW.ret ?_
        exact RetW.mk (s' := ⟨[(4, .own 1000 ((i1 0) + 1))], [(1000, some (.arr ((i1 0) + 1) 5 1 (l2.map (rInt .u8))))], ((i1 0) + 2), 78⟩) ((by exact Weak.cv ⟨.inl (.inl rfl), trivial⟩ ⟨.inl rfl, trivial⟩ (Nat.le_refl _))) (reth_cast (fun (r : (List Int)) rr h' => ∃ (i : Nat → Nat), rr = .own 1000 (i 0) ∧ h' = [(1000, some (.arr (i 0) 5 1 (r.map (rInt .u8))))]) h5 (by exact ⟨.own 1000 ((i1 0) + 1), [(1000, some (.arr ((i1 0) + 1) 5 1 (l2.map (rInt .u8))))], rfl, ⟨.inr rfl, trivial⟩, rfl, rfl, vec [((i1 0) + 1)], rfl, rfl⟩))
      · have h4 := ite_f hc2 h3
        refine AW.seq_w fun K8 hK8 wK8 => ?_
        refine AW.region ?_
        refine AOps.step rfl rfl rfl (OpQ.spec (sp_move rfl (.inl rfl)) _) ?_
        refine AOps.step rfl rfl rfl (OpQ.spec (sp_gtr rfl (.inl rfl) (.inl rfl)) _) ?_
        refine AOps.step rfl rfl rfl (OpQ.spec (sp_move rfl (.inl rfl)) _) ?_
        refine AOps.stepW (.one rfl rfl rfl) rfl rfl (OpQ.spec (sp_move rfl (.inl rfl)) _) ?_
        refine AOps.stepW (.one rfl rfl rfl) rfl rfl (OpQ.spec (sp_leq rfl (.inr ⟨_, (by exact id), rfl⟩) (.inl rfl)) _) ?_
        refine AOps.step rfl rfl rfl (OpQ.spec (sp_and rfl (.inl rfl) (.inr ⟨_, (by exact id), rfl⟩)) _) ?_
        refine AOps.step rfl rfl rfl (OpQ.spec (sp_assign rfl (.inl rfl)) _) ?_
        refine AOps.nil ?_
        refine hK8 _ ?_
        refine AW.cond rfl (fun hc3 => ?_) (fun hc3 => ?_)
        · have h6 := ite_t hc3 h4
          refine AW.seq_w fun K9 hK9 wK9 => ?_
          refine AW.weak (s' := ⟨[(0, .own 1000 ga1000), (1, .r (.int .i32 r1))], [(1000, some (.arr ga1000 5 1 (p1.map (rInt .u8))))], (i1 0), 78⟩) (by exact Weak.cv ⟨.inl (.inl rfl), .inl (.inl rfl), trivial⟩ ⟨.inl rfl, trivial⟩ (Nat.le_refl _)) ?_
          refine AW.region ?_
          refine AOps.step rfl rfl rfl (OpQ.spec (sp_move rfl (.inl rfl)) _) ?_
          refine AOps.step rfl rfl rfl (OpQ.spec (sp_move rfl (.inl rfl)) _) ?_
          refine AOps.step rfl rfl rfl (OpQ.spec (sp_shr (b := 18) rfl (.inl rfl) (.inl rfl)) _) ?_
          refine AOps.step rfl rfl rfl (OpQ.spec (sp_convert_int rfl Tryd.underlying21 Tryd.underlying5 (.inl rfl)) _) ?_
          refine AOps.step rfl rfl rfl (OpQ.spec (sp_bOr rfl (.inl rfl) (.inl rfl)) _) ?_
          refine AOps.step rfl rfl rfl (OpQ.spec (sp_move rfl (.inl rfl)) _) ?_
          refine AOps.step rfl rfl rfl (OpQ.spec (sp_shr (b := 12) rfl (.inl rfl) (.inl rfl)) _) ?_
          refine AOps.step rfl rfl rfl (OpQ.spec (sp_convert_int rfl Tryd.underlying21 Tryd.underlying5 (.inl rfl)) _) ?_
          refine AOps.step rfl rfl rfl (OpQ.spec (sp_bAnd rfl (.inl rfl) (.inl rfl)) _) ?_
          refine AOps.step rfl rfl rfl (OpQ.spec (sp_bOr rfl (.inl rfl) (.inl rfl)) _) ?_
          refine AOps.step rfl rfl rfl (OpQ.spec (sp_move rfl (.inl rfl)) _) ?_
          refine AOps.step rfl rfl rfl (OpQ.spec (sp_shr (b := 6) rfl (.inl rfl) (.inl rfl)) _) ?_
          refine AOps.step rfl rfl rfl (OpQ.spec (sp_convert_int rfl Tryd.underlying21 Tryd.underlying5 (.inl rfl)) _) ?_
          refine AOps.step rfl rfl rfl (OpQ.spec (sp_bAnd rfl (.inl rfl) (.inl rfl)) _) ?_
          refine AOps.step rfl rfl rfl (OpQ.spec (sp_bOr rfl (.inl rfl) (.inl rfl)) _) ?_
          refine AOps.step rfl rfl rfl (OpQ.spec (sp_move rfl (.inl rfl)) _) ?_
          refine AOps.step rfl rfl rfl (OpQ.spec (sp_convert_int rfl Tryd.underlying21 Tryd.underlying5 (.inl rfl)) _) ?_
          refine AOps.step rfl rfl rfl (OpQ.spec (sp_bAnd rfl (.inl rfl) (.inl rfl)) _) ?_
          refine AOps.step rfl rfl rfl (OpQ.spec (sp_bOr rfl (.inl rfl) (.inl rfl)) _) ?_
          refine AOps.step rfl rfl rfl (ms_lit 76 rfl tg_53 (f := (rInt .u8)) (l := ([(bOr .u8 240 (IntKind.u8.wrap (shrC .i32 r1 18))), (bOr .u8 128 (bAnd .u8 (IntKind.u8.wrap (shrC .i32 r1 12)) 63)), (bOr .u8 128 (bAnd .u8 (IntKind.u8.wrap (shrC .i32 r1 6)) 63)), (bOr .u8 128 (bAnd .u8 (IntKind.u8.wrap r1) 63))] : List Int)) ⟨rfl, ⟨_, (.inl rfl), rfl⟩, rfl, ⟨_, (.inl rfl), rfl⟩, rfl, ⟨_, (.inl rfl), rfl⟩, rfl, ⟨_, (.inl rfl), rfl⟩, trivial⟩ rfl (fun _ => rfl) rfl) ?_
          refine ob1k h6 fun l3 el3 h7 => ?_
          refine AOps.step rfl rfl rfl (ms_app rfl tg_53 (.inl rfl) rfl (.inr (.inl ⟨_, _, (.inl rfl), rfl⟩)) el3) ?_
          refine AOps.step rfl rfl rfl (OpQ.spec (sp_assign rfl (.inl rfl)) _) ?_
          refine AOps.nil ?_
          refine hK9 _ ?_
          refine AW.ret ?_
          exact RetW.mk (s' := ⟨[(4, .own 1000 ((i1 0) + 1))], [(1000, some (.arr ((i1 0) + 1) 5 1 (l3.map (rInt .u8))))], ((i1 0) + 2), 78⟩) ((by exact Weak.cv ⟨.inl (.inl rfl), trivial⟩ ⟨.inl rfl, trivial⟩ (Nat.le_refl _))) (reth_cast (fun (r : (List Int)) rr h' => ∃ (i : Nat → Nat), rr = .own 1000 (i 0) ∧ h' = [(1000, some (.arr (i 0) 5 1 (r.map (rInt .u8))))]) h7 (by exact ⟨.own 1000 ((i1 0) + 1), [(1000, some (.arr ((i1 0) + 1) 5 1 (l3.map (rInt .u8))))], rfl, ⟨.inr rfl, trivial⟩, rfl, rfl, vec [((i1 0) + 1)], rfl, rfl⟩))
        · have h6 := ite_f hc3 h4
          refine AW.seq_w fun K10 hK10 wK10 => ?_
          refine AW.weak (s' := ⟨[(0, .own 1000 ga1000)], [(1000, some (.arr ga1000 5 1 (p1.map (rInt .u8))))], (i1 0), 78⟩) (by exact Weak.cv ⟨.inl (.inl rfl), trivial⟩ ⟨.inl rfl, trivial⟩ (Nat.le_refl _)) ?_
          refine AW.region ?_
          refine AOps.step rfl rfl rfl (OpQ.spec (sp_move rfl (.inl rfl)) _) ?_
          refine AOps.step rfl rfl rfl (ms_lit 9 rfl tg_53 (f := (rInt .u8)) (l := ([239, 191, 189] : List Int)) ⟨rfl, ⟨_, (.inl rfl), rfl⟩, rfl, ⟨_, (.inl rfl), rfl⟩, rfl, ⟨_, (.inl rfl), rfl⟩, trivial⟩ rfl (fun _ => rfl) rfl) ?_
          refine ob1k h6 fun l4 el4 h8 => ?_
          refine AOps.step rfl rfl rfl (ms_app rfl tg_53 (.inl rfl) rfl (.inr (.inl ⟨_, _, (.inl rfl), rfl⟩)) el4) ?_
          refine AOps.step rfl rfl rfl (OpQ.spec (sp_assign rfl (.inl rfl)) _) ?_
          refine AOps.nil ?_
          refine hK10 _ ?_
          refine AW.ret ?_
          exact RetW.mk (s' := ⟨[(4, .own 1000 ((i1 0) + 1))], [(1000, some (.arr ((i1 0) + 1) 5 1 (l4.map (rInt .u8))))], ((i1 0) + 2), 78⟩) ((by exact Weak.cv ⟨.inl (.inl rfl), trivial⟩ ⟨.inl rfl, trivial⟩ (Nat.le_refl _))) (reth_cast (fun (r : (List Int)) rr h' => ∃ (i : Nat → Nat), rr = .own 1000 (i 0) ∧ h' = [(1000, some (.arr (i 0) 5 1 (r.map (rInt .u8))))]) h8 (by exact ⟨.own 1000 ((i1 0) + 1), [(1000, some (.arr ((i1 0) + 1) 5 1 (l4.map (rInt .u8))))], rfl, ⟨.inr rfl, trivial⟩, rfl, rfl, vec [((i1 0) + 1)], rfl, rfl⟩))
    refine AW.cond rfl (fun hc4 => ?_) (fun hc4 => ?_)
    · have h9 := ite_t hc4 hp1
      refine AW.skip ?_
      exact wK5 _ _ ((by exact Weak.cv ⟨.inl (.inl rfl), .inl (.inl rfl), .inl (.inl rfl), .inl (.inl rfl), trivial⟩ ⟨.inl rfl, trivial⟩ (Nat.le_refl _))) (J1 _ (vec [n0]) (Option.some.inj h9).symm)
    · have h9 := ite_f hc4 hp1
      refine AW.weak (s' := ⟨[(0, .own 1000 ga1000), (1, .r (.int .i32 r1)), (5, .r (.int .u32 (IntKind.u32.wrap r1)))], [(1000, some (.arr ga1000 5 1 (p1.map (rInt .u8))))], n0, 78⟩) (by exact Weak.cv ⟨.inl (.inl rfl), .inl (.inl rfl), .inl (.inl rfl), trivial⟩ ⟨.inl rfl, trivial⟩ (Nat.le_refl _)) ?_
      refine AW.region ?_
      refine AOps.step rfl rfl rfl (OpQ.spec (sp_move rfl (.inl rfl)) _) ?_
      refine AOps.step rfl rfl rfl (OpQ.spec (sp_lss rfl (.inl rfl) (.inl rfl)) _) ?_
      refine AOps.step rfl rfl rfl (OpQ.spec (sp_move rfl (.inl rfl)) _) ?_
      refine AOps.stepW (.one rfl rfl rfl) rfl rfl (OpQ.spec (sp_move rfl (.inl rfl)) _) ?_
      refine AOps.stepW (.one rfl rfl rfl) rfl rfl (OpQ.spec (sp_leq rfl (.inr ⟨_, (by exact id), rfl⟩) (.inl rfl)) _) ?_
      refine AOps.step rfl rfl rfl (OpQ.spec (sp_and rfl (.inl rfl) (.inr ⟨_, (by exact id), rfl⟩)) _) ?_
      refine AOps.step rfl rfl rfl (OpQ.spec (sp_assign rfl (.inl rfl)) _) ?_
      refine AOps.nil ?_
      exact wK5 _ _ ((by exact Weak.cv ⟨.inl (.inl rfl), .inl (.inl rfl), .inl (.inl rfl), .inl (.inl rfl), trivial⟩ ⟨.inl rfl, trivial⟩ (Nat.le_refl _))) (J1 _ (vec [n0]) (Option.some.inj h9).symm)
set_option maxHeartbeats 4000000 in
set_option maxRecDepth 20000 in
theorem w_unicode_utf8_AppendRune {p1 : List Int} {r1 : Int} {r : (List Int)} {ga1000 : Nat} (h : unicode_utf8_AppendRune p1 r1 = some r) : AHC Tryd.prog 31 1 [.own 1000 ga1000, .r (.int .i32 r1)] [(1000, some (.arr ga1000 5 1 (p1.map (rInt .u8))))] (fun rr h' => ∃ (i : Nat → Nat), rr = .own 1000 (i 0) ∧ h' = [(1000, some (.arr (i 0) 5 1 (r.map (rInt .u8))))]) := by
  unfold unicode_utf8_AppendRune at h
  refine AHC.mkw Tryd.func31 rfl rfl Tryd.ntmps31 (Nat.le_of_ble_eq_true rfl) fun n0 => ?_
  refine AW.seq_w fun K1 hK1 wK1 => ?_
  refine AW.region ?_
  refine AOps.step rfl rfl rfl (OpQ.spec (sp_assign rfl (.inl rfl)) _) ?_
  refine AOps.nil ?_
  refine hK1 _ ?_
  refine AW.seq_w fun K2 hK2 wK2 => ?_
  refine AW.seq_w fun K3 hK3 wK3 => ?_
  refine AW.region ?_
  refine AOps.step rfl rfl rfl (OpQ.spec (sp_move rfl (.inl rfl)) _) ?_
  refine AOps.step rfl rfl rfl (OpQ.spec (sp_convert_int rfl Tryd.underlying21 Tryd.underlying65 (.inl rfl)) _) ?_
  refine AOps.step rfl rfl rfl (OpQ.spec (sp_leq rfl (.inl rfl) (.inl rfl)) _) ?_
  refine AOps.nil ?_
  refine hK3 _ ?_
  refine AW.cond rfl (fun hc1 => ?_) (fun hc1 => ?_)
  · have h1 := ite_t hc1 h
    refine AW.seq_w fun K4 hK4 wK4 => ?_
    refine AW.region ?_
    refine AOps.step rfl rfl rfl (OpQ.spec (sp_move rfl (.inl rfl)) _) ?_
    refine AOps.step rfl rfl rfl (OpQ.spec (sp_move rfl (.inl rfl)) _) ?_
    refine AOps.step rfl rfl rfl (OpQ.spec (sp_convert_int rfl Tryd.underlying21 Tryd.underlying5 (.inl rfl)) _) ?_
    refine AOps.step rfl rfl rfl (ms_lit 11 rfl tg_53 (f := (rInt .u8)) (l := ([(IntKind.u8.wrap r1)] : List Int)) ⟨rfl, ⟨_, (.inl rfl), rfl⟩, trivial⟩ rfl (fun _ => rfl) rfl) ?_
    refine ob1k h1 fun l1 el1 h2 => ?_
    refine AOps.step rfl rfl rfl (ms_app rfl tg_53 (.inl rfl) rfl (.inr (.inl ⟨_, _, (.inl rfl), rfl⟩)) el1) ?_
    refine AOps.step rfl rfl rfl (OpQ.spec (sp_assign rfl (.inl rfl)) _) ?_
    refine AOps.nil ?_
    refine hK4 _ ?_
    refine AW.ret ?_
    exact RetW.mk (s' := ⟨[(4, .own 1000 (n0 + 1))], [(1000, some (.arr (n0 + 1) 5 1 (l1.map (rInt .u8))))], (n0 + 2), 16⟩) ((by exact Weak.cv ⟨.inl (.inl rfl), trivial⟩ ⟨.inl rfl, trivial⟩ (Nat.le_refl _))) (reth_cast (fun (r : (List Int)) rr h' => ∃ (i : Nat → Nat), rr = .own 1000 (i 0) ∧ h' = [(1000, some (.arr (i 0) 5 1 (r.map (rInt .u8))))]) h2 (by exact ⟨.own 1000 (n0 + 1), [(1000, some (.arr (n0 + 1) 5 1 (l1.map (rInt .u8))))], rfl, ⟨.inr rfl, trivial⟩, rfl, rfl, vec [(n0 + 1)], rfl, rfl⟩))
  · have h1 := ite_f hc1 h
    refine AW.skip ?_
    refine hK2 _ ?_
    refine AW.seq_w fun K5 hK5 wK5 => ?_
    refine AW.region ?_
    refine AOps.step rfl rfl rfl (OpQ.spec (sp_move rfl (.inl rfl)) _) ?_
    refine AOps.step rfl rfl rfl (OpQ.spec (sp_move rfl (.inl rfl)) _) ?_
    refine ob1k h1 fun w1 ew1 h3 => ?_
    refine AOps.stepHI [1000] (hc := [(1000, some (.arr ga1000 5 1 (p1.map (rInt .u8))))]) (bs := [.own 1000 ga1000, .r (.int .i32 r1)]) (caps := []) rfl rfl rfl rfl (.inl rfl) rfl ⟨.inl ⟨(.inl rfl), rfl⟩, .inl ⟨(.inl rfl), rfl⟩, trivial⟩ ⟨rfl, rfl, rfl, trivial⟩ (by decide) (w_unicode_utf8_appendRuneNonASCII ew1) ?_
    intro i1 n1
    refine AOps.weak (s' := ⟨[(1, .r (.int .i32 r1)), (4, .cst (.slice none 0 0)), (5, .r (.int .i32 r1)), (6, .r (.int .u32 (IntKind.u32.wrap r1))), (7, .r (.bool (decide ((IntKind.u32.wrap r1) ≤ 127)))), (14, .r (.int .i32 r1)), (15, .own 1000 (i1 0))], [(1000, some (.arr (i1 0) 5 1 (w1.map (rInt .u8))))], n1, 16⟩) (by exact Weak.cv ⟨.inl (.inl rfl), .inl (.inl rfl), .inl (.inl rfl), .inl (.inl rfl), .inl (.inl rfl), .inl (.inl rfl), .inl (.inl rfl), trivial⟩ ⟨.inl rfl, trivial⟩ (Nat.le_refl _)) ?_
    refine AOps.step rfl rfl rfl (OpQ.spec (sp_assign rfl (.inl rfl)) _) ?_
    refine AOps.nil ?_
    refine hK5 _ ?_
    refine AW.ret ?_
    exact RetW.mk (s' := ⟨[(4, .own 1000 (i1 0))], [(1000, some (.arr (i1 0) 5 1 (w1.map (rInt .u8))))], n1, 16⟩) ((by exact Weak.cv ⟨.inl (.inl rfl), trivial⟩ ⟨.inl rfl, trivial⟩ (Nat.le_refl _))) (reth_cast (fun (r : (List Int)) rr h' => ∃ (i : Nat → Nat), rr = .own 1000 (i 0) ∧ h' = [(1000, some (.arr (i 0) 5 1 (r.map (rInt .u8))))]) h3 (by exact ⟨.own 1000 (i1 0), [(1000, some (.arr (i1 0) 5 1 (w1.map (rInt .u8))))], rfl, ⟨.inr rfl, trivial⟩, rfl, rfl, vec [(i1 0)], rfl, rfl⟩))
set_option maxHeartbeats 4000000 in
set_option maxRecDepth 20000 in
theorem w_flow_Text {f1 : List GElem} {r : (List UInt8) × Int} (h : flow_Text f1 = some r) : ARO Tryd.prog 17 [.r (.sl (f1.map GElem.row))] (.tup [.r (.str r.1), .r (.int .i64 r.2)]) := by
  unfold flow_Text at h
  refine ARO.mkF Tryd.func17 rfl rfl Tryd.ntmps17 rfl (Nat.le_of_ble_eq_true rfl) fun n0 => ?_
  refine AW.seq_w fun K1 hK1 wK1 => ?_
  refine AW.region ?_
  refine AOps.step rfl rfl rfl (OpQ.spec (sp_assign rfl (.inl rfl)) _) ?_
  refine AOps.step rfl rfl rfl (OpQ.spec (sp_assign rfl (.inl rfl)) _) ?_
  refine AOps.nil ?_
  refine hK1 _ ?_
  refine AW.seq_w fun K2 hK2 wK2 => ?_
  refine AW.seq_w fun K3 hK3 wK3 => ?_
  refine AW.region ?_
  refine AOps.step rfl rfl rfl (OpQ.spec (sp_move rfl (.inl rfl)) _) ?_
  refine ob1k h fun e1 ee1 h1 => ?_
  refine AOps.step rfl rfl rfl (sp_call (r := .r (.int .i64 e1)) (caps := []) (bs := [.r (.sl (f1.map GElem.row))]) rfl (.inl rfl) rfl ⟨⟨_, (.inl rfl), .d rfl⟩, trivial⟩ (fun _ => w_flow_CheckPart (ee1)) rfl) ?_
  refine AOps.step rfl rfl rfl (OpQ.spec (sp_assign rfl (.inl rfl)) _) ?_
  refine AOps.nil ?_
  refine hK3 _ ?_
  refine AW.seq_w fun K4 hK4 wK4 => ?_
  refine AW.region ?_
  refine AOps.step rfl rfl rfl (OpQ.spec (sp_move rfl (.inl rfl)) _) ?_
  refine AOps.step rfl rfl rfl (OpQ.spec (sp_neq rfl (.inl rfl) (.inl rfl)) _) ?_
  refine AOps.nil ?_
  refine hK4 _ ?_
  refine AW.cond rfl (fun hc1 => ?_) (fun hc1 => ?_)
  · have h2 := ite_t hc1 h1
    refine AW.seq_w fun K5 hK5 wK5 => ?_
    refine AW.region ?_
    refine AOps.step rfl rfl rfl (OpQ.spec (sp_move rfl (.inl rfl)) _) ?_
    refine AOps.step rfl rfl rfl (OpQ.spec (sp_assign rfl (.inl rfl)) _) ?_
    refine AOps.step rfl rfl rfl (OpQ.spec (sp_assign rfl (.inl rfl)) _) ?_
    refine AOps.nil ?_
    refine hK5 _ ?_
    refine AW.ret ?_
    exact retf2 (P := Tryd.prog) (fun (r : (List UInt8) × Int) => .r (.str r.1)) (fun (r : (List UInt8) × Int) => .r (.int .i64 r.2)) h2 (.inl rfl) (.t (.d rfl)) (.t (.d rfl))
  · have h2 := ite_f hc1 h1
    refine AW.skip ?_
    refine hK2 _ ?_
    refine AW.seq_w fun K6 hK6 wK6 => ?_
    refine AW.region ?_
    refine AOps.step rfl rfl rfl (OpQ.spec (sp_assign rfl (.inl rfl)) _) ?_
    refine AOps.nil ?_
    refine hK6 _ ?_
    refine AW.seq_w fun K7 hK7 wK7 => ?_
    refine AW.seq_w fun K8 hK8 wK8 => ?_
    refine AW.region ?_
    refine AOps.step rfl rfl rfl (OpQ.spec (sp_move rfl (.inl rfl)) _) ?_
    refine AOps.step rfl rfl rfl (OpQ.spec (ms_len rfl tg_22.slice (.inl rfl)) _) ?_
    refine AOps.step rfl rfl rfl (OpQ.spec (sp_move rfl (.inl rfl)) _) ?_
    refine AOps.nil ?_
    refine hK8 _ ?_
    refine AW.block ?_
    refine jb1k h2 fun o1 hit1 hk1 => ?_
    have J1 : ∀ (b4 : List Int) (i5 : Nat → Nat), o1 = b4 → K7 ⟨[(5, .own 5005 (i5 0))], [(5005, some (.arr (i5 0) 5 1 (b4.map (rInt .u8))))], (i5 1), 32⟩ := by
      intro b4 i5 e
      have h3 := hk1 _ e
      refine hK7 _ ?_
      refine AW.seq_w fun K9 hK9 wK9 => ?_
      refine AW.region ?_
      refine AOps.step rfl rfl rfl (OpQ.spec (sp_move rfl (.inl rfl)) _) ?_
      refine AOps.step rfl rfl rfl (ms_str (ys := b4) rfl Tryd.underlying53 Tryd.underlying5 Tryd.underlying9 (.inr (.inl ⟨_, _, (.inl rfl), rfl⟩))) ?_
      refine AOps.step rfl rfl rfl (OpQ.spec (sp_assign rfl (.inl rfl)) _) ?_
      refine AOps.step rfl rfl rfl (OpQ.spec (sp_assign rfl (.inl rfl)) _) ?_
      refine AOps.nil ?_
      refine hK9 _ ?_
      refine AW.ret ?_
      exact retf2 (P := Tryd.prog) (fun (r : (List UInt8) × Int) => .r (.str r.1)) (fun (r : (List UInt8) × Int) => .r (.int .i64 r.2)) h3 (.inl rfl) (.t (.d rfl)) (.t (.d rfl))
    refine AW.iter2 (fun (x2 : Int) (b2 : List Int) i3 => ⟨[(5, .own 5005 (i3 0)), (14, .r (.sl (f1.map GElem.row))), (15, .r (.int .i64 (f1.length : Int))), (16, .r (.int .i64 x2))], [(5005, some (.arr (i3 0) 5 1 (b2.map (rInt .u8))))], (i3 1), 32⟩) (vec [n0, (n0 + 1)]) hit1 (Weak.trans (Weak.trans (Weak.adopt 5 5005 5 1 (by decide) rfl) (by exact Weak.cv (e' := [(0, .r (.sl (f1.map GElem.row))), (2, .r (.str [])), (3, .r (.int .i64 0)), (4, .r (.int .i64 e1)), (5, .own 5005 n0), (9, .r (.sl (f1.map GElem.row))), (10, .r (.int .i64 e1)), (11, .r (.int .i64 e1)), (12, .r (.bool (!decide (e1 = 0)))), (14, .r (.sl (f1.map GElem.row))), (15, .r (.int .i64 (f1.length : Int))), (16, .r (.int .i64 0))]) (h' := [(5005, some (.arr n0 5 1 (([] : List Int).map (rInt .u8))))]) ⟨.inl (.inl rfl), .inl (.inl rfl), .inl (.inl rfl), .inl (.inl rfl), .inl (.inl rfl), .inl (.inl rfl), .inl (.inl rfl), .inl (.inl rfl), .inl (.inl rfl), .inl (.inl rfl), .inl (.inl rfl), .inl (.inl rfl), trivial⟩ ⟨.inl rfl, trivial⟩ (Nat.le_refl _))) (by exact Weak.cv ⟨.inl (.inl rfl), .inl (.inl rfl), .inl (.inl rfl), .inl (.inl rfl), trivial⟩ ⟨.inl rfl, trivial⟩ (Nat.le_refl _))) ?_
    intro x2 b2 i3 v1 hv1 hx1
    have h4 : flow_Text_L1 f1 x2 b2 = some v1 := hv1; unfold flow_Text_L1 at h4
    refine AW.seq_w fun K10 hK10 wK10 => ?_
    refine AW.region ?_
    refine AOps.step rfl rfl rfl (OpQ.spec (sp_lss rfl (.inl rfl) (.inl rfl)) _) ?_
    refine AOps.nil ?_
    refine hK10 _ ?_
    refine AW.seq_w fun K11 hK11 wK11 => ?_
    refine AW.cond rfl (fun hc2 => ?_) (fun hc2 => ?_)
    · have h5 := ite_t hc2 h4
      refine AW.skip ?_
      refine hK11 _ ?_
      refine AW.seq_w fun K12 hK12 wK12 => ?_
      refine AW.block ?_
      refine AW.seq_w fun K13 hK13 wK13 => ?_
      refine AW.region ?_
      refine ob1k h5 fun x4 ex4 h6 => ?_
      refine AOps.step rfl rfl rfl (OpQ.spec (ms_idx rfl tg_22.slice (.inl rfl) (.inl rfl) (fun _ => rfl) (fun _ => ex4)) _) ?_
      refine AOps.step rfl rfl rfl (OpQ.spec (ms_loadA (cs := [.r (.int .i64 x4.Char), .r (.int .i64 x4.Ref), .r (.sl (x4.Attrs.map GAttr.row))]) rfl ta_32 (.inl rfl) rfl rfl) _) ?_
      refine AOps.step rfl rfl rfl (ms_alloc (cs := [.r (.int .i64 0), .r (.int .i64 0), .cst (.slice none 0 0)]) 7 rfl t0_32 rfl rfl) ?_
      refine AOps.step0 rfl rfl (ms_store_box (ds := [.r (.int .i64 x4.Char), .r (.int .i64 x4.Ref), .r (.sl (x4.Attrs.map GAttr.row))]) rfl tz_32 (.inl rfl) rfl (.inl rfl) rfl rfl rfl rfl) ?_
      refine AOps.nil ?_
      refine hK13 _ ?_
      refine AW.seq_w fun K14 hK14 wK14 => ?_
      refine AW.region ?_
      refine AOps.step rfl rfl rfl (OpQ.spec (sp_fieldAddr_own (ob := .box _ _ _) rfl tf_32_0 (.inl rfl) (fun _ => rfl) rfl) _) ?_
      refine AOps.step rfl rfl rfl (OpQ.spec (ms_load_box (a := .r (.int .i64 x4.Char)) rfl ts_3 (.inl rfl) rfl rfl) _) ?_
      refine AOps.step rfl rfl rfl (OpQ.spec (sp_assign rfl (.inl rfl)) _) ?_
      refine AOps.nil ?_
      refine hK14 _ ?_
      refine AW.seq_w fun K15 hK15 wK15 => ?_
      refine AW.seq_w fun K16 hK16 wK16 => ?_
      refine AW.region ?_
      refine AOps.step rfl rfl rfl (OpQ.spec (sp_fieldAddr_own (ob := .box _ _ _) rfl tf_32_1 (.inl rfl) (fun _ => rfl) rfl) _) ?_
      refine AOps.step rfl rfl rfl (OpQ.spec (ms_load_box (a := .r (.int .i64 x4.Ref)) rfl ts_3 (.inl rfl) rfl rfl) _) ?_
      refine AOps.step rfl rfl rfl (OpQ.spec (sp_neq rfl (.inl rfl) (.inl rfl)) _) ?_
      refine AOps.nil ?_
      refine hK16 _ ?_
      refine jb1k h6 fun p1 hp1 hk2 => ?_
      have J2 : ∀ (c1 : Int) (i6 : Nat → Nat), p1 = c1 → K15 ⟨[(5, .own 5005 (i3 0)), (8, .r (.int .i64 c1)), (14, .r (.sl (f1.map GElem.row))), (15, .r (.int .i64 (f1.length : Int))), (16, .r (.int .i64 x2))], [(5005, some (.arr (i3 0) 5 1 (b2.map (rInt .u8))))], (i6 0), 32⟩ := by
        intro c1 i6 e
        have h7 := hk2 _ e
        refine hK15 _ ?_
        refine AW.region ?_
        refine AOps.step rfl rfl rfl (OpQ.spec (sp_move rfl (.inl rfl)) _) ?_
        refine AOps.step rfl rfl rfl (OpQ.spec (sp_move rfl (.inl rfl)) _) ?_
        refine AOps.step rfl rfl rfl (OpQ.spec (sp_convert_int rfl Tryd.underlying3 Tryd.underlying21 (.inl rfl)) _) ?_
        refine ob1k h7 fun w1 ew1 h8 => ?_
        refine AOps.stepHI [5005] (hc := [(1000, some (.arr (i3 0) 5 1 (b2.map (rInt .u8))))]) (bs := [.own 1000 (i3 0), .r (.int .i32 (IntKind.i32.wrap c1))]) (caps := []) rfl rfl rfl rfl (.inl rfl) rfl ⟨.inl ⟨(.inl rfl), rfl⟩, .inl ⟨(.inl rfl), rfl⟩, trivial⟩ ⟨rfl, rfl, rfl, trivial⟩ (by decide) (w_unicode_utf8_AppendRune ew1) ?_
        intro i7 n1
        refine AOps.weak (s' := ⟨[(8, .r (.int .i64 c1)), (14, .r (.sl (f1.map GElem.row))), (15, .r (.int .i64 (f1.length : Int))), (16, .r (.int .i64 x2)), (26, .r (.int .i64 c1)), (27, .r (.int .i32 (IntKind.i32.wrap c1))), (28, .own 5005 (i7 0))], [(5005, some (.arr (i7 0) 5 1 (w1.map (rInt .u8))))], n1, 32⟩) (by exact Weak.cv ⟨.inl (.inl rfl), .inl (.inl rfl), .inl (.inl rfl), .inl (.inl rfl), .inl (.inl rfl), .inl (.inl rfl), .inl (.inl rfl), trivial⟩ ⟨.inl rfl, trivial⟩ (Nat.le_refl _)) ?_
        refine AOps.step rfl rfl rfl (OpQ.spec (sp_assign rfl (.inl rfl)) _) ?_
        refine AOps.nil ?_
        refine hK12 _ ?_
        refine AW.region ?_
        refine ob1k h8 fun x5 ex5 h9 => ?_
        refine AOps.step rfl rfl rfl (OpQ.spec (ms_add rfl (.inl rfl) (.inl rfl) (fun _ => ex5)) _) ?_
        refine AOps.step rfl rfl rfl (OpQ.spec (sp_move rfl (.inl rfl)) _) ?_
        refine AOps.nil ?_
        exact NextQ2.mk h9 (vec [(i7 0), n1]) ((by exact Weak.cv ⟨.inl (.inl rfl), .inl (.inl rfl), .inl (.inl rfl), .inl (.inl rfl), trivial⟩ ⟨.inl rfl, trivial⟩ (Nat.le_refl _)))
      refine AW.cond rfl (fun hc3 => ?_) (fun hc3 => ?_)
      · have h10 := ite_t hc3 hp1
        refine AW.weak (s' := ⟨[(5, .own 5005 (i3 0)), (14, .r (.sl (f1.map GElem.row))), (15, .r (.int .i64 (f1.length : Int))), (16, .r (.int .i64 x2))], [(5005, some (.arr (i3 0) 5 1 (b2.map (rInt .u8))))], ((i3 1) + 1), 32⟩) (by exact Weak.cv ⟨.inl (.inl rfl), .inl (.inl rfl), .inl (.inl rfl), .inl (.inl rfl), trivial⟩ ⟨.inl rfl, trivial⟩ (Nat.le_refl _)) ?_
        refine AW.region ?_
        refine AOps.step rfl rfl rfl (OpQ.spec (sp_assign rfl (.inl rfl)) _) ?_
        refine AOps.nil ?_
        exact wK15 _ _ ((by exact Weak.cv ⟨.inl (.inl rfl), .inl (.inl rfl), .inl (.inl rfl), .inl (.inl rfl), .inl (.inl rfl), trivial⟩ ⟨.inl rfl, trivial⟩ (Nat.le_refl _))) (J2 _ (vec [((i3 1) + 1)]) (Option.some.inj h10).symm)
      · have h10 := ite_f hc3 hp1
        refine AW.skip ?_
        exact wK15 _ _ ((by exact Weak.cv ⟨.inl (.inl rfl), .inl (.inl rfl), .inl (.inl rfl), .inl (.inl rfl), .inl (.inl rfl), trivial⟩ ⟨.inl rfl, trivial⟩ (Nat.le_refl _))) (J2 _ (vec [((i3 1) + 1)]) (Option.some.inj h10).symm)
    · have h5 := ite_f hc2 h4
      refine AW.exit ?_
      exact wK7 _ _ ((by exact Weak.cv ⟨.inl (.inl rfl), trivial⟩ ⟨.inl rfl, trivial⟩ (Nat.le_refl _))) (J1 _ (vec [(i3 0), (i3 1)]) (hx1 _ (Option.some.inj h5).symm))
set_option maxHeartbeats 4000000 in
set_option maxRecDepth 20000 in
theorem w_flow_Copy {f1 : List GElem} {r : (List GElem)} (h : flow_Copy f1 = some r) : ARO Tryd.prog 32 [.r (.sl (f1.map GElem.row))] (.r (.sl (r.map GElem.row))) := by
  unfold flow_Copy at h
  refine ARO.mkF Tryd.func32 rfl rfl Tryd.ntmps32 rfl (Nat.le_of_ble_eq_true rfl) fun n0 => ?_
  refine AW.seq_w fun K1 hK1 wK1 => ?_
  refine AW.region ?_
  refine AOps.step rfl rfl rfl (OpQ.spec (sp_assign rfl (.inl rfl)) _) ?_
  refine AOps.nil ?_
  refine hK1 _ ?_
  refine AW.seq_w fun K2 hK2 wK2 => ?_
  refine AW.region ?_
  refine AOps.step rfl rfl rfl (OpQ.spec (sp_move rfl (.inl rfl)) _) ?_
  refine AOps.step rfl rfl rfl (OpQ.spec (ms_len rfl tg_22.slice (.inl rfl)) _) ?_
  refine ob1k h fun out1 eout1 h1 => ?_
  refine AOps.step rfl rfl rfl (ms_mk 8 rfl tg_22 (f := GElem.row) (z0 := (GElem.mk 0 0 [])) tr_32 (.inl rfl) (.inl rfl) eout1) ?_
  refine AOps.step rfl rfl rfl (OpQ.spec (sp_assign rfl (.inl rfl)) _) ?_
  refine AOps.nil ?_
  refine hK2 _ ?_
  refine AW.seq_w fun K3 hK3 wK3 => ?_
  refine AW.seq_w fun K4 hK4 wK4 => ?_
  refine AW.region ?_
  refine AOps.step rfl rfl rfl (OpQ.spec (sp_move rfl (.inl rfl)) _) ?_
  refine AOps.step rfl rfl rfl (OpQ.spec (ms_len rfl tg_22.slice (.inl rfl)) _) ?_
  refine AOps.step rfl rfl rfl (OpQ.spec (sp_move rfl (.inl rfl)) _) ?_
  refine AOps.nil ?_
  refine hK4 _ ?_
  refine AW.block ?_
  refine jb1k h1 fun o1 hit1 hk1 => ?_
  have J1 : ∀ (out5 : List GElem) (i5 : Nat → Nat), o1 = out5 → K3 ⟨[(3, .own 8 (i5 0))], [(8, some (.arr (i5 0) 32 3 (out5.map GElem.row)))], (i5 1), 29⟩ := by
    intro out5 i5 e
    have h2 := hk1 _ e
    refine hK3 _ ?_
    refine AW.seq_w fun K5 hK5 wK5 => ?_
    refine AW.region ?_
    refine AOps.step rfl rfl rfl (OpQ.spec (sp_move rfl (.inl rfl)) _) ?_
    refine AOps.step rfl rfl rfl (OpQ.spec (sp_assign rfl (.inl rfl)) _) ?_
    refine AOps.nil ?_
    refine hK5 _ ?_
    refine AW.ret ?_
    exact retf1 (P := Tryd.prog) (fun (r : (List GElem)) => .r (.sl (r.map GElem.row))) h2 (.inl rfl) (.t (.one (.own rfl)))
  refine AW.iter2 (fun (x2 : Int) (out3 : List GElem) i3 => ⟨[(3, .own 8 (i3 0)), (9, .r (.sl (f1.map GElem.row))), (10, .r (.int .i64 (f1.length : Int))), (11, .r (.int .i64 x2))], [(8, some (.arr (i3 0) 32 3 (out3.map GElem.row)))], (i3 1), 29⟩) (vec [n0, (n0 + 1)]) hit1 ((by exact Weak.cv ⟨.inl (.inl rfl), .inl (.inl rfl), .inl (.inl rfl), .inl (.inl rfl), trivial⟩ ⟨.inl rfl, trivial⟩ (Nat.le_refl _))) ?_
  intro x2 out3 i3 v1 hv1 hx1
  have h3 : flow_Copy_L1 f1 x2 out3 = some v1 := hv1; unfold flow_Copy_L1 at h3
  refine AW.seq_w fun K6 hK6 wK6 => ?_
  refine AW.region ?_
  refine AOps.step rfl rfl rfl (OpQ.spec (sp_lss rfl (.inl rfl) (.inl rfl)) _) ?_
  refine AOps.nil ?_
  refine hK6 _ ?_
  refine AW.seq_w fun K7 hK7 wK7 => ?_
  refine AW.cond rfl (fun hc1 => ?_) (fun hc1 => ?_)
  · have h4 := ite_t hc1 h3
    refine AW.skip ?_
    refine hK7 _ ?_
    refine AW.seq_w fun K8 hK8 wK8 => ?_
    refine AW.block ?_
    refine AW.seq_w fun K9 hK9 wK9 => ?_
    refine AW.region ?_
    refine AOps.step rfl rfl rfl (OpQ.spec (sp_move rfl (.inl rfl)) _) ?_
    refine ob1k h4 fun x4 ex4 h5 => ?_
    refine AOps.step rfl rfl rfl (OpQ.spec (ms_idx rfl tg_22.slice (.inl rfl) (.inl rfl) (fun _ => rfl) (fun _ => ex4)) _) ?_
    refine AOps.step rfl rfl rfl (OpQ.spec (ms_loadA (cs := [.r (.int .i64 x4.Char), .r (.int .i64 x4.Ref), .r (.sl (x4.Attrs.map GAttr.row))]) rfl ta_32 (.inl rfl) rfl rfl) _) ?_
    refine AOps.step rfl rfl rfl (ms_alloc (cs := [.r (.int .i64 0), .r (.int .i64 0), .cst (.slice none 0 0)]) 5 rfl t0_32 rfl rfl) ?_
    refine AOps.step rfl rfl rfl (OpQ.spec (sp_assign rfl (.inl rfl)) _) ?_
    refine AOps.step0 rfl rfl (ms_store_box (ds := [.r (.int .i64 x4.Char), .r (.int .i64 x4.Ref), .r (.sl (x4.Attrs.map GAttr.row))]) rfl tz_32 (.inl rfl) rfl (.inl rfl) rfl rfl rfl rfl) ?_
    refine AOps.nil ?_
    refine hK9 _ ?_
    refine ob1k h5 fun l1 el1 h6 => ?_
    refine AW.regionP 10 [⟨some 16, (fun _ => .own 8 (i3 0)), none, []⟩, ⟨some 17, (fun _ => .r (.int .i64 x2)), none, []⟩, ⟨some 18, (fun _ => .ptr 5 (i3 1) 0 0), none, []⟩, ⟨some 19, (fun _ => .r (.int .i64 x4.Char)), none, []⟩, ⟨some 20, (fun _ => .ptr 5 (i3 1) 0 1), none, []⟩, ⟨some 21, (fun _ => .r (.int .i64 x4.Ref)), none, []⟩, ⟨some 22, (fun _ => .ptr 5 (i3 1) 0 2), none, []⟩, ⟨some 23, (fun _ => .r (.sl (x4.Attrs.map GAttr.row))), none, []⟩, ⟨some 24, (fun G1 => .own 24 (G1 8)), some (24, (fun G1 => some (.arr (G1 8) 63 2 (l1.map GAttr.row)))), [8]⟩, ⟨some 25, (fun G1 => .agg [.r (.int .i64 x4.Char), .r (.int .i64 x4.Ref), .own 24 (G1 8)]), none, [8]⟩] hmix (by kernel_rfl) (by exact ⟨fun _ _ h => ⟨rfl, fun _ _ e => by cases e⟩, fun _ _ h => ⟨rfl, fun _ _ e => by cases e⟩, fun _ _ h => ⟨rfl, fun _ _ e => by cases e⟩, fun _ _ h => ⟨rfl, fun _ _ e => by cases e⟩, fun _ _ h => ⟨rfl, fun _ _ e => by cases e⟩, fun _ _ h => ⟨rfl, fun _ _ e => by cases e⟩, fun _ _ h => ⟨rfl, fun _ _ e => by cases e⟩, fun _ _ h => ⟨rfl, fun _ _ e => by cases e⟩, fun _ _ h => ⟨by simp only [h 8 rfl], fun _ _ e => by cases e; simp only [h 8 rfl]⟩, fun _ _ h => ⟨by simp only [h 8 rfl], fun _ _ e => by cases e⟩, trivial⟩) rfl (by exact ⟨Ob.quiet (n1 := fun n => n) rfl rfl (by intro d h; cases h; rfl) rfl (fun _ => [(3, .own 8 (i3 0))]) (fun _ => [(8, some (.arr (i3 0) 32 3 (out3.map GElem.row)))]) (fun D G1 hr => ⟨inE_base rfl rfl, trivial⟩) (fun D G1 hr => ⟨inH_base rfl rfl, trivial⟩) (fun _ _ => rfl) (fun G1 e h' n => OpQ.spec (v := .own 8 (i3 0)) (sp_move rfl (.inl rfl)) _),
        Ob.quiet (n1 := fun n => n) rfl rfl (by intro d h; cases h; rfl) rfl (fun _ => [(4, .r (.int .i64 x2))]) (fun _ => []) (fun D G1 hr => ⟨inE_base rfl rfl, trivial⟩) (fun D G1 hr => trivial) (fun _ _ => rfl) (fun G1 e h' n => OpQ.spec (v := .r (.int .i64 x2)) (sp_move rfl (.inl rfl)) _),
        Ob.quiet (n1 := fun n => n) rfl rfl (by intro d h; cases h; rfl) rfl (fun _ => [(5, .ptr 5 (i3 1) 0 0)]) (fun _ => [(5, some (.box (i3 1) 32 [.r (.int .i64 x4.Char), .r (.int .i64 x4.Ref), .r (.sl (x4.Attrs.map GAttr.row))]))]) (fun D G1 hr => ⟨inE_base rfl rfl, trivial⟩) (fun D G1 hr => ⟨inH_base rfl rfl, trivial⟩) (fun _ _ => rfl) (fun G1 e h' n => OpQ.spec (v := .ptr 5 (i3 1) 0 0) (sp_fieldAddr_own (ob := .box _ _ _) rfl tf_32_0 (.inl rfl) (fun _ => rfl) rfl) _),
        Ob.quiet (n1 := fun n => n) rfl rfl (by intro d h; cases h; rfl) rfl (fun _ => [(18, .ptr 5 (i3 1) 0 0)]) (fun _ => [(5, some (.box (i3 1) 32 [.r (.int .i64 x4.Char), .r (.int .i64 x4.Ref), .r (.sl (x4.Attrs.map GAttr.row))]))]) (fun D G1 hr => ⟨inE_op hr 2 rfl rfl (by kernel_rfl) rfl rfl, trivial⟩) (fun D G1 hr => ⟨inH_base rfl rfl, trivial⟩) (fun _ _ => rfl) (fun G1 e h' n => OpQ.spec (v := .r (.int .i64 x4.Char)) (ms_load_box (a := .r (.int .i64 x4.Char)) rfl ts_3 (.inl rfl) rfl rfl) _),
        Ob.quiet (n1 := fun n => n) rfl rfl (by intro d h; cases h; rfl) rfl (fun _ => [(5, .ptr 5 (i3 1) 0 0)]) (fun _ => [(5, some (.box (i3 1) 32 [.r (.int .i64 x4.Char), .r (.int .i64 x4.Ref), .r (.sl (x4.Attrs.map GAttr.row))]))]) (fun D G1 hr => ⟨inE_base rfl rfl, trivial⟩) (fun D G1 hr => ⟨inH_base rfl rfl, trivial⟩) (fun _ _ => rfl) (fun G1 e h' n => OpQ.spec (v := .ptr 5 (i3 1) 0 1) (sp_fieldAddr_own (ob := .box _ _ _) rfl tf_32_1 (.inl rfl) (fun _ => rfl) rfl) _),
        Ob.quiet (n1 := fun n => n) rfl rfl (by intro d h; cases h; rfl) rfl (fun _ => [(20, .ptr 5 (i3 1) 0 1)]) (fun _ => [(5, some (.box (i3 1) 32 [.r (.int .i64 x4.Char), .r (.int .i64 x4.Ref), .r (.sl (x4.Attrs.map GAttr.row))]))]) (fun D G1 hr => ⟨inE_op hr 4 rfl rfl (by kernel_rfl) rfl rfl, trivial⟩) (fun D G1 hr => ⟨inH_base rfl rfl, trivial⟩) (fun _ _ => rfl) (fun G1 e h' n => OpQ.spec (v := .r (.int .i64 x4.Ref)) (ms_load_box (a := .r (.int .i64 x4.Ref)) rfl ts_3 (.inl rfl) rfl rfl) _),
        Ob.quiet (n1 := fun n => n) rfl rfl (by intro d h; cases h; rfl) rfl (fun _ => [(5, .ptr 5 (i3 1) 0 0)]) (fun _ => [(5, some (.box (i3 1) 32 [.r (.int .i64 x4.Char), .r (.int .i64 x4.Ref), .r (.sl (x4.Attrs.map GAttr.row))]))]) (fun D G1 hr => ⟨inE_base rfl rfl, trivial⟩) (fun D G1 hr => ⟨inH_base rfl rfl, trivial⟩) (fun _ _ => rfl) (fun G1 e h' n => OpQ.spec (v := .ptr 5 (i3 1) 0 2) (sp_fieldAddr_own (ob := .box _ _ _) rfl tf_32_2 (.inl rfl) (fun _ => rfl) rfl) _),
        Ob.quiet (n1 := fun n => n) rfl rfl (by intro d h; cases h; rfl) rfl (fun _ => [(22, .ptr 5 (i3 1) 0 2)]) (fun _ => [(5, some (.box (i3 1) 32 [.r (.int .i64 x4.Char), .r (.int .i64 x4.Ref), .r (.sl (x4.Attrs.map GAttr.row))]))]) (fun D G1 hr => ⟨inE_op hr 6 rfl rfl (by kernel_rfl) rfl rfl, trivial⟩) (fun D G1 hr => ⟨inH_base rfl rfl, trivial⟩) (fun _ _ => rfl) (fun G1 e h' n => OpQ.spec (v := .r (.sl (x4.Attrs.map GAttr.row))) (ms_load_box (a := .r (.sl (x4.Attrs.map GAttr.row))) rfl ts_30 (.inl rfl) rfl rfl) _),
        Ob.make (n1 := fun n => n + 1) rfl rfl (by intro d h; cases h; rfl) rfl (fun _ => [(23, .r (.sl (x4.Attrs.map GAttr.row)))]) (fun _ => []) (fun D G1 hr => ⟨inE_op hr 7 rfl rfl (by kernel_rfl) rfl rfl, trivial⟩) (fun D G1 hr => trivial) (fun G1 e h' n => ms_app_nil 24 (f := GAttr.row) rfl tg_30 (.inl rfl) (.inl ⟨(.inl rfl), fun _ => rfl⟩) el1),
        Ob.quiet (n1 := fun n => n) rfl rfl (by intro d h; cases h; rfl) rfl (fun G1 => [(19, .r (.int .i64 x4.Char)), (21, .r (.int .i64 x4.Ref)), (24, .own 24 (G1 8))]) (fun G1 => [(24, some (.arr (G1 8) 63 2 (l1.map GAttr.row)))]) (fun D G1 hr => ⟨inE_op hr 3 rfl rfl (by kernel_rfl) rfl rfl, inE_op hr 5 rfl rfl (by kernel_rfl) rfl rfl, inE_op hr 8 rfl rfl (by kernel_rfl) rfl rfl, trivial⟩) (fun D G1 hr => ⟨inH_op hr 8 rfl rfl (by kernel_rfl) (by kernel_rfl) rfl, trivial⟩) (fun _ _ => rfl) (fun G1 e h' n => OpQ.spec (v := .agg [.r (.int .i64 x4.Char), .r (.int .i64 x4.Ref), .own 24 (G1 8)]) (sp_build rfl tb_32 (q := [(0, _), (1, _), (2, _)]) (by exact ⟨rfl, rfl, rfl, (.inl rfl), rfl, rfl, rfl, (.inl rfl), rfl, rfl, rfl, (.inl rfl), trivial⟩) (cs := [.r (.int .i64 x4.Char), .r (.int .i64 x4.Ref), .own 24 (G1 8)]) (by rfl)) _),
        trivial⟩) fun G1 n1 => ?_
    refine AOps.weak (s' := ⟨[(3, .own 8 (i3 0)), (4, .r (.int .i64 x2)), (5, .ptr 5 (i3 1) 0 0), (9, .r (.sl (f1.map GElem.row))), (10, .r (.int .i64 (f1.length : Int))), (11, .r (.int .i64 x2)), (12, .r (.bool (decide (x2 < (f1.length : Int))))), (13, .r (.int .i64 x2)), (14, .rop (GElem.row x4) 0), (15, .agg [.r (.int .i64 x4.Char), .r (.int .i64 x4.Ref), .r (.sl (x4.Attrs.map GAttr.row))]), (16, .own 8 (i3 0)), (17, .r (.int .i64 x2)), (18, .ptr 5 (i3 1) 0 0), (19, .r (.int .i64 x4.Char)), (20, .ptr 5 (i3 1) 0 1), (21, .r (.int .i64 x4.Ref)), (22, .ptr 5 (i3 1) 0 2), (23, .r (.sl (x4.Attrs.map GAttr.row))), (24, .own 24 (G1 8)), (25, .agg [.r (.int .i64 x4.Char), .r (.int .i64 x4.Ref), .own 24 (G1 8)])], [(5, some (.box (i3 1) 32 [.r (.int .i64 x4.Char), .r (.int .i64 x4.Ref), .r (.sl (x4.Attrs.map GAttr.row))])), (8, some (.arr (i3 0) 32 3 (out3.map GElem.row))), (24, some (.arr (G1 8) 63 2 (l1.map GAttr.row)))], n1, 29⟩) (by exact Weak.cv ⟨.inl (.inl rfl), .inl (.inl rfl), .inl (.inl rfl), .inl (.inl rfl), .inl (.inl rfl), .inl (.inl rfl), .inl (.inl rfl), .inl (.inl rfl), .inl (.inl rfl), .inl (.inl rfl), .inl (.inl rfl), .inl (.inl rfl), .inl (.inl rfl), .inl (.inl rfl), .inl (.inl rfl), .inl (.inl rfl), .inl (.inl rfl), .inl (.inl rfl), .inl (.inl rfl), .inl (.inl rfl), trivial⟩ ⟨.inl rfl, .inl rfl, .inl rfl, trivial⟩ (Nat.le_refl _)) ?_
    refine ob1k h6 fun x5 ex5 h7 => ?_
    refine AOps.step rfl rfl rfl (OpQ.spec (ms_idx_own rfl tg_22.slice (.inl rfl) rfl (.inl rfl) (fun _ => ex5)) _) ?_
    refine AOps.weak (by exact Weak.frz (e' := [(3, .own 8 (i3 0)), (4, .r (.int .i64 x2)), (5, .ptr 5 (i3 1) 0 0), (9, .r (.sl (f1.map GElem.row))), (10, .r (.int .i64 (f1.length : Int))), (11, .r (.int .i64 x2)), (12, .r (.bool (decide (x2 < (f1.length : Int))))), (13, .r (.int .i64 x2)), (14, .rop (GElem.row x4) 0), (15, .agg [.r (.int .i64 x4.Char), .r (.int .i64 x4.Ref), .r (.sl (x4.Attrs.map GAttr.row))]), (16, .own 8 (i3 0)), (17, .r (.int .i64 x2)), (18, .ptr 5 (i3 1) 0 0), (19, .r (.int .i64 x4.Char)), (20, .ptr 5 (i3 1) 0 1), (21, .r (.int .i64 x4.Ref)), (22, .ptr 5 (i3 1) 0 2), (23, .r (.sl (x4.Attrs.map GAttr.row))), (24, .r (.sl (l1.map GAttr.row))), (25, .agg [.r (.int .i64 x4.Char), .r (.int .i64 x4.Ref), .r (.sl (l1.map GAttr.row))]), (26, .ptr 8 (i3 0) x2.toNat 0)]) (h' := [(5, some (.box (i3 1) 32 [.r (.int .i64 x4.Char), .r (.int .i64 x4.Ref), .r (.sl (x4.Attrs.map GAttr.row))])), (8, some (.arr (i3 0) 32 3 (out3.map GElem.row)))]) 24 rfl ⟨.inl (.inl rfl), .inl (.inl rfl), .inl (.inl rfl), .inl (.inl rfl), .inl (.inl rfl), .inl (.inl rfl), .inl (.inl rfl), .inl (.inl rfl), .inl (.inl rfl), .inl (.inl rfl), .inl (.inl rfl), .inl (.inl rfl), .inl (.inl rfl), .inl (.inl rfl), .inl (.inl rfl), .inl (.inl rfl), .inl (.inl rfl), .inl (.inl rfl), .inl (.inr (.inr ⟨rfl, rfl⟩)), .inr ⟨_, _, rfl, rfl, ⟨.inl rfl, .inl rfl, .inr (.inr ⟨rfl, rfl⟩), trivial⟩⟩, .inl (.inl rfl), trivial⟩ ⟨rfl, .inl rfl, rfl, .inl rfl, trivial⟩) ?_
    refine AOps.step0 rfl rfl (ms_storeA (v := (GElem.mk x4.Char x4.Ref l1)) rfl tz_32 (.inl rfl) rfl ex5 (.inl rfl) rfl rfl rfl rfl) ?_
    refine AOps.nil ?_
    refine hK8 _ ?_
    refine AW.weak (s' := ⟨[(3, .own 8 (i3 0)), (9, .r (.sl (f1.map GElem.row))), (10, .r (.int .i64 (f1.length : Int))), (11, .r (.int .i64 x2))], [(8, some (.arr (i3 0) 32 3 ((out3.set x2.toNat (GElem.mk x4.Char x4.Ref l1)).map GElem.row)))], n1, 29⟩) (by exact Weak.cv ⟨.inl (.inl rfl), .inl (.inl rfl), .inl (.inl rfl), .inl (.inl rfl), trivial⟩ ⟨.inl rfl, trivial⟩ (Nat.le_refl _)) ?_
    refine AW.region ?_
    refine ob1k h7 fun x6 ex6 h8 => ?_
    refine AOps.step rfl rfl rfl (OpQ.spec (ms_add rfl (.inl rfl) (.inl rfl) (fun _ => ex6)) _) ?_
    refine AOps.step rfl rfl rfl (OpQ.spec (sp_move rfl (.inl rfl)) _) ?_
    refine AOps.nil ?_
    exact NextQ2.mk h8 (vec [(i3 0), n1]) ((by exact Weak.cv ⟨.inl (.inl rfl), .inl (.inl rfl), .inl (.inl rfl), .inl (.inl rfl), trivial⟩ ⟨.inl rfl, trivial⟩ (Nat.le_refl _)))
  · have h4 := ite_f hc1 h3
    refine AW.exit ?_
    exact wK3 _ _ ((by exact Weak.cv ⟨.inl (.inl rfl), trivial⟩ ⟨.inl rfl, trivial⟩ (Nat.le_refl _))) (J1 _ (vec [(i3 0), (i3 1)]) (hx1 _ (Option.some.inj h4).symm))
set_option maxHeartbeats 4000000 in
set_option maxRecDepth 20000 in
theorem w_flow_Slice {f1 : List GElem} {from1 : Int} {to1 : Int} {r : (List GElem) × Int} (h : flow_Slice f1 from1 to1 = some r) : ARO Tryd.prog 18 [.r (.sl (f1.map GElem.row)), .r (.int .i64 from1), .r (.int .i64 to1)] (.tup [.r (.sl (r.1.map GElem.row)), .r (.int .i64 r.2)]) := by
  unfold flow_Slice at h
  refine ARO.mkF Tryd.func18 rfl rfl Tryd.ntmps18 rfl (Nat.le_of_ble_eq_true rfl) fun n0 => ?_
  refine AW.seq_w fun K1 hK1 wK1 => ?_
  refine AW.region ?_
  refine AOps.step rfl rfl rfl (OpQ.spec (sp_assign rfl (.inl rfl)) _) ?_
  refine AOps.step rfl rfl rfl (OpQ.spec (sp_assign rfl (.inl rfl)) _) ?_
  refine AOps.nil ?_
  refine hK1 _ ?_
  refine AW.seq_w fun K2 hK2 wK2 => ?_
  refine AW.seq_w fun K3 hK3 wK3 => ?_
  refine AW.region ?_
  refine AOps.step rfl rfl rfl (OpQ.spec (sp_move rfl (.inl rfl)) _) ?_
  refine ob1k h fun e1 ee1 h1 => ?_
  refine AOps.step rfl rfl rfl (sp_call (r := .r (.int .i64 e1)) (caps := []) (bs := [.r (.sl (f1.map GElem.row))]) rfl (.inl rfl) rfl ⟨⟨_, (.inl rfl), .d rfl⟩, trivial⟩ (fun _ => w_flow_CheckPart (ee1)) rfl) ?_
  refine AOps.step rfl rfl rfl (OpQ.spec (sp_assign rfl (.inl rfl)) _) ?_
  refine AOps.nil ?_
  refine hK3 _ ?_
  refine AW.seq_w fun K4 hK4 wK4 => ?_
  refine AW.region ?_
  refine AOps.step rfl rfl rfl (OpQ.spec (sp_move rfl (.inl rfl)) _) ?_
  refine AOps.step rfl rfl rfl (OpQ.spec (sp_neq rfl (.inl rfl) (.inl rfl)) _) ?_
  refine AOps.nil ?_
  refine hK4 _ ?_
  refine AW.cond rfl (fun hc1 => ?_) (fun hc1 => ?_)
  · have h2 := ite_t hc1 h1
    refine AW.seq_w fun K5 hK5 wK5 => ?_
    refine AW.weak (s' := ⟨[(8, .r (.int .i64 e1))], [], n0, 32⟩) (by exact Weak.cv ⟨.inl (.inl rfl), trivial⟩ trivial (Nat.le_refl _)) ?_
    refine AW.region ?_
    refine AOps.step rfl rfl rfl (OpQ.spec (sp_move rfl (.inl rfl)) _) ?_
    refine AOps.step rfl rfl rfl (OpQ.spec (sp_assign rfl (.inl rfl)) _) ?_
    refine AOps.step rfl rfl rfl (OpQ.spec (sp_assign rfl (.inl rfl)) _) ?_
    refine AOps.nil ?_
    refine hK5 _ ?_
    refine AW.ret ?_
    exact retf2 (P := Tryd.prog) (fun (r : (List GElem) × Int) => .r (.sl (r.1.map GElem.row))) (fun (r : (List GElem) × Int) => .r (.int .i64 r.2)) h2 (.inl rfl) (.t (.one (.nil))) (.t (.d rfl))
  · have h2 := ite_f hc1 h1
    refine AW.skip ?_
    refine hK2 _ ?_
    refine AW.seq_w fun K6 hK6 wK6 => ?_
    refine AW.seq_w fun K7 hK7 wK7 => ?_
    refine AW.region ?_
    refine AOps.step rfl rfl rfl (OpQ.spec (sp_move rfl (.inl rfl)) _) ?_
    refine AOps.step rfl rfl rfl (OpQ.spec (sp_lss rfl (.inl rfl) (.inl rfl)) _) ?_
    refine AOps.step rfl rfl rfl (OpQ.spec (sp_move rfl (.inl rfl)) _) ?_
    refine AOps.stepW (.one rfl rfl rfl) rfl rfl (OpQ.spec (sp_move rfl (.inl rfl)) _) ?_
    refine AOps.stepW (.one rfl rfl rfl) rfl rfl (OpQ.spec (sp_move rfl (.inl rfl)) _) ?_
    refine AOps.stepW (.one rfl rfl rfl) rfl rfl (OpQ.spec (sp_lss rfl (.inr ⟨_, (by exact id), rfl⟩) (.inr ⟨_, (by exact id), rfl⟩)) _) ?_
    refine AOps.step rfl rfl rfl (OpQ.spec (sp_or rfl (.inl rfl) (.inr ⟨_, (by exact id), rfl⟩)) _) ?_
    refine AOps.step rfl rfl rfl (OpQ.spec (sp_move rfl (.inl rfl)) _) ?_
    refine AOps.stepW (.one rfl rfl rfl) rfl rfl (OpQ.spec (sp_move rfl (.inl rfl)) _) ?_
    refine AOps.stepW (.one rfl rfl rfl) rfl rfl (OpQ.spec (sp_move rfl (.inl rfl)) _) ?_
    refine AOps.stepW (.one rfl rfl rfl) rfl rfl (OpQ.spec (ms_len rfl tg_22.slice (.inr ⟨_, (by exact id), rfl⟩)) _) ?_
    refine AOps.stepW (.one rfl rfl rfl) rfl rfl (OpQ.spec (sp_gtr rfl (.inr ⟨_, (by exact id), rfl⟩) (.inr ⟨_, (by exact id), rfl⟩)) _) ?_
    refine AOps.step rfl rfl rfl (OpQ.spec (sp_or rfl (.inl rfl) (.inr ⟨_, (by exact id), rfl⟩)) _) ?_
    refine AOps.nil ?_
    refine hK7 _ ?_
    refine AW.cond rfl (fun hc2 => ?_) (fun hc2 => ?_)
    · have h3 := ite_t hc2 h2
      refine AW.seq_w fun K8 hK8 wK8 => ?_
      refine AW.weak (s' := ⟨[], [], n0, 32⟩) (by exact Weak.cv trivial trivial (Nat.le_refl _)) ?_
      refine AW.region ?_
      refine AOps.step rfl rfl rfl (OpQ.spec (sp_assign rfl (.inl rfl)) _) ?_
      refine AOps.step rfl rfl rfl (OpQ.spec (sp_assign rfl (.inl rfl)) _) ?_
      refine AOps.nil ?_
      refine hK8 _ ?_
      refine AW.ret ?_
      exact retf2 (P := Tryd.prog) (fun (r : (List GElem) × Int) => .r (.sl (r.1.map GElem.row))) (fun (r : (List GElem) × Int) => .r (.int .i64 r.2)) h3 (.inl rfl) (.t (.one (.nil))) (.t (.d rfl))
    · have h3 := ite_f hc2 h2
      refine AW.skip ?_
      refine hK6 _ ?_
      refine AW.seq_w fun K9 hK9 wK9 => ?_
      refine AW.weak (s' := ⟨[(0, .r (.sl (f1.map GElem.row))), (1, .r (.int .i64 from1)), (2, .r (.int .i64 to1))], [], n0, 32⟩) (by exact Weak.cv ⟨.inl (.inl rfl), .inl (.inl rfl), .inl (.inl rfl), trivial⟩ trivial (Nat.le_refl _)) ?_
      refine AW.region ?_
      refine AOps.step rfl rfl rfl (OpQ.spec (sp_move rfl (.inl rfl)) _) ?_
      refine AOps.step rfl rfl rfl (OpQ.spec (sp_move rfl (.inl rfl)) _) ?_
      refine AOps.step rfl rfl rfl (OpQ.spec (sp_move rfl (.inl rfl)) _) ?_
      refine ob1k h3 fun l1 el1 h4 => ?_
      refine AOps.step rfl rfl rfl (OpQ.spec (ms_slice rfl tg_22.slice (.inl rfl) (by exact ⟨_, (.inl rfl)⟩) (by exact ⟨_, (.inl rfl)⟩) (fun _ => rfl) (fun _ => el1)) _) ?_
      refine ob1k h4 fun r1 er1 h5 => ?_
      refine AOps.step rfl rfl rfl (sp_callS (r := .r (.sl (r1.map GElem.row))) (caps := []) (bs := [.r (.sl (l1.map GElem.row))]) rfl (.inl rfl) rfl ⟨.inl ⟨(.inl rfl), rfl⟩, trivial⟩ (fun _ => w_flow_Copy (er1))) ?_
      refine AOps.step rfl rfl rfl (OpQ.spec (sp_assign rfl (.inl rfl)) _) ?_
      refine AOps.step rfl rfl rfl (OpQ.spec (sp_assign rfl (.inl rfl)) _) ?_
      refine AOps.nil ?_
      refine hK9 _ ?_
      refine AW.ret ?_
      exact retf2 (P := Tryd.prog) (fun (r : (List GElem) × Int) => .r (.sl (r.1.map GElem.row))) (fun (r : (List GElem) × Int) => .r (.int .i64 r.2)) h5 (.inl rfl) (.t (.d rfl)) (.t (.d rfl))
set_option maxHeartbeats 4000000 in
set_option maxRecDepth 20000 in
theorem w_ref_In {x1 : Int} {low1 : Int} {high1 : Int} {r : Bool} (h : ref_In x1 low1 high1 = some r) : ARO Tryd.prog 26 [.r (.int .i64 x1), .r (.int .i64 low1), .r (.int .i64 high1)] (.r (.bool r)) := by
  unfold ref_In at h
  refine ARO.mkF Tryd.func26 rfl rfl Tryd.ntmps26 rfl (Nat.le_of_ble_eq_true rfl) fun n0 => ?_
  refine AW.seq_w fun K1 hK1 wK1 => ?_
  refine AW.region ?_
  refine AOps.step rfl rfl rfl (OpQ.spec (sp_assign rfl (.inl rfl)) _) ?_
  refine AOps.nil ?_
  refine hK1 _ ?_
  refine AW.seq_w fun K2 hK2 wK2 => ?_
  refine AW.region ?_
  refine AOps.step rfl rfl rfl (OpQ.spec (sp_move rfl (.inl rfl)) _) ?_
  refine AOps.step rfl rfl rfl (OpQ.spec (sp_move rfl (.inl rfl)) _) ?_
  refine AOps.step rfl rfl rfl (OpQ.spec (sp_geq rfl (.inl rfl) (.inl rfl)) _) ?_
  refine AOps.step rfl rfl rfl (OpQ.spec (sp_move rfl (.inl rfl)) _) ?_
  refine AOps.stepW (.one rfl rfl rfl) rfl rfl (OpQ.spec (sp_move rfl (.inl rfl)) _) ?_
  refine AOps.stepW (.one rfl rfl rfl) rfl rfl (OpQ.spec (sp_move rfl (.inl rfl)) _) ?_
  refine AOps.stepW (.one rfl rfl rfl) rfl rfl (OpQ.spec (sp_leq rfl (.inr ⟨_, (by exact id), rfl⟩) (.inr ⟨_, (by exact id), rfl⟩)) _) ?_
  refine AOps.step rfl rfl rfl (OpQ.spec (sp_and rfl (.inl rfl) (.inr ⟨_, (by exact id), rfl⟩)) _) ?_
  refine AOps.step rfl rfl rfl (OpQ.spec (sp_assign rfl (.inl rfl)) _) ?_
  refine AOps.nil ?_
  refine hK2 _ ?_
  refine AW.ret ?_
  exact retf1 (P := Tryd.prog) (fun (r : Bool) => .r (.bool r)) h (.inl rfl) (.t (.d rfl))
set_option maxHeartbeats 4000000 in
set_option maxRecDepth 20000 in
theorem w_ref_Char {c1 : Int} {r : Bool} (h : ref_Char c1 = some r) : ARO Tryd.prog 8 [.r (.int .i64 c1)] (.r (.bool r)) := by
  unfold ref_Char at h
  refine ARO.mkF Tryd.func8 rfl rfl Tryd.ntmps8 rfl (Nat.le_of_ble_eq_true rfl) fun n0 => ?_
  refine AW.seq_w fun K1 hK1 wK1 => ?_
  refine AW.region ?_
  refine AOps.step rfl rfl rfl (OpQ.spec (sp_assign rfl (.inl rfl)) _) ?_
  refine AOps.nil ?_
  refine hK1 _ ?_
  refine AW.seq_w fun K2 hK2 wK2 => ?_
  refine AW.region ?_
  refine AOps.step rfl rfl rfl (OpQ.spec (sp_move rfl (.inl rfl)) _) ?_
  refine AOps.step rfl rfl rfl (OpQ.spec (sp_eql rfl (.inl rfl) (.inl rfl)) _) ?_
  refine AOps.step rfl rfl rfl (OpQ.spec (sp_move rfl (.inl rfl)) _) ?_
  refine AOps.stepW (.one rfl rfl rfl) rfl rfl (OpQ.spec (sp_move rfl (.inl rfl)) _) ?_
  refine AOps.stepW (.one rfl rfl rfl) rfl rfl (OpQ.spec (sp_eql rfl (.inr ⟨_, (by exact id), rfl⟩) (.inl rfl)) _) ?_
  refine AOps.step rfl rfl rfl (OpQ.spec (sp_or rfl (.inl rfl) (.inr ⟨_, (by exact id), rfl⟩)) _) ?_
  refine AOps.step rfl rfl rfl (OpQ.spec (sp_move rfl (.inl rfl)) _) ?_
  refine AOps.stepW (.one rfl rfl rfl) rfl rfl (OpQ.spec (sp_move rfl (.inl rfl)) _) ?_
  refine ob1k h fun r1 er1 h1 => ?_
  refine AOps.stepW (.one rfl rfl rfl) rfl rfl (sp_call (r := .r (.bool r1)) (caps := []) (bs := [.r (.int .i64 c1), .r (.int .i64 32), .r (.int .i64 126)]) rfl (.inl rfl) rfl ⟨⟨_, (.inr ⟨_, (by exact id), rfl⟩), .d rfl⟩, ⟨_, (.inl rfl), .d rfl⟩, ⟨_, (.inl rfl), .d rfl⟩, trivial⟩ (fun hg => w_ref_In (gdt er1 hg)) rfl) ?_
  refine AOps.step rfl rfl rfl (OpQ.spec (sp_or rfl (.inl rfl) (.inr ⟨_, (by exact id), rfl⟩)) _) ?_
  refine AOps.step rfl rfl rfl (OpQ.spec (sp_move rfl (.inl rfl)) _) ?_
  refine AOps.stepW (.one rfl rfl rfl) rfl rfl (OpQ.spec (sp_move rfl (.inl rfl)) _) ?_
  refine ob1k h1 fun r2 er2 h2 => ?_
  refine AOps.stepW (.one rfl rfl rfl) rfl rfl (sp_call (r := .r (.bool r2)) (caps := []) (bs := [.r (.int .i64 c1), .r (.int .i64 160), .r (.int .i64 55295)]) rfl (.inl rfl) rfl ⟨⟨_, (.inr ⟨_, (by exact id), rfl⟩), .d rfl⟩, ⟨_, (.inl rfl), .d rfl⟩, ⟨_, (.inl rfl), .d rfl⟩, trivial⟩ (fun hg => w_ref_In (gdt er2 hg)) rfl) ?_
  refine AOps.step rfl rfl rfl (OpQ.spec (sp_or rfl (.inl rfl) (.inr ⟨_, (by exact id), rfl⟩)) _) ?_
  refine AOps.step rfl rfl rfl (OpQ.spec (sp_move rfl (.inl rfl)) _) ?_
  refine AOps.stepW (.one rfl rfl rfl) rfl rfl (OpQ.spec (sp_move rfl (.inl rfl)) _) ?_
  refine ob1k h2 fun r3 er3 h3 => ?_
  refine AOps.stepW (.one rfl rfl rfl) rfl rfl (sp_call (r := .r (.bool r3)) (caps := []) (bs := [.r (.int .i64 c1), .r (.int .i64 57344), .r (.int .i64 1114111)]) rfl (.inl rfl) rfl ⟨⟨_, (.inr ⟨_, (by exact id), rfl⟩), .d rfl⟩, ⟨_, (.inl rfl), .d rfl⟩, ⟨_, (.inl rfl), .d rfl⟩, trivial⟩ (fun hg => w_ref_In (gdt er3 hg)) rfl) ?_
  refine AOps.step rfl rfl rfl (OpQ.spec (sp_or rfl (.inl rfl) (.inr ⟨_, (by exact id), rfl⟩)) _) ?_
  refine AOps.step rfl rfl rfl (OpQ.spec (sp_assign rfl (.inl rfl)) _) ?_
  refine AOps.nil ?_
  refine hK2 _ ?_
  refine AW.ret ?_
  exact retf1 (P := Tryd.prog) (fun (r : Bool) => .r (.bool r)) h3 (.inl rfl) (.t (.d rfl))
set_option maxHeartbeats 4000000 in
set_option maxRecDepth 20000 in
theorem w_ref_Name {s1 : List UInt8} {r : Bool} (h : ref_Name s1 = some r) : ARO Tryd.prog 45 [.r (.str s1)] (.r (.bool r)) := by
  unfold ref_Name at h
  refine ARO.mkF Tryd.func45 rfl rfl Tryd.ntmps45 rfl (Nat.le_of_ble_eq_true rfl) fun n0 => ?_
  refine AW.seq_w fun K1 hK1 wK1 => ?_
  refine AW.region ?_
  refine AOps.step rfl rfl rfl (OpQ.spec (sp_assign rfl (.inl rfl)) _) ?_
  refine AOps.nil ?_
  refine hK1 _ ?_
  refine AW.seq_w fun K2 hK2 wK2 => ?_
  refine AW.seq_w fun K3 hK3 wK3 => ?_
  refine AW.region ?_
  refine AOps.step rfl rfl rfl (OpQ.spec (sp_move rfl (.inl rfl)) _) ?_
  refine AOps.step rfl rfl rfl (OpQ.spec (sp_len_str rfl Tryd.underlying9 (.inl rfl)) _) ?_
  refine AOps.step rfl rfl rfl (OpQ.spec (sp_move rfl (.inl rfl)) _) ?_
  refine AOps.nil ?_
  refine hK3 _ ?_
  refine AW.block ?_
  refine jc1k h fun o1 hit1 hk1 he1 => ?_
  have J1 : ∀ (u2 : Unit) (i5 : Nat → Nat), o1 = .nrm u2 → K2 ⟨[(0, .r (.str s1))], [], (i5 0), 59⟩ := by
    intro u2 i5 e
    have h1 := hk1 _ e
    refine hK2 _ ?_
    refine AW.seq_w fun K4 hK4 wK4 => ?_
    refine AW.region ?_
    refine AOps.step rfl rfl rfl (OpQ.spec (sp_move rfl (.inl rfl)) _) ?_
    refine AOps.step rfl rfl rfl (OpQ.spec (sp_len_str rfl Tryd.underlying9 (.inl rfl)) _) ?_
    refine AOps.step rfl rfl rfl (OpQ.spec (sp_geq rfl (.inl rfl) (.inl rfl)) _) ?_
    refine AOps.step rfl rfl rfl (OpQ.spec (sp_move rfl (.inl rfl)) _) ?_
    refine AOps.stepW (.one rfl rfl rfl) rfl rfl (OpQ.spec (sp_move rfl (.inl rfl)) _) ?_
    refine AOps.stepW (.one rfl rfl rfl) rfl rfl (OpQ.spec (sp_len_str rfl Tryd.underlying9 (.inr ⟨_, (by exact id), rfl⟩)) _) ?_
    refine AOps.stepW (.one rfl rfl rfl) rfl rfl (OpQ.spec (sp_leq rfl (.inr ⟨_, (by exact id), rfl⟩) (.inl rfl)) _) ?_
    refine AOps.step rfl rfl rfl (OpQ.spec (sp_and rfl (.inl rfl) (.inr ⟨_, (by exact id), rfl⟩)) _) ?_
    refine AOps.step rfl rfl rfl (OpQ.spec (sp_assign rfl (.inl rfl)) _) ?_
    refine AOps.nil ?_
    refine hK4 _ ?_
    refine AW.ret ?_
    exact retf1 (P := Tryd.prog) (fun (r : Bool) => .r (.bool r)) h1 (.inl rfl) (.t (.d rfl))
  refine AW.iter1 (fun (x2 : Int) i3 => ⟨[(0, .r (.str s1)), (6, .r (.int .i64 (s1.length : Int))), (7, .r (.int .i64 x2))], [], (i3 0), 59⟩) (vec [n0]) hit1 ((by exact Weak.cv ⟨.inl (.inl rfl), .inl (.inl rfl), .inl (.inl rfl), trivial⟩ trivial (Nat.le_refl _))) ?_
  intro x2 i3 v1 hv1 hx1
  have h2 : ref_Name_L1 s1 x2 = some v1 := hv1; unfold ref_Name_L1 at h2
  refine AW.seq_w fun K5 hK5 wK5 => ?_
  refine AW.region ?_
  refine AOps.step rfl rfl rfl (OpQ.spec (sp_lss rfl (.inl rfl) (.inl rfl)) _) ?_
  refine AOps.nil ?_
  refine hK5 _ ?_
  refine AW.seq_w fun K6 hK6 wK6 => ?_
  refine AW.cond rfl (fun hc1 => ?_) (fun hc1 => ?_)
  · have h3 := ite_t hc1 h2
    refine AW.skip ?_
    refine hK6 _ ?_
    refine AW.seq_w fun K7 hK7 wK7 => ?_
    refine AW.block ?_
    refine AW.seq_w fun K8 hK8 wK8 => ?_
    refine AW.region ?_
    refine AOps.step rfl rfl rfl (OpQ.spec (sp_move rfl (.inl rfl)) _) ?_
    refine AOps.step rfl rfl rfl (OpQ.spec (sp_assign rfl (.inl rfl)) _) ?_
    refine AOps.nil ?_
    refine hK8 _ ?_
    refine AW.seq_w fun K9 hK9 wK9 => ?_
    refine AW.region ?_
    refine AOps.step rfl rfl rfl (OpQ.spec (sp_move rfl (.inl rfl)) _) ?_
    refine AOps.step rfl rfl rfl (OpQ.spec (sp_move rfl (.inl rfl)) _) ?_
    refine ob1k h3 fun ch1 ech1 h4 => ?_
    refine AOps.step rfl rfl rfl (OpQ.spec (ms_idx_str rfl Tryd.underlying9 (.inl rfl) (.inl rfl) (fun _ => ech1)) _) ?_
    refine AOps.step rfl rfl rfl (OpQ.spec (sp_geq rfl (.inl rfl) (.inl rfl)) _) ?_
    refine AOps.step rfl rfl rfl (OpQ.spec (sp_move rfl (.inl rfl)) _) ?_
    refine AOps.stepW (.one rfl rfl rfl) rfl rfl (OpQ.spec (sp_move rfl (.inl rfl)) _) ?_
    refine AOps.stepW (.one rfl rfl rfl) rfl rfl (OpQ.spec (sp_move rfl (.inl rfl)) _) ?_
    refine AOps.stepW (.one rfl rfl rfl) rfl rfl (OpQ.spec (ms_idx_str rfl Tryd.underlying9 (.inr ⟨_, (by exact id), rfl⟩) (.inr ⟨_, (by exact id), rfl⟩) (fun _ => ech1)) _) ?_
    refine AOps.stepW (.one rfl rfl rfl) rfl rfl (OpQ.spec (sp_leq rfl (.inr ⟨_, (by exact id), rfl⟩) (.inl rfl)) _) ?_
    refine AOps.step rfl rfl rfl (OpQ.spec (sp_and rfl (.inl rfl) (.inr ⟨_, (by exact id), rfl⟩)) _) ?_
    refine AOps.step rfl rfl rfl (OpQ.spec (sp_assign rfl (.inl rfl)) _) ?_
    refine AOps.nil ?_
    refine hK9 _ ?_
    refine AW.seq_w fun K10 hK10 wK10 => ?_
    refine AW.region ?_
    refine AOps.step rfl rfl rfl (OpQ.spec (sp_move rfl (.inl rfl)) _) ?_
    refine AOps.step rfl rfl rfl (OpQ.spec (sp_not rfl (.inl rfl)) _) ?_
    refine AOps.step rfl rfl rfl (OpQ.spec (sp_move rfl (.inl rfl)) _) ?_
    refine AOps.stepW (.one rfl rfl rfl) rfl rfl (OpQ.spec (sp_move rfl (.inl rfl)) _) ?_
    refine AOps.stepW (.one rfl rfl rfl) rfl rfl (OpQ.spec (sp_eql rfl (.inr ⟨_, (by exact id), rfl⟩) (.inl rfl)) _) ?_
    refine AOps.stepW (.one rfl rfl rfl) rfl rfl (OpQ.spec (sp_move rfl (.inr ⟨_, (by exact id), rfl⟩)) _) ?_
    refine AOps.stepW (.two rfl rfl rfl) rfl rfl (OpQ.spec (sp_move rfl (.inl rfl)) _) ?_
    refine AOps.stepW (.two rfl rfl rfl) rfl rfl (OpQ.spec (sp_move rfl (.inl rfl)) _) ?_
    refine AOps.stepW (.two rfl rfl rfl) rfl rfl (OpQ.spec (ms_idx_str rfl Tryd.underlying9 (.inr ⟨_, (by exact id), rfl⟩) (.inr ⟨_, (by exact id), rfl⟩) (fun _ => ech1)) _) ?_
    refine AOps.stepW (.two rfl rfl rfl) rfl rfl (OpQ.spec (sp_neq rfl (.inr ⟨_, (by exact id), rfl⟩) (.inl rfl)) _) ?_
    refine AOps.stepW (.two rfl rfl rfl) rfl rfl (OpQ.spec (sp_move rfl (.inr ⟨_, (by exact id), rfl⟩)) _) ?_
    refine AOps.stepW (.two rfl rfl rfl) rfl rfl (OpQ.spec (sp_move rfl (.inl rfl)) _) ?_
    refine AOps.stepW (.two rfl rfl rfl) rfl rfl (OpQ.spec (sp_move rfl (.inl rfl)) _) ?_
    refine AOps.stepW (.two rfl rfl rfl) rfl rfl (OpQ.spec (ms_idx_str rfl Tryd.underlying9 (.inr ⟨_, (by exact id), rfl⟩) (.inr ⟨_, (by exact id), rfl⟩) (fun _ => ech1)) _) ?_
    refine AOps.stepW (.two rfl rfl rfl) rfl rfl (OpQ.spec (sp_neq rfl (.inr ⟨_, (by exact id), rfl⟩) (.inl rfl)) _) ?_
    refine AOps.stepW (.two rfl rfl rfl) rfl rfl (OpQ.spec (sp_and rfl (.inr ⟨_, (by exact id), rfl⟩) (.inr ⟨_, (by exact id), rfl⟩)) _) ?_
    refine AOps.stepW (.two rfl rfl rfl) rfl rfl (OpQ.spec (sp_move rfl (.inr ⟨_, (by exact id), rfl⟩)) _) ?_
    refine AOps.stepW (.two rfl rfl rfl) rfl rfl (OpQ.spec (sp_move rfl (.inl rfl)) _) ?_
    refine AOps.stepW (.two rfl rfl rfl) rfl rfl (OpQ.spec (sp_move rfl (.inl rfl)) _) ?_
    refine AOps.stepW (.two rfl rfl rfl) rfl rfl (OpQ.spec (ms_idx_str rfl Tryd.underlying9 (.inr ⟨_, (by exact id), rfl⟩) (.inr ⟨_, (by exact id), rfl⟩) (fun _ => ech1)) _) ?_
    refine AOps.stepW (.two rfl rfl rfl) rfl rfl (OpQ.spec (sp_lss rfl (.inr ⟨_, (by exact id), rfl⟩) (.inl rfl)) _) ?_
    refine AOps.stepW (.two rfl rfl rfl) rfl rfl (OpQ.spec (sp_move rfl (.inr ⟨_, (by exact id), rfl⟩)) _) ?_
    refine AOps.stepW (.two rfl rfl rfl) rfl rfl (OpQ.spec (sp_move rfl (.inl rfl)) _) ?_
    refine AOps.stepW (.two rfl rfl rfl) rfl rfl (OpQ.spec (sp_move rfl (.inl rfl)) _) ?_
    refine AOps.stepW (.two rfl rfl rfl) rfl rfl (OpQ.spec (ms_idx_str rfl Tryd.underlying9 (.inr ⟨_, (by exact id), rfl⟩) (.inr ⟨_, (by exact id), rfl⟩) (fun _ => ech1)) _) ?_
    refine AOps.stepW (.two rfl rfl rfl) rfl rfl (OpQ.spec (sp_gtr rfl (.inr ⟨_, (by exact id), rfl⟩) (.inl rfl)) _) ?_
    refine AOps.stepW (.two rfl rfl rfl) rfl rfl (OpQ.spec (sp_or rfl (.inr ⟨_, (by exact id), rfl⟩) (.inr ⟨_, (by exact id), rfl⟩)) _) ?_
    refine AOps.stepW (.two rfl rfl rfl) rfl rfl (OpQ.spec (sp_and rfl (.inr ⟨_, (by exact id), rfl⟩) (.inr ⟨_, (by exact id), rfl⟩)) _) ?_
    refine AOps.stepW (.one rfl rfl rfl) rfl rfl (OpQ.spec (sp_or rfl (.inr ⟨_, (by exact id), rfl⟩) (.inr ⟨_, (by exact id), rfl⟩)) _) ?_
    refine AOps.step rfl rfl rfl (OpQ.spec (sp_and rfl (.inl rfl) (.inr ⟨_, (by exact id), rfl⟩)) _) ?_
    refine AOps.nil ?_
    refine hK10 _ ?_
    refine AW.cond rfl (fun hc2 => ?_) (fun hc2 => ?_)
    · have h5 := ite_t hc2 h4
      refine AW.seq_w fun K11 hK11 wK11 => ?_
      refine AW.weak (s' := ⟨[], [], (i3 0), 59⟩) (by exact Weak.cv trivial trivial (Nat.le_refl _)) ?_
      refine AW.region ?_
      refine AOps.step rfl rfl rfl (OpQ.spec (sp_assign rfl (.inl rfl)) _) ?_
      refine AOps.nil ?_
      refine hK11 _ ?_
      refine AW.ret ?_
      exact retf1 (P := Tryd.prog) (fun (r : Bool) => .r (.bool r)) (he1 _ (hx1 _ (Option.some.inj h5).symm)) (.inl rfl) (.t (.d rfl))
    · have h5 := ite_f hc2 h4
      refine AW.skip ?_
      refine hK7 _ ?_
      refine AW.weak (s' := ⟨[(0, .r (.str s1)), (6, .r (.int .i64 (s1.length : Int))), (7, .r (.int .i64 x2))], [], (i3 0), 59⟩) (by exact Weak.cv ⟨.inl (.inl rfl), .inl (.inl rfl), .inl (.inl rfl), trivial⟩ trivial (Nat.le_refl _)) ?_
      refine AW.region ?_
      refine ob1k h5 fun x4 ex4 h6 => ?_
      refine AOps.step rfl rfl rfl (OpQ.spec (ms_add rfl (.inl rfl) (.inl rfl) (fun _ => ex4)) _) ?_
      refine AOps.step rfl rfl rfl (OpQ.spec (sp_move rfl (.inl rfl)) _) ?_
      refine AOps.nil ?_
      exact NextQ1.mk h6 (vec [(i3 0)]) ((by exact Weak.cv ⟨.inl (.inl rfl), .inl (.inl rfl), .inl (.inl rfl), trivial⟩ trivial (Nat.le_refl _)))
  · have h3 := ite_f hc1 h2
    refine AW.exit ?_
    exact wK2 _ _ ((by exact Weak.cv ⟨.inl (.inl rfl), trivial⟩ trivial (Nat.le_refl _))) (J1 _ (vec [(i3 0)]) (hx1 _ (Option.some.inj h3).symm))
set_option maxHeartbeats 4000000 in
set_option maxRecDepth 20000 in
theorem w_ref_Value {s1 : List UInt8} {r : Bool} (h : ref_Value s1 = some r) : ARO Tryd.prog 46 [.r (.str s1)] (.r (.bool r)) := by
  unfold ref_Value at h
  refine ARO.mkF Tryd.func46 rfl rfl Tryd.ntmps46 rfl (Nat.le_of_ble_eq_true rfl) fun n0 => ?_
  refine AW.seq_w fun K1 hK1 wK1 => ?_
  refine AW.region ?_
  refine AOps.step rfl rfl rfl (OpQ.spec (sp_assign rfl (.inl rfl)) _) ?_
  refine AOps.nil ?_
  refine hK1 _ ?_
  refine AW.seq_w fun K2 hK2 wK2 => ?_
  refine AW.seq_w fun K3 hK3 wK3 => ?_
  refine AW.region ?_
  refine AOps.step rfl rfl rfl (OpQ.spec (sp_move rfl (.inl rfl)) _) ?_
  refine AOps.step rfl rfl rfl (OpQ.spec (sp_len_str rfl Tryd.underlying9 (.inl rfl)) _) ?_
  refine AOps.step rfl rfl rfl (OpQ.spec (sp_move rfl (.inl rfl)) _) ?_
  refine AOps.nil ?_
  refine hK3 _ ?_
  refine AW.block ?_
  refine jc1k h fun o1 hit1 hk1 he1 => ?_
  have J1 : ∀ (u2 : Unit) (i5 : Nat → Nat), o1 = .nrm u2 → K2 ⟨[(0, .r (.str s1))], [], (i5 0), 28⟩ := by
    intro u2 i5 e
    have h1 := hk1 _ e
    refine hK2 _ ?_
    refine AW.seq_w fun K4 hK4 wK4 => ?_
    refine AW.region ?_
    refine AOps.step rfl rfl rfl (OpQ.spec (sp_move rfl (.inl rfl)) _) ?_
    refine AOps.step rfl rfl rfl (OpQ.spec (sp_len_str rfl Tryd.underlying9 (.inl rfl)) _) ?_
    refine AOps.step rfl rfl rfl (OpQ.spec (sp_geq rfl (.inl rfl) (.inl rfl)) _) ?_
    refine AOps.step rfl rfl rfl (OpQ.spec (sp_move rfl (.inl rfl)) _) ?_
    refine AOps.stepW (.one rfl rfl rfl) rfl rfl (OpQ.spec (sp_move rfl (.inl rfl)) _) ?_
    refine AOps.stepW (.one rfl rfl rfl) rfl rfl (OpQ.spec (sp_len_str rfl Tryd.underlying9 (.inr ⟨_, (by exact id), rfl⟩)) _) ?_
    refine AOps.stepW (.one rfl rfl rfl) rfl rfl (OpQ.spec (sp_leq rfl (.inr ⟨_, (by exact id), rfl⟩) (.inl rfl)) _) ?_
    refine AOps.step rfl rfl rfl (OpQ.spec (sp_and rfl (.inl rfl) (.inr ⟨_, (by exact id), rfl⟩)) _) ?_
    refine AOps.step rfl rfl rfl (OpQ.spec (sp_assign rfl (.inl rfl)) _) ?_
    refine AOps.nil ?_
    refine hK4 _ ?_
    refine AW.ret ?_
    exact retf1 (P := Tryd.prog) (fun (r : Bool) => .r (.bool r)) h1 (.inl rfl) (.t (.d rfl))
  refine AW.iter1 (fun (x2 : Int) i3 => ⟨[(0, .r (.str s1)), (5, .r (.int .i64 (s1.length : Int))), (6, .r (.int .i64 x2))], [], (i3 0), 28⟩) (vec [n0]) hit1 ((by exact Weak.cv ⟨.inl (.inl rfl), .inl (.inl rfl), .inl (.inl rfl), trivial⟩ trivial (Nat.le_refl _))) ?_
  intro x2 i3 v1 hv1 hx1
  have h2 : ref_Value_L1 s1 x2 = some v1 := hv1; unfold ref_Value_L1 at h2
  refine AW.seq_w fun K5 hK5 wK5 => ?_
  refine AW.region ?_
  refine AOps.step rfl rfl rfl (OpQ.spec (sp_lss rfl (.inl rfl) (.inl rfl)) _) ?_
  refine AOps.nil ?_
  refine hK5 _ ?_
  refine AW.seq_w fun K6 hK6 wK6 => ?_
  refine AW.cond rfl (fun hc1 => ?_) (fun hc1 => ?_)
  · have h3 := ite_t hc1 h2
    refine AW.skip ?_
    refine hK6 _ ?_
    refine AW.seq_w fun K7 hK7 wK7 => ?_
    refine AW.block ?_
    refine AW.seq_w fun K8 hK8 wK8 => ?_
    refine AW.region ?_
    refine AOps.step rfl rfl rfl (OpQ.spec (sp_move rfl (.inl rfl)) _) ?_
    refine AOps.step rfl rfl rfl (OpQ.spec (sp_assign rfl (.inl rfl)) _) ?_
    refine AOps.nil ?_
    refine hK8 _ ?_
    refine AW.seq_w fun K9 hK9 wK9 => ?_
    refine AW.region ?_
    refine AOps.step rfl rfl rfl (OpQ.spec (sp_move rfl (.inl rfl)) _) ?_
    refine AOps.step rfl rfl rfl (OpQ.spec (sp_move rfl (.inl rfl)) _) ?_
    refine ob1k h3 fun ch1 ech1 h4 => ?_
    refine AOps.step rfl rfl rfl (OpQ.spec (ms_idx_str rfl Tryd.underlying9 (.inl rfl) (.inl rfl) (fun _ => ech1)) _) ?_
    refine AOps.step rfl rfl rfl (OpQ.spec (sp_lss rfl (.inl rfl) (.inl rfl)) _) ?_
    refine AOps.step rfl rfl rfl (OpQ.spec (sp_move rfl (.inl rfl)) _) ?_
    refine AOps.stepW (.one rfl rfl rfl) rfl rfl (OpQ.spec (sp_move rfl (.inl rfl)) _) ?_
    refine AOps.stepW (.one rfl rfl rfl) rfl rfl (OpQ.spec (sp_move rfl (.inl rfl)) _) ?_
    refine AOps.stepW (.one rfl rfl rfl) rfl rfl (OpQ.spec (ms_idx_str rfl Tryd.underlying9 (.inr ⟨_, (by exact id), rfl⟩) (.inr ⟨_, (by exact id), rfl⟩) (fun _ => ech1)) _) ?_
    refine AOps.stepW (.one rfl rfl rfl) rfl rfl (OpQ.spec (sp_gtr rfl (.inr ⟨_, (by exact id), rfl⟩) (.inl rfl)) _) ?_
    refine AOps.step rfl rfl rfl (OpQ.spec (sp_or rfl (.inl rfl) (.inr ⟨_, (by exact id), rfl⟩)) _) ?_
    refine AOps.nil ?_
    refine hK9 _ ?_
    refine AW.cond rfl (fun hc2 => ?_) (fun hc2 => ?_)
    · have h5 := ite_t hc2 h4
      refine AW.seq_w fun K10 hK10 wK10 => ?_
      refine AW.weak (s' := ⟨[], [], (i3 0), 28⟩) (by exact Weak.cv trivial trivial (Nat.le_refl _)) ?_
      refine AW.region ?_
      refine AOps.step rfl rfl rfl (OpQ.spec (sp_assign rfl (.inl rfl)) _) ?_
      refine AOps.nil ?_
      refine hK10 _ ?_
      refine AW.ret ?_
      exact retf1 (P := Tryd.prog) (fun (r : Bool) => .r (.bool r)) (he1 _ (hx1 _ (Option.some.inj h5).symm)) (.inl rfl) (.t (.d rfl))
    · have h5 := ite_f hc2 h4
      refine AW.skip ?_
      refine hK7 _ ?_
      refine AW.weak (s' := ⟨[(0, .r (.str s1)), (5, .r (.int .i64 (s1.length : Int))), (6, .r (.int .i64 x2))], [], (i3 0), 28⟩) (by exact Weak.cv ⟨.inl (.inl rfl), .inl (.inl rfl), .inl (.inl rfl), trivial⟩ trivial (Nat.le_refl _)) ?_
      refine AW.region ?_
      refine ob1k h5 fun x4 ex4 h6 => ?_
      refine AOps.step rfl rfl rfl (OpQ.spec (ms_add rfl (.inl rfl) (.inl rfl) (fun _ => ex4)) _) ?_
      refine AOps.step rfl rfl rfl (OpQ.spec (sp_move rfl (.inl rfl)) _) ?_
      refine AOps.nil ?_
      exact NextQ1.mk h6 (vec [(i3 0)]) ((by exact Weak.cv ⟨.inl (.inl rfl), .inl (.inl rfl), .inl (.inl rfl), trivial⟩ trivial (Nat.le_refl _)))
  · have h3 := ite_f hc1 h2
    refine AW.exit ?_
    exact wK2 _ _ ((by exact Weak.cv ⟨.inl (.inl rfl), trivial⟩ trivial (Nat.le_refl _))) (J1 _ (vec [(i3 0)]) (hx1 _ (Option.some.inj h3).symm))
set_option maxHeartbeats 4000000 in
set_option maxRecDepth 20000 in
theorem w_ref_AttrsError {l1 : List GAttr} {change1 : Bool} {r : Int} (h : ref_AttrsError l1 change1 = some r) : ARO Tryd.prog 40 [.r (.sl (l1.map GAttr.row)), .r (.bool change1)] (.r (.int .i64 r)) := by
  unfold ref_AttrsError at h
  refine ARO.mkF Tryd.func40 rfl rfl Tryd.ntmps40 rfl (Nat.le_of_ble_eq_true rfl) fun n0 => ?_
  refine AW.seq_w fun K1 hK1 wK1 => ?_
  refine AW.region ?_
  refine AOps.step rfl rfl rfl (OpQ.spec (sp_assign rfl (.inl rfl)) _) ?_
  refine AOps.nil ?_
  refine hK1 _ ?_
  refine AW.seq_w fun K2 hK2 wK2 => ?_
  refine AW.seq_w fun K3 hK3 wK3 => ?_
  refine AW.region ?_
  refine AOps.step rfl rfl rfl (OpQ.spec (sp_move rfl (.inl rfl)) _) ?_
  refine AOps.step rfl rfl rfl (OpQ.spec (ms_len rfl tg_30.slice (.inl rfl)) _) ?_
  refine AOps.step rfl rfl rfl (OpQ.spec (sp_move rfl (.inl rfl)) _) ?_
  refine AOps.nil ?_
  refine hK3 _ ?_
  refine AW.block ?_
  refine jc1k h fun o1 hit1 hk1 he1 => ?_
  have J1 : ∀ (u2 : Unit) (i5 : Nat → Nat), o1 = .nrm u2 → K2 ⟨[], [], (i5 0), 54⟩ := by
    intro u2 i5 e
    have h1 := hk1 _ e
    refine hK2 _ ?_
    refine AW.seq_w fun K4 hK4 wK4 => ?_
    refine AW.region ?_
    refine AOps.step rfl rfl rfl (OpQ.spec (sp_assign rfl (.inl rfl)) _) ?_
    refine AOps.nil ?_
    refine hK4 _ ?_
    refine AW.ret ?_
    exact retf1 (P := Tryd.prog) (fun (r : Int) => .r (.int .i64 r)) h1 (.inl rfl) (.t (.d rfl))
  refine AW.iter1 (fun (x2 : Int) i3 => ⟨[(0, .r (.sl (l1.map GAttr.row))), (1, .r (.bool change1)), (7, .r (.int .i64 (l1.length : Int))), (8, .r (.int .i64 x2))], [], (i3 0), 54⟩) (vec [n0]) hit1 ((by exact Weak.cv ⟨.inl (.inl rfl), .inl (.inl rfl), .inl (.inl rfl), .inl (.inl rfl), trivial⟩ trivial (Nat.le_refl _))) ?_
  intro x2 i3 v1 hv1 hx1
  have h2 : ref_AttrsError_L1 l1 change1 x2 = some v1 := hv1; unfold ref_AttrsError_L1 at h2
  refine AW.seq_w fun K5 hK5 wK5 => ?_
  refine AW.region ?_
  refine AOps.step rfl rfl rfl (OpQ.spec (sp_lss rfl (.inl rfl) (.inl rfl)) _) ?_
  refine AOps.nil ?_
  refine hK5 _ ?_
  refine AW.seq_w fun K6 hK6 wK6 => ?_
  refine AW.cond rfl (fun hc1 => ?_) (fun hc1 => ?_)
  · have h3 := ite_t hc1 h2
    refine AW.skip ?_
    refine hK6 _ ?_
    refine AW.seq_w fun K7 hK7 wK7 => ?_
    refine AW.block ?_
    refine AW.seq_w fun K8 hK8 wK8 => ?_
    refine AW.region ?_
    refine AOps.step rfl rfl rfl (OpQ.spec (sp_move rfl (.inl rfl)) _) ?_
    refine AOps.step rfl rfl rfl (OpQ.spec (sp_assign rfl (.inl rfl)) _) ?_
    refine AOps.nil ?_
    refine hK8 _ ?_
    refine AW.seq_w fun K9 hK9 wK9 => ?_
    refine AW.seq_w fun K10 hK10 wK10 => ?_
    refine AW.region ?_
    refine AOps.step rfl rfl rfl (OpQ.spec (sp_move rfl (.inl rfl)) _) ?_
    refine AOps.step rfl rfl rfl (OpQ.spec (sp_move rfl (.inl rfl)) _) ?_
    refine ob1k h3 fun x4 ex4 h4 => ?_
    refine AOps.step rfl rfl rfl (OpQ.spec (ms_idx rfl tg_30.slice (.inl rfl) (.inl rfl) (fun _ => rfl) (fun _ => ex4)) _) ?_
    refine AOps.step rfl rfl rfl (OpQ.spec (sp_fieldAddr_ro rfl tf_63_0 (.inl rfl)) _) ?_
    refine AOps.step rfl rfl rfl (OpQ.spec (ms_load (d := .str x4.Name) rfl ts_9 (.inl rfl) rfl) _) ?_
    refine ob1k h4 fun r1 er1 h5 => ?_
    refine AOps.step rfl rfl rfl (sp_call (r := .r (.bool r1)) (caps := []) (bs := [.r (.str x4.Name)]) rfl (.inl rfl) rfl ⟨⟨_, (.inl rfl), .d rfl⟩, trivial⟩ (fun _ => w_ref_Name (er1)) rfl) ?_
    refine AOps.step rfl rfl rfl (OpQ.spec (sp_not rfl (.inl rfl)) _) ?_
    refine AOps.nil ?_
    refine hK10 _ ?_
    refine AW.cond rfl (fun hc2 => ?_) (fun hc2 => ?_)
    · have h6 := ite_t hc2 h5
      refine AW.seq_w fun K11 hK11 wK11 => ?_
      refine AW.weak (s' := ⟨[], [], (i3 0), 54⟩) (by exact Weak.cv trivial trivial (Nat.le_refl _)) ?_
      refine AW.region ?_
      refine AOps.step rfl rfl rfl (OpQ.spec (sp_assign rfl (.inl rfl)) _) ?_
      refine AOps.nil ?_
      refine hK11 _ ?_
      refine AW.ret ?_
      exact retf1 (P := Tryd.prog) (fun (r : Int) => .r (.int .i64 r)) (he1 _ (hx1 _ (Option.some.inj h6).symm)) (.inl rfl) (.t (.d rfl))
    · have h6 := ite_f hc2 h5
      refine AW.skip ?_
      refine hK9 _ ?_
      refine AW.seq_w fun K12 hK12 wK12 => ?_
      refine AW.seq_w fun K13 hK13 wK13 => ?_
      refine AW.weak (s' := ⟨[(0, .r (.sl (l1.map GAttr.row))), (1, .r (.bool change1)), (5, .r (.int .i64 x2)), (7, .r (.int .i64 (l1.length : Int))), (8, .r (.int .i64 x2))], [], (i3 0), 54⟩) (by exact Weak.cv ⟨.inl (.inl rfl), .inl (.inl rfl), .inl (.inl rfl), .inl (.inl rfl), .inl (.inl rfl), trivial⟩ trivial (Nat.le_refl _)) ?_
      refine AW.region ?_
      refine AOps.step rfl rfl rfl (OpQ.spec (sp_move rfl (.inl rfl)) _) ?_
      refine AOps.step rfl rfl rfl (OpQ.spec (sp_move rfl (.inl rfl)) _) ?_
      refine AOps.step rfl rfl rfl (OpQ.spec (ms_idx rfl tg_30.slice (.inl rfl) (.inl rfl) (fun _ => rfl) (fun _ => ex4)) _) ?_
      refine AOps.step rfl rfl rfl (OpQ.spec (sp_fieldAddr_ro rfl tf_63_1 (.inl rfl)) _) ?_
      refine AOps.step rfl rfl rfl (OpQ.spec (ms_load (d := .str x4.Value) rfl ts_9 (.inl rfl) rfl) _) ?_
      refine ob1k h6 fun r2 er2 h7 => ?_
      refine AOps.step rfl rfl rfl (sp_call (r := .r (.bool r2)) (caps := []) (bs := [.r (.str x4.Value)]) rfl (.inl rfl) rfl ⟨⟨_, (.inl rfl), .d rfl⟩, trivial⟩ (fun _ => w_ref_Value (er2)) rfl) ?_
      refine AOps.step rfl rfl rfl (OpQ.spec (sp_not rfl (.inl rfl)) _) ?_
      refine AOps.step rfl rfl rfl (OpQ.spec (sp_move rfl (.inl rfl)) _) ?_
      refine AOps.stepW (.one rfl rfl rfl) rfl rfl (OpQ.spec (sp_move rfl (.inl rfl)) _) ?_
      refine AOps.stepW (.one rfl rfl rfl) rfl rfl (OpQ.spec (sp_move rfl (.inl rfl)) _) ?_
      refine AOps.stepW (.one rfl rfl rfl) rfl rfl (OpQ.spec (ms_idx rfl tg_30.slice (.inr ⟨_, (by exact id), rfl⟩) (.inr ⟨_, (by exact id), rfl⟩) (fun _ => rfl) (fun _ => ex4)) _) ?_
      refine AOps.stepW (.one rfl rfl rfl) rfl rfl (OpQ.spec (sp_fieldAddr_ro rfl tf_63_1 (.inr ⟨_, (by exact id), rfl⟩)) _) ?_
      refine AOps.stepW (.one rfl rfl rfl) rfl rfl (OpQ.spec (ms_load (d := .str x4.Value) rfl ts_9 (.inr ⟨_, (by exact id), rfl⟩) rfl) _) ?_
      refine AOps.stepW (.one rfl rfl rfl) rfl rfl (OpQ.spec (sp_sneq rfl (.inr ⟨_, (by exact id), rfl⟩) (.inl rfl)) _) ?_
      refine AOps.stepW (.one rfl rfl rfl) rfl rfl (OpQ.spec (sp_move rfl (.inr ⟨_, (by exact id), rfl⟩)) _) ?_
      refine AOps.stepW (.two rfl rfl rfl) rfl rfl (OpQ.spec (sp_move rfl (.inl rfl)) _) ?_
      refine AOps.stepW (.two rfl rfl rfl) rfl rfl (OpQ.spec (sp_not rfl (.inr ⟨_, (by exact id), rfl⟩)) _) ?_
      refine AOps.stepW (.one rfl rfl rfl) rfl rfl (OpQ.spec (sp_or rfl (.inr ⟨_, (by exact id), rfl⟩) (.inr ⟨_, (by exact id), rfl⟩)) _) ?_
      refine AOps.step rfl rfl rfl (OpQ.spec (sp_and rfl (.inl rfl) (.inr ⟨_, (by exact id), rfl⟩)) _) ?_
      refine AOps.nil ?_
      refine hK13 _ ?_
      refine AW.cond rfl (fun hc3 => ?_) (fun hc3 => ?_)
      · have h8 := ite_t hc3 h7
        refine AW.seq_w fun K14 hK14 wK14 => ?_
        refine AW.weak (s' := ⟨[], [], (i3 0), 54⟩) (by exact Weak.cv trivial trivial (Nat.le_refl _)) ?_
        refine AW.region ?_
        refine AOps.step rfl rfl rfl (OpQ.spec (sp_assign rfl (.inl rfl)) _) ?_
        refine AOps.nil ?_
        refine hK14 _ ?_
        refine AW.ret ?_
        exact retf1 (P := Tryd.prog) (fun (r : Int) => .r (.int .i64 r)) (he1 _ (hx1 _ (Option.some.inj h8).symm)) (.inl rfl) (.t (.d rfl))
      · have h8 := ite_f hc3 h7
        refine AW.skip ?_
        refine hK12 _ ?_
        refine AW.seq_w fun K15 hK15 wK15 => ?_
        refine AW.weak (s' := ⟨[(0, .r (.sl (l1.map GAttr.row))), (1, .r (.bool change1)), (5, .r (.int .i64 x2)), (7, .r (.int .i64 (l1.length : Int))), (8, .r (.int .i64 x2))], [], (i3 0), 54⟩) (by exact Weak.cv ⟨.inl (.inl rfl), .inl (.inl rfl), .inl (.inl rfl), .inl (.inl rfl), .inl (.inl rfl), trivial⟩ trivial (Nat.le_refl _)) ?_
        refine AW.regionQ hmix (by kernel_rfl) ?_
        refine AQ.step rfl rfl rfl (sp_move rfl (.inl rfl)) ?_
        refine AQ.step rfl rfl rfl (sp_gtr rfl (.inl rfl) (.inl rfl)) ?_
        refine AQ.step rfl rfl rfl (sp_move rfl (.inl rfl)) ?_
        refine AQ.stepW (.one rfl rfl rfl) rfl rfl (sp_move rfl (.inl rfl)) ?_
        refine AQ.stepW (.one rfl rfl rfl) rfl rfl (sp_move rfl (.inl rfl)) ?_
        refine ob1k h8 fun x5 ex5 h9 => ?_
        refine AQ.stepW (.one rfl rfl rfl) rfl rfl (ms_sub rfl (.inr ⟨_, (by exact id), rfl⟩) (.inl rfl) (gdt ex5)) ?_
        refine ob1k h9 fun x6 ex6 h10 => ?_
        refine AQ.stepW (.one rfl rfl rfl) rfl rfl (ms_idx rfl tg_30.slice (.inr ⟨_, (by exact id), rfl⟩) (.inr ⟨_, (by exact id), rfl⟩) (fun _ => rfl) (gdt ex6)) ?_
        refine AQ.stepW (.one rfl rfl rfl) rfl rfl (sp_fieldAddr_ro rfl tf_63_0 (.inr ⟨_, (by exact id), rfl⟩)) ?_
        refine AQ.stepW (.one rfl rfl rfl) rfl rfl (ms_load (d := .str x6.Name) rfl ts_9 (.inr ⟨_, (by exact id), rfl⟩) rfl) ?_
        refine AQ.stepW (.one rfl rfl rfl) rfl rfl (sp_move rfl (.inl rfl)) ?_
        refine AQ.stepW (.one rfl rfl rfl) rfl rfl (sp_move rfl (.inl rfl)) ?_
        refine AQ.stepW (.one rfl rfl rfl) rfl rfl (ms_idx rfl tg_30.slice (.inr ⟨_, (by exact id), rfl⟩) (.inr ⟨_, (by exact id), rfl⟩) (fun _ => rfl) (fun _ => ex4)) ?_
        refine AQ.stepW (.one rfl rfl rfl) rfl rfl (sp_fieldAddr_ro rfl tf_63_0 (.inr ⟨_, (by exact id), rfl⟩)) ?_
        refine AQ.stepW (.one rfl rfl rfl) rfl rfl (ms_load (d := .str x4.Name) rfl ts_9 (.inr ⟨_, (by exact id), rfl⟩) rfl) ?_
        refine AQ.stepW (.one rfl rfl rfl) rfl rfl (sp_sgeq rfl (.inr ⟨_, (by exact id), rfl⟩) (.inr ⟨_, (by exact id), rfl⟩)) ?_
        refine AQ.step rfl rfl rfl (sp_and rfl (.inl rfl) (.inr ⟨_, (by exact id), rfl⟩)) ?_
        refine AQ.nil ?_
        refine hK15 _ ?_
        refine AW.cond rfl (fun hc4 => ?_) (fun hc4 => ?_)
        · have h11 := ite_t hc4 h10
          refine AW.seq_w fun K16 hK16 wK16 => ?_
          refine AW.weak (s' := ⟨[], [], (i3 0), 54⟩) (by exact Weak.cv trivial trivial (Nat.le_refl _)) ?_
          refine AW.region ?_
          refine AOps.step rfl rfl rfl (OpQ.spec (sp_assign rfl (.inl rfl)) _) ?_
          refine AOps.nil ?_
          refine hK16 _ ?_
          refine AW.ret ?_
          exact retf1 (P := Tryd.prog) (fun (r : Int) => .r (.int .i64 r)) (he1 _ (hx1 _ (Option.some.inj h11).symm)) (.inl rfl) (.t (.d rfl))
        · have h11 := ite_f hc4 h10
          refine AW.skip ?_
          refine hK7 _ ?_
          refine AW.region ?_
          refine ob1k h11 fun x7 ex7 h12 => ?_
          refine AOps.step rfl rfl rfl (OpQ.spec (ms_add rfl (.inl rfl) (.inl rfl) (fun _ => ex7)) _) ?_
          refine AOps.step rfl rfl rfl (OpQ.spec (sp_move rfl (.inl rfl)) _) ?_
          refine AOps.nil ?_
          exact NextQ1.mk h12 (vec [(i3 0)]) ((by exact Weak.cv ⟨.inl (.inl rfl), .inl (.inl rfl), .inl (.inl rfl), .inl (.inl rfl), trivial⟩ trivial (Nat.le_refl _)))
  · have h3 := ite_f hc1 h2
    refine AW.exit ?_
    exact wK2 _ _ ((by exact Weak.cv trivial trivial (Nat.le_refl _))) (J1 _ (vec [(i3 0)]) (hx1 _ (Option.some.inj h3).symm))
set_option maxHeartbeats 4000000 in
set_option maxRecDepth 20000 in
theorem w_ref_ElemError {x1 : GElem} {r : Int} (h : ref_ElemError x1 = some r) : ARO Tryd.prog 28 [.agg [.r (.int .i64 x1.Char), .r (.int .i64 x1.Ref), .r (.sl (x1.Attrs.map GAttr.row))]] (.r (.int .i64 r)) := by
  unfold ref_ElemError at h
  refine ARO.mkF Tryd.func28 rfl rfl Tryd.ntmps28 rfl (Nat.le_of_ble_eq_true rfl) fun n0 => ?_
  refine AW.seq_w fun K1 hK1 wK1 => ?_
  refine AW.region ?_
  refine AOps.step rfl rfl rfl (ms_box (cs := [.r (.int .i64 x1.Char), .r (.int .i64 x1.Ref), .r (.sl (x1.Attrs.map GAttr.row))]) 1 rfl (.inl rfl) rfl rfl) ?_
  refine AOps.step rfl rfl rfl (OpQ.spec (sp_assign rfl (.inl rfl)) _) ?_
  refine AOps.nil ?_
  refine hK1 _ ?_
  refine AW.seq_w fun K2 hK2 wK2 => ?_
  refine AW.seq_w fun K3 hK3 wK3 => ?_
  refine AW.region ?_
  refine AOps.step rfl rfl rfl (OpQ.spec (sp_fieldAddr_own (ob := .box _ _ _) rfl tf_32_0 (.inl rfl) (fun _ => rfl) rfl) _) ?_
  refine AOps.step rfl rfl rfl (OpQ.spec (ms_load_box (a := .r (.int .i64 x1.Char)) rfl ts_3 (.inl rfl) rfl rfl) _) ?_
  refine AOps.step rfl rfl rfl (OpQ.spec (sp_eql rfl (.inl rfl) (.inl rfl)) _) ?_
  refine AOps.step rfl rfl rfl (OpQ.spec (sp_move rfl (.inl rfl)) _) ?_
  refine AOps.stepW (.one rfl rfl rfl) rfl rfl (OpQ.spec (sp_fieldAddr_own (ob := .box _ _ _) rfl tf_32_1 (.inl rfl) (fun _ => rfl) rfl) _) ?_
  refine AOps.stepW (.one rfl rfl rfl) rfl rfl (OpQ.spec (ms_load_box (a := .r (.int .i64 x1.Ref)) rfl ts_3 (.inr ⟨_, (by exact id), rfl⟩) rfl rfl) _) ?_
  refine AOps.stepW (.one rfl rfl rfl) rfl rfl (OpQ.spec (sp_eql rfl (.inr ⟨_, (by exact id), rfl⟩) (.inl rfl)) _) ?_
  refine AOps.step rfl rfl rfl (OpQ.spec (sp_and rfl (.inl rfl) (.inr ⟨_, (by exact id), rfl⟩)) _) ?_
  refine AOps.step rfl rfl rfl (OpQ.spec (sp_move rfl (.inl rfl)) _) ?_
  refine AOps.stepW (.one rfl rfl rfl) rfl rfl (OpQ.spec (sp_fieldAddr_own (ob := .box _ _ _) rfl tf_32_0 (.inl rfl) (fun _ => rfl) rfl) _) ?_
  refine AOps.stepW (.one rfl rfl rfl) rfl rfl (OpQ.spec (ms_load_box (a := .r (.int .i64 x1.Char)) rfl ts_3 (.inr ⟨_, (by exact id), rfl⟩) rfl rfl) _) ?_
  refine AOps.stepW (.one rfl rfl rfl) rfl rfl (OpQ.spec (sp_neq rfl (.inr ⟨_, (by exact id), rfl⟩) (.inl rfl)) _) ?_
  refine AOps.stepW (.one rfl rfl rfl) rfl rfl (OpQ.spec (sp_move rfl (.inr ⟨_, (by exact id), rfl⟩)) _) ?_
  refine AOps.stepW (.two rfl rfl rfl) rfl rfl (OpQ.spec (sp_fieldAddr_own (ob := .box _ _ _) rfl tf_32_1 (.inl rfl) (fun _ => rfl) rfl) _) ?_
  refine AOps.stepW (.two rfl rfl rfl) rfl rfl (OpQ.spec (ms_load_box (a := .r (.int .i64 x1.Ref)) rfl ts_3 (.inr ⟨_, (by exact id), rfl⟩) rfl rfl) _) ?_
  refine AOps.stepW (.two rfl rfl rfl) rfl rfl (OpQ.spec (sp_neq rfl (.inr ⟨_, (by exact id), rfl⟩) (.inl rfl)) _) ?_
  refine AOps.stepW (.one rfl rfl rfl) rfl rfl (OpQ.spec (sp_and rfl (.inr ⟨_, (by exact id), rfl⟩) (.inr ⟨_, (by exact id), rfl⟩)) _) ?_
  refine AOps.step rfl rfl rfl (OpQ.spec (sp_or rfl (.inl rfl) (.inr ⟨_, (by exact id), rfl⟩)) _) ?_
  refine AOps.nil ?_
  refine hK3 _ ?_
  refine AW.cond rfl (fun hc1 => ?_) (fun hc1 => ?_)
  · have h1 := ite_t hc1 h
    refine AW.seq_w fun K4 hK4 wK4 => ?_
    refine AW.weak (s' := ⟨[], [], (n0 + 1), 44⟩) (by exact Weak.cv trivial trivial (Nat.le_refl _)) ?_
    refine AW.region ?_
    refine AOps.step rfl rfl rfl (OpQ.spec (sp_assign rfl (.inl rfl)) _) ?_
    refine AOps.nil ?_
    refine hK4 _ ?_
    refine AW.ret ?_
    exact retf1 (P := Tryd.prog) (fun (r : Int) => .r (.int .i64 r)) h1 (.inl rfl) (.t (.d rfl))
  · have h1 := ite_f hc1 h
    refine AW.skip ?_
    refine hK2 _ ?_
    refine AW.seq_w fun K5 hK5 wK5 => ?_
    refine AW.seq_w fun K6 hK6 wK6 => ?_
    refine AW.weak (s' := ⟨[(1, .ptr 1 n0 0 0)], [(1, some (.box n0 32 [.r (.int .i64 x1.Char), .r (.int .i64 x1.Ref), .r (.sl (x1.Attrs.map GAttr.row))]))], (n0 + 1), 44⟩) (by exact Weak.cv ⟨.inl (.inl rfl), trivial⟩ ⟨.inl rfl, trivial⟩ (Nat.le_refl _)) ?_
    refine AW.region ?_
    refine AOps.step rfl rfl rfl (OpQ.spec (sp_fieldAddr_own (ob := .box _ _ _) rfl tf_32_0 (.inl rfl) (fun _ => rfl) rfl) _) ?_
    refine AOps.step rfl rfl rfl (OpQ.spec (ms_load_box (a := .r (.int .i64 x1.Char)) rfl ts_3 (.inl rfl) rfl rfl) _) ?_
    refine AOps.step rfl rfl rfl (OpQ.spec (sp_neq rfl (.inl rfl) (.inl rfl)) _) ?_
    refine AOps.step rfl rfl rfl (OpQ.spec (sp_move rfl (.inl rfl)) _) ?_
    refine AOps.stepW (.one rfl rfl rfl) rfl rfl (OpQ.spec (sp_fieldAddr_own (ob := .box _ _ _) rfl tf_32_0 (.inl rfl) (fun _ => rfl) rfl) _) ?_
    refine AOps.stepW (.one rfl rfl rfl) rfl rfl (OpQ.spec (ms_load_box (a := .r (.int .i64 x1.Char)) rfl ts_3 (.inr ⟨_, (by exact id), rfl⟩) rfl rfl) _) ?_
    refine ob1k h1 fun r1 er1 h2 => ?_
    refine AOps.stepW (.one rfl rfl rfl) rfl rfl (sp_call (r := .r (.bool r1)) (caps := []) (bs := [.r (.int .i64 x1.Char)]) rfl (.inl rfl) rfl ⟨⟨_, (.inr ⟨_, (by exact id), rfl⟩), .d rfl⟩, trivial⟩ (fun hg => w_ref_Char (gdt er1 hg)) rfl) ?_
    refine AOps.stepW (.one rfl rfl rfl) rfl rfl (OpQ.spec (sp_not rfl (.inr ⟨_, (by exact id), rfl⟩)) _) ?_
    refine AOps.step rfl rfl rfl (OpQ.spec (sp_and rfl (.inl rfl) (.inr ⟨_, (by exact id), rfl⟩)) _) ?_
    refine AOps.step rfl rfl rfl (OpQ.spec (sp_move rfl (.inl rfl)) _) ?_
    refine AOps.stepW (.one rfl rfl rfl) rfl rfl (OpQ.spec (sp_fieldAddr_own (ob := .box _ _ _) rfl tf_32_1 (.inl rfl) (fun _ => rfl) rfl) _) ?_
    refine AOps.stepW (.one rfl rfl rfl) rfl rfl (OpQ.spec (ms_load_box (a := .r (.int .i64 x1.Ref)) rfl ts_3 (.inr ⟨_, (by exact id), rfl⟩) rfl rfl) _) ?_
    refine AOps.stepW (.one rfl rfl rfl) rfl rfl (OpQ.spec (sp_neq rfl (.inr ⟨_, (by exact id), rfl⟩) (.inl rfl)) _) ?_
    refine AOps.stepW (.one rfl rfl rfl) rfl rfl (OpQ.spec (sp_move rfl (.inr ⟨_, (by exact id), rfl⟩)) _) ?_
    refine AOps.stepW (.two rfl rfl rfl) rfl rfl (OpQ.spec (sp_fieldAddr_own (ob := .box _ _ _) rfl tf_32_1 (.inl rfl) (fun _ => rfl) rfl) _) ?_
    refine AOps.stepW (.two rfl rfl rfl) rfl rfl (OpQ.spec (ms_load_box (a := .r (.int .i64 x1.Ref)) rfl ts_3 (.inr ⟨_, (by exact id), rfl⟩) rfl rfl) _) ?_
    refine ob1k h2 fun r2 er2 h3 => ?_
    refine AOps.stepW (.two rfl rfl rfl) rfl rfl (sp_call (r := .r (.bool r2)) (caps := []) (bs := [.r (.int .i64 x1.Ref), .r (.int .i64 1), .r (.int .i64 1073741824)]) rfl (.inl rfl) rfl ⟨⟨_, (.inr ⟨_, (by exact id), rfl⟩), .d rfl⟩, ⟨_, (.inl rfl), .d rfl⟩, ⟨_, (.inl rfl), .d rfl⟩, trivial⟩ (fun hg => w_ref_In (gdt er2 hg)) rfl) ?_
    refine AOps.stepW (.two rfl rfl rfl) rfl rfl (OpQ.spec (sp_not rfl (.inr ⟨_, (by exact id), rfl⟩)) _) ?_
    refine AOps.stepW (.one rfl rfl rfl) rfl rfl (OpQ.spec (sp_and rfl (.inr ⟨_, (by exact id), rfl⟩) (.inr ⟨_, (by exact id), rfl⟩)) _) ?_
    refine AOps.step rfl rfl rfl (OpQ.spec (sp_or rfl (.inl rfl) (.inr ⟨_, (by exact id), rfl⟩)) _) ?_
    refine AOps.nil ?_
    refine hK6 _ ?_
    refine AW.cond rfl (fun hc2 => ?_) (fun hc2 => ?_)
    · have h4 := ite_t hc2 h3
      refine AW.seq_w fun K7 hK7 wK7 => ?_
      refine AW.weak (s' := ⟨[], [], (n0 + 1), 44⟩) (by exact Weak.cv trivial trivial (Nat.le_refl _)) ?_
      refine AW.region ?_
      refine AOps.step rfl rfl rfl (OpQ.spec (sp_assign rfl (.inl rfl)) _) ?_
      refine AOps.nil ?_
      refine hK7 _ ?_
      refine AW.ret ?_
      exact retf1 (P := Tryd.prog) (fun (r : Int) => .r (.int .i64 r)) h4 (.inl rfl) (.t (.d rfl))
    · have h4 := ite_f hc2 h3
      refine AW.skip ?_
      refine hK5 _ ?_
      refine AW.seq_w fun K8 hK8 wK8 => ?_
      refine AW.weak (s' := ⟨[(1, .ptr 1 n0 0 0)], [(1, some (.box n0 32 [.r (.int .i64 x1.Char), .r (.int .i64 x1.Ref), .r (.sl (x1.Attrs.map GAttr.row))]))], (n0 + 1), 44⟩) (by exact Weak.cv ⟨.inl (.inl rfl), trivial⟩ ⟨.inl rfl, trivial⟩ (Nat.le_refl _)) ?_
      refine AW.region ?_
      refine AOps.step rfl rfl rfl (OpQ.spec (sp_fieldAddr_own (ob := .box _ _ _) rfl tf_32_2 (.inl rfl) (fun _ => rfl) rfl) _) ?_
      refine AOps.step rfl rfl rfl (OpQ.spec (ms_load_box (a := .r (.sl (x1.Attrs.map GAttr.row))) rfl ts_30 (.inl rfl) rfl rfl) _) ?_
      refine ob1k h4 fun r3 er3 h5 => ?_
      refine AOps.step rfl rfl rfl (sp_call (r := .r (.int .i64 r3)) (caps := []) (bs := [.r (.sl (x1.Attrs.map GAttr.row)), .r (.bool false)]) rfl (.inl rfl) rfl ⟨⟨_, (.inl rfl), .d rfl⟩, ⟨_, (.inl rfl), .d rfl⟩, trivial⟩ (fun _ => w_ref_AttrsError (er3)) rfl) ?_
      refine AOps.step rfl rfl rfl (OpQ.spec (sp_assign rfl (.inl rfl)) _) ?_
      refine AOps.nil ?_
      refine hK8 _ ?_
      refine AW.ret ?_
      exact retf1 (P := Tryd.prog) (fun (r : Int) => .r (.int .i64 r)) h5 (.inl rfl) (.t (.d rfl))
set_option maxHeartbeats 4000000 in
set_option maxRecDepth 20000 in
theorem w_ref_PartError {f1 : List GElem} {r : Int} (h : ref_PartError f1 = some r) : ARO Tryd.prog 10 [.r (.sl (f1.map GElem.row))] (.r (.int .i64 r)) := by
  unfold ref_PartError at h
  refine ARO.mkF Tryd.func10 rfl rfl Tryd.ntmps10 rfl (Nat.le_of_ble_eq_true rfl) fun n0 => ?_
  refine AW.seq_w fun K1 hK1 wK1 => ?_
  refine AW.region ?_
  refine AOps.step rfl rfl rfl (OpQ.spec (sp_assign rfl (.inl rfl)) _) ?_
  refine AOps.nil ?_
  refine hK1 _ ?_
  refine AW.seq_w fun K2 hK2 wK2 => ?_
  refine AW.seq_w fun K3 hK3 wK3 => ?_
  refine AW.region ?_
  refine AOps.step rfl rfl rfl (OpQ.spec (sp_move rfl (.inl rfl)) _) ?_
  refine AOps.step rfl rfl rfl (OpQ.spec (ms_len rfl tg_22.slice (.inl rfl)) _) ?_
  refine AOps.step rfl rfl rfl (OpQ.spec (sp_move rfl (.inl rfl)) _) ?_
  refine AOps.nil ?_
  refine hK3 _ ?_
  refine AW.block ?_
  refine jc1k h fun o1 hit1 hk1 he1 => ?_
  have J1 : ∀ (u2 : Unit) (i5 : Nat → Nat), o1 = .nrm u2 → K2 ⟨[], [], (i5 0), 19⟩ := by
    intro u2 i5 e
    have h1 := hk1 _ e
    refine hK2 _ ?_
    refine AW.seq_w fun K4 hK4 wK4 => ?_
    refine AW.region ?_
    refine AOps.step rfl rfl rfl (OpQ.spec (sp_assign rfl (.inl rfl)) _) ?_
    refine AOps.nil ?_
    refine hK4 _ ?_
    refine AW.ret ?_
    exact retf1 (P := Tryd.prog) (fun (r : Int) => .r (.int .i64 r)) h1 (.inl rfl) (.t (.d rfl))
  refine AW.iter1 (fun (x2 : Int) i3 => ⟨[(0, .r (.sl (f1.map GElem.row))), (6, .r (.int .i64 (f1.length : Int))), (7, .r (.int .i64 x2))], [], (i3 0), 19⟩) (vec [n0]) hit1 ((by exact Weak.cv ⟨.inl (.inl rfl), .inl (.inl rfl), .inl (.inl rfl), trivial⟩ trivial (Nat.le_refl _))) ?_
  intro x2 i3 v1 hv1 hx1
  have h2 : ref_PartError_L1 f1 x2 = some v1 := hv1; unfold ref_PartError_L1 at h2
  refine AW.seq_w fun K5 hK5 wK5 => ?_
  refine AW.region ?_
  refine AOps.step rfl rfl rfl (OpQ.spec (sp_lss rfl (.inl rfl) (.inl rfl)) _) ?_
  refine AOps.nil ?_
  refine hK5 _ ?_
  refine AW.seq_w fun K6 hK6 wK6 => ?_
  refine AW.cond rfl (fun hc1 => ?_) (fun hc1 => ?_)
  · have h3 := ite_t hc1 h2
    refine AW.skip ?_
    refine hK6 _ ?_
    refine AW.seq_w fun K7 hK7 wK7 => ?_
    refine AW.block ?_
    refine AW.seq_w fun K8 hK8 wK8 => ?_
    refine AW.region ?_
    refine AOps.step rfl rfl rfl (OpQ.spec (sp_move rfl (.inl rfl)) _) ?_
    refine AOps.step rfl rfl rfl (OpQ.spec (sp_assign rfl (.inl rfl)) _) ?_
    refine AOps.nil ?_
    refine hK8 _ ?_
    refine AW.seq_w fun K9 hK9 wK9 => ?_
    refine AW.region ?_
    refine AOps.step rfl rfl rfl (OpQ.spec (sp_move rfl (.inl rfl)) _) ?_
    refine AOps.step rfl rfl rfl (OpQ.spec (sp_move rfl (.inl rfl)) _) ?_
    refine ob1k h3 fun x4 ex4 h4 => ?_
    refine AOps.step rfl rfl rfl (OpQ.spec (ms_idx rfl tg_22.slice (.inl rfl) (.inl rfl) (fun _ => rfl) (fun _ => ex4)) _) ?_
    refine AOps.step rfl rfl rfl (OpQ.spec (ms_loadA (cs := [.r (.int .i64 x4.Char), .r (.int .i64 x4.Ref), .r (.sl (x4.Attrs.map GAttr.row))]) rfl ta_32 (.inl rfl) rfl rfl) _) ?_
    refine ob1k h4 fun e1 ee1 h5 => ?_
    refine AOps.step rfl rfl rfl (sp_call (r := .r (.int .i64 e1)) (caps := []) (bs := [.agg [.r (.int .i64 x4.Char), .r (.int .i64 x4.Ref), .r (.sl (x4.Attrs.map GAttr.row))]]) rfl (.inl rfl) rfl ⟨⟨_, (.inl rfl), .g (cs := [.int .i64 x4.Char, .int .i64 x4.Ref, .sl (x4.Attrs.map GAttr.row)]) rfl rfl⟩, trivial⟩ (fun _ => w_ref_ElemError (ee1)) rfl) ?_
    refine AOps.step rfl rfl rfl (OpQ.spec (sp_assign rfl (.inl rfl)) _) ?_
    refine AOps.nil ?_
    refine hK9 _ ?_
    refine AW.seq_w fun K10 hK10 wK10 => ?_
    refine AW.region ?_
    refine AOps.step rfl rfl rfl (OpQ.spec (sp_move rfl (.inl rfl)) _) ?_
    refine AOps.step rfl rfl rfl (OpQ.spec (sp_neq rfl (.inl rfl) (.inl rfl)) _) ?_
    refine AOps.nil ?_
    refine hK10 _ ?_
    refine AW.cond rfl (fun hc2 => ?_) (fun hc2 => ?_)
    · have h6 := ite_t hc2 h5
      refine AW.seq_w fun K11 hK11 wK11 => ?_
      refine AW.weak (s' := ⟨[(4, .r (.int .i64 e1))], [], (i3 0), 19⟩) (by exact Weak.cv ⟨.inl (.inl rfl), trivial⟩ trivial (Nat.le_refl _)) ?_
      refine AW.region ?_
      refine AOps.step rfl rfl rfl (OpQ.spec (sp_move rfl (.inl rfl)) _) ?_
      refine AOps.step rfl rfl rfl (OpQ.spec (sp_assign rfl (.inl rfl)) _) ?_
      refine AOps.nil ?_
      refine hK11 _ ?_
      refine AW.ret ?_
      exact retf1 (P := Tryd.prog) (fun (r : Int) => .r (.int .i64 r)) (he1 _ (hx1 _ (Option.some.inj h6).symm)) (.inl rfl) (.t (.d rfl))
    · have h6 := ite_f hc2 h5
      refine AW.skip ?_
      refine hK7 _ ?_
      refine AW.weak (s' := ⟨[(0, .r (.sl (f1.map GElem.row))), (6, .r (.int .i64 (f1.length : Int))), (7, .r (.int .i64 x2))], [], (i3 0), 19⟩) (by exact Weak.cv ⟨.inl (.inl rfl), .inl (.inl rfl), .inl (.inl rfl), trivial⟩ trivial (Nat.le_refl _)) ?_
      refine AW.region ?_
      refine ob1k h6 fun x5 ex5 h7 => ?_
      refine AOps.step rfl rfl rfl (OpQ.spec (ms_add rfl (.inl rfl) (.inl rfl) (fun _ => ex5)) _) ?_
      refine AOps.step rfl rfl rfl (OpQ.spec (sp_move rfl (.inl rfl)) _) ?_
      refine AOps.nil ?_
      exact NextQ1.mk h7 (vec [(i3 0)]) ((by exact Weak.cv ⟨.inl (.inl rfl), .inl (.inl rfl), .inl (.inl rfl), trivial⟩ trivial (Nat.le_refl _)))
  · have h3 := ite_f hc1 h2
    refine AW.exit ?_
    exact wK2 _ _ ((by exact Weak.cv trivial trivial (Nat.le_refl _))) (J1 _ (vec [(i3 0)]) (hx1 _ (Option.some.inj h3).symm))
set_option maxHeartbeats 4000000 in
set_option maxRecDepth 20000 in
theorem w_ref_Utf8 {f1 : List GElem} {object1 : Int} {r : (List UInt8)} (h : ref_Utf8 f1 object1 = some r) : ARO Tryd.prog 19 [.r (.sl (f1.map GElem.row)), .r (.int .i64 object1)] (.r (.str r)) := by
  unfold ref_Utf8 at h
  refine ARO.mkF Tryd.func19 rfl rfl Tryd.ntmps19 rfl (Nat.le_of_ble_eq_true rfl) fun n0 => ?_
  refine AW.seq_w fun K1 hK1 wK1 => ?_
  refine AW.region ?_
  refine AOps.step rfl rfl rfl (OpQ.spec (sp_assign rfl (.inl rfl)) _) ?_
  refine AOps.nil ?_
  refine hK1 _ ?_
  refine AW.seq_w fun K2 hK2 wK2 => ?_
  refine AW.region ?_
  refine AOps.step rfl rfl rfl (OpQ.spec (sp_assign rfl (.inl rfl)) _) ?_
  refine AOps.nil ?_
  refine hK2 _ ?_
  refine AW.seq_w fun K3 hK3 wK3 => ?_
  refine AW.seq_w fun K4 hK4 wK4 => ?_
  refine AW.region ?_
  refine AOps.step rfl rfl rfl (OpQ.spec (sp_move rfl (.inl rfl)) _) ?_
  refine AOps.step rfl rfl rfl (OpQ.spec (ms_len rfl tg_22.slice (.inl rfl)) _) ?_
  refine AOps.step rfl rfl rfl (OpQ.spec (sp_move rfl (.inl rfl)) _) ?_
  refine AOps.nil ?_
  refine hK4 _ ?_
  refine AW.block ?_
  refine jb1k h fun o1 hit1 hk1 => ?_
  have J1 : ∀ (b4 : List Int) (i5 : Nat → Nat), o1 = b4 → K3 ⟨[(5, .own 5005 (i5 0))], [(5005, some (.arr (i5 0) 5 1 (b4.map (rInt .u8))))], (i5 1), 34⟩ := by
    intro b4 i5 e
    have h1 := hk1 _ e
    refine hK3 _ ?_
    refine AW.seq_w fun K5 hK5 wK5 => ?_
    refine AW.region ?_
    refine AOps.step rfl rfl rfl (OpQ.spec (sp_move rfl (.inl rfl)) _) ?_
    refine AOps.step rfl rfl rfl (ms_str (ys := b4) rfl Tryd.underlying53 Tryd.underlying5 Tryd.underlying9 (.inr (.inl ⟨_, _, (.inl rfl), rfl⟩))) ?_
    refine AOps.step rfl rfl rfl (OpQ.spec (sp_assign rfl (.inl rfl)) _) ?_
    refine AOps.nil ?_
    refine hK5 _ ?_
    refine AW.ret ?_
    exact retf1 (P := Tryd.prog) (fun (r : (List UInt8)) => .r (.str r)) h1 (.inl rfl) (.t (.d rfl))
  refine AW.iter2 (fun (x2 : Int) (b2 : List Int) i3 => ⟨[(0, .r (.sl (f1.map GElem.row))), (1, .r (.int .i64 object1)), (5, .own 5005 (i3 0)), (9, .r (.int .i64 (f1.length : Int))), (10, .r (.int .i64 x2))], [(5005, some (.arr (i3 0) 5 1 (b2.map (rInt .u8))))], (i3 1), 34⟩) (vec [n0, (n0 + 1)]) hit1 (Weak.trans (Weak.trans (Weak.adopt 5 5005 5 1 (by decide) rfl) (by exact Weak.cv (e' := [(0, .r (.sl (f1.map GElem.row))), (1, .r (.int .i64 object1)), (4, .r (.str [])), (5, .own 5005 n0), (8, .r (.sl (f1.map GElem.row))), (9, .r (.int .i64 (f1.length : Int))), (10, .r (.int .i64 0))]) (h' := [(5005, some (.arr n0 5 1 (([] : List Int).map (rInt .u8))))]) ⟨.inl (.inl rfl), .inl (.inl rfl), .inl (.inl rfl), .inl (.inl rfl), .inl (.inl rfl), .inl (.inl rfl), .inl (.inl rfl), trivial⟩ ⟨.inl rfl, trivial⟩ (Nat.le_refl _))) (by exact Weak.cv ⟨.inl (.inl rfl), .inl (.inl rfl), .inl (.inl rfl), .inl (.inl rfl), .inl (.inl rfl), trivial⟩ ⟨.inl rfl, trivial⟩ (Nat.le_refl _))) ?_
  intro x2 b2 i3 v1 hv1 hx1
  have h2 : ref_Utf8_L1 f1 object1 x2 b2 = some v1 := hv1; unfold ref_Utf8_L1 at h2
  refine AW.seq_w fun K6 hK6 wK6 => ?_
  refine AW.region ?_
  refine AOps.step rfl rfl rfl (OpQ.spec (sp_lss rfl (.inl rfl) (.inl rfl)) _) ?_
  refine AOps.nil ?_
  refine hK6 _ ?_
  refine AW.seq_w fun K7 hK7 wK7 => ?_
  refine AW.cond rfl (fun hc1 => ?_) (fun hc1 => ?_)
  · have h3 := ite_t hc1 h2
    refine AW.skip ?_
    refine hK7 _ ?_
    refine AW.seq_w fun K8 hK8 wK8 => ?_
    refine AW.block ?_
    refine jb1k h3 fun p1 hp1 hk2 => ?_
    have J2 : ∀ (b5 : List Int) (i6 : Nat → Nat), p1 = b5 → K8 ⟨[(0, .r (.sl (f1.map GElem.row))), (1, .r (.int .i64 object1)), (5, .own 5005 (i6 0)), (9, .r (.int .i64 (f1.length : Int))), (10, .r (.int .i64 x2))], [(5005, some (.arr (i6 0) 5 1 (b5.map (rInt .u8))))], (i6 1), 34⟩ := by
      intro b5 i6 e
      have h4 := hk2 _ e
      refine hK8 _ ?_
      refine AW.region ?_
      refine ob1k h4 fun x4 ex4 h5 => ?_
      refine AOps.step rfl rfl rfl (OpQ.spec (ms_add rfl (.inl rfl) (.inl rfl) (fun _ => ex4)) _) ?_
      refine AOps.step rfl rfl rfl (OpQ.spec (sp_move rfl (.inl rfl)) _) ?_
      refine AOps.nil ?_
      exact NextQ2.mk h5 (vec [(i6 0), (i6 1)]) ((by exact Weak.cv ⟨.inl (.inl rfl), .inl (.inl rfl), .inl (.inl rfl), .inl (.inl rfl), .inl (.inl rfl), trivial⟩ ⟨.inl rfl, trivial⟩ (Nat.le_refl _)))
    refine AW.seq_w fun K9 hK9 wK9 => ?_
    refine AW.region ?_
    refine AOps.step rfl rfl rfl (OpQ.spec (sp_move rfl (.inl rfl)) _) ?_
    refine AOps.step rfl rfl rfl (OpQ.spec (sp_assign rfl (.inl rfl)) _) ?_
    refine AOps.nil ?_
    refine hK9 _ ?_
    refine AW.seq_w fun K10 hK10 wK10 => ?_
    refine AW.region ?_
    refine AOps.step rfl rfl rfl (OpQ.spec (sp_move rfl (.inl rfl)) _) ?_
    refine AOps.step rfl rfl rfl (OpQ.spec (sp_move rfl (.inl rfl)) _) ?_
    refine ob1k hp1 fun x5 ex5 h6 => ?_
    refine AOps.step rfl rfl rfl (OpQ.spec (ms_idx rfl tg_22.slice (.inl rfl) (.inl rfl) (fun _ => rfl) (fun _ => ex5)) _) ?_
    refine AOps.step rfl rfl rfl (OpQ.spec (sp_fieldAddr_ro rfl tf_32_0 (.inl rfl)) _) ?_
    refine AOps.step rfl rfl rfl (OpQ.spec (ms_load (d := .int .i64 x5.Char) rfl ts_3 (.inl rfl) rfl) _) ?_
    refine AOps.step rfl rfl rfl (OpQ.spec (sp_assign rfl (.inl rfl)) _) ?_
    refine AOps.nil ?_
    refine hK10 _ ?_
    refine AW.seq_w fun K11 hK11 wK11 => ?_
    refine AW.seq_w fun K12 hK12 wK12 => ?_
    refine AW.region ?_
    refine AOps.step rfl rfl rfl (OpQ.spec (sp_move rfl (.inl rfl)) _) ?_
    refine AOps.step rfl rfl rfl (OpQ.spec (sp_move rfl (.inl rfl)) _) ?_
    refine AOps.step rfl rfl rfl (OpQ.spec (ms_idx rfl tg_22.slice (.inl rfl) (.inl rfl) (fun _ => rfl) (fun _ => ex5)) _) ?_
    refine AOps.step rfl rfl rfl (OpQ.spec (sp_fieldAddr_ro rfl tf_32_1 (.inl rfl)) _) ?_
    refine AOps.step rfl rfl rfl (OpQ.spec (ms_load (d := .int .i64 x5.Ref) rfl ts_3 (.inl rfl) rfl) _) ?_
    refine AOps.step rfl rfl rfl (OpQ.spec (sp_neq rfl (.inl rfl) (.inl rfl)) _) ?_
    refine AOps.nil ?_
    refine hK12 _ ?_
    refine jb1k h6 fun p2 hp2 hk3 => ?_
    have J3 : ∀ (c1 : Int) (i7 : Nat → Nat), p2 = c1 → K11 ⟨[(0, .r (.sl (f1.map GElem.row))), (1, .r (.int .i64 object1)), (5, .own 5005 (i3 0)), (7, .r (.int .i64 c1)), (9, .r (.int .i64 (f1.length : Int))), (10, .r (.int .i64 x2))], [(5005, some (.arr (i3 0) 5 1 (b2.map (rInt .u8))))], (i7 0), 34⟩ := by
      intro c1 i7 e
      have h7 := hk3 _ e
      refine hK11 _ ?_
      refine AW.seq_w fun K13 hK13 wK13 => ?_
      refine AW.region ?_
      refine AOps.step rfl rfl rfl (OpQ.spec (sp_move rfl (.inl rfl)) _) ?_
      refine AOps.step rfl rfl rfl (OpQ.spec (sp_geq rfl (.inl rfl) (.inl rfl)) _) ?_
      refine AOps.nil ?_
      refine hK13 _ ?_
      refine AW.cond rfl (fun hc2 => ?_) (fun hc2 => ?_)
      · have h8 := ite_t hc2 h7
        refine AW.region ?_
        refine AOps.step rfl rfl rfl (OpQ.spec (sp_move rfl (.inl rfl)) _) ?_
        refine AOps.step rfl rfl rfl (OpQ.spec (sp_move rfl (.inl rfl)) _) ?_
        refine AOps.step rfl rfl rfl (OpQ.spec (sp_convert_int rfl Tryd.underlying3 Tryd.underlying21 (.inl rfl)) _) ?_
        refine ob1k h8 fun w1 ew1 h9 => ?_
        refine AOps.stepHI [5005] (hc := [(1000, some (.arr (i3 0) 5 1 (b2.map (rInt .u8))))]) (bs := [.own 1000 (i3 0), .r (.int .i32 (IntKind.i32.wrap c1))]) (caps := []) rfl rfl rfl rfl (.inl rfl) rfl ⟨.inl ⟨(.inl rfl), rfl⟩, .inl ⟨(.inl rfl), rfl⟩, trivial⟩ ⟨rfl, rfl, rfl, trivial⟩ (by decide) (w_unicode_utf8_AppendRune ew1) ?_
        intro i8 n1
        refine AOps.weak (s' := ⟨[(0, .r (.sl (f1.map GElem.row))), (1, .r (.int .i64 object1)), (7, .r (.int .i64 c1)), (9, .r (.int .i64 (f1.length : Int))), (10, .r (.int .i64 x2)), (25, .r (.int .i64 c1)), (26, .r (.bool (decide (0 ≤ c1)))), (28, .r (.int .i64 c1)), (29, .r (.int .i32 (IntKind.i32.wrap c1))), (30, .own 5005 (i8 0))], [(5005, some (.arr (i8 0) 5 1 (w1.map (rInt .u8))))], n1, 34⟩) (by exact Weak.cv ⟨.inl (.inl rfl), .inl (.inl rfl), .inl (.inl rfl), .inl (.inl rfl), .inl (.inl rfl), .inl (.inl rfl), .inl (.inl rfl), .inl (.inl rfl), .inl (.inl rfl), .inl (.inl rfl), trivial⟩ ⟨.inl rfl, trivial⟩ (Nat.le_refl _)) ?_
        refine AOps.step rfl rfl rfl (OpQ.spec (sp_assign rfl (.inl rfl)) _) ?_
        refine AOps.nil ?_
        exact wK8 _ _ ((by exact Weak.cv ⟨.inl (.inl rfl), .inl (.inl rfl), .inl (.inl rfl), .inl (.inl rfl), .inl (.inl rfl), trivial⟩ ⟨.inl rfl, trivial⟩ (Nat.le_refl _))) (J2 _ (vec [(i8 0), n1]) (Option.some.inj h9).symm)
      · have h8 := ite_f hc2 h7
        refine AW.skip ?_
        exact wK8 _ _ ((by exact Weak.cv ⟨.inl (.inl rfl), .inl (.inl rfl), .inl (.inl rfl), .inl (.inl rfl), .inl (.inl rfl), trivial⟩ ⟨.inl rfl, trivial⟩ (Nat.le_refl _))) (J2 _ (vec [(i3 0), (i7 0)]) (Option.some.inj h8).symm)
    refine AW.cond rfl (fun hc3 => ?_) (fun hc3 => ?_)
    · have h10 := ite_t hc3 hp2
      refine AW.weak (s' := ⟨[(0, .r (.sl (f1.map GElem.row))), (1, .r (.int .i64 object1)), (5, .own 5005 (i3 0)), (9, .r (.int .i64 (f1.length : Int))), (10, .r (.int .i64 x2))], [(5005, some (.arr (i3 0) 5 1 (b2.map (rInt .u8))))], (i3 1), 34⟩) (by exact Weak.cv ⟨.inl (.inl rfl), .inl (.inl rfl), .inl (.inl rfl), .inl (.inl rfl), .inl (.inl rfl), trivial⟩ ⟨.inl rfl, trivial⟩ (Nat.le_refl _)) ?_
      refine AW.region ?_
      refine AOps.step rfl rfl rfl (OpQ.spec (sp_move rfl (.inl rfl)) _) ?_
      refine AOps.step rfl rfl rfl (OpQ.spec (sp_assign rfl (.inl rfl)) _) ?_
      refine AOps.nil ?_
      exact wK11 _ _ ((by exact Weak.cv ⟨.inl (.inl rfl), .inl (.inl rfl), .inl (.inl rfl), .inl (.inl rfl), .inl (.inl rfl), .inl (.inl rfl), trivial⟩ ⟨.inl rfl, trivial⟩ (Nat.le_refl _))) (J3 _ (vec [(i3 1)]) (Option.some.inj h10).symm)
    · have h10 := ite_f hc3 hp2
      refine AW.skip ?_
      exact wK11 _ _ ((by exact Weak.cv ⟨.inl (.inl rfl), .inl (.inl rfl), .inl (.inl rfl), .inl (.inl rfl), .inl (.inl rfl), .inl (.inl rfl), trivial⟩ ⟨.inl rfl, trivial⟩ (Nat.le_refl _))) (J3 _ (vec [(i3 1)]) (Option.some.inj h10).symm)
  · have h3 := ite_f hc1 h2
    refine AW.exit ?_
    exact wK3 _ _ ((by exact Weak.cv ⟨.inl (.inl rfl), trivial⟩ ⟨.inl rfl, trivial⟩ (Nat.le_refl _))) (J1 _ (vec [(i3 0), (i3 1)]) (hx1 _ (Option.some.inj h3).symm))
set_option maxHeartbeats 4000000 in
set_option maxRecDepth 20000 in
theorem w_ref_SameElem {a1 : GElem} {b1 : GElem} {r : Bool} (h : ref_SameElem a1 b1 = some r) : ARO Tryd.prog 30 [.agg [.r (.int .i64 a1.Char), .r (.int .i64 a1.Ref), .r (.sl (a1.Attrs.map GAttr.row))], .agg [.r (.int .i64 b1.Char), .r (.int .i64 b1.Ref), .r (.sl (b1.Attrs.map GAttr.row))]] (.r (.bool r)) := by
  unfold ref_SameElem at h
  refine ARO.mkF Tryd.func30 rfl rfl Tryd.ntmps30 rfl (Nat.le_of_ble_eq_true rfl) fun n0 => ?_
  refine AW.seq_w fun K1 hK1 wK1 => ?_
  refine AW.region ?_
  refine AOps.step rfl rfl rfl (ms_box (cs := [.r (.int .i64 a1.Char), .r (.int .i64 a1.Ref), .r (.sl (a1.Attrs.map GAttr.row))]) 2 rfl (.inl rfl) rfl rfl) ?_
  refine AOps.step rfl rfl rfl (ms_box (cs := [.r (.int .i64 b1.Char), .r (.int .i64 b1.Ref), .r (.sl (b1.Attrs.map GAttr.row))]) 3 rfl (.inl rfl) rfl rfl) ?_
  refine AOps.step rfl rfl rfl (OpQ.spec (sp_assign rfl (.inl rfl)) _) ?_
  refine AOps.nil ?_
  refine hK1 _ ?_
  refine AW.seq_w fun K2 hK2 wK2 => ?_
  refine AW.region ?_
  refine AOps.step rfl rfl rfl (OpQ.spec (sp_fieldAddr_own (ob := .box _ _ _) rfl tf_32_0 (.inl rfl) (fun _ => rfl) rfl) _) ?_
  refine AOps.step rfl rfl rfl (OpQ.spec (ms_load_box (a := .r (.int .i64 a1.Char)) rfl ts_3 (.inl rfl) rfl rfl) _) ?_
  refine AOps.step rfl rfl rfl (OpQ.spec (sp_fieldAddr_own (ob := .box _ _ _) rfl tf_32_0 (.inl rfl) (fun _ => rfl) rfl) _) ?_
  refine AOps.step rfl rfl rfl (OpQ.spec (ms_load_box (a := .r (.int .i64 b1.Char)) rfl ts_3 (.inl rfl) rfl rfl) _) ?_
  refine AOps.step rfl rfl rfl (OpQ.spec (sp_eql rfl (.inl rfl) (.inl rfl)) _) ?_
  refine AOps.step rfl rfl rfl (OpQ.spec (sp_move rfl (.inl rfl)) _) ?_
  refine AOps.stepW (.one rfl rfl rfl) rfl rfl (OpQ.spec (sp_fieldAddr_own (ob := .box _ _ _) rfl tf_32_1 (.inl rfl) (fun _ => rfl) rfl) _) ?_
  refine AOps.stepW (.one rfl rfl rfl) rfl rfl (OpQ.spec (ms_load_box (a := .r (.int .i64 a1.Ref)) rfl ts_3 (.inr ⟨_, (by exact id), rfl⟩) rfl rfl) _) ?_
  refine AOps.stepW (.one rfl rfl rfl) rfl rfl (OpQ.spec (sp_fieldAddr_own (ob := .box _ _ _) rfl tf_32_1 (.inl rfl) (fun _ => rfl) rfl) _) ?_
  refine AOps.stepW (.one rfl rfl rfl) rfl rfl (OpQ.spec (ms_load_box (a := .r (.int .i64 b1.Ref)) rfl ts_3 (.inr ⟨_, (by exact id), rfl⟩) rfl rfl) _) ?_
  refine AOps.stepW (.one rfl rfl rfl) rfl rfl (OpQ.spec (sp_eql rfl (.inr ⟨_, (by exact id), rfl⟩) (.inr ⟨_, (by exact id), rfl⟩)) _) ?_
  refine AOps.step rfl rfl rfl (OpQ.spec (sp_and rfl (.inl rfl) (.inr ⟨_, (by exact id), rfl⟩)) _) ?_
  refine AOps.step rfl rfl rfl (OpQ.spec (sp_move rfl (.inl rfl)) _) ?_
  refine AOps.stepW (.one rfl rfl rfl) rfl rfl (OpQ.spec (sp_fieldAddr_own (ob := .box _ _ _) rfl tf_32_2 (.inl rfl) (fun _ => rfl) rfl) _) ?_
  refine AOps.stepW (.one rfl rfl rfl) rfl rfl (OpQ.spec (ms_load_box (a := .r (.sl (a1.Attrs.map GAttr.row))) rfl ts_30 (.inr ⟨_, (by exact id), rfl⟩) rfl rfl) _) ?_
  refine AOps.stepW (.one rfl rfl rfl) rfl rfl (OpQ.spec (sp_fieldAddr_own (ob := .box _ _ _) rfl tf_32_2 (.inl rfl) (fun _ => rfl) rfl) _) ?_
  refine AOps.stepW (.one rfl rfl rfl) rfl rfl (OpQ.spec (ms_load_box (a := .r (.sl (b1.Attrs.map GAttr.row))) rfl ts_30 (.inr ⟨_, (by exact id), rfl⟩) rfl rfl) _) ?_
  refine ob1k h fun r1 er1 h1 => ?_
  refine AOps.stepW (.one rfl rfl rfl) rfl rfl (sp_call (r := .r (.bool r1)) (caps := []) (bs := [.r (.sl (a1.Attrs.map GAttr.row)), .r (.sl (b1.Attrs.map GAttr.row))]) rfl (.inl rfl) rfl ⟨⟨_, (.inr ⟨_, (by exact id), rfl⟩), .d rfl⟩, ⟨_, (.inr ⟨_, (by exact id), rfl⟩), .d rfl⟩, trivial⟩ (fun hg => w_ref_SameAttrs (gdt er1 hg)) rfl) ?_
  refine AOps.step rfl rfl rfl (OpQ.spec (sp_and rfl (.inl rfl) (.inr ⟨_, (by exact id), rfl⟩)) _) ?_
  refine AOps.step rfl rfl rfl (OpQ.spec (sp_assign rfl (.inl rfl)) _) ?_
  refine AOps.nil ?_
  refine hK2 _ ?_
  refine AW.ret ?_
  exact retf1 (P := Tryd.prog) (fun (r : Bool) => .r (.bool r)) h1 (.inl rfl) (.t (.d rfl))
set_option maxHeartbeats 4000000 in
set_option maxRecDepth 20000 in
theorem w_ref_SameFlow {a1 : List GElem} {b1 : List GElem} {r : Bool} (h : ref_SameFlow a1 b1 = some r) : ARO Tryd.prog 14 [.r (.sl (a1.map GElem.row)), .r (.sl (b1.map GElem.row))] (.r (.bool r)) := by
  unfold ref_SameFlow at h
  refine ARO.mkF Tryd.func14 rfl rfl Tryd.ntmps14 rfl (Nat.le_of_ble_eq_true rfl) fun n0 => ?_
  refine AW.seq_w fun K1 hK1 wK1 => ?_
  refine AW.region ?_
  refine AOps.step rfl rfl rfl (OpQ.spec (sp_assign rfl (.inl rfl)) _) ?_
  refine AOps.nil ?_
  refine hK1 _ ?_
  refine AW.seq_w fun K2 hK2 wK2 => ?_
  refine AW.seq_w fun K3 hK3 wK3 => ?_
  refine AW.region ?_
  refine AOps.step rfl rfl rfl (OpQ.spec (sp_move rfl (.inl rfl)) _) ?_
  refine AOps.step rfl rfl rfl (OpQ.spec (ms_len rfl tg_22.slice (.inl rfl)) _) ?_
  refine AOps.step rfl rfl rfl (OpQ.spec (sp_move rfl (.inl rfl)) _) ?_
  refine AOps.step rfl rfl rfl (OpQ.spec (ms_len rfl tg_22.slice (.inl rfl)) _) ?_
  refine AOps.step rfl rfl rfl (OpQ.spec (sp_neq rfl (.inl rfl) (.inl rfl)) _) ?_
  refine AOps.nil ?_
  refine hK3 _ ?_
  refine AW.cond rfl (fun hc1 => ?_) (fun hc1 => ?_)
  · have h1 := ite_t hc1 h
    refine AW.seq_w fun K4 hK4 wK4 => ?_
    refine AW.region ?_
    refine AOps.step rfl rfl rfl (OpQ.spec (sp_assign rfl (.inl rfl)) _) ?_
    refine AOps.nil ?_
    refine hK4 _ ?_
    refine AW.ret ?_
    exact retf1 (P := Tryd.prog) (fun (r : Bool) => .r (.bool r)) h1 (.inl rfl) (.t (.d rfl))
  · have h1 := ite_f hc1 h
    refine AW.skip ?_
    refine hK2 _ ?_
    refine AW.seq_w fun K5 hK5 wK5 => ?_
    refine AW.seq_w fun K6 hK6 wK6 => ?_
    refine AW.region ?_
    refine AOps.step rfl rfl rfl (OpQ.spec (sp_move rfl (.inl rfl)) _) ?_
    refine AOps.step rfl rfl rfl (OpQ.spec (ms_len rfl tg_22.slice (.inl rfl)) _) ?_
    refine AOps.step rfl rfl rfl (OpQ.spec (sp_move rfl (.inl rfl)) _) ?_
    refine AOps.nil ?_
    refine hK6 _ ?_
    refine AW.block ?_
    refine jc1k h1 fun o1 hit1 hk1 he1 => ?_
    have J1 : ∀ (u2 : Unit) (i5 : Nat → Nat), o1 = .nrm u2 → K5 ⟨[], [], (i5 0), 27⟩ := by
      intro u2 i5 e
      have h2 := hk1 _ e
      refine hK5 _ ?_
      refine AW.seq_w fun K7 hK7 wK7 => ?_
      refine AW.region ?_
      refine AOps.step rfl rfl rfl (OpQ.spec (sp_assign rfl (.inl rfl)) _) ?_
      refine AOps.nil ?_
      refine hK7 _ ?_
      refine AW.ret ?_
      exact retf1 (P := Tryd.prog) (fun (r : Bool) => .r (.bool r)) h2 (.inl rfl) (.t (.d rfl))
    refine AW.iter1 (fun (x2 : Int) i3 => ⟨[(0, .r (.sl (a1.map GElem.row))), (1, .r (.sl (b1.map GElem.row))), (12, .r (.int .i64 (a1.length : Int))), (13, .r (.int .i64 x2))], [], (i3 0), 27⟩) (vec [n0]) hit1 ((by exact Weak.cv ⟨.inl (.inl rfl), .inl (.inl rfl), .inl (.inl rfl), .inl (.inl rfl), trivial⟩ trivial (Nat.le_refl _))) ?_
    intro x2 i3 v1 hv1 hx1
    have h3 : ref_SameFlow_L1 a1 b1 x2 = some v1 := hv1; unfold ref_SameFlow_L1 at h3
    refine AW.seq_w fun K8 hK8 wK8 => ?_
    refine AW.region ?_
    refine AOps.step rfl rfl rfl (OpQ.spec (sp_lss rfl (.inl rfl) (.inl rfl)) _) ?_
    refine AOps.nil ?_
    refine hK8 _ ?_
    refine AW.seq_w fun K9 hK9 wK9 => ?_
    refine AW.cond rfl (fun hc2 => ?_) (fun hc2 => ?_)
    · have h4 := ite_t hc2 h3
      refine AW.skip ?_
      refine hK9 _ ?_
      refine AW.seq_w fun K10 hK10 wK10 => ?_
      refine AW.block ?_
      refine AW.seq_w fun K11 hK11 wK11 => ?_
      refine AW.region ?_
      refine AOps.step rfl rfl rfl (OpQ.spec (sp_move rfl (.inl rfl)) _) ?_
      refine AOps.step rfl rfl rfl (OpQ.spec (sp_assign rfl (.inl rfl)) _) ?_
      refine AOps.nil ?_
      refine hK11 _ ?_
      refine AW.seq_w fun K12 hK12 wK12 => ?_
      refine AW.regionQ hmix (by kernel_rfl) ?_
      refine AQ.step rfl rfl rfl (sp_move rfl (.inl rfl)) ?_
      refine AQ.step rfl rfl rfl (sp_move rfl (.inl rfl)) ?_
      refine ob1k h4 fun x4 ex4 h5 => ?_
      refine AQ.step rfl rfl rfl (ms_idx rfl tg_22.slice (.inl rfl) (.inl rfl) (fun _ => rfl) (fun _ => ex4)) ?_
      refine AQ.step rfl rfl rfl (ms_loadA (cs := [.r (.int .i64 x4.Char), .r (.int .i64 x4.Ref), .r (.sl (x4.Attrs.map GAttr.row))]) rfl ta_32 (.inl rfl) rfl rfl) ?_
      refine AQ.step rfl rfl rfl (sp_move rfl (.inl rfl)) ?_
      refine AQ.step rfl rfl rfl (sp_move rfl (.inl rfl)) ?_
      refine ob1k h5 fun x5 ex5 h6 => ?_
      refine AQ.step rfl rfl rfl (ms_idx rfl tg_22.slice (.inl rfl) (.inl rfl) (fun _ => rfl) (fun _ => ex5)) ?_
      refine AQ.step rfl rfl rfl (ms_loadA (cs := [.r (.int .i64 x5.Char), .r (.int .i64 x5.Ref), .r (.sl (x5.Attrs.map GAttr.row))]) rfl ta_32 (.inl rfl) rfl rfl) ?_
      refine ob1k h6 fun r1 er1 h7 => ?_
      refine AQ.stepC rfl rfl rfl (r := .r (.bool r1)) (caps := []) (bs := [.agg [.r (.int .i64 x4.Char), .r (.int .i64 x4.Ref), .r (.sl (x4.Attrs.map GAttr.row))], .agg [.r (.int .i64 x5.Char), .r (.int .i64 x5.Ref), .r (.sl (x5.Attrs.map GAttr.row))]]) rfl (.inl rfl) rfl ⟨⟨_, (.inl rfl), .g (cs := [.int .i64 x4.Char, .int .i64 x4.Ref, .sl (x4.Attrs.map GAttr.row)]) rfl rfl⟩, ⟨_, (.inl rfl), .g (cs := [.int .i64 x5.Char, .int .i64 x5.Ref, .sl (x5.Attrs.map GAttr.row)]) rfl rfl⟩, trivial⟩ (fun _ => w_ref_SameElem (er1)) rfl ?_
      refine AQ.step rfl rfl rfl (sp_not rfl (.inl rfl)) ?_
      refine AQ.nil ?_
      refine hK12 _ ?_
      refine AW.cond rfl (fun hc3 => ?_) (fun hc3 => ?_)
      · have h8 := ite_t hc3 h7
        refine AW.seq_w fun K13 hK13 wK13 => ?_
        refine AW.weak (s' := ⟨[], [], (i3 0), 27⟩) (by exact Weak.cv trivial trivial (Nat.le_refl _)) ?_
        refine AW.region ?_
        refine AOps.step rfl rfl rfl (OpQ.spec (sp_assign rfl (.inl rfl)) _) ?_
        refine AOps.nil ?_
        refine hK13 _ ?_
        refine AW.ret ?_
        exact retf1 (P := Tryd.prog) (fun (r : Bool) => .r (.bool r)) (he1 _ (hx1 _ (Option.some.inj h8).symm)) (.inl rfl) (.t (.d rfl))
      · have h8 := ite_f hc3 h7
        refine AW.skip ?_
        refine hK10 _ ?_
        refine AW.weak (s' := ⟨[(0, .r (.sl (a1.map GElem.row))), (1, .r (.sl (b1.map GElem.row))), (12, .r (.int .i64 (a1.length : Int))), (13, .r (.int .i64 x2))], [], (i3 0), 27⟩) (by exact Weak.cv ⟨.inl (.inl rfl), .inl (.inl rfl), .inl (.inl rfl), .inl (.inl rfl), trivial⟩ trivial (Nat.le_refl _)) ?_
        refine AW.region ?_
        refine ob1k h8 fun x6 ex6 h9 => ?_
        refine AOps.step rfl rfl rfl (OpQ.spec (ms_add rfl (.inl rfl) (.inl rfl) (fun _ => ex6)) _) ?_
        refine AOps.step rfl rfl rfl (OpQ.spec (sp_move rfl (.inl rfl)) _) ?_
        refine AOps.nil ?_
        exact NextQ1.mk h9 (vec [(i3 0)]) ((by exact Weak.cv ⟨.inl (.inl rfl), .inl (.inl rfl), .inl (.inl rfl), .inl (.inl rfl), trivial⟩ trivial (Nat.le_refl _)))
    · have h4 := ite_f hc2 h3
      refine AW.exit ?_
      exact wK5 _ _ ((by exact Weak.cv trivial trivial (Nat.le_refl _))) (J1 _ (vec [(i3 0)]) (hx1 _ (Option.some.inj h4).symm))
set_option maxHeartbeats 4000000 in
set_option maxRecDepth 20000 in
theorem w_law_FlowTextMatches {f1 : List GElem} {from1 : Int} {to1 : Int} {r : Bool} (h : law_FlowTextMatches f1 from1 to1 = some r) : ARO Tryd.prog 4 [.r (.sl (f1.map GElem.row)), .r (.int .i64 from1), .r (.int .i64 to1)] (.r (.bool r)) := by
  unfold law_FlowTextMatches at h
  refine ARO.mkF Tryd.func4 rfl rfl Tryd.ntmps4 rfl (Nat.le_of_ble_eq_true rfl) fun n0 => ?_
  refine AW.seq_w fun K1 hK1 wK1 => ?_
  refine AW.region ?_
  refine AOps.step rfl rfl rfl (OpQ.spec (sp_assign rfl (.inl rfl)) _) ?_
  refine AOps.nil ?_
  refine hK1 _ ?_
  refine AW.seq_w fun K2 hK2 wK2 => ?_
  refine AW.seq_w fun K3 hK3 wK3 => ?_
  refine AW.region ?_
  refine ob1k h fun r1 er1 h1 => ?_
  refine AOps.step rfl rfl rfl (sp_call (r := .r (.bool r1)) (caps := []) (bs := []) rfl (.inl rfl) rfl trivial (fun _ => w_law_flows (er1)) rfl) ?_
  refine AOps.step rfl rfl rfl (OpQ.spec (sp_not rfl (.inl rfl)) _) ?_
  refine AOps.nil ?_
  refine hK3 _ ?_
  refine AW.cond rfl (fun hc1 => ?_) (fun hc1 => ?_)
  · have h2 := ite_t hc1 h1
    refine AW.seq_w fun K4 hK4 wK4 => ?_
    refine AW.region ?_
    refine AOps.step rfl rfl rfl (OpQ.spec (sp_assign rfl (.inl rfl)) _) ?_
    refine AOps.nil ?_
    refine hK4 _ ?_
    refine AW.ret ?_
    exact retf1 (P := Tryd.prog) (fun (r : Bool) => .r (.bool r)) h2 (.inl rfl) (.t (.d rfl))
  · have h2 := ite_f hc1 h1
    refine AW.skip ?_
    refine hK2 _ ?_
    refine AW.seq_w fun K5 hK5 wK5 => ?_
    refine AW.region ?_
    refine AOps.step rfl rfl rfl (OpQ.spec (sp_move rfl (.inl rfl)) _) ?_
    refine ob2k h2 fun r2 r3 er2 h3 => ?_
    refine AOps.step rfl rfl rfl (sp_call (r := .tup [.r (.str r2), .r (.int .i64 r3)]) (caps := []) (bs := [.r (.sl (f1.map GElem.row))]) rfl (.inl rfl) rfl ⟨⟨_, (.inl rfl), .d rfl⟩, trivial⟩ (fun _ => w_flow_Text (er2)) rfl) ?_
    refine AOps.step rfl rfl rfl (OpQ.spec (sp_move rfl (.inl rfl)) _) ?_
    refine AOps.step rfl rfl rfl (OpQ.spec (sp_extract (a := .r (.str r2)) rfl (.inl rfl) rfl) _) ?_
    refine AOps.step rfl rfl rfl (OpQ.spec (sp_extract (a := .r (.int .i64 r3)) rfl (.inl rfl) rfl) _) ?_
    refine AOps.step rfl rfl rfl (OpQ.spec (sp_assign rfl (.inl rfl)) _) ?_
    refine AOps.step rfl rfl rfl (OpQ.spec (sp_assign rfl (.inl rfl)) _) ?_
    refine AOps.nil ?_
    refine hK5 _ ?_
    refine AW.seq_w fun K6 hK6 wK6 => ?_
    refine AW.region ?_
    refine AOps.step rfl rfl rfl (OpQ.spec (sp_move rfl (.inl rfl)) _) ?_
    refine AOps.step rfl rfl rfl (OpQ.spec (sp_move rfl (.inl rfl)) _) ?_
    refine AOps.step rfl rfl rfl (OpQ.spec (sp_move rfl (.inl rfl)) _) ?_
    refine ob2k h3 fun r4 r5 er4 h4 => ?_
    refine AOps.step rfl rfl rfl (sp_callS (r := .tup [.r (.sl (r4.map GElem.row)), .r (.int .i64 r5)]) (caps := []) (bs := [.r (.sl (f1.map GElem.row)), .r (.int .i64 from1), .r (.int .i64 to1)]) rfl (.inl rfl) rfl ⟨.inl ⟨(.inl rfl), rfl⟩, .inl ⟨(.inl rfl), rfl⟩, .inl ⟨(.inl rfl), rfl⟩, trivial⟩ (fun _ => w_flow_Slice (er4))) ?_
    refine AOps.step rfl rfl rfl (OpQ.spec (sp_move rfl (.inl rfl)) _) ?_
    refine AOps.step rfl rfl rfl (OpQ.spec (sp_extract (a := .r (.sl (r4.map GElem.row))) rfl (.inl rfl) rfl) _) ?_
    refine AOps.step rfl rfl rfl (OpQ.spec (sp_extract (a := .r (.int .i64 r5)) rfl (.inl rfl) rfl) _) ?_
    refine AOps.step rfl rfl rfl (OpQ.spec (sp_assign rfl (.inl rfl)) _) ?_
    refine AOps.step rfl rfl rfl (OpQ.spec (sp_assign rfl (.inl rfl)) _) ?_
    refine AOps.nil ?_
    refine hK6 _ ?_
    refine AW.seq_w fun K7 hK7 wK7 => ?_
    refine AW.seq_w fun K8 hK8 wK8 => ?_
    refine AW.weak (s' := ⟨[(0, .r (.sl (f1.map GElem.row))), (1, .r (.int .i64 from1)), (2, .r (.int .i64 to1)), (7, .r (.str r2)), (8, .r (.int .i64 r3)), (9, .r (.sl (r4.map GElem.row))), (10, .r (.int .i64 r5))], [], n0, 85⟩) (by exact Weak.cv ⟨.inl (.inl rfl), .inl (.inl rfl), .inl (.inl rfl), .inl (.inl rfl), .inl (.inl rfl), .inl (.inl rfl), .inl (.inl rfl), trivial⟩ trivial (Nat.le_refl _)) ?_
    refine AW.region ?_
    refine AOps.step rfl rfl rfl (OpQ.spec (sp_move rfl (.inl rfl)) _) ?_
    refine ob1k h4 fun p1 ep1 h5 => ?_
    refine AOps.step rfl rfl rfl (sp_call (r := .r (.int .i64 p1)) (caps := []) (bs := [.r (.sl (f1.map GElem.row))]) rfl (.inl rfl) rfl ⟨⟨_, (.inl rfl), .d rfl⟩, trivial⟩ (fun _ => w_ref_PartError (ep1)) rfl) ?_
    refine AOps.step rfl rfl rfl (OpQ.spec (sp_assign rfl (.inl rfl)) _) ?_
    refine AOps.nil ?_
    refine hK8 _ ?_
    refine AW.seq_w fun K9 hK9 wK9 => ?_
    refine AW.region ?_
    refine AOps.step rfl rfl rfl (OpQ.spec (sp_move rfl (.inl rfl)) _) ?_
    refine AOps.step rfl rfl rfl (OpQ.spec (sp_neq rfl (.inl rfl) (.inl rfl)) _) ?_
    refine AOps.nil ?_
    refine hK9 _ ?_
    refine AW.cond rfl (fun hc2 => ?_) (fun hc2 => ?_)
    · have h6 := ite_t hc2 h5
      refine AW.seq_w fun K10 hK10 wK10 => ?_
      refine AW.region ?_
      refine AOps.step rfl rfl rfl (OpQ.spec (sp_move rfl (.inl rfl)) _) ?_
      refine AOps.step rfl rfl rfl (OpQ.spec (sp_move rfl (.inl rfl)) _) ?_
      refine AOps.step rfl rfl rfl (OpQ.spec (sp_eql rfl (.inl rfl) (.inl rfl)) _) ?_
      refine AOps.step rfl rfl rfl (OpQ.spec (sp_move rfl (.inl rfl)) _) ?_
      refine AOps.stepW (.one rfl rfl rfl) rfl rfl (OpQ.spec (sp_move rfl (.inl rfl)) _) ?_
      refine AOps.stepW (.one rfl rfl rfl) rfl rfl (OpQ.spec (sp_move rfl (.inl rfl)) _) ?_
      refine AOps.stepW (.one rfl rfl rfl) rfl rfl (OpQ.spec (sp_eql rfl (.inr ⟨_, (by exact id), rfl⟩) (.inr ⟨_, (by exact id), rfl⟩)) _) ?_
      refine AOps.step rfl rfl rfl (OpQ.spec (sp_and rfl (.inl rfl) (.inr ⟨_, (by exact id), rfl⟩)) _) ?_
      refine AOps.step rfl rfl rfl (OpQ.spec (sp_move rfl (.inl rfl)) _) ?_
      refine AOps.stepW (.one rfl rfl rfl) rfl rfl (OpQ.spec (sp_move rfl (.inl rfl)) _) ?_
      refine AOps.stepW (.one rfl rfl rfl) rfl rfl (OpQ.spec (sp_seql rfl (.inr ⟨_, (by exact id), rfl⟩) (.inl rfl)) _) ?_
      refine AOps.step rfl rfl rfl (OpQ.spec (sp_and rfl (.inl rfl) (.inr ⟨_, (by exact id), rfl⟩)) _) ?_
      refine AOps.step rfl rfl rfl (OpQ.spec (sp_move rfl (.inl rfl)) _) ?_
      refine AOps.stepW (.one rfl rfl rfl) rfl rfl (OpQ.spec (sp_move rfl (.inl rfl)) _) ?_
      refine AOps.stepW (.one rfl rfl rfl) rfl rfl (OpQ.spec (ms_len rfl tg_22.slice (.inr ⟨_, (by exact id), rfl⟩)) _) ?_
      refine AOps.stepW (.one rfl rfl rfl) rfl rfl (OpQ.spec (sp_eql rfl (.inr ⟨_, (by exact id), rfl⟩) (.inl rfl)) _) ?_
      refine AOps.step rfl rfl rfl (OpQ.spec (sp_and rfl (.inl rfl) (.inr ⟨_, (by exact id), rfl⟩)) _) ?_
      refine AOps.step rfl rfl rfl (OpQ.spec (sp_assign rfl (.inl rfl)) _) ?_
      refine AOps.nil ?_
      refine hK10 _ ?_
      refine AW.ret ?_
      exact retf1 (P := Tryd.prog) (fun (r : Bool) => .r (.bool r)) h6 (.inl rfl) (.t (.d rfl))
    · have h6 := ite_f hc2 h5
      refine AW.skip ?_
      refine hK7 _ ?_
      refine AW.seq_w fun K11 hK11 wK11 => ?_
      refine AW.seq_w fun K12 hK12 wK12 => ?_
      refine AW.region ?_
      refine AOps.step rfl rfl rfl (OpQ.spec (sp_move rfl (.inl rfl)) _) ?_
      refine AOps.step rfl rfl rfl (OpQ.spec (sp_neq rfl (.inl rfl) (.inl rfl)) _) ?_
      refine AOps.step rfl rfl rfl (OpQ.spec (sp_move rfl (.inl rfl)) _) ?_
      refine AOps.stepW (.one rfl rfl rfl) rfl rfl (OpQ.spec (sp_move rfl (.inl rfl)) _) ?_
      refine AOps.stepW (.one rfl rfl rfl) rfl rfl (OpQ.spec (sp_move rfl (.inl rfl)) _) ?_
      refine ob1k h6 fun r6 er6 h7 => ?_
      refine AOps.stepW (.one rfl rfl rfl) rfl rfl (sp_call (r := .r (.str r6)) (caps := []) (bs := [.r (.sl (f1.map GElem.row)), .r (.int .i64 65532)]) rfl (.inl rfl) rfl ⟨⟨_, (.inr ⟨_, (by exact id), rfl⟩), .d rfl⟩, ⟨_, (.inl rfl), .d rfl⟩, trivial⟩ (fun hg => w_ref_Utf8 (gdt er6 hg)) rfl) ?_
      refine AOps.stepW (.one rfl rfl rfl) rfl rfl (OpQ.spec (sp_sneq rfl (.inr ⟨_, (by exact id), rfl⟩) (.inr ⟨_, (by exact id), rfl⟩)) _) ?_
      refine AOps.step rfl rfl rfl (OpQ.spec (sp_or rfl (.inl rfl) (.inr ⟨_, (by exact id), rfl⟩)) _) ?_
      refine AOps.nil ?_
      refine hK12 _ ?_
      refine AW.cond rfl (fun hc3 => ?_) (fun hc3 => ?_)
      · have h8 := ite_t hc3 h7
        refine AW.seq_w fun K13 hK13 wK13 => ?_
        refine AW.weak (s' := ⟨[], [], n0, 85⟩) (by exact Weak.cv trivial trivial (Nat.le_refl _)) ?_
        refine AW.region ?_
        refine AOps.step rfl rfl rfl (OpQ.spec (sp_assign rfl (.inl rfl)) _) ?_
        refine AOps.nil ?_
        refine hK13 _ ?_
        refine AW.ret ?_
        exact retf1 (P := Tryd.prog) (fun (r : Bool) => .r (.bool r)) h8 (.inl rfl) (.t (.d rfl))
      · have h8 := ite_f hc3 h7
        refine AW.skip ?_
        refine hK11 _ ?_
        refine AW.seq_w fun K14 hK14 wK14 => ?_
        refine AW.seq_w fun K15 hK15 wK15 => ?_
        refine AW.weak (s' := ⟨[(0, .r (.sl (f1.map GElem.row))), (1, .r (.int .i64 from1)), (2, .r (.int .i64 to1)), (9, .r (.sl (r4.map GElem.row))), (10, .r (.int .i64 r5))], [], n0, 85⟩) (by exact Weak.cv ⟨.inl (.inl rfl), .inl (.inl rfl), .inl (.inl rfl), .inl (.inl rfl), .inl (.inl rfl), trivial⟩ trivial (Nat.le_refl _)) ?_
        refine AW.region ?_
        refine AOps.step rfl rfl rfl (OpQ.spec (sp_move rfl (.inl rfl)) _) ?_
        refine AOps.step rfl rfl rfl (OpQ.spec (sp_lss rfl (.inl rfl) (.inl rfl)) _) ?_
        refine AOps.step rfl rfl rfl (OpQ.spec (sp_move rfl (.inl rfl)) _) ?_
        refine AOps.stepW (.one rfl rfl rfl) rfl rfl (OpQ.spec (sp_move rfl (.inl rfl)) _) ?_
        refine AOps.stepW (.one rfl rfl rfl) rfl rfl (OpQ.spec (sp_move rfl (.inl rfl)) _) ?_
        refine AOps.stepW (.one rfl rfl rfl) rfl rfl (OpQ.spec (sp_lss rfl (.inr ⟨_, (by exact id), rfl⟩) (.inr ⟨_, (by exact id), rfl⟩)) _) ?_
        refine AOps.step rfl rfl rfl (OpQ.spec (sp_or rfl (.inl rfl) (.inr ⟨_, (by exact id), rfl⟩)) _) ?_
        refine AOps.step rfl rfl rfl (OpQ.spec (sp_move rfl (.inl rfl)) _) ?_
        refine AOps.stepW (.one rfl rfl rfl) rfl rfl (OpQ.spec (sp_move rfl (.inl rfl)) _) ?_
        refine AOps.stepW (.one rfl rfl rfl) rfl rfl (OpQ.spec (sp_move rfl (.inl rfl)) _) ?_
        refine AOps.stepW (.one rfl rfl rfl) rfl rfl (OpQ.spec (ms_len rfl tg_22.slice (.inr ⟨_, (by exact id), rfl⟩)) _) ?_
        refine AOps.stepW (.one rfl rfl rfl) rfl rfl (OpQ.spec (sp_gtr rfl (.inr ⟨_, (by exact id), rfl⟩) (.inr ⟨_, (by exact id), rfl⟩)) _) ?_
        refine AOps.step rfl rfl rfl (OpQ.spec (sp_or rfl (.inl rfl) (.inr ⟨_, (by exact id), rfl⟩)) _) ?_
        refine AOps.nil ?_
        refine hK15 _ ?_
        refine AW.cond rfl (fun hc4 => ?_) (fun hc4 => ?_)
        · have h9 := ite_t hc4 h8
          refine AW.seq_w fun K16 hK16 wK16 => ?_
          refine AW.weak (s' := ⟨[(9, .r (.sl (r4.map GElem.row))), (10, .r (.int .i64 r5))], [], n0, 85⟩) (by exact Weak.cv ⟨.inl (.inl rfl), .inl (.inl rfl), trivial⟩ trivial (Nat.le_refl _)) ?_
          refine AW.region ?_
          refine AOps.step rfl rfl rfl (OpQ.spec (sp_move rfl (.inl rfl)) _) ?_
          refine AOps.step rfl rfl rfl (OpQ.spec (sp_eql rfl (.inl rfl) (.inl rfl)) _) ?_
          refine AOps.step rfl rfl rfl (OpQ.spec (sp_move rfl (.inl rfl)) _) ?_
          refine AOps.stepW (.one rfl rfl rfl) rfl rfl (OpQ.spec (sp_move rfl (.inl rfl)) _) ?_
          refine AOps.stepW (.one rfl rfl rfl) rfl rfl (OpQ.spec (ms_len rfl tg_22.slice (.inr ⟨_, (by exact id), rfl⟩)) _) ?_
          refine AOps.stepW (.one rfl rfl rfl) rfl rfl (OpQ.spec (sp_eql rfl (.inr ⟨_, (by exact id), rfl⟩) (.inl rfl)) _) ?_
          refine AOps.step rfl rfl rfl (OpQ.spec (sp_and rfl (.inl rfl) (.inr ⟨_, (by exact id), rfl⟩)) _) ?_
          refine AOps.step rfl rfl rfl (OpQ.spec (sp_assign rfl (.inl rfl)) _) ?_
          refine AOps.nil ?_
          refine hK16 _ ?_
          refine AW.ret ?_
          exact retf1 (P := Tryd.prog) (fun (r : Bool) => .r (.bool r)) h9 (.inl rfl) (.t (.d rfl))
        · have h9 := ite_f hc4 h8
          refine AW.skip ?_
          refine hK14 _ ?_
          refine AW.seq_w fun K17 hK17 wK17 => ?_
          refine AW.weak (s' := ⟨[(0, .r (.sl (f1.map GElem.row))), (1, .r (.int .i64 from1)), (2, .r (.int .i64 to1)), (9, .r (.sl (r4.map GElem.row))), (10, .r (.int .i64 r5))], [], n0, 85⟩) (by exact Weak.cv ⟨.inl (.inl rfl), .inl (.inl rfl), .inl (.inl rfl), .inl (.inl rfl), .inl (.inl rfl), trivial⟩ trivial (Nat.le_refl _)) ?_
          refine AW.region ?_
          refine AOps.step rfl rfl rfl (OpQ.spec (sp_move rfl (.inl rfl)) _) ?_
          refine AOps.step rfl rfl rfl (OpQ.spec (sp_eql rfl (.inl rfl) (.inl rfl)) _) ?_
          refine AOps.step rfl rfl rfl (OpQ.spec (sp_move rfl (.inl rfl)) _) ?_
          refine AOps.stepW (.one rfl rfl rfl) rfl rfl (OpQ.spec (sp_move rfl (.inl rfl)) _) ?_
          refine AOps.stepW (.one rfl rfl rfl) rfl rfl (OpQ.spec (sp_move rfl (.inl rfl)) _) ?_
          refine AOps.stepW (.one rfl rfl rfl) rfl rfl (OpQ.spec (sp_move rfl (.inl rfl)) _) ?_
          refine AOps.stepW (.one rfl rfl rfl) rfl rfl (OpQ.spec (sp_move rfl (.inl rfl)) _) ?_
          refine ob1k h9 fun l1 el1 h10 => ?_
          refine AOps.stepW (.one rfl rfl rfl) rfl rfl (OpQ.spec (ms_slice rfl tg_22.slice (.inr ⟨_, (by exact id), rfl⟩) (by exact ⟨_, (.inr ⟨_, (by exact id), rfl⟩)⟩) (by exact ⟨_, (.inr ⟨_, (by exact id), rfl⟩)⟩) (fun _ => rfl) (gdt el1)) _) ?_
          refine ob1k h10 fun r7 er7 h11 => ?_
          refine AOps.stepW (.one rfl rfl rfl) rfl rfl (sp_call (r := .r (.bool r7)) (caps := []) (bs := [.r (.sl (r4.map GElem.row)), .r (.sl (l1.map GElem.row))]) rfl (.inl rfl) rfl ⟨⟨_, (.inr ⟨_, (by exact id), rfl⟩), .d rfl⟩, ⟨_, (.inr ⟨_, (by exact id), rfl⟩), .d rfl⟩, trivial⟩ (fun hg => w_ref_SameFlow (gdt er7 hg)) rfl) ?_
          refine AOps.step rfl rfl rfl (OpQ.spec (sp_and rfl (.inl rfl) (.inr ⟨_, (by exact id), rfl⟩)) _) ?_
          refine AOps.step rfl rfl rfl (OpQ.spec (sp_assign rfl (.inl rfl)) _) ?_
          refine AOps.nil ?_
          refine hK17 _ ?_
          refine AW.ret ?_
          exact retf1 (P := Tryd.prog) (fun (r : Bool) => .r (.bool r)) h11 (.inl rfl) (.t (.d rfl))
end Go.Proofs.YtdeglnbioiicaaaDoor.Al
