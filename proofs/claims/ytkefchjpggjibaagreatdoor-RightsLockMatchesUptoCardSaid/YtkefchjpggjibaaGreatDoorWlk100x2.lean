/- Walks, as printed. -/
import Derived.Test.YtkefchjpggjibaaGreatDoorWlk100
import Derived.Test.YtkefchjpggjibaaGreatDoorProg
set_option maxHeartbeats 4000000
set_option maxRecDepth 20000
set_option linter.unusedVariables false
namespace Go.Proofs.YtkefchjpggjibaaGreatDoor.Al
open Go.Proofs
theorem w_law_RightsLockMatches {n1 : Int} {from1 : Int} {to1 : Int} {users1 : List (List UInt8)} {r : Bool} (h : law_RightsLockMatches n1 from1 to1 users1 = some r) : ARO Tryz.prog 3 [.r (.int .i64 n1), .r (.int .i64 from1), .r (.int .i64 to1), .r (.sl (users1.map rStr))] (.r (.bool r)) := by
  unfold law_RightsLockMatches at h
  refine ARO.mkF Tryz.func3 rfl rfl Tryz.ntmps3 rfl (Nat.le_of_ble_eq_true rfl) fun n0 => ?_
  refine AW.seq_w fun K1 hK1 wK1 => ?_
  refine AW.region ?_
  refine AOps.step rfl rfl rfl (OpQ.spec (sp_assign rfl (.inl rfl)) _) ?_
  refine AOps.nil ?_
  refine hK1 _ ?_
  refine AW.seq_w fun K2 hK2 wK2 => ?_
  refine AW.seq_w fun K3 hK3 wK3 => ?_
  refine AW.region ?_
  refine ob1k h fun r1 er1 h1 => ?_
  refine AOps.step rfl rfl rfl (sp_call (r := .r (.bool r1)) (caps := []) (bs := []) rfl (.inl rfl) rfl trivial (fun _ => w_law_mays (er1)) rfl) ?_
  refine AOps.step rfl rfl rfl (OpQ.spec (sp_not rfl (.inl rfl)) _) ?_
  refine AOps.nil ?_
  refine hK3 _ ?_
  refine AW.cond rfl (fun hc1 => ?_) (fun hc1 => ?_)
  · have h2 := ite_t hc1 h1
    refine AW.seq_w fun K4 hK4 wK4 => ?_
    refine AW.region ?_
    refine AOps.step rfl rfl rfl (OpQ.spec (sp_assign rfl (.inl rfl)) _) ?_
    refine AOps.nil ?_
    refine hK4 _ ?_
    refine AW.ret ?_
    exact retf1 (P := Tryz.prog) (fun (r : Bool) => .r (.bool r)) h2 (.inl rfl) (.t (.d rfl))
  · have h2 := ite_f hc1 h1
    refine AW.skip ?_
    refine hK2 _ ?_
    refine AW.seq_w fun K5 hK5 wK5 => ?_
    refine AW.region ?_
    refine AOps.step rfl rfl rfl (OpQ.spec (sp_move rfl (.inl rfl)) _) ?_
    refine AOps.step rfl rfl rfl (OpQ.spec (sp_move rfl (.inl rfl)) _) ?_
    refine AOps.step rfl rfl rfl (OpQ.spec (sp_move rfl (.inl rfl)) _) ?_
    refine AOps.step rfl rfl rfl (OpQ.spec (sp_move rfl (.inl rfl)) _) ?_
    refine ob2k h2 fun r2 r3 er2 h3 => ?_
    refine AOps.step rfl rfl rfl (sp_callS (r := .tup [.r (.sl (r2.map GStep.row)), .r (.int .i64 r3)]) (caps := []) (bs := [.r (.int .i64 n1), .r (.int .i64 from1), .r (.int .i64 to1), .r (.sl (users1.map rStr))]) rfl (.inl rfl) rfl ⟨.inl ⟨(.inl rfl), rfl⟩, .inl ⟨(.inl rfl), rfl⟩, .inl ⟨(.inl rfl), rfl⟩, .inl ⟨(.inl rfl), rfl⟩, trivial⟩ (fun _ => w_rights_Lock (er2))) ?_
    refine AOps.step rfl rfl rfl (OpQ.spec (sp_move rfl (.inl rfl)) _) ?_
    refine AOps.step rfl rfl rfl (OpQ.spec (sp_extract (a := .r (.sl (r2.map GStep.row))) rfl (.inl rfl) rfl) _) ?_
    refine AOps.step rfl rfl rfl (OpQ.spec (sp_extract (a := .r (.int .i64 r3)) rfl (.inl rfl) rfl) _) ?_
    refine AOps.step rfl rfl rfl (OpQ.spec (sp_assign rfl (.inl rfl)) _) ?_
    refine AOps.step rfl rfl rfl (OpQ.spec (sp_assign rfl (.inl rfl)) _) ?_
    refine AOps.nil ?_
    refine hK5 _ ?_
    refine AW.seq_w fun K6 hK6 wK6 => ?_
    refine AW.weak (s' := ⟨[(0, .r (.int .i64 n1)), (1, .r (.int .i64 from1)), (2, .r (.int .i64 to1)), (3, .r (.sl (users1.map rStr))), (9, .r (.sl (r2.map GStep.row))), (10, .r (.int .i64 r3))], [], n0, 123⟩) (by exact Weak.cv ⟨.inl (.inl rfl), .inl (.inl rfl), .inl (.inl rfl), .inl (.inl rfl), .inl (.inl rfl), .inl (.inl rfl), trivial⟩ trivial (Nat.le_refl _)) ?_
    refine AW.region ?_
    refine AOps.step rfl rfl rfl (OpQ.spec (sp_assign rfl (.inl rfl)) _) ?_
    refine AOps.nil ?_
    refine hK6 _ ?_
    refine AW.seq_w fun K7 hK7 wK7 => ?_
    refine AW.region ?_
    refine AOps.step rfl rfl rfl (OpQ.spec (sp_assign rfl (.inl rfl)) _) ?_
    refine AOps.nil ?_
    refine hK7 _ ?_
    refine AW.seq_w fun K8 hK8 wK8 => ?_
    refine AW.seq_w fun K9 hK9 wK9 => ?_
    refine AW.region ?_
    refine AOps.step rfl rfl rfl (OpQ.spec (sp_move rfl (.inl rfl)) _) ?_
    refine AOps.step rfl rfl rfl (OpQ.spec (ms_len rfl tg_22.slice (.inl rfl)) _) ?_
    refine AOps.step rfl rfl rfl (OpQ.spec (sp_move rfl (.inl rfl)) _) ?_
    refine AOps.nil ?_
    refine hK9 _ ?_
    refine AW.block ?_
    refine jb2k h3 fun o1 hit1 hk1 => ?_
    have J1 : ∀ (s4 : List UInt8) (f4 : Int) (i5 : Nat → Nat), o1 = (s4, f4) → K8 ⟨[(0, .r (.int .i64 n1)), (1, .r (.int .i64 from1)), (2, .r (.int .i64 to1)), (9, .r (.sl (r2.map GStep.row))), (10, .r (.int .i64 r3)), (11, .r (.str s4)), (12, .r (.int .i64 f4))], [], (i5 0), 123⟩ := by
      intro s4 f4 i5 e
      have h4 := hk1 _ _ e
      refine hK8 _ ?_
      refine AW.seq_w fun K10 hK10 wK10 => ?_
      refine AW.seq_w fun K11 hK11 wK11 => ?_
      refine AW.region ?_
      refine AOps.step rfl rfl rfl (OpQ.spec (sp_move rfl (.inl rfl)) _) ?_
      refine AOps.step rfl rfl rfl (OpQ.spec (sp_eql rfl (.inl rfl) (.inl rfl)) _) ?_
      refine AOps.step rfl rfl rfl (OpQ.spec (sp_move rfl (.inl rfl)) _) ?_
      refine AOps.stepW (.one rfl rfl rfl) rfl rfl (OpQ.spec (sp_move rfl (.inl rfl)) _) ?_
      refine ob1k h4 fun r4 er4 h5 => ?_
      refine AOps.stepW (.one rfl rfl rfl) rfl rfl (sp_call (r := .r (.bool r4)) (caps := []) (bs := [.r (.int .i64 n1), .r (.int .i64 0), .r (.int .i64 2147483647)]) rfl (.inl rfl) rfl ⟨⟨_, (.inr ⟨_, (by exact id), rfl⟩), .d rfl⟩, ⟨_, (.inl rfl), .d rfl⟩, ⟨_, (.inl rfl), .d rfl⟩, trivial⟩ (fun hg => w_ref_In (gdt er4 hg)) rfl) ?_
      refine AOps.stepW (.one rfl rfl rfl) rfl rfl (OpQ.spec (sp_not rfl (.inr ⟨_, (by exact id), rfl⟩)) _) ?_
      refine AOps.stepW (.one rfl rfl rfl) rfl rfl (OpQ.spec (sp_move rfl (.inr ⟨_, (by exact id), rfl⟩)) _) ?_
      refine AOps.stepW (.two rfl rfl rfl) rfl rfl (OpQ.spec (sp_move rfl (.inl rfl)) _) ?_
      refine AOps.stepW (.two rfl rfl rfl) rfl rfl (OpQ.spec (sp_lss rfl (.inr ⟨_, (by exact id), rfl⟩) (.inl rfl)) _) ?_
      refine AOps.stepW (.one rfl rfl rfl) rfl rfl (OpQ.spec (sp_or rfl (.inr ⟨_, (by exact id), rfl⟩) (.inr ⟨_, (by exact id), rfl⟩)) _) ?_
      refine AOps.stepW (.one rfl rfl rfl) rfl rfl (OpQ.spec (sp_move rfl (.inr ⟨_, (by exact id), rfl⟩)) _) ?_
      refine AOps.stepW (.two rfl rfl rfl) rfl rfl (OpQ.spec (sp_move rfl (.inl rfl)) _) ?_
      refine AOps.stepW (.two rfl rfl rfl) rfl rfl (OpQ.spec (sp_move rfl (.inl rfl)) _) ?_
      refine AOps.stepW (.two rfl rfl rfl) rfl rfl (OpQ.spec (sp_lss rfl (.inr ⟨_, (by exact id), rfl⟩) (.inr ⟨_, (by exact id), rfl⟩)) _) ?_
      refine AOps.stepW (.one rfl rfl rfl) rfl rfl (OpQ.spec (sp_or rfl (.inr ⟨_, (by exact id), rfl⟩) (.inr ⟨_, (by exact id), rfl⟩)) _) ?_
      refine AOps.stepW (.one rfl rfl rfl) rfl rfl (OpQ.spec (sp_move rfl (.inr ⟨_, (by exact id), rfl⟩)) _) ?_
      refine AOps.stepW (.two rfl rfl rfl) rfl rfl (OpQ.spec (sp_move rfl (.inl rfl)) _) ?_
      refine AOps.stepW (.two rfl rfl rfl) rfl rfl (OpQ.spec (sp_move rfl (.inl rfl)) _) ?_
      refine AOps.stepW (.two rfl rfl rfl) rfl rfl (OpQ.spec (sp_gtr rfl (.inr ⟨_, (by exact id), rfl⟩) (.inr ⟨_, (by exact id), rfl⟩)) _) ?_
      refine AOps.stepW (.one rfl rfl rfl) rfl rfl (OpQ.spec (sp_or rfl (.inr ⟨_, (by exact id), rfl⟩) (.inr ⟨_, (by exact id), rfl⟩)) _) ?_
      refine AOps.step rfl rfl rfl (OpQ.spec (sp_and rfl (.inl rfl) (.inr ⟨_, (by exact id), rfl⟩)) _) ?_
      refine AOps.nil ?_
      refine hK11 _ ?_
      refine jb1k h5 fun p1 hp1 hk2 => ?_
      have J2 : ∀ (f5 : Int) (i6 : Nat → Nat), p1 = f5 → K10 ⟨[(0, .r (.int .i64 n1)), (1, .r (.int .i64 from1)), (2, .r (.int .i64 to1)), (9, .r (.sl (r2.map GStep.row))), (10, .r (.int .i64 r3)), (11, .r (.str s4)), (12, .r (.int .i64 f5))], [], (i6 0), 123⟩ := by
        intro f5 i6 e
        have h6 := hk2 _ e
        refine hK10 _ ?_
        refine AW.seq_w fun K12 hK12 wK12 => ?_
        refine AW.seq_w fun K13 hK13 wK13 => ?_
        refine AW.region ?_
        refine AOps.step rfl rfl rfl (OpQ.spec (sp_move rfl (.inl rfl)) _) ?_
        refine AOps.step rfl rfl rfl (OpQ.spec (sp_eql rfl (.inl rfl) (.inl rfl)) _) ?_
        refine AOps.step rfl rfl rfl (OpQ.spec (sp_move rfl (.inl rfl)) _) ?_
        refine AOps.stepW (.one rfl rfl rfl) rfl rfl (OpQ.spec (sp_move rfl (.inl rfl)) _) ?_
        refine AOps.stepW (.one rfl rfl rfl) rfl rfl (OpQ.spec (sp_len_str rfl Tryz.underlying9 (.inr ⟨_, (by exact id), rfl⟩)) _) ?_
        refine AOps.stepW (.one rfl rfl rfl) rfl rfl (OpQ.spec (sp_gtr rfl (.inr ⟨_, (by exact id), rfl⟩) (.inl rfl)) _) ?_
        refine AOps.step rfl rfl rfl (OpQ.spec (sp_and rfl (.inl rfl) (.inr ⟨_, (by exact id), rfl⟩)) _) ?_
        refine AOps.nil ?_
        refine hK13 _ ?_
        refine jb1k h6 fun p2 hp2 hk3 => ?_
        have J3 : ∀ (f6 : Int) (i7 : Nat → Nat), p2 = f6 → K12 ⟨[(0, .r (.int .i64 n1)), (1, .r (.int .i64 from1)), (2, .r (.int .i64 to1)), (9, .r (.sl (r2.map GStep.row))), (10, .r (.int .i64 r3)), (11, .r (.str s4)), (12, .r (.int .i64 f6))], [], (i7 0), 123⟩ := by
          intro f6 i7 e
          have h7 := hk3 _ e
          refine hK12 _ ?_
          refine AW.seq_w fun K14 hK14 wK14 => ?_
          refine AW.seq_w fun K15 hK15 wK15 => ?_
          refine AW.region ?_
          refine AOps.step rfl rfl rfl (OpQ.spec (sp_move rfl (.inl rfl)) _) ?_
          refine AOps.step rfl rfl rfl (OpQ.spec (sp_neq rfl (.inl rfl) (.inl rfl)) _) ?_
          refine AOps.nil ?_
          refine hK15 _ ?_
          refine AW.cond rfl (fun hc2 => ?_) (fun hc2 => ?_)
          · have h8 := ite_t hc2 h7
            refine AW.seq_w fun K16 hK16 wK16 => ?_
            refine AW.region ?_
            refine AOps.step rfl rfl rfl (OpQ.spec (sp_move rfl (.inl rfl)) _) ?_
            refine AOps.step rfl rfl rfl (OpQ.spec (sp_move rfl (.inl rfl)) _) ?_
            refine AOps.step rfl rfl rfl (OpQ.spec (sp_eql rfl (.inl rfl) (.inl rfl)) _) ?_
            refine AOps.step rfl rfl rfl (OpQ.spec (sp_move rfl (.inl rfl)) _) ?_
            refine AOps.stepW (.one rfl rfl rfl) rfl rfl (OpQ.spec (sp_move rfl (.inl rfl)) _) ?_
            refine AOps.stepW (.one rfl rfl rfl) rfl rfl (OpQ.spec (ms_len rfl tg_24.slice (.inr ⟨_, (by exact id), rfl⟩)) _) ?_
            refine AOps.stepW (.one rfl rfl rfl) rfl rfl (OpQ.spec (sp_eql rfl (.inr ⟨_, (by exact id), rfl⟩) (.inl rfl)) _) ?_
            refine AOps.step rfl rfl rfl (OpQ.spec (sp_and rfl (.inl rfl) (.inr ⟨_, (by exact id), rfl⟩)) _) ?_
            refine AOps.step rfl rfl rfl (OpQ.spec (sp_assign rfl (.inl rfl)) _) ?_
            refine AOps.nil ?_
            refine hK16 _ ?_
            refine AW.ret ?_
            exact retf1 (P := Tryz.prog) (fun (r : Bool) => .r (.bool r)) h8 (.inl rfl) (.t (.d rfl))
          · have h8 := ite_f hc2 h7
            refine AW.skip ?_
            refine hK14 _ ?_
            refine AW.seq_w fun K17 hK17 wK17 => ?_
            refine AW.seq_w fun K18 hK18 wK18 => ?_
            refine AW.region ?_
            refine AOps.step rfl rfl rfl (OpQ.spec (sp_move rfl (.inl rfl)) _) ?_
            refine AOps.step rfl rfl rfl (OpQ.spec (sp_gtr rfl (.inl rfl) (.inl rfl)) _) ?_
            refine AOps.nil ?_
            refine hK18 _ ?_
            refine AW.cond rfl (fun hc3 => ?_) (fun hc3 => ?_)
            · have h9 := ite_t hc3 h8
              refine AW.seq_w fun K19 hK19 wK19 => ?_
              refine AW.weak (s' := ⟨[(10, .r (.int .i64 r3))], [], (i7 0), 123⟩) (by exact Weak.cv ⟨.inl (.inl rfl), trivial⟩ trivial (Nat.le_refl _)) ?_
              refine AW.region ?_
              refine AOps.step rfl rfl rfl (OpQ.spec (sp_move rfl (.inl rfl)) _) ?_
              refine AOps.step rfl rfl rfl (OpQ.spec (sp_eql rfl (.inl rfl) (.inl rfl)) _) ?_
              refine AOps.step rfl rfl rfl (OpQ.spec (sp_assign rfl (.inl rfl)) _) ?_
              refine AOps.nil ?_
              refine hK19 _ ?_
              refine AW.ret ?_
              exact retf1 (P := Tryz.prog) (fun (r : Bool) => .r (.bool r)) h9 (.inl rfl) (.t (.d rfl))
            · have h9 := ite_f hc3 h8
              refine AW.skip ?_
              refine hK17 _ ?_
              refine AW.seq_w fun K20 hK20 wK20 => ?_
              refine ob1k h9 fun x4 ex4 h10 => ?_
              refine ob1k h10 fun l1 el1 h11 => ?_
              refine ob1k h11 fun l2 el2 h12 => ?_
              refine ob1k h12 fun l3 el3 h13 => ?_
              refine AW.regionP 9 [⟨some 94, (fun _ => .r (.int .i64 n1)), none, []⟩, ⟨some 95, (fun _ => .r (.int .i64 x4)), none, []⟩, ⟨some 96, (fun G1 => .own 96 (G1 2)), some (96, (fun G1 => some (.arr (G1 2) 55 1 (l1.map (rSl GElem.row))))), [2]⟩, ⟨some 97, (fun _ => .r (.int .i64 n1)), none, []⟩, ⟨some 98, (fun G1 => .own 98 (G1 4)), some (98, (fun G1 => some (.arr (G1 4) 4 1 (l2.map rBool)))), [4]⟩, ⟨some 99, (fun _ => .r (.int .i64 n1)), none, []⟩, ⟨some 100, (fun G1 => .own 100 (G1 6)), some (100, (fun G1 => some (.arr (G1 6) 37 1 (l3.map (rSl GAttr.row))))), [6]⟩, ⟨some 101, (fun G1 => .agg [.own 96 (G1 2), .own 98 (G1 4), .own 100 (G1 6)]), none, [2, 4, 6]⟩, ⟨some 14, (fun G1 => .ptr 14 (G1 8) 0 0), some (14, (fun G1 => some (.box (G1 8) 34 [.cst (.slice none 0 0), .cst (.slice none 0 0), .cst (.slice none 0 0)]))), [8]⟩] hmix (by kernel_rfl) (by exact ⟨fun _ _ h => ⟨rfl, fun _ _ e => by cases e⟩, fun _ _ h => ⟨rfl, fun _ _ e => by cases e⟩, fun _ _ h => ⟨by simp only [h 2 rfl], fun _ _ e => by cases e; simp only [h 2 rfl]⟩, fun _ _ h => ⟨rfl, fun _ _ e => by cases e⟩, fun _ _ h => ⟨by simp only [h 4 rfl], fun _ _ e => by cases e; simp only [h 4 rfl]⟩, fun _ _ h => ⟨rfl, fun _ _ e => by cases e⟩, fun _ _ h => ⟨by simp only [h 6 rfl], fun _ _ e => by cases e; simp only [h 6 rfl]⟩, fun _ _ h => ⟨by simp only [h 2 rfl, h 4 rfl, h 6 rfl], fun _ _ e => by cases e⟩, fun _ _ h => ⟨by simp only [h 8 rfl], fun _ _ e => by cases e; simp only [h 8 rfl]⟩, trivial⟩) rfl (by exact ⟨Ob.quiet (n1 := fun n => n) rfl rfl (by intro d h; cases h; rfl) rfl (fun _ => [(0, .r (.int .i64 n1))]) (fun _ => []) (fun D G1 hr => ⟨inE_base rfl rfl, trivial⟩) (fun D G1 hr => trivial) (fun _ _ => rfl) (fun G1 e h' n => OpQ.spec (v := .r (.int .i64 n1)) (sp_move rfl (.inl rfl)) _),
                  Ob.quiet (n1 := fun n => n) rfl rfl (by intro d h; cases h; rfl) rfl (fun _ => [(94, .r (.int .i64 n1))]) (fun _ => []) (fun D G1 hr => ⟨inE_op hr 0 rfl rfl (by kernel_rfl) rfl rfl, trivial⟩) (fun D G1 hr => trivial) (fun _ _ => rfl) (fun G1 e h' n => OpQ.spec (v := .r (.int .i64 x4)) (ms_add rfl (.inl rfl) (.inl rfl) (fun _ => ex4)) _),
                  Ob.make (n1 := fun n => n + 1) rfl rfl (by intro d h; cases h; rfl) rfl (fun _ => [(95, .r (.int .i64 x4))]) (fun _ => []) (fun D G1 hr => ⟨inE_op hr 1 rfl rfl (by kernel_rfl) rfl rfl, trivial⟩) (fun D G1 hr => trivial) (fun G1 e h' n => ms_mk 96 rfl tg_30 (f := (rSl GElem.row)) (z0 := []) tr_55 (.inl rfl) (.inl rfl) el1),
                  Ob.quiet (n1 := fun n => n) rfl rfl (by intro d h; cases h; rfl) rfl (fun _ => [(0, .r (.int .i64 n1))]) (fun _ => []) (fun D G1 hr => ⟨inE_base rfl rfl, trivial⟩) (fun D G1 hr => trivial) (fun _ _ => rfl) (fun G1 e h' n => OpQ.spec (v := .r (.int .i64 n1)) (sp_move rfl (.inl rfl)) _),
                  Ob.make (n1 := fun n => n + 1) rfl rfl (by intro d h; cases h; rfl) rfl (fun _ => [(97, .r (.int .i64 n1))]) (fun _ => []) (fun D G1 hr => ⟨inE_op hr 3 rfl rfl (by kernel_rfl) rfl rfl, trivial⟩) (fun D G1 hr => trivial) (fun G1 e h' n => ms_mk 98 rfl tg_31 (f := rBool) (z0 := false) tr_4 (.inl rfl) (.inl rfl) el2),
                  Ob.quiet (n1 := fun n => n) rfl rfl (by intro d h; cases h; rfl) rfl (fun _ => [(0, .r (.int .i64 n1))]) (fun _ => []) (fun D G1 hr => ⟨inE_base rfl rfl, trivial⟩) (fun D G1 hr => trivial) (fun _ _ => rfl) (fun G1 e h' n => OpQ.spec (v := .r (.int .i64 n1)) (sp_move rfl (.inl rfl)) _),
                  Ob.make (n1 := fun n => n + 1) rfl rfl (by intro d h; cases h; rfl) rfl (fun _ => [(99, .r (.int .i64 n1))]) (fun _ => []) (fun D G1 hr => ⟨inE_op hr 5 rfl rfl (by kernel_rfl) rfl rfl, trivial⟩) (fun D G1 hr => trivial) (fun G1 e h' n => ms_mk 100 rfl tg_32 (f := (rSl GAttr.row)) (z0 := []) tr_37 (.inl rfl) (.inl rfl) el3),
                  Ob.quiet (n1 := fun n => n) rfl rfl (by intro d h; cases h; rfl) rfl (fun G1 => [(96, .own 96 (G1 2)), (98, .own 98 (G1 4)), (100, .own 100 (G1 6))]) (fun G1 => [(96, some (.arr (G1 2) 55 1 (l1.map (rSl GElem.row)))), (98, some (.arr (G1 4) 4 1 (l2.map rBool))), (100, some (.arr (G1 6) 37 1 (l3.map (rSl GAttr.row))))]) (fun D G1 hr => ⟨inE_op hr 2 rfl rfl (by kernel_rfl) rfl rfl, inE_op hr 4 rfl rfl (by kernel_rfl) rfl rfl, inE_op hr 6 rfl rfl (by kernel_rfl) rfl rfl, trivial⟩) (fun D G1 hr => ⟨inH_op hr 2 rfl rfl (by kernel_rfl) (by kernel_rfl) rfl, inH_op hr 4 rfl rfl (by kernel_rfl) (by kernel_rfl) rfl, inH_op hr 6 rfl rfl (by kernel_rfl) (by kernel_rfl) rfl, trivial⟩) (fun _ _ => rfl) (fun G1 e h' n => OpQ.spec (v := .agg [.own 96 (G1 2), .own 98 (G1 4), .own 100 (G1 6)]) (sp_build rfl tb_34 (q := [(0, _), (1, _), (2, _)]) (by exact ⟨rfl, rfl, rfl, (.inl rfl), rfl, rfl, rfl, (.inl rfl), rfl, rfl, rfl, (.inl rfl), trivial⟩) (cs := [.own 96 (G1 2), .own 98 (G1 4), .own 100 (G1 6)]) (by rfl)) _),
                  Ob.make (n1 := fun n => n + 1) rfl rfl (by intro d h; cases h; rfl) rfl (fun _ => []) (fun _ => []) (fun D G1 hr => trivial) (fun D G1 hr => trivial) (fun G1 e h' n => ms_alloc (cs := [.cst (.slice none 0 0), .cst (.slice none 0 0), .cst (.slice none 0 0)]) 14 rfl t0_34 rfl rfl),
                  trivial⟩) fun G1 n2 => ?_
              refine AOps.weak (s' := ⟨[(0, .r (.int .i64 n1)), (1, .r (.int .i64 from1)), (2, .r (.int .i64 to1)), (9, .r (.sl (r2.map GStep.row))), (10, .r (.int .i64 r3)), (11, .r (.str s4)), (12, .r (.int .i64 f6)), (14, .ptr 14 (G1 8) 0 0), (80, .r (.int .i64 f6)), (81, .r (.bool (!decide (f6 = 0)))), (90, .r (.int .i64 n1)), (91, .r (.bool (decide (300 < n1)))), (94, .r (.int .i64 n1)), (95, .r (.int .i64 x4)), (96, .own 96 (G1 2)), (97, .r (.int .i64 n1)), (98, .own 98 (G1 4)), (99, .r (.int .i64 n1)), (100, .own 100 (G1 6)), (101, .agg [.own 96 (G1 2), .own 98 (G1 4), .own 100 (G1 6)])], [(14, some (.box (G1 8) 34 [.cst (.slice none 0 0), .cst (.slice none 0 0), .cst (.slice none 0 0)])), (96, some (.arr (G1 2) 55 1 (l1.map (rSl GElem.row)))), (98, some (.arr (G1 4) 4 1 (l2.map rBool))), (100, some (.arr (G1 6) 37 1 (l3.map (rSl GAttr.row))))], n2, 123⟩) (by exact Weak.cv ⟨.inl (.inl rfl), .inl (.inl rfl), .inl (.inl rfl), .inl (.inl rfl), .inl (.inl rfl), .inl (.inl rfl), .inl (.inl rfl), .inl (.inl rfl), .inl (.inl rfl), .inl (.inl rfl), .inl (.inl rfl), .inl (.inl rfl), .inl (.inl rfl), .inl (.inl rfl), .inl (.inl rfl), .inl (.inl rfl), .inl (.inl rfl), .inl (.inl rfl), .inl (.inl rfl), .inl (.inl rfl), trivial⟩ ⟨.inl rfl, .inl rfl, .inl rfl, .inl rfl, trivial⟩ (Nat.le_refl _)) ?_
              refine AOps.step0 rfl rfl (ms_store_box (ds := [.own 96 (G1 2), .own 98 (G1 4), .own 100 (G1 6)]) rfl tz_34 (.inl rfl) rfl (.inl rfl) rfl rfl rfl rfl) ?_
              refine AOps.nil ?_
              refine hK20 _ ?_
              refine AW.seq_w fun K21 hK21 wK21 => ?_
              refine AW.seq_w fun K22 hK22 wK22 => ?_
              refine AW.weak (s' := ⟨[(1, .r (.int .i64 from1)), (2, .r (.int .i64 to1)), (9, .r (.sl (r2.map GStep.row))), (10, .r (.int .i64 r3)), (11, .r (.str s4)), (14, .ptr 14 (G1 8) 0 0)], [(14, some (.box (G1 8) 34 [.own 96 (G1 2), .own 98 (G1 4), .own 100 (G1 6)])), (96, some (.arr (G1 2) 55 1 (l1.map (rSl GElem.row)))), (98, some (.arr (G1 4) 4 1 (l2.map rBool))), (100, some (.arr (G1 6) 37 1 (l3.map (rSl GAttr.row))))], n2, 123⟩) (by exact Weak.cv ⟨.inl (.inl rfl), .inl (.inl rfl), .inl (.inl rfl), .inl (.inl rfl), .inl (.inl rfl), .inl (.inl rfl), trivial⟩ ⟨.inl rfl, .inl rfl, .inl rfl, .inl rfl, trivial⟩ (Nat.le_refl _)) ?_
              refine AW.region ?_
              refine AOps.step rfl rfl rfl (OpQ.spec (sp_move rfl (.inl rfl)) _) ?_
              refine AOps.step rfl rfl rfl (OpQ.spec (sp_assign rfl (.inl rfl)) _) ?_
              refine AOps.nil ?_
              refine hK22 _ ?_
              refine AW.block ?_
              refine jb1k h13 fun o2 hit2 hk4 => ?_
              have J4 : ∀ (x8 : Ref_Act) (i15 : Nat → Nat), o2 = x8 → K21 ⟨[(9, .r (.sl (r2.map GStep.row))), (10, .r (.int .i64 r3)), (14, .ptr 14 (G1 8) 0 0)], [(14, some (.box (G1 8) 34 [.own 96 (i15 0), .own 98 (i15 1), .own 100 (i15 2)])), (96, some (.arr (i15 0) 55 1 (x8.Adds.map (rSl GElem.row)))), (98, some (.arr (i15 1) 4 1 (x8.Cuts.map rBool))), (100, some (.arr (i15 2) 37 1 (x8.Attrs.map (rSl GAttr.row))))], (i15 3), 123⟩ := by
                intro x8 i15 e
                have h14 := hk4 _ e
                refine hK21 _ ?_
                refine AW.seq_w fun K23 hK23 wK23 => ?_
                refine AW.region ?_
                refine AOps.step rfl rfl rfl (OpQ.spec (sp_move rfl (.inl rfl)) _) ?_
                refine AOps.step rfl rfl rfl (OpQ.spec (sp_eql rfl (.inl rfl) (.inl rfl)) _) ?_
                refine AOps.step rfl rfl rfl (OpQ.spec (sp_move rfl (.inl rfl)) _) ?_
                refine AOps.stepW (.one rfl rfl rfl) rfl rfl (OpQ.spec (sp_move rfl (.inl rfl)) _) ?_
                refine AOps.stepW (.one rfl rfl rfl) rfl rfl (OpQ.spec (ms_loadA_box rfl ta_34 (.inl rfl) rfl rfl) _) ?_
                refine jb1k h14 fun p3 hp3 hk5 => ?_
                have J5 : ∀ (x9 : Bool) (i16 : Nat → Nat), p3 = x9 → K23 ⟨[(8, .r (.bool x9))], [], (i16 0), 123⟩ := by
                  intro x9 i16 e
                  have h15 := hk5 _ e
                  refine hK23 _ ?_
                  refine AW.ret ?_
                  exact retf1 (P := Tryz.prog) (fun (r : Bool) => .r (.bool r)) h15 (.inl rfl) (.t (.d rfl))
                refine AOps.split ((decide (r3 = 0)) == true) (fun hg1 => ?_) (fun hg1 => ?_)
                · have h16 := ite_t hg1 hp3
                  refine AOps.weak (by exact Weak.unw2 (e' := [(9, .r (.sl (r2.map GStep.row))), (10, .r (.int .i64 r3)), (14, .ptr 14 (G1 8) 0 0), (115, .r (.int .i64 r3)), (116, .r (.bool (decide (r3 = 0)))), (117, .r (.bool (decide (r3 = 0)))), (118, .r (.sl (r2.map GStep.row))), (119, .agg [.own 96 (i15 0), .own 98 (i15 1), .own 100 (i15 2)])]) hg1 ⟨.inl rfl, .inl rfl, .inl rfl, .inl rfl, .inl rfl, .inl rfl, .inr (.inl rfl), .inr (.inl rfl), trivial⟩) ?_
                  refine AOps.weak (by exact Weak.frz (e' := [(9, .r (.sl (r2.map GStep.row))), (10, .r (.int .i64 r3)), (14, .ptr 14 (G1 8) 0 0), (115, .r (.int .i64 r3)), (116, .r (.bool (decide (r3 = 0)))), (117, .r (.bool (decide (r3 = 0)))), (118, .r (.sl (r2.map GStep.row))), (119, .agg [.r (.sl (x8.Adds.map (rSl GElem.row))), .own 98 (i15 1), .own 100 (i15 2)])]) (h' := [(14, some (.box (G1 8) 34 [.r (.sl (x8.Adds.map (rSl GElem.row))), .own 98 (i15 1), .own 100 (i15 2)])), (98, some (.arr (i15 1) 4 1 (x8.Cuts.map rBool))), (100, some (.arr (i15 2) 37 1 (x8.Attrs.map (rSl GAttr.row))))]) 96 rfl ⟨.inl (.inl rfl), .inl (.inl rfl), .inl (.inl rfl), .inl (.inl rfl), .inl (.inl rfl), .inl (.inl rfl), .inl (.inl rfl), .inr ⟨_, _, rfl, rfl, ⟨.inr (.inr ⟨rfl, rfl⟩), .inl rfl, .inl rfl, trivial⟩⟩, trivial⟩ ⟨rfl, .inr (.inr (.inl ⟨_, _, _, _, rfl, rfl, ⟨.inr (.inr ⟨rfl, rfl⟩), .inl rfl, .inl rfl, trivial⟩⟩)), rfl, .inl rfl, rfl, .inl rfl, trivial⟩) ?_
                  refine AOps.weak (by exact Weak.frz (e' := [(9, .r (.sl (r2.map GStep.row))), (10, .r (.int .i64 r3)), (14, .ptr 14 (G1 8) 0 0), (115, .r (.int .i64 r3)), (116, .r (.bool (decide (r3 = 0)))), (117, .r (.bool (decide (r3 = 0)))), (118, .r (.sl (r2.map GStep.row))), (119, .agg [.r (.sl (x8.Adds.map (rSl GElem.row))), .r (.sl (x8.Cuts.map rBool)), .own 100 (i15 2)])]) (h' := [(14, some (.box (G1 8) 34 [.r (.sl (x8.Adds.map (rSl GElem.row))), .r (.sl (x8.Cuts.map rBool)), .own 100 (i15 2)])), (100, some (.arr (i15 2) 37 1 (x8.Attrs.map (rSl GAttr.row))))]) 98 rfl ⟨.inl (.inl rfl), .inl (.inl rfl), .inl (.inl rfl), .inl (.inl rfl), .inl (.inl rfl), .inl (.inl rfl), .inl (.inl rfl), .inr ⟨_, _, rfl, rfl, ⟨.inl rfl, .inr (.inr ⟨rfl, rfl⟩), .inl rfl, trivial⟩⟩, trivial⟩ ⟨rfl, .inr (.inr (.inl ⟨_, _, _, _, rfl, rfl, ⟨.inl rfl, .inr (.inr ⟨rfl, rfl⟩), .inl rfl, trivial⟩⟩)), rfl, .inl rfl, trivial⟩) ?_
                  refine AOps.weak (by exact Weak.frz (e' := [(9, .r (.sl (r2.map GStep.row))), (10, .r (.int .i64 r3)), (14, .ptr 14 (G1 8) 0 0), (115, .r (.int .i64 r3)), (116, .r (.bool (decide (r3 = 0)))), (117, .r (.bool (decide (r3 = 0)))), (118, .r (.sl (r2.map GStep.row))), (119, .agg [.r (.sl (x8.Adds.map (rSl GElem.row))), .r (.sl (x8.Cuts.map rBool)), .r (.sl (x8.Attrs.map (rSl GAttr.row)))])]) (h' := [(14, some (.box (G1 8) 34 [.r (.sl (x8.Adds.map (rSl GElem.row))), .r (.sl (x8.Cuts.map rBool)), .r (.sl (x8.Attrs.map (rSl GAttr.row)))]))]) 100 rfl ⟨.inl (.inl rfl), .inl (.inl rfl), .inl (.inl rfl), .inl (.inl rfl), .inl (.inl rfl), .inl (.inl rfl), .inl (.inl rfl), .inr ⟨_, _, rfl, rfl, ⟨.inl rfl, .inl rfl, .inr (.inr ⟨rfl, rfl⟩), trivial⟩⟩, trivial⟩ ⟨rfl, .inr (.inr (.inl ⟨_, _, _, _, rfl, rfl, ⟨.inl rfl, .inl rfl, .inr (.inr ⟨rfl, rfl⟩), trivial⟩⟩)), trivial⟩) ?_
                  refine ob1k h16 fun r5 er5 h17 => ?_
                  refine AOps.stepGT (.one rfl rfl rfl) hg1 rfl rfl (sp_callS (r := .r (.sl (r5.map GStep.row))) (caps := []) (bs := [.agg [.r (.sl (x8.Adds.map (rSl GElem.row))), .r (.sl (x8.Cuts.map rBool)), .r (.sl (x8.Attrs.map (rSl GAttr.row)))]]) rfl (.inl rfl) rfl ⟨.inl ⟨(.inl rfl), rfl⟩, trivial⟩ (fun _ => w_ref_DeltaOf (er5))) ?_
                  refine ob1k h17 fun r6 er6 h18 => ?_
                  refine AOps.stepGT (.one rfl rfl rfl) hg1 rfl rfl (sp_call (r := .r (.bool r6)) (caps := []) (bs := [.r (.sl (r2.map GStep.row)), .r (.sl (r5.map GStep.row))]) rfl (.inl rfl) rfl ⟨⟨_, (.inl rfl), .d rfl⟩, ⟨_, (.inl rfl), .d rfl⟩, trivial⟩ (fun _ => w_ref_SameDelta (er6)) rfl) ?_
                  refine AOps.step rfl rfl rfl (OpQ.spec (sp_and rfl (.inl rfl) (.inl rfl)) _) ?_
                  refine AOps.step rfl rfl rfl (OpQ.spec (sp_assign rfl (.inl rfl)) _) ?_
                  refine AOps.nil ?_
                  exact wK23 _ _ ((by exact Weak.cv ⟨.inl (.inl rfl), trivial⟩ trivial (Nat.le_refl _))) (J5 _ (vec [(i15 3)]) (Option.some.inj h18).symm)
                · have h16 := ite_f hg1 hp3
                  refine AOps.stepGF2 (.one rfl rfl rfl) hg1 rfl rfl ?_
                  refine AOps.stepGF2 (.one rfl rfl rfl) hg1 rfl rfl ?_
                  refine AOps.step rfl rfl rfl (OpQ.spec (sp_and rfl (.inl rfl) (.inr ⟨_, (by exact id), rfl⟩)) _) ?_
                  refine AOps.step rfl rfl rfl (OpQ.spec (sp_assign rfl (.inl rfl)) _) ?_
                  refine AOps.nil ?_
                  exact wK23 _ _ ((by exact Weak.cv ⟨.inl (.inl rfl), trivial⟩ trivial (Nat.le_refl _))) (J5 _ (vec [(i15 3)]) (Option.some.inj h16).symm)
              refine AW.iter2 (fun (i11 : Int) (x6 : Ref_Act) i12 => ⟨[(2, .r (.int .i64 to1)), (9, .r (.sl (r2.map GStep.row))), (10, .r (.int .i64 r3)), (11, .r (.str s4)), (14, .ptr 14 (G1 8) 0 0), (15, .r (.int .i64 i11))], [(14, some (.box (G1 8) 34 [.own 96 (i12 0), .own 98 (i12 1), .own 100 (i12 2)])), (96, some (.arr (i12 0) 55 1 (x6.Adds.map (rSl GElem.row)))), (98, some (.arr (i12 1) 4 1 (x6.Cuts.map rBool))), (100, some (.arr (i12 2) 37 1 (x6.Attrs.map (rSl GAttr.row))))], (i12 3), 123⟩) (vec [(G1 2), (G1 4), (G1 6), n2]) hit2 ((by exact Weak.cv ⟨.inl (.inl rfl), .inl (.inl rfl), .inl (.inl rfl), .inl (.inl rfl), .inl (.inl rfl), .inl (.inl rfl), trivial⟩ ⟨.inl rfl, .inl rfl, .inl rfl, .inl rfl, trivial⟩ (Nat.le_refl _))) ?_
              intro i11 x6 i12 v1 hv1 hx2
              have h19 : law_RightsLockMatches_L2 to1 s4 i11 x6 = some v1 := hv1; unfold law_RightsLockMatches_L2 at h19
              refine AW.seq_w fun K24 hK24 wK24 => ?_
              refine AW.seq_w fun K25 hK25 wK25 => ?_
              refine AW.region ?_
              refine AOps.step rfl rfl rfl (OpQ.spec (sp_move rfl (.inl rfl)) _) ?_
              refine AOps.step rfl rfl rfl (OpQ.spec (sp_move rfl (.inl rfl)) _) ?_
              refine AOps.step rfl rfl rfl (OpQ.spec (sp_lss rfl (.inl rfl) (.inl rfl)) _) ?_
              refine AOps.nil ?_
              refine hK25 _ ?_
              refine AW.cond rfl (fun hc4 => ?_) (fun hc4 => ?_)
              · have h20 := ite_t hc4 h19
                refine AW.skip ?_
                refine hK24 _ ?_
                refine AW.seq_w fun K26 hK26 wK26 => ?_
                refine AW.block ?_
                refine AW.region ?_
                refine AOps.step rfl rfl rfl (OpQ.spec (sp_fieldAddr_own (ob := .box _ _ _) rfl tf_34_2 (.inl rfl) (fun _ => rfl) rfl) _) ?_
                refine AOps.step rfl rfl rfl (OpQ.spec (ms_load_box (a := .own 100 (i12 2)) rfl ts_32 (.inl rfl) rfl rfl) _) ?_
                refine AOps.step rfl rfl rfl (OpQ.spec (sp_move rfl (.inl rfl)) _) ?_
                refine AOps.step rfl rfl rfl (OpQ.spec (sp_move rfl (.inl rfl)) _) ?_
                refine AOps.step rfl rfl rfl (OpQ.spec (sp_build rfl tb_36 (q := [(0, _), (1, _)]) (by exact ⟨rfl, rfl, rfl, (.inl rfl), rfl, rfl, rfl, (.inl rfl), trivial⟩) (cs := [.r (.str [108, 111, 99, 107]), .r (.str s4)]) (by rfl)) _) ?_
                refine AOps.step rfl rfl rfl (ms_lit 113 rfl tg_37 (f := GAttr.row) (l := ([(GAttr.mk [108, 111, 99, 107] s4)] : List GAttr)) ⟨rfl, ⟨_, (.inl rfl), rfl⟩, trivial⟩ rfl (fun _ => rfl) rfl) ?_
                refine ob1k h20 fun x10 ex10 h21 => ?_
                refine AOps.step rfl rfl rfl (OpQ.spec (ms_idx_own rfl tg_32.slice (.inl rfl) rfl (.inl rfl) (fun _ => ex10)) _) ?_
                refine AOps.weak (by exact Weak.frz (e' := [(2, .r (.int .i64 to1)), (9, .r (.sl (r2.map GStep.row))), (10, .r (.int .i64 r3)), (11, .r (.str s4)), (14, .ptr 14 (G1 8) 0 0), (15, .r (.int .i64 i11)), (103, .r (.int .i64 i11)), (104, .r (.int .i64 to1)), (105, .r (.bool (decide (i11 < to1)))), (108, .ptr 14 (G1 8) 0 2), (109, .own 100 (i12 2)), (110, .r (.int .i64 i11)), (111, .r (.str s4)), (112, .agg [.r (.str [108, 111, 99, 107]), .r (.str s4)]), (113, .r (.sl ([(GAttr.mk [108, 111, 99, 107] s4)].map GAttr.row))), (114, .ptr 100 (i12 2) i11.toNat 0)]) (h' := [(14, some (.box (G1 8) 34 [.own 96 (i12 0), .own 98 (i12 1), .own 100 (i12 2)])), (96, some (.arr (i12 0) 55 1 (x6.Adds.map (rSl GElem.row)))), (98, some (.arr (i12 1) 4 1 (x6.Cuts.map rBool))), (100, some (.arr (i12 2) 37 1 (x6.Attrs.map (rSl GAttr.row))))]) 113 rfl ⟨.inl (.inl rfl), .inl (.inl rfl), .inl (.inl rfl), .inl (.inl rfl), .inl (.inl rfl), .inl (.inl rfl), .inl (.inl rfl), .inl (.inl rfl), .inl (.inl rfl), .inl (.inl rfl), .inl (.inl rfl), .inl (.inl rfl), .inl (.inl rfl), .inl (.inl rfl), .inl (.inr (.inr ⟨rfl, rfl⟩)), .inl (.inl rfl), trivial⟩ ⟨rfl, .inl rfl, rfl, .inl rfl, rfl, .inl rfl, rfl, .inl rfl, trivial⟩) ?_
                refine AOps.step0 rfl rfl (ms_store (v := [(GAttr.mk [108, 111, 99, 107] s4)]) rfl tz_37 (.inl rfl) rfl ex10 (.inl rfl) rfl rfl rfl rfl) ?_
                refine AOps.nil ?_
                refine hK26 _ ?_
                refine AW.weak (s' := ⟨[(2, .r (.int .i64 to1)), (9, .r (.sl (r2.map GStep.row))), (10, .r (.int .i64 r3)), (11, .r (.str s4)), (14, .ptr 14 (G1 8) 0 0), (15, .r (.int .i64 i11))], [(14, some (.box (G1 8) 34 [.own 96 (i12 0), .own 98 (i12 1), .own 100 (i12 2)])), (96, some (.arr (i12 0) 55 1 (x6.Adds.map (rSl GElem.row)))), (98, some (.arr (i12 1) 4 1 (x6.Cuts.map rBool))), (100, some (.arr (i12 2) 37 1 ((x6.Attrs.set i11.toNat [(GAttr.mk [108, 111, 99, 107] s4)]).map (rSl GAttr.row))))], ((i12 3) + 1), 123⟩) (by exact Weak.cv ⟨.inl (.inl rfl), .inl (.inl rfl), .inl (.inl rfl), .inl (.inl rfl), .inl (.inl rfl), .inl (.inl rfl), trivial⟩ ⟨.inl rfl, .inl rfl, .inl rfl, .inl rfl, trivial⟩ (Nat.le_refl _)) ?_
                refine AW.region ?_
                refine AOps.step rfl rfl rfl (OpQ.spec (sp_move rfl (.inl rfl)) _) ?_
                refine ob1k h21 fun i17 ei17 h22 => ?_
                refine AOps.step rfl rfl rfl (OpQ.spec (ms_add rfl (.inl rfl) (.inl rfl) (fun _ => ei17)) _) ?_
                refine AOps.step rfl rfl rfl (OpQ.spec (sp_assign rfl (.inl rfl)) _) ?_
                refine AOps.nil ?_
                exact NextQ2.mk h22 (vec [(i12 0), (i12 1), (i12 2), ((i12 3) + 1)]) ((by exact Weak.cv ⟨.inl (.inl rfl), .inl (.inl rfl), .inl (.inl rfl), .inl (.inl rfl), .inl (.inl rfl), .inl (.inl rfl), trivial⟩ ⟨.inl rfl, .inl rfl, .inl rfl, .inl rfl, trivial⟩ (Nat.le_refl _)))
              · have h20 := ite_f hc4 h19
                refine AW.exit ?_
                exact wK21 _ _ ((by exact Weak.cv ⟨.inl (.inl rfl), .inl (.inl rfl), .inl (.inl rfl), trivial⟩ ⟨.inl rfl, .inl rfl, .inl rfl, .inl rfl, trivial⟩ (Nat.le_refl _))) (J4 _ (vec [(i12 0), (i12 1), (i12 2), (i12 3)]) (hx2 _ (Option.some.inj h20).symm))
        refine AW.cond rfl (fun hc5 => ?_) (fun hc5 => ?_)
        · have h23 := ite_t hc5 hp2
          refine AW.region ?_
          refine AOps.step rfl rfl rfl (OpQ.spec (sp_assign rfl (.inl rfl)) _) ?_
          refine AOps.nil ?_
          exact wK12 _ _ ((by exact Weak.cv ⟨.inl (.inl rfl), .inl (.inl rfl), .inl (.inl rfl), .inl (.inl rfl), .inl (.inl rfl), .inl (.inl rfl), .inl (.inl rfl), trivial⟩ trivial (Nat.le_refl _))) (J3 _ (vec [(i6 0)]) (Option.some.inj h23).symm)
        · have h23 := ite_f hc5 hp2
          refine AW.skip ?_
          exact wK12 _ _ ((by exact Weak.cv ⟨.inl (.inl rfl), .inl (.inl rfl), .inl (.inl rfl), .inl (.inl rfl), .inl (.inl rfl), .inl (.inl rfl), .inl (.inl rfl), trivial⟩ trivial (Nat.le_refl _))) (J3 _ (vec [(i6 0)]) (Option.some.inj h23).symm)
      refine AW.cond rfl (fun hc6 => ?_) (fun hc6 => ?_)
      · have h24 := ite_t hc6 hp1
        refine AW.weak (s' := ⟨[(0, .r (.int .i64 n1)), (1, .r (.int .i64 from1)), (2, .r (.int .i64 to1)), (9, .r (.sl (r2.map GStep.row))), (10, .r (.int .i64 r3)), (11, .r (.str s4))], [], (i5 0), 123⟩) (by exact Weak.cv ⟨.inl (.inl rfl), .inl (.inl rfl), .inl (.inl rfl), .inl (.inl rfl), .inl (.inl rfl), .inl (.inl rfl), trivial⟩ trivial (Nat.le_refl _)) ?_
        refine AW.region ?_
        refine AOps.step rfl rfl rfl (OpQ.spec (sp_assign rfl (.inl rfl)) _) ?_
        refine AOps.nil ?_
        exact wK10 _ _ ((by exact Weak.cv ⟨.inl (.inl rfl), .inl (.inl rfl), .inl (.inl rfl), .inl (.inl rfl), .inl (.inl rfl), .inl (.inl rfl), .inl (.inl rfl), trivial⟩ trivial (Nat.le_refl _))) (J2 _ (vec [(i5 0)]) (Option.some.inj h24).symm)
      · have h24 := ite_f hc6 hp1
        refine AW.skip ?_
        exact wK10 _ _ ((by exact Weak.cv ⟨.inl (.inl rfl), .inl (.inl rfl), .inl (.inl rfl), .inl (.inl rfl), .inl (.inl rfl), .inl (.inl rfl), .inl (.inl rfl), trivial⟩ trivial (Nat.le_refl _))) (J2 _ (vec [(i5 0)]) (Option.some.inj h24).symm)
    refine AW.iter3 (fun (s2 : List UInt8) (f2 : Int) (x2 : Int) i3 => ⟨[(0, .r (.int .i64 n1)), (1, .r (.int .i64 from1)), (2, .r (.int .i64 to1)), (3, .r (.sl (users1.map rStr))), (9, .r (.sl (r2.map GStep.row))), (10, .r (.int .i64 r3)), (11, .r (.str s2)), (12, .r (.int .i64 f2)), (27, .r (.int .i64 (users1.length : Int))), (28, .r (.int .i64 x2))], [], (i3 0), 123⟩) (vec [n0]) hit1 ((by exact Weak.cv ⟨.inl (.inl rfl), .inl (.inl rfl), .inl (.inl rfl), .inl (.inl rfl), .inl (.inl rfl), .inl (.inl rfl), .inl (.inl rfl), .inl (.inl rfl), .inl (.inl rfl), .inl (.inl rfl), trivial⟩ trivial (Nat.le_refl _))) ?_
    intro s2 f2 x2 i3 v2 hv2 hx1
    have h25 : law_RightsLockMatches_L1 users1 s2 f2 x2 = some v2 := hv2; unfold law_RightsLockMatches_L1 at h25
    refine AW.seq_w fun K27 hK27 wK27 => ?_
    refine AW.region ?_
    refine AOps.step rfl rfl rfl (OpQ.spec (sp_lss rfl (.inl rfl) (.inl rfl)) _) ?_
    refine AOps.nil ?_
    refine hK27 _ ?_
    refine AW.seq_w fun K28 hK28 wK28 => ?_
    refine AW.cond rfl (fun hc7 => ?_) (fun hc7 => ?_)
    · have h26 := ite_t hc7 h25
      refine AW.skip ?_
      refine hK28 _ ?_
      refine AW.seq_w fun K29 hK29 wK29 => ?_
      refine AW.block ?_
      refine AW.seq_w fun K30 hK30 wK30 => ?_
      refine AW.region ?_
      refine AOps.step rfl rfl rfl (OpQ.spec (sp_move rfl (.inl rfl)) _) ?_
      refine AOps.step rfl rfl rfl (OpQ.spec (sp_assign rfl (.inl rfl)) _) ?_
      refine AOps.nil ?_
      refine hK30 _ ?_
      refine AW.seq_w fun K31 hK31 wK31 => ?_
      refine AW.seq_w fun K32 hK32 wK32 => ?_
      refine AW.region ?_
      refine AOps.step rfl rfl rfl (OpQ.spec (sp_move rfl (.inl rfl)) _) ?_
      refine AOps.step rfl rfl rfl (OpQ.spec (sp_eql rfl (.inl rfl) (.inl rfl)) _) ?_
      refine AOps.step rfl rfl rfl (OpQ.spec (sp_move rfl (.inl rfl)) _) ?_
      refine AOps.stepW (.one rfl rfl rfl) rfl rfl (OpQ.spec (sp_move rfl (.inl rfl)) _) ?_
      refine AOps.stepW (.one rfl rfl rfl) rfl rfl (OpQ.spec (sp_move rfl (.inl rfl)) _) ?_
      refine ob1k h26 fun x11 ex11 h27 => ?_
      refine AOps.stepW (.one rfl rfl rfl) rfl rfl (OpQ.spec (ms_idx rfl tg_22.slice (.inr ⟨_, (by exact id), rfl⟩) (.inr ⟨_, (by exact id), rfl⟩) (fun _ => rfl) (gdt ex11)) _) ?_
      refine AOps.stepW (.one rfl rfl rfl) rfl rfl (OpQ.spec (ms_load (d := .str x11) rfl ts_9 (.inr ⟨_, (by exact id), rfl⟩) rfl) _) ?_
      refine ob1k h27 fun r7 er7 h28 => ?_
      refine AOps.stepW (.one rfl rfl rfl) rfl rfl (sp_call (r := .r (.bool r7)) (caps := []) (bs := [.r (.str x11)]) rfl (.inl rfl) rfl ⟨⟨_, (.inr ⟨_, (by exact id), rfl⟩), .d rfl⟩, trivial⟩ (fun hg => w_ref_Name (gdt er7 hg)) rfl) ?_
      refine AOps.stepW (.one rfl rfl rfl) rfl rfl (OpQ.spec (sp_not rfl (.inr ⟨_, (by exact id), rfl⟩)) _) ?_
      refine AOps.step rfl rfl rfl (OpQ.spec (sp_and rfl (.inl rfl) (.inr ⟨_, (by exact id), rfl⟩)) _) ?_
      refine AOps.nil ?_
      refine hK32 _ ?_
      refine jb1k h28 fun p4 hp4 hk6 => ?_
      have J6 : ∀ (f7 : Int) (i18 : Nat → Nat), p4 = f7 → K31 ⟨[(0, .r (.int .i64 n1)), (1, .r (.int .i64 from1)), (2, .r (.int .i64 to1)), (3, .r (.sl (users1.map rStr))), (9, .r (.sl (r2.map GStep.row))), (10, .r (.int .i64 r3)), (11, .r (.str s2)), (12, .r (.int .i64 f7)), (13, .r (.int .i64 x2)), (27, .r (.int .i64 (users1.length : Int))), (28, .r (.int .i64 x2))], [], (i18 0), 123⟩ := by
        intro f7 i18 e
        have h29 := hk6 _ e
        refine hK31 _ ?_
        refine AW.seq_w fun K33 hK33 wK33 => ?_
        refine AW.seq_w fun K34 hK34 wK34 => ?_
        refine AW.region ?_
        refine AOps.step rfl rfl rfl (OpQ.spec (sp_move rfl (.inl rfl)) _) ?_
        refine AOps.step rfl rfl rfl (OpQ.spec (sp_gtr rfl (.inl rfl) (.inl rfl)) _) ?_
        refine AOps.nil ?_
        refine hK34 _ ?_
        refine jb1k h29 fun p5 hp5 hk7 => ?_
        have J7 : ∀ (s5 : List UInt8) (i19 : Nat → Nat), p5 = s5 → K33 ⟨[(0, .r (.int .i64 n1)), (1, .r (.int .i64 from1)), (2, .r (.int .i64 to1)), (3, .r (.sl (users1.map rStr))), (9, .r (.sl (r2.map GStep.row))), (10, .r (.int .i64 r3)), (11, .r (.str s5)), (12, .r (.int .i64 f7)), (13, .r (.int .i64 x2)), (27, .r (.int .i64 (users1.length : Int))), (28, .r (.int .i64 x2))], [], (i19 0), 123⟩ := by
          intro s5 i19 e
          have h30 := hk7 _ e
          refine hK33 _ ?_
          refine AW.region ?_
          refine AOps.step rfl rfl rfl (OpQ.spec (sp_move rfl (.inl rfl)) _) ?_
          refine AOps.step rfl rfl rfl (OpQ.spec (sp_move rfl (.inl rfl)) _) ?_
          refine AOps.step rfl rfl rfl (OpQ.spec (sp_move rfl (.inl rfl)) _) ?_
          refine ob1k h30 fun x12 ex12 h31 => ?_
          refine AOps.step rfl rfl rfl (OpQ.spec (ms_idx rfl tg_22.slice (.inl rfl) (.inl rfl) (fun _ => rfl) (fun _ => ex12)) _) ?_
          refine AOps.step rfl rfl rfl (OpQ.spec (ms_load (d := .str x12) rfl ts_9 (.inl rfl) rfl) _) ?_
          refine ob1k h31 fun s6 es6 h32 => ?_
          refine AOps.step rfl rfl rfl (OpQ.spec (ms_sadd rfl (.inl rfl) (.inl rfl) (fun _ => es6)) _) ?_
          refine AOps.step rfl rfl rfl (OpQ.spec (sp_assign rfl (.inl rfl)) _) ?_
          refine AOps.nil ?_
          refine hK29 _ ?_
          refine AW.region ?_
          refine ob1k h32 fun x13 ex13 h33 => ?_
          refine AOps.step rfl rfl rfl (OpQ.spec (ms_add rfl (.inl rfl) (.inl rfl) (fun _ => ex13)) _) ?_
          refine AOps.step rfl rfl rfl (OpQ.spec (sp_move rfl (.inl rfl)) _) ?_
          refine AOps.nil ?_
          exact NextQ3.mk h33 (vec [(i19 0)]) ((by exact Weak.cv ⟨.inl (.inl rfl), .inl (.inl rfl), .inl (.inl rfl), .inl (.inl rfl), .inl (.inl rfl), .inl (.inl rfl), .inl (.inl rfl), .inl (.inl rfl), .inl (.inl rfl), .inl (.inl rfl), trivial⟩ trivial (Nat.le_refl _)))
        refine AW.cond rfl (fun hc8 => ?_) (fun hc8 => ?_)
        · have h34 := ite_t hc8 hp5
          refine AW.region ?_
          refine AOps.step rfl rfl rfl (OpQ.spec (sp_move rfl (.inl rfl)) _) ?_
          refine ob1k h34 fun s7 es7 h35 => ?_
          refine AOps.step rfl rfl rfl (OpQ.spec (ms_sadd rfl (.inl rfl) (.inl rfl) (fun _ => es7)) _) ?_
          refine AOps.step rfl rfl rfl (OpQ.spec (sp_assign rfl (.inl rfl)) _) ?_
          refine AOps.nil ?_
          exact wK33 _ _ ((by exact Weak.cv ⟨.inl (.inl rfl), .inl (.inl rfl), .inl (.inl rfl), .inl (.inl rfl), .inl (.inl rfl), .inl (.inl rfl), .inl (.inl rfl), .inl (.inl rfl), .inl (.inl rfl), .inl (.inl rfl), .inl (.inl rfl), trivial⟩ trivial (Nat.le_refl _))) (J7 _ (vec [(i18 0)]) (Option.some.inj h35).symm)
        · have h34 := ite_f hc8 hp5
          refine AW.skip ?_
          exact wK33 _ _ ((by exact Weak.cv ⟨.inl (.inl rfl), .inl (.inl rfl), .inl (.inl rfl), .inl (.inl rfl), .inl (.inl rfl), .inl (.inl rfl), .inl (.inl rfl), .inl (.inl rfl), .inl (.inl rfl), .inl (.inl rfl), .inl (.inl rfl), trivial⟩ trivial (Nat.le_refl _))) (J7 _ (vec [(i18 0)]) (Option.some.inj h34).symm)
      refine AW.cond rfl (fun hc9 => ?_) (fun hc9 => ?_)
      · have h36 := ite_t hc9 hp4
        refine AW.region ?_
        refine AOps.step rfl rfl rfl (OpQ.spec (sp_assign rfl (.inl rfl)) _) ?_
        refine AOps.nil ?_
        exact wK31 _ _ ((by exact Weak.cv ⟨.inl (.inl rfl), .inl (.inl rfl), .inl (.inl rfl), .inl (.inl rfl), .inl (.inl rfl), .inl (.inl rfl), .inl (.inl rfl), .inl (.inl rfl), .inl (.inl rfl), .inl (.inl rfl), .inl (.inl rfl), trivial⟩ trivial (Nat.le_refl _))) (J6 _ (vec [(i3 0)]) (Option.some.inj h36).symm)
      · have h36 := ite_f hc9 hp4
        refine AW.skip ?_
        exact wK31 _ _ ((by exact Weak.cv ⟨.inl (.inl rfl), .inl (.inl rfl), .inl (.inl rfl), .inl (.inl rfl), .inl (.inl rfl), .inl (.inl rfl), .inl (.inl rfl), .inl (.inl rfl), .inl (.inl rfl), .inl (.inl rfl), .inl (.inl rfl), trivial⟩ trivial (Nat.le_refl _))) (J6 _ (vec [(i3 0)]) (Option.some.inj h36).symm)
    · have h26 := ite_f hc7 h25
      refine AW.exit ?_
      exact wK8 _ _ ((by exact Weak.cv ⟨.inl (.inl rfl), .inl (.inl rfl), .inl (.inl rfl), .inl (.inl rfl), .inl (.inl rfl), .inl (.inl rfl), .inl (.inl rfl), trivial⟩ trivial (Nat.le_refl _))) (J1 _ _ (vec [(i3 0)]) (hx1 _ (Option.some.inj h26).symm))
end Go.Proofs.YtkefchjpggjibaaGreatDoor.Al
