/- Walks, as printed. -/
import Derived.Test.YtdeglnbioiicaaaWlk24x2
import Derived.Test.YtdeglnbioiicaaaProg
set_option linter.unusedVariables false
namespace Go.Proofs.Ytdeglnbioiicaaa.Al
open Go.Proofs
set_option maxHeartbeats 4000000 in
set_option maxRecDepth 20000 in
theorem w_ref_ActOf {d1 : List GStep} {r : Ref_Act} (h : ref_ActOf d1 = some r) : ARO Try.prog 33 [.r (.sl (d1.map GStep.row))] (.agg [.r (.sl (r.Adds.map (rSl GElem.row))), .r (.sl (r.Cuts.map rBool)), .r (.sl (r.Attrs.map (rSl GAttr.row)))]) := by
  unfold ref_ActOf at h
  refine ARO.mkF Try.func33 rfl rfl Try.ntmps33 rfl (Nat.le_of_ble_eq_true rfl) fun n0 => ?_
  refine AW.seq_w fun K1 hK1 wK1 => ?_
  refine AW.region ?_
  refine AOps.step rfl rfl rfl (ms_alloc (cs := [.cst (.slice none 0 0), .cst (.slice none 0 0), .cst (.slice none 0 0)]) 2 rfl t0_34 rfl rfl) ?_
  refine AOps.nil ?_
  refine hK1 _ ?_
  refine AW.seq_w fun K2 hK2 wK2 => ?_
  refine AW.region ?_
  refine AOps.step rfl rfl rfl (ms_lit 7 rfl tg_30 (f := (rSl GElem.row)) (l := ([[]] : List (List GElem))) ⟨rfl, ⟨_, (.inl rfl), rfl⟩, trivial⟩ rfl (fun _ => rfl) rfl) ?_
  refine AOps.step rfl rfl rfl (OpQ.spec (sp_build rfl tb_34 (q := [(0, _)]) (by exact ⟨rfl, rfl, rfl, (.inl rfl), trivial⟩) (cs := [.own 7 (n0 + 1), .cst (.slice none 0 0), .cst (.slice none 0 0)]) (by rfl)) _) ?_
  refine AOps.step rfl rfl rfl (ms_alloc (cs := [.cst (.slice none 0 0), .cst (.slice none 0 0), .cst (.slice none 0 0)]) 3 rfl t0_34 rfl rfl) ?_
  refine AOps.step0 rfl rfl (ms_store_box (ds := [.own 7 (n0 + 1), .cst (.slice none 0 0), .cst (.slice none 0 0)]) rfl tz_34 (.inl rfl) rfl (.inl rfl) rfl rfl rfl rfl) ?_
  refine AOps.nil ?_
  refine hK2 _ ?_
  refine AW.seq_w fun K3 hK3 wK3 => ?_
  refine AW.seq_w fun K4 hK4 wK4 => ?_
  refine AW.region ?_
  refine AOps.step rfl rfl rfl (OpQ.spec (sp_move rfl (.inl rfl)) _) ?_
  refine AOps.step rfl rfl rfl (OpQ.spec (ms_len rfl tg_42.slice (.inl rfl)) _) ?_
  refine AOps.step rfl rfl rfl (OpQ.spec (sp_move rfl (.inl rfl)) _) ?_
  refine AOps.nil ?_
  refine hK4 _ ?_
  refine AW.block ?_
  refine jb1k h fun o1 hit1 hk1 => ?_
  have J1 : ∀ (a4 : Ref_Act) (i5 : Nat → Nat), o1 = a4 → K3 ⟨[(2, .ptr 2 n0 0 0), (3, .ptr 3 (n0 + 2) 0 0)], [(2, some (.box n0 34 [.cst (.slice none 0 0), .cst (.slice none 0 0), .cst (.slice none 0 0)])), (3, some (.box (n0 + 2) 34 [.own 7 (i5 0), .own 54 (i5 1), .own 61 (i5 2)])), (7, some (.arr (i5 0) 39 1 (a4.Adds.map (rSl GElem.row)))), (54, some (.arr (i5 1) 4 1 (a4.Cuts.map rBool))), (61, some (.arr (i5 2) 47 1 (a4.Attrs.map (rSl GAttr.row))))], (i5 3), 66⟩ := by
    intro a4 i5 e
    have h1 := hk1 _ e
    refine hK3 _ ?_
    refine AW.seq_w fun K5 hK5 wK5 => ?_
    refine AW.region ?_
    refine AOps.step rfl rfl rfl (OpQ.spec (ms_loadA_box rfl ta_34 (.inl rfl) rfl rfl) _) ?_
    refine AOps.step0 rfl rfl (ms_store_box (ds := [.own 7 (i5 0), .own 54 (i5 1), .own 61 (i5 2)]) rfl tz_34 (.inl rfl) rfl (.inl rfl) rfl rfl rfl rfl) ?_
    refine AOps.nil ?_
    refine hK5 _ ?_
    refine AW.ret ?_
    exact retf1 (P := Try.prog) (fun (r : Ref_Act) => .agg [.r (.sl (r.Adds.map (rSl GElem.row))), .r (.sl (r.Cuts.map rBool)), .r (.sl (r.Attrs.map (rSl GAttr.row)))]) h1 (.inl rfl) (.a ta_34 rfl rfl rfl (.agg ⟨.own rfl, .own rfl, .own rfl, trivial⟩))
  refine AW.iter2 (fun (x2 : Int) (a2 : Ref_Act) i3 => ⟨[(0, .r (.sl (d1.map GStep.row))), (2, .ptr 2 n0 0 0), (3, .ptr 3 (n0 + 2) 0 0), (10, .r (.int .i64 (d1.length : Int))), (11, .r (.int .i64 x2))], [(2, some (.box n0 34 [.cst (.slice none 0 0), .cst (.slice none 0 0), .cst (.slice none 0 0)])), (3, some (.box (n0 + 2) 34 [.own 7 (i3 0), .own 54 (i3 1), .own 61 (i3 2)])), (7, some (.arr (i3 0) 39 1 (a2.Adds.map (rSl GElem.row)))), (54, some (.arr (i3 1) 4 1 (a2.Cuts.map rBool))), (61, some (.arr (i3 2) 47 1 (a2.Attrs.map (rSl GAttr.row))))], (i3 3), 66⟩) (vec [(n0 + 1), (n0 + 3), (n0 + 4), (n0 + 5)]) hit1 (Weak.trans (Weak.trans (Weak.adoptBox 3 1 54 4 1 (by decide) rfl rfl (by decide)) (by exact Weak.cv (e' := [(0, .r (.sl (d1.map GStep.row))), (2, .ptr 2 n0 0 0), (3, .ptr 3 (n0 + 2) 0 0), (7, .own 7 (n0 + 1)), (8, .agg [.own 7 (n0 + 1), .cst (.slice none 0 0), .cst (.slice none 0 0)]), (9, .r (.sl (d1.map GStep.row))), (10, .r (.int .i64 (d1.length : Int))), (11, .r (.int .i64 0))]) (h' := [(2, some (.box n0 34 [.cst (.slice none 0 0), .cst (.slice none 0 0), .cst (.slice none 0 0)])), (3, some (.box (n0 + 2) 34 [.own 7 (n0 + 1), .own 54 (n0 + 3), .cst (.slice none 0 0)])), (7, some (.arr (n0 + 1) 39 1 ([[]].map (rSl GElem.row)))), (54, some (.arr (n0 + 3) 4 1 (([] : List Bool).map rBool)))]) ⟨.inl (.inl rfl), .inl (.inl rfl), .inl (.inl rfl), .inl (.inl rfl), .inl (.inl rfl), .inl (.inl rfl), .inl (.inl rfl), .inl (.inl rfl), trivial⟩ ⟨.inl rfl, .inl rfl, .inl rfl, .inl rfl, trivial⟩ (Nat.le_refl _))) (Weak.trans (Weak.trans (Weak.adoptBox 3 2 61 47 1 (by decide) rfl rfl (by decide)) (by exact Weak.cv (e' := [(0, .r (.sl (d1.map GStep.row))), (2, .ptr 2 n0 0 0), (3, .ptr 3 (n0 + 2) 0 0), (7, .own 7 (n0 + 1)), (8, .agg [.own 7 (n0 + 1), .cst (.slice none 0 0), .cst (.slice none 0 0)]), (9, .r (.sl (d1.map GStep.row))), (10, .r (.int .i64 (d1.length : Int))), (11, .r (.int .i64 0))]) (h' := [(2, some (.box n0 34 [.cst (.slice none 0 0), .cst (.slice none 0 0), .cst (.slice none 0 0)])), (3, some (.box (n0 + 2) 34 [.own 7 (n0 + 1), .own 54 (n0 + 3), .own 61 (n0 + 4)])), (7, some (.arr (n0 + 1) 39 1 ([[]].map (rSl GElem.row)))), (54, some (.arr (n0 + 3) 4 1 (([] : List Bool).map rBool))), (61, some (.arr (n0 + 4) 47 1 (([] : List (List GAttr)).map (rSl GAttr.row))))]) ⟨.inl (.inl rfl), .inl (.inl rfl), .inl (.inl rfl), .inl (.inl rfl), .inl (.inl rfl), .inl (.inl rfl), .inl (.inl rfl), .inl (.inl rfl), trivial⟩ ⟨.inl rfl, .inl rfl, .inl rfl, .inl rfl, .inl rfl, trivial⟩ (Nat.le_refl _))) (by exact Weak.cv ⟨.inl (.inl rfl), .inl (.inl rfl), .inl (.inl rfl), .inl (.inl rfl), .inl (.inl rfl), trivial⟩ ⟨.inl rfl, .inl rfl, .inl rfl, .inl rfl, .inl rfl, trivial⟩ (Nat.le_refl _)))) ?_
  intro x2 a2 i3 v1 hv1 hx1
  have h2 : ref_ActOf_L1 d1 x2 a2 = some v1 := hv1; unfold ref_ActOf_L1 at h2
  refine AW.seq_w fun K6 hK6 wK6 => ?_
  refine AW.region ?_
  refine AOps.step rfl rfl rfl (OpQ.spec (sp_lss rfl (.inl rfl) (.inl rfl)) _) ?_
  refine AOps.nil ?_
  refine hK6 _ ?_
  refine AW.seq_w fun K7 hK7 wK7 => ?_
  refine AW.cond rfl (fun hc1 => ?_) (fun hc1 => ?_)
  · have h3 := ite_t hc1 h2
    refine AW.skip ?_
    refine hK7 _ ?_
    refine AW.seq_w fun K8 hK8 wK8 => ?_
    refine AW.block ?_
    refine jb1k h3 fun p1 hp1 hk2 => ?_
    have J2 : ∀ (a5 : Ref_Act) (i6 : Nat → Nat), p1 = a5 → K8 ⟨[(0, .r (.sl (d1.map GStep.row))), (2, .ptr 2 n0 0 0), (3, .ptr 3 (n0 + 2) 0 0), (10, .r (.int .i64 (d1.length : Int))), (11, .r (.int .i64 x2))], [(2, some (.box n0 34 [.cst (.slice none 0 0), .cst (.slice none 0 0), .cst (.slice none 0 0)])), (3, some (.box (n0 + 2) 34 [.own 7 (i6 0), .own 54 (i6 1), .own 61 (i6 2)])), (7, some (.arr (i6 0) 39 1 (a5.Adds.map (rSl GElem.row)))), (54, some (.arr (i6 1) 4 1 (a5.Cuts.map rBool))), (61, some (.arr (i6 2) 47 1 (a5.Attrs.map (rSl GAttr.row))))], (i6 3), 66⟩ := by
      intro a5 i6 e
      have h4 := hk2 _ e
      refine hK8 _ ?_
      refine AW.region ?_
      refine ob1k h4 fun x4 ex4 h5 => ?_
      refine AOps.step rfl rfl rfl (OpQ.spec (ms_add rfl (.inl rfl) (.inl rfl) (fun _ => ex4)) _) ?_
      refine AOps.step rfl rfl rfl (OpQ.spec (sp_move rfl (.inl rfl)) _) ?_
      refine AOps.nil ?_
      exact NextQ2.mk h5 (vec [(i6 0), (i6 1), (i6 2), (i6 3)]) ((by exact Weak.cv ⟨.inl (.inl rfl), .inl (.inl rfl), .inl (.inl rfl), .inl (.inl rfl), .inl (.inl rfl), trivial⟩ ⟨.inl rfl, .inl rfl, .inl rfl, .inl rfl, .inl rfl, trivial⟩ (Nat.le_refl _)))
    refine AW.seq_w fun K9 hK9 wK9 => ?_
    refine AW.region ?_
    refine AOps.step rfl rfl rfl (OpQ.spec (sp_move rfl (.inl rfl)) _) ?_
    refine AOps.step rfl rfl rfl (OpQ.spec (sp_assign rfl (.inl rfl)) _) ?_
    refine AOps.nil ?_
    refine hK9 _ ?_
    refine AW.seq_w fun K10 hK10 wK10 => ?_
    refine AW.region ?_
    refine AOps.step rfl rfl rfl (OpQ.spec (sp_move rfl (.inl rfl)) _) ?_
    refine AOps.step rfl rfl rfl (OpQ.spec (sp_move rfl (.inl rfl)) _) ?_
    refine ob1k hp1 fun x5 ex5 h6 => ?_
    refine AOps.step rfl rfl rfl (OpQ.spec (ms_idx rfl tg_42.slice (.inl rfl) (.inl rfl) (fun _ => rfl) (fun _ => ex5)) _) ?_
    refine AOps.step rfl rfl rfl (OpQ.spec (ms_loadA (cs := [.r (.int .i64 x5.Kind), .r (.int .i64 x5.N), .r (.sl (x5.Attrs.map GAttr.row)), .r (.sl (x5.Elems.map GElem.row))]) rfl ta_49 (.inl rfl) rfl rfl) _) ?_
    refine AOps.step rfl rfl rfl (ms_alloc (cs := [.r (.int .i64 0), .r (.int .i64 0), .cst (.slice none 0 0), .cst (.slice none 0 0)]) 5 rfl t0_49 rfl rfl) ?_
    refine AOps.step0 rfl rfl (ms_store_box (ds := [.r (.int .i64 x5.Kind), .r (.int .i64 x5.N), .r (.sl (x5.Attrs.map GAttr.row)), .r (.sl (x5.Elems.map GElem.row))]) rfl tz_49 (.inl rfl) rfl (.inl rfl) rfl rfl rfl rfl) ?_
    refine AOps.nil ?_
    refine hK10 _ ?_
    refine AW.seq_w fun K11 hK11 wK11 => ?_
    refine AW.seq_w fun K12 hK12 wK12 => ?_
    refine AW.region ?_
    refine AOps.step rfl rfl rfl (OpQ.spec (sp_fieldAddr_own (ob := .box _ _ _) rfl tf_49_0 (.inl rfl) (fun _ => rfl) rfl) _) ?_
    refine AOps.step rfl rfl rfl (OpQ.spec (ms_load_box (a := .r (.int .i64 x5.Kind)) rfl ts_3 (.inl rfl) rfl rfl) _) ?_
    refine AOps.step rfl rfl rfl (OpQ.spec (sp_eql rfl (.inl rfl) (.inl rfl)) _) ?_
    refine AOps.nil ?_
    refine hK12 _ ?_
    refine AW.cond rfl (fun hc2 => ?_) (fun hc2 => ?_)
    · have h7 := ite_t hc2 h6
      refine AW.seq_w fun K13 hK13 wK13 => ?_
      refine AW.weak (s' := ⟨[(0, .r (.sl (d1.map GStep.row))), (2, .ptr 2 n0 0 0), (3, .ptr 3 (n0 + 2) 0 0), (5, .ptr 5 (i3 3) 0 0), (10, .r (.int .i64 (d1.length : Int))), (11, .r (.int .i64 x2))], [(2, some (.box n0 34 [.cst (.slice none 0 0), .cst (.slice none 0 0), .cst (.slice none 0 0)])), (3, some (.box (n0 + 2) 34 [.own 7 (i3 0), .own 54 (i3 1), .own 61 (i3 2)])), (5, some (.box (i3 3) 49 [.r (.int .i64 x5.Kind), .r (.int .i64 x5.N), .r (.sl (x5.Attrs.map GAttr.row)), .r (.sl (x5.Elems.map GElem.row))])), (7, some (.arr (i3 0) 39 1 (a2.Adds.map (rSl GElem.row)))), (54, some (.arr (i3 1) 4 1 (a2.Cuts.map rBool))), (61, some (.arr (i3 2) 47 1 (a2.Attrs.map (rSl GAttr.row))))], ((i3 3) + 1), 66⟩) (by exact Weak.cv ⟨.inl (.inl rfl), .inl (.inl rfl), .inl (.inl rfl), .inl (.inl rfl), .inl (.inl rfl), .inl (.inl rfl), trivial⟩ ⟨.inl rfl, .inl rfl, .inl rfl, .inl rfl, .inl rfl, .inl rfl, trivial⟩ (Nat.le_refl _)) ?_
      refine AW.region ?_
      refine AOps.step rfl rfl rfl (OpQ.spec (sp_fieldAddr_own (ob := .box _ _ _) rfl tf_34_0 (.inl rfl) (fun _ => rfl) rfl) _) ?_
      refine AOps.step rfl rfl rfl (OpQ.spec (ms_load_box (a := .own 7 (i3 0)) rfl ts_30 (.inl rfl) rfl rfl) _) ?_
      refine AOps.step rfl rfl rfl (OpQ.spec (ms_len_own rfl tg_30.slice (.inl rfl) rfl) _) ?_
      refine ob1k h7 fun k1 ek1 h8 => ?_
      refine AOps.step rfl rfl rfl (OpQ.spec (ms_sub rfl (.inl rfl) (.inl rfl) (fun _ => ek1)) _) ?_
      refine AOps.step rfl rfl rfl (OpQ.spec (sp_assign rfl (.inl rfl)) _) ?_
      refine AOps.nil ?_
      refine hK13 _ ?_
      refine AW.seq_w fun K14 hK14 wK14 => ?_
      refine ob1k h8 fun x6 ex6 h9 => ?_
      refine ob1k h9 fun l1 el1 h10 => ?_
      refine ob1k h10 fun l2 el2 h11 => ?_
      refine AW.regionP 13 [⟨some 25, (fun _ => .ptr 3 (n0 + 2) 0 0), none, []⟩, ⟨some 26, (fun _ => .own 7 (i3 0)), none, []⟩, ⟨some 27, (fun _ => .r (.int .i64 k1)), none, []⟩, ⟨some 28, (fun G1 => .own 28 (G1 3)), some (28, (fun G1 => some (.arr (G1 3) 113 3 (([] : List GElem).map GElem.row)))), [3]⟩, ⟨some 29, (fun _ => .ptr 3 (n0 + 2) 0 0), none, []⟩, ⟨some 30, (fun _ => .own 7 (i3 0)), none, []⟩, ⟨some 31, (fun _ => .r (.int .i64 k1)), none, []⟩, ⟨some 32, (fun _ => .ptr 7 (i3 0) k1.toNat 0), none, []⟩, ⟨some 33, (fun _ => .r (.sl (x6.map GElem.row))), none, []⟩, ⟨some 34, (fun G1 => .own 28 (G1 9)), some (28, (fun G1 => some (.arr (G1 9) 113 3 (l1.map GElem.row)))), [9]⟩, ⟨some 35, (fun _ => .ptr 5 (i3 3) 0 3), none, []⟩, ⟨some 36, (fun _ => .r (.sl (x5.Elems.map GElem.row))), none, []⟩, ⟨some 37, (fun G1 => .own 28 (G1 12)), some (28, (fun G1 => some (.arr (G1 12) 113 3 (l2.map GElem.row)))), [12]⟩] hmix (by kernel_rfl) (by exact ⟨fun _ _ h => ⟨rfl, fun _ _ e => by cases e⟩, fun _ _ h => ⟨rfl, fun _ _ e => by cases e⟩, fun _ _ h => ⟨rfl, fun _ _ e => by cases e⟩, fun _ _ h => ⟨by simp only [h 3 rfl], fun _ _ e => by cases e; simp only [h 3 rfl]⟩, fun _ _ h => ⟨rfl, fun _ _ e => by cases e⟩, fun _ _ h => ⟨rfl, fun _ _ e => by cases e⟩, fun _ _ h => ⟨rfl, fun _ _ e => by cases e⟩, fun _ _ h => ⟨rfl, fun _ _ e => by cases e⟩, fun _ _ h => ⟨rfl, fun _ _ e => by cases e⟩, fun _ _ h => ⟨by simp only [h 9 rfl], fun _ _ e => by cases e; simp only [h 9 rfl]⟩, fun _ _ h => ⟨rfl, fun _ _ e => by cases e⟩, fun _ _ h => ⟨rfl, fun _ _ e => by cases e⟩, fun _ _ h => ⟨by simp only [h 12 rfl], fun _ _ e => by cases e; simp only [h 12 rfl]⟩, trivial⟩) rfl (by exact ⟨Ob.quiet (n1 := fun n => n) rfl rfl (by intro d h; cases h; rfl) rfl (fun _ => [(3, .ptr 3 (n0 + 2) 0 0)]) (fun _ => [(3, some (.box (n0 + 2) 34 [.own 7 (i3 0), .own 54 (i3 1), .own 61 (i3 2)]))]) (fun D G1 hr => ⟨inE_base rfl rfl, trivial⟩) (fun D G1 hr => ⟨inH_base rfl rfl, trivial⟩) (fun _ _ => rfl) (fun G1 e h' n => OpQ.spec (v := .ptr 3 (n0 + 2) 0 0) (sp_fieldAddr_own (ob := .box _ _ _) rfl tf_34_0 (.inl rfl) (fun _ => rfl) rfl) _),
          Ob.quiet (n1 := fun n => n) rfl rfl (by intro d h; cases h; rfl) rfl (fun _ => [(25, .ptr 3 (n0 + 2) 0 0)]) (fun _ => [(3, some (.box (n0 + 2) 34 [.own 7 (i3 0), .own 54 (i3 1), .own 61 (i3 2)]))]) (fun D G1 hr => ⟨inE_op hr 0 rfl rfl (by kernel_rfl) rfl rfl, trivial⟩) (fun D G1 hr => ⟨inH_base rfl rfl, trivial⟩) (fun _ _ => rfl) (fun G1 e h' n => OpQ.spec (v := .own 7 (i3 0)) (ms_load_box (a := .own 7 (i3 0)) rfl ts_30 (.inl rfl) rfl rfl) _),
          Ob.quiet (n1 := fun n => n) rfl rfl (by intro d h; cases h; rfl) rfl (fun _ => [(6, .r (.int .i64 k1))]) (fun _ => []) (fun D G1 hr => ⟨inE_base rfl rfl, trivial⟩) (fun D G1 hr => trivial) (fun _ _ => rfl) (fun G1 e h' n => OpQ.spec (v := .r (.int .i64 k1)) (sp_move rfl (.inl rfl)) _),
          Ob.make (n1 := fun n => n + 1) rfl rfl (by intro d h; cases h; rfl) rfl (fun _ => []) (fun _ => []) (fun D G1 hr => trivial) (fun D G1 hr => trivial) (fun G1 e h' n => ms_lit 28 rfl tg_39 (f := GElem.row) (l := ([] : List GElem)) trivial rfl (fun _ => rfl) rfl),
          Ob.quiet (n1 := fun n => n) rfl rfl (by intro d h; cases h; rfl) rfl (fun _ => [(3, .ptr 3 (n0 + 2) 0 0)]) (fun _ => [(3, some (.box (n0 + 2) 34 [.own 7 (i3 0), .own 54 (i3 1), .own 61 (i3 2)]))]) (fun D G1 hr => ⟨inE_base rfl rfl, trivial⟩) (fun D G1 hr => ⟨inH_base rfl rfl, trivial⟩) (fun _ _ => rfl) (fun G1 e h' n => OpQ.spec (v := .ptr 3 (n0 + 2) 0 0) (sp_fieldAddr_own (ob := .box _ _ _) rfl tf_34_0 (.inl rfl) (fun _ => rfl) rfl) _),
          Ob.quiet (n1 := fun n => n) rfl rfl (by intro d h; cases h; rfl) rfl (fun _ => [(29, .ptr 3 (n0 + 2) 0 0)]) (fun _ => [(3, some (.box (n0 + 2) 34 [.own 7 (i3 0), .own 54 (i3 1), .own 61 (i3 2)]))]) (fun D G1 hr => ⟨inE_op hr 4 rfl rfl (by kernel_rfl) rfl rfl, trivial⟩) (fun D G1 hr => ⟨inH_base rfl rfl, trivial⟩) (fun _ _ => rfl) (fun G1 e h' n => OpQ.spec (v := .own 7 (i3 0)) (ms_load_box (a := .own 7 (i3 0)) rfl ts_30 (.inl rfl) rfl rfl) _),
          Ob.quiet (n1 := fun n => n) rfl rfl (by intro d h; cases h; rfl) rfl (fun _ => [(6, .r (.int .i64 k1))]) (fun _ => []) (fun D G1 hr => ⟨inE_base rfl rfl, trivial⟩) (fun D G1 hr => trivial) (fun _ _ => rfl) (fun G1 e h' n => OpQ.spec (v := .r (.int .i64 k1)) (sp_move rfl (.inl rfl)) _),
          Ob.quiet (n1 := fun n => n) rfl rfl (by intro d h; cases h; rfl) rfl (fun _ => [(30, .own 7 (i3 0)), (31, .r (.int .i64 k1))]) (fun _ => [(7, some (.arr (i3 0) 39 1 (a2.Adds.map (rSl GElem.row))))]) (fun D G1 hr => ⟨inE_op hr 5 rfl rfl (by kernel_rfl) rfl rfl, inE_op hr 6 rfl rfl (by kernel_rfl) rfl rfl, trivial⟩) (fun D G1 hr => ⟨inH_base rfl rfl, trivial⟩) (fun _ _ => rfl) (fun G1 e h' n => OpQ.spec (v := .ptr 7 (i3 0) k1.toNat 0) (ms_idx_own rfl tg_30.slice (.inl rfl) rfl (.inl rfl) (fun _ => ex6)) _),
          Ob.quiet (n1 := fun n => n) rfl rfl (by intro d h; cases h; rfl) rfl (fun _ => [(32, .ptr 7 (i3 0) k1.toNat 0)]) (fun _ => [(7, some (.arr (i3 0) 39 1 (a2.Adds.map (rSl GElem.row))))]) (fun D G1 hr => ⟨inE_op hr 7 rfl rfl (by kernel_rfl) rfl rfl, trivial⟩) (fun D G1 hr => ⟨inH_base rfl rfl, trivial⟩) (fun _ _ => rfl) (fun G1 e h' n => OpQ.spec (v := .r (.sl (x6.map GElem.row))) (ms_load_own (d := .sl (x6.map GElem.row)) rfl ts_39 (.inl rfl) (fun _ => rfl) (fun _ => ex6) rfl) _),
          Ob.make (n1 := fun n => n + 1) rfl rfl (by intro d h; cases h; rfl) rfl (fun G1 => [(28, .own 28 (G1 3)), (33, .r (.sl (x6.map GElem.row)))]) (fun G1 => [(28, some (.arr (G1 3) 113 3 (([] : List GElem).map GElem.row)))]) (fun D G1 hr => ⟨inE_op hr 3 rfl rfl (by kernel_rfl) rfl rfl, inE_op hr 8 rfl rfl (by kernel_rfl) rfl rfl, trivial⟩) (fun D G1 hr => ⟨inH_op hr 3 rfl rfl (by kernel_rfl) (by kernel_rfl) rfl, trivial⟩) (fun G1 e h' n => ms_app rfl tg_39 (.inl rfl) rfl (.inl ⟨(.inl rfl), fun _ => rfl⟩) el1),
          Ob.quiet (n1 := fun n => n) rfl rfl (by intro d h; cases h; rfl) rfl (fun _ => [(5, .ptr 5 (i3 3) 0 0)]) (fun _ => [(5, some (.box (i3 3) 49 [.r (.int .i64 x5.Kind), .r (.int .i64 x5.N), .r (.sl (x5.Attrs.map GAttr.row)), .r (.sl (x5.Elems.map GElem.row))]))]) (fun D G1 hr => ⟨inE_base rfl rfl, trivial⟩) (fun D G1 hr => ⟨inH_base rfl rfl, trivial⟩) (fun _ _ => rfl) (fun G1 e h' n => OpQ.spec (v := .ptr 5 (i3 3) 0 3) (sp_fieldAddr_own (ob := .box _ _ _) rfl tf_49_3 (.inl rfl) (fun _ => rfl) rfl) _),
          Ob.quiet (n1 := fun n => n) rfl rfl (by intro d h; cases h; rfl) rfl (fun _ => [(35, .ptr 5 (i3 3) 0 3)]) (fun _ => [(5, some (.box (i3 3) 49 [.r (.int .i64 x5.Kind), .r (.int .i64 x5.N), .r (.sl (x5.Attrs.map GAttr.row)), .r (.sl (x5.Elems.map GElem.row))]))]) (fun D G1 hr => ⟨inE_op hr 10 rfl rfl (by kernel_rfl) rfl rfl, trivial⟩) (fun D G1 hr => ⟨inH_base rfl rfl, trivial⟩) (fun _ _ => rfl) (fun G1 e h' n => OpQ.spec (v := .r (.sl (x5.Elems.map GElem.row))) (ms_load_box (a := .r (.sl (x5.Elems.map GElem.row))) rfl ts_39 (.inl rfl) rfl rfl) _),
          Ob.make (n1 := fun n => n + 1) rfl rfl (by intro d h; cases h; rfl) rfl (fun G1 => [(34, .own 28 (G1 9)), (36, .r (.sl (x5.Elems.map GElem.row)))]) (fun G1 => [(28, some (.arr (G1 9) 113 3 (l1.map GElem.row)))]) (fun D G1 hr => ⟨inE_op hr 9 rfl rfl (by kernel_rfl) rfl rfl, inE_op hr 11 rfl rfl (by kernel_rfl) rfl rfl, trivial⟩) (fun D G1 hr => ⟨inH_op hr 9 rfl rfl (by kernel_rfl) (by kernel_rfl) rfl, trivial⟩) (fun G1 e h' n => ms_app rfl tg_39 (.inl rfl) rfl (.inl ⟨(.inl rfl), fun _ => rfl⟩) el2),
          trivial⟩) fun G1 n1 => ?_
      refine AOps.weak (s' := ⟨[(0, .r (.sl (d1.map GStep.row))), (2, .ptr 2 n0 0 0), (3, .ptr 3 (n0 + 2) 0 0), (5, .ptr 5 (i3 3) 0 0), (6, .r (.int .i64 k1)), (10, .r (.int .i64 (d1.length : Int))), (11, .r (.int .i64 x2)), (21, .ptr 3 (n0 + 2) 0 0), (22, .own 7 (i3 0)), (23, .r (.int .i64 (a2.Adds.length : Int))), (24, .r (.int .i64 k1)), (25, .ptr 3 (n0 + 2) 0 0), (26, .own 7 (i3 0)), (27, .r (.int .i64 k1)), (29, .ptr 3 (n0 + 2) 0 0), (30, .own 7 (i3 0)), (31, .r (.int .i64 k1)), (32, .ptr 7 (i3 0) k1.toNat 0), (33, .r (.sl (x6.map GElem.row))), (35, .ptr 5 (i3 3) 0 3), (36, .r (.sl (x5.Elems.map GElem.row))), (37, .own 28 (G1 12))], [(2, some (.box n0 34 [.cst (.slice none 0 0), .cst (.slice none 0 0), .cst (.slice none 0 0)])), (3, some (.box (n0 + 2) 34 [.own 7 (i3 0), .own 54 (i3 1), .own 61 (i3 2)])), (5, some (.box (i3 3) 49 [.r (.int .i64 x5.Kind), .r (.int .i64 x5.N), .r (.sl (x5.Attrs.map GAttr.row)), .r (.sl (x5.Elems.map GElem.row))])), (7, some (.arr (i3 0) 39 1 (a2.Adds.map (rSl GElem.row)))), (28, some (.arr (G1 12) 113 3 (l2.map GElem.row))), (54, some (.arr (i3 1) 4 1 (a2.Cuts.map rBool))), (61, some (.arr (i3 2) 47 1 (a2.Attrs.map (rSl GAttr.row))))], n1, 66⟩) (by exact Weak.cv ⟨.inl (.inl rfl), .inl (.inl rfl), .inl (.inl rfl), .inl (.inl rfl), .inl (.inl rfl), .inl (.inl rfl), .inl (.inl rfl), .inl (.inl rfl), .inl (.inl rfl), .inl (.inl rfl), .inl (.inl rfl), .inl (.inl rfl), .inl (.inl rfl), .inl (.inl rfl), .inl (.inl rfl), .inl (.inl rfl), .inl (.inl rfl), .inl (.inl rfl), .inl (.inl rfl), .inl (.inl rfl), .inl (.inl rfl), .inl (.inl rfl), trivial⟩ ⟨.inl rfl, .inl rfl, .inl rfl, .inl rfl, .inl rfl, .inl rfl, .inl rfl, trivial⟩ (Nat.le_refl _)) ?_
      refine AOps.step rfl rfl rfl (OpQ.spec (ms_idx_own rfl tg_30.slice (.inl rfl) rfl (.inl rfl) (fun _ => ex6)) _) ?_
      refine AOps.weak (by exact Weak.frz (e' := [(0, .r (.sl (d1.map GStep.row))), (2, .ptr 2 n0 0 0), (3, .ptr 3 (n0 + 2) 0 0), (5, .ptr 5 (i3 3) 0 0), (6, .r (.int .i64 k1)), (10, .r (.int .i64 (d1.length : Int))), (11, .r (.int .i64 x2)), (21, .ptr 3 (n0 + 2) 0 0), (22, .own 7 (i3 0)), (23, .r (.int .i64 (a2.Adds.length : Int))), (24, .r (.int .i64 k1)), (25, .ptr 3 (n0 + 2) 0 0), (26, .own 7 (i3 0)), (27, .r (.int .i64 k1)), (29, .ptr 3 (n0 + 2) 0 0), (30, .own 7 (i3 0)), (31, .r (.int .i64 k1)), (32, .ptr 7 (i3 0) k1.toNat 0), (33, .r (.sl (x6.map GElem.row))), (35, .ptr 5 (i3 3) 0 3), (36, .r (.sl (x5.Elems.map GElem.row))), (37, .r (.sl (l2.map GElem.row))), (38, .ptr 7 (i3 0) k1.toNat 0)]) (h' := [(2, some (.box n0 34 [.cst (.slice none 0 0), .cst (.slice none 0 0), .cst (.slice none 0 0)])), (3, some (.box (n0 + 2) 34 [.own 7 (i3 0), .own 54 (i3 1), .own 61 (i3 2)])), (5, some (.box (i3 3) 49 [.r (.int .i64 x5.Kind), .r (.int .i64 x5.N), .r (.sl (x5.Attrs.map GAttr.row)), .r (.sl (x5.Elems.map GElem.row))])), (7, some (.arr (i3 0) 39 1 (a2.Adds.map (rSl GElem.row)))), (54, some (.arr (i3 1) 4 1 (a2.Cuts.map rBool))), (61, some (.arr (i3 2) 47 1 (a2.Attrs.map (rSl GAttr.row))))]) 28 rfl ⟨.inl (.inl rfl), .inl (.inl rfl), .inl (.inl rfl), .inl (.inl rfl), .inl (.inl rfl), .inl (.inl rfl), .inl (.inl rfl), .inl (.inl rfl), .inl (.inl rfl), .inl (.inl rfl), .inl (.inl rfl), .inl (.inl rfl), .inl (.inl rfl), .inl (.inl rfl), .inl (.inl rfl), .inl (.inl rfl), .inl (.inl rfl), .inl (.inl rfl), .inl (.inl rfl), .inl (.inl rfl), .inl (.inl rfl), .inl (.inr (.inr ⟨rfl, rfl⟩)), .inl (.inl rfl), trivial⟩ ⟨rfl, .inl rfl, rfl, .inl rfl, rfl, .inl rfl, rfl, .inl rfl, rfl, .inl rfl, rfl, .inl rfl, trivial⟩) ?_
      refine AOps.step0 rfl rfl (ms_store (v := l2) rfl tz_39 (.inl rfl) rfl ex6 (.inl rfl) rfl rfl rfl rfl) ?_
      refine AOps.nil ?_
      refine hK14 _ ?_
      refine AW.exit ?_
      exact wK8 _ _ ((by exact Weak.cv ⟨.inl (.inl rfl), .inl (.inl rfl), .inl (.inl rfl), .inl (.inl rfl), .inl (.inl rfl), trivial⟩ ⟨.inl rfl, .inl rfl, .inl rfl, .inl rfl, .inl rfl, trivial⟩ (Nat.le_refl _))) (J2 _ (vec [(i3 0), (i3 1), (i3 2), n1]) (Option.some.inj h11).symm)
    · have h7 := ite_f hc2 h6
      refine AW.skip ?_
      refine hK11 _ ?_
      refine AW.seq_w fun K15 hK15 wK15 => ?_
      refine AW.weak (s' := ⟨[(0, .r (.sl (d1.map GStep.row))), (2, .ptr 2 n0 0 0), (3, .ptr 3 (n0 + 2) 0 0), (5, .ptr 5 (i3 3) 0 0), (10, .r (.int .i64 (d1.length : Int))), (11, .r (.int .i64 x2))], [(2, some (.box n0 34 [.cst (.slice none 0 0), .cst (.slice none 0 0), .cst (.slice none 0 0)])), (3, some (.box (n0 + 2) 34 [.own 7 (i3 0), .own 54 (i3 1), .own 61 (i3 2)])), (5, some (.box (i3 3) 49 [.r (.int .i64 x5.Kind), .r (.int .i64 x5.N), .r (.sl (x5.Attrs.map GAttr.row)), .r (.sl (x5.Elems.map GElem.row))])), (7, some (.arr (i3 0) 39 1 (a2.Adds.map (rSl GElem.row)))), (54, some (.arr (i3 1) 4 1 (a2.Cuts.map rBool))), (61, some (.arr (i3 2) 47 1 (a2.Attrs.map (rSl GAttr.row))))], ((i3 3) + 1), 66⟩) (by exact Weak.cv ⟨.inl (.inl rfl), .inl (.inl rfl), .inl (.inl rfl), .inl (.inl rfl), .inl (.inl rfl), .inl (.inl rfl), trivial⟩ ⟨.inl rfl, .inl rfl, .inl rfl, .inl rfl, .inl rfl, .inl rfl, trivial⟩ (Nat.le_refl _)) ?_
      refine AW.region ?_
      refine AOps.step rfl rfl rfl (OpQ.spec (sp_fieldAddr_own (ob := .box _ _ _) rfl tf_49_1 (.inl rfl) (fun _ => rfl) rfl) _) ?_
      refine AOps.step rfl rfl rfl (OpQ.spec (ms_load_box (a := .r (.int .i64 x5.N)) rfl ts_3 (.inl rfl) rfl rfl) _) ?_
      refine AOps.step rfl rfl rfl (OpQ.spec (sp_move rfl (.inl rfl)) _) ?_
      refine AOps.nil ?_
      refine hK15 _ ?_
      refine AW.block ?_
      refine jc1k h7 fun o2 hit2 hk3 he3 => ?_
      refine AW.iter2 (fun (x8 : Int) (a7 : Ref_Act) i9 => ⟨[(0, .r (.sl (d1.map GStep.row))), (2, .ptr 2 n0 0 0), (3, .ptr 3 (n0 + 2) 0 0), (5, .ptr 5 (i3 3) 0 0), (10, .r (.int .i64 (d1.length : Int))), (11, .r (.int .i64 x2)), (40, .r (.int .i64 x5.N)), (41, .r (.int .i64 x8))], [(2, some (.box n0 34 [.cst (.slice none 0 0), .cst (.slice none 0 0), .cst (.slice none 0 0)])), (3, some (.box (n0 + 2) 34 [.own 7 (i9 0), .own 54 (i9 1), .own 61 (i9 2)])), (5, some (.box (i3 3) 49 [.r (.int .i64 x5.Kind), .r (.int .i64 x5.N), .r (.sl (x5.Attrs.map GAttr.row)), .r (.sl (x5.Elems.map GElem.row))])), (7, some (.arr (i9 0) 39 1 (a7.Adds.map (rSl GElem.row)))), (54, some (.arr (i9 1) 4 1 (a7.Cuts.map rBool))), (61, some (.arr (i9 2) 47 1 (a7.Attrs.map (rSl GAttr.row))))], (i9 3), 66⟩) (vec [(i3 0), (i3 1), (i3 2), ((i3 3) + 1)]) hit2 ((by exact Weak.cv ⟨.inl (.inl rfl), .inl (.inl rfl), .inl (.inl rfl), .inl (.inl rfl), .inl (.inl rfl), .inl (.inl rfl), .inl (.inl rfl), .inl (.inl rfl), trivial⟩ ⟨.inl rfl, .inl rfl, .inl rfl, .inl rfl, .inl rfl, .inl rfl, trivial⟩ (Nat.le_refl _))) ?_
      intro x8 a7 i9 v2 hv2 hx2
      have h12 : ref_ActOf_L2 x5 x8 a7 = some v2 := hv2; unfold ref_ActOf_L2 at h12
      refine AW.seq_w fun K16 hK16 wK16 => ?_
      refine AW.region ?_
      refine AOps.step rfl rfl rfl (OpQ.spec (sp_lss rfl (.inl rfl) (.inl rfl)) _) ?_
      refine AOps.nil ?_
      refine hK16 _ ?_
      refine AW.seq_w fun K17 hK17 wK17 => ?_
      refine AW.cond rfl (fun hc3 => ?_) (fun hc3 => ?_)
      · have h13 := ite_t hc3 h12
        refine AW.skip ?_
        refine hK17 _ ?_
        refine AW.seq_w fun K18 hK18 wK18 => ?_
        refine AW.block ?_
        refine AW.seq_w fun K19 hK19 wK19 => ?_
        refine AW.region ?_
        refine AOps.step rfl rfl rfl (OpQ.spec (sp_fieldAddr_own (ob := .box _ _ _) rfl tf_34_0 (.inl rfl) (fun _ => rfl) rfl) _) ?_
        refine AOps.step rfl rfl rfl (OpQ.spec (ms_load_box (a := .own 7 (i9 0)) rfl ts_30 (.inl rfl) rfl rfl) _) ?_
        refine AOps.step rfl rfl rfl (ms_lit 45 rfl tg_30 (f := (rSl GElem.row)) (l := ([[]] : List (List GElem))) ⟨rfl, ⟨_, (.inl rfl), rfl⟩, trivial⟩ rfl (fun _ => rfl) rfl) ?_
        refine ob1k h13 fun l3 el3 h14 => ?_
        refine AOps.step rfl rfl rfl (ms_app rfl tg_30 (.inl rfl) rfl (.inr (.inl ⟨_, _, (.inl rfl), rfl⟩)) el3) ?_
        refine AOps.step rfl rfl rfl (OpQ.spec (sp_fieldAddr_own (ob := .box _ _ _) rfl tf_34_0 (.inl rfl) (fun _ => rfl) rfl) _) ?_
        refine AOps.step0 rfl rfl (ms_store_box (ds := [.own 7 ((i9 3) + 1), .own 54 (i9 1), .own 61 (i9 2)]) rfl tz_30 (.inl rfl) rfl (.inl rfl) rfl rfl rfl rfl) ?_
        refine AOps.nil ?_
        refine hK19 _ ?_
        refine AW.seq_w fun K20 hK20 wK20 => ?_
        refine AW.region ?_
        refine AOps.step rfl rfl rfl (OpQ.spec (sp_fieldAddr_own (ob := .box _ _ _) rfl tf_34_1 (.inl rfl) (fun _ => rfl) rfl) _) ?_
        refine AOps.step rfl rfl rfl (OpQ.spec (ms_load_box (a := .own 54 (i9 1)) rfl ts_31 (.inl rfl) rfl rfl) _) ?_
        refine AOps.step rfl rfl rfl (OpQ.spec (sp_fieldAddr_own (ob := .box _ _ _) rfl tf_49_0 (.inl rfl) (fun _ => rfl) rfl) _) ?_
        refine AOps.step rfl rfl rfl (OpQ.spec (ms_load_box (a := .r (.int .i64 x5.Kind)) rfl ts_3 (.inl rfl) rfl rfl) _) ?_
        refine AOps.step rfl rfl rfl (OpQ.spec (sp_eql rfl (.inl rfl) (.inl rfl)) _) ?_
        refine AOps.step rfl rfl rfl (ms_lit 53 rfl tg_31 (f := rBool) (l := ([(decide (x5.Kind = 2))] : List Bool)) ⟨rfl, ⟨_, (.inl rfl), rfl⟩, trivial⟩ rfl (fun _ => rfl) rfl) ?_
        refine ob1k h14 fun l4 el4 h15 => ?_
        refine AOps.step rfl rfl rfl (ms_app rfl tg_31 (.inl rfl) rfl (.inr (.inl ⟨_, _, (.inl rfl), rfl⟩)) el4) ?_
        refine AOps.step rfl rfl rfl (OpQ.spec (sp_fieldAddr_own (ob := .box _ _ _) rfl tf_34_1 (.inl rfl) (fun _ => rfl) rfl) _) ?_
        refine AOps.step0 rfl rfl (ms_store_box (ds := [.own 7 ((i9 3) + 1), .own 54 ((i9 3) + 3), .own 61 (i9 2)]) rfl tz_31 (.inl rfl) rfl (.inl rfl) rfl rfl rfl rfl) ?_
        refine AOps.nil ?_
        refine hK20 _ ?_
        refine AW.weak (s' := ⟨[(0, .r (.sl (d1.map GStep.row))), (2, .ptr 2 n0 0 0), (3, .ptr 3 (n0 + 2) 0 0), (5, .ptr 5 (i3 3) 0 0), (10, .r (.int .i64 (d1.length : Int))), (11, .r (.int .i64 x2)), (40, .r (.int .i64 x5.N)), (41, .r (.int .i64 x8))], [(2, some (.box n0 34 [.cst (.slice none 0 0), .cst (.slice none 0 0), .cst (.slice none 0 0)])), (3, some (.box (n0 + 2) 34 [.own 7 ((i9 3) + 1), .own 54 ((i9 3) + 3), .own 61 (i9 2)])), (5, some (.box (i3 3) 49 [.r (.int .i64 x5.Kind), .r (.int .i64 x5.N), .r (.sl (x5.Attrs.map GAttr.row)), .r (.sl (x5.Elems.map GElem.row))])), (7, some (.arr ((i9 3) + 1) 39 1 (l3.map (rSl GElem.row)))), (54, some (.arr ((i9 3) + 3) 4 1 (l4.map rBool))), (61, some (.arr (i9 2) 47 1 (a7.Attrs.map (rSl GAttr.row))))], ((i9 3) + 4), 66⟩) (by exact Weak.cv ⟨.inl (.inl rfl), .inl (.inl rfl), .inl (.inl rfl), .inl (.inl rfl), .inl (.inl rfl), .inl (.inl rfl), .inl (.inl rfl), .inl (.inl rfl), trivial⟩ ⟨.inl rfl, .inl rfl, .inl rfl, .inl rfl, .inl rfl, .inl rfl, trivial⟩ (Nat.le_refl _)) ?_
        refine AW.region ?_
        refine AOps.step rfl rfl rfl (OpQ.spec (sp_fieldAddr_own (ob := .box _ _ _) rfl tf_34_2 (.inl rfl) (fun _ => rfl) rfl) _) ?_
        refine AOps.step rfl rfl rfl (OpQ.spec (ms_load_box (a := .own 61 (i9 2)) rfl ts_32 (.inl rfl) rfl rfl) _) ?_
        refine AOps.step rfl rfl rfl (OpQ.spec (sp_fieldAddr_own (ob := .box _ _ _) rfl tf_49_2 (.inl rfl) (fun _ => rfl) rfl) _) ?_
        refine AOps.step rfl rfl rfl (OpQ.spec (ms_load_box (a := .r (.sl (x5.Attrs.map GAttr.row))) rfl ts_47 (.inl rfl) rfl rfl) _) ?_
        refine AOps.step rfl rfl rfl (ms_lit 60 rfl tg_32 (f := (rSl GAttr.row)) (l := ([x5.Attrs] : List (List GAttr))) ⟨rfl, ⟨_, (.inl rfl), rfl⟩, trivial⟩ rfl (fun _ => rfl) rfl) ?_
        refine ob1k h15 fun l5 el5 h16 => ?_
        refine AOps.step rfl rfl rfl (ms_app rfl tg_32 (.inl rfl) rfl (.inr (.inl ⟨_, _, (.inl rfl), rfl⟩)) el5) ?_
        refine AOps.step rfl rfl rfl (OpQ.spec (sp_fieldAddr_own (ob := .box _ _ _) rfl tf_34_2 (.inl rfl) (fun _ => rfl) rfl) _) ?_
        refine AOps.step0 rfl rfl (ms_store_box (ds := [.own 7 ((i9 3) + 1), .own 54 ((i9 3) + 3), .own 61 ((i9 3) + 5)]) rfl tz_32 (.inl rfl) rfl (.inl rfl) rfl rfl rfl rfl) ?_
        refine AOps.nil ?_
        refine hK18 _ ?_
        refine AW.region ?_
        refine ob1k h16 fun x10 ex10 h17 => ?_
        refine AOps.step rfl rfl rfl (OpQ.spec (ms_add rfl (.inl rfl) (.inl rfl) (fun _ => ex10)) _) ?_
        refine AOps.step rfl rfl rfl (OpQ.spec (sp_move rfl (.inl rfl)) _) ?_
        refine AOps.nil ?_
        exact NextQ2.mk h17 (vec [((i9 3) + 1), ((i9 3) + 3), ((i9 3) + 5), ((i9 3) + 6)]) ((by exact Weak.cv ⟨.inl (.inl rfl), .inl (.inl rfl), .inl (.inl rfl), .inl (.inl rfl), .inl (.inl rfl), .inl (.inl rfl), .inl (.inl rfl), .inl (.inl rfl), trivial⟩ ⟨.inl rfl, .inl rfl, .inl rfl, .inl rfl, .inl rfl, .inl rfl, trivial⟩ (Nat.le_refl _)))
      · have h13 := ite_f hc3 h12
        refine AW.exit ?_
        exact wK8 _ _ ((by exact Weak.cv ⟨.inl (.inl rfl), .inl (.inl rfl), .inl (.inl rfl), .inl (.inl rfl), .inl (.inl rfl), trivial⟩ ⟨.inl rfl, .inl rfl, .inl rfl, .inl rfl, .inl rfl, trivial⟩ (Nat.le_refl _))) (J2 _ (vec [(i9 0), (i9 1), (i9 2), (i9 3)]) (Option.some.inj (he3 _ (hx2 _ (Option.some.inj h13).symm))).symm)
  · have h3 := ite_f hc1 h2
    refine AW.exit ?_
    exact wK3 _ _ ((by exact Weak.cv ⟨.inl (.inl rfl), .inl (.inl rfl), trivial⟩ ⟨.inl rfl, .inl rfl, .inl rfl, .inl rfl, .inl rfl, trivial⟩ (Nat.le_refl _))) (J1 _ (vec [(i3 0), (i3 1), (i3 2), (i3 3)]) (hx1 _ (Option.some.inj h3).symm))
set_option maxHeartbeats 4000000 in
set_option maxRecDepth 20000 in
theorem w_ref_Get {l1 : List GAttr} {name1 : List UInt8} {r : (List UInt8)} (h : ref_Get l1 name1 = some r) : ARO Try.prog 119 [.r (.sl (l1.map GAttr.row)), .r (.str name1)] (.r (.str r)) := by
  unfold ref_Get at h
  refine ARO.mkF Try.func119 rfl rfl Try.ntmps119 rfl (Nat.le_of_ble_eq_true rfl) fun n0 => ?_
  refine AW.seq_w fun K1 hK1 wK1 => ?_
  refine AW.region ?_
  refine AOps.step rfl rfl rfl (OpQ.spec (sp_assign rfl (.inl rfl)) _) ?_
  refine AOps.nil ?_
  refine hK1 _ ?_
  refine AW.seq_w fun K2 hK2 wK2 => ?_
  refine AW.seq_w fun K3 hK3 wK3 => ?_
  refine AW.region ?_
  refine AOps.step rfl rfl rfl (OpQ.spec (sp_move rfl (.inl rfl)) _) ?_
  refine AOps.step rfl rfl rfl (OpQ.spec (ms_len rfl tg_47.slice (.inl rfl)) _) ?_
  refine AOps.step rfl rfl rfl (OpQ.spec (sp_move rfl (.inl rfl)) _) ?_
  refine AOps.nil ?_
  refine hK3 _ ?_
  refine AW.block ?_
  refine jc1k h fun o1 hit1 hk1 he1 => ?_
  have J1 : ∀ (u2 : Unit) (i5 : Nat → Nat), o1 = .nrm u2 → K2 ⟨[], [], (i5 0), 24⟩ := by
    intro u2 i5 e
    have h1 := hk1 _ e
    refine hK2 _ ?_
    refine AW.seq_w fun K4 hK4 wK4 => ?_
    refine AW.region ?_
    refine AOps.step rfl rfl rfl (OpQ.spec (sp_assign rfl (.inl rfl)) _) ?_
    refine AOps.nil ?_
    refine hK4 _ ?_
    refine AW.ret ?_
    exact retf1 (P := Try.prog) (fun (r : (List UInt8)) => .r (.str r)) h1 (.inl rfl) (.t (.d rfl))
  refine AW.iter1 (fun (x2 : Int) i3 => ⟨[(0, .r (.sl (l1.map GAttr.row))), (1, .r (.str name1)), (7, .r (.int .i64 (l1.length : Int))), (8, .r (.int .i64 x2))], [], (i3 0), 24⟩) (vec [n0]) hit1 ((by exact Weak.cv ⟨.inl (.inl rfl), .inl (.inl rfl), .inl (.inl rfl), .inl (.inl rfl), trivial⟩ trivial (Nat.le_refl _))) ?_
  intro x2 i3 v1 hv1 hx1
  have h2 : ref_Get_L1 l1 name1 x2 = some v1 := hv1; unfold ref_Get_L1 at h2
  refine AW.seq_w fun K5 hK5 wK5 => ?_
  refine AW.region ?_
  refine AOps.step rfl rfl rfl (OpQ.spec (sp_lss rfl (.inl rfl) (.inl rfl)) _) ?_
  refine AOps.nil ?_
  refine hK5 _ ?_
  refine AW.seq_w fun K6 hK6 wK6 => ?_
  refine AW.cond rfl (fun hc1 => ?_) (fun hc1 => ?_)
  · have h3 := ite_t hc1 h2
    refine AW.skip ?_
    refine hK6 _ ?_
    refine AW.seq_w fun K7 hK7 wK7 => ?_
    refine AW.block ?_
    refine AW.seq_w fun K8 hK8 wK8 => ?_
    refine AW.region ?_
    refine AOps.step rfl rfl rfl (OpQ.spec (sp_move rfl (.inl rfl)) _) ?_
    refine AOps.step rfl rfl rfl (OpQ.spec (sp_assign rfl (.inl rfl)) _) ?_
    refine AOps.nil ?_
    refine hK8 _ ?_
    refine AW.seq_w fun K9 hK9 wK9 => ?_
    refine AW.region ?_
    refine AOps.step rfl rfl rfl (OpQ.spec (sp_move rfl (.inl rfl)) _) ?_
    refine AOps.step rfl rfl rfl (OpQ.spec (sp_move rfl (.inl rfl)) _) ?_
    refine ob1k h3 fun x4 ex4 h4 => ?_
    refine AOps.step rfl rfl rfl (OpQ.spec (ms_idx rfl tg_47.slice (.inl rfl) (.inl rfl) (fun _ => rfl) (fun _ => ex4)) _) ?_
    refine AOps.step rfl rfl rfl (OpQ.spec (sp_fieldAddr_ro rfl tf_128_0 (.inl rfl)) _) ?_
    refine AOps.step rfl rfl rfl (OpQ.spec (ms_load (d := .str x4.Name) rfl ts_9 (.inl rfl) rfl) _) ?_
    refine AOps.step rfl rfl rfl (OpQ.spec (sp_move rfl (.inl rfl)) _) ?_
    refine AOps.step rfl rfl rfl (OpQ.spec (sp_seql rfl (.inl rfl) (.inl rfl)) _) ?_
    refine AOps.nil ?_
    refine hK9 _ ?_
    refine AW.cond rfl (fun hc2 => ?_) (fun hc2 => ?_)
    · have h5 := ite_t hc2 h4
      refine AW.seq_w fun K10 hK10 wK10 => ?_
      refine AW.weak (s' := ⟨[(0, .r (.sl (l1.map GAttr.row))), (5, .r (.int .i64 x2))], [], (i3 0), 24⟩) (by exact Weak.cv ⟨.inl (.inl rfl), .inl (.inl rfl), trivial⟩ trivial (Nat.le_refl _)) ?_
      refine AW.region ?_
      refine AOps.step rfl rfl rfl (OpQ.spec (sp_move rfl (.inl rfl)) _) ?_
      refine AOps.step rfl rfl rfl (OpQ.spec (sp_move rfl (.inl rfl)) _) ?_
      refine AOps.step rfl rfl rfl (OpQ.spec (ms_idx rfl tg_47.slice (.inl rfl) (.inl rfl) (fun _ => rfl) (fun _ => ex4)) _) ?_
      refine AOps.step rfl rfl rfl (OpQ.spec (sp_fieldAddr_ro rfl tf_128_1 (.inl rfl)) _) ?_
      refine AOps.step rfl rfl rfl (OpQ.spec (ms_load (d := .str x4.Value) rfl ts_9 (.inl rfl) rfl) _) ?_
      refine AOps.step rfl rfl rfl (OpQ.spec (sp_assign rfl (.inl rfl)) _) ?_
      refine AOps.nil ?_
      refine hK10 _ ?_
      refine AW.ret ?_
      exact retf1 (P := Try.prog) (fun (r : (List UInt8)) => .r (.str r)) (he1 _ (hx1 _ (Option.some.inj h5).symm)) (.inl rfl) (.t (.d rfl))
    · have h5 := ite_f hc2 h4
      refine AW.skip ?_
      refine hK7 _ ?_
      refine AW.weak (s' := ⟨[(0, .r (.sl (l1.map GAttr.row))), (1, .r (.str name1)), (7, .r (.int .i64 (l1.length : Int))), (8, .r (.int .i64 x2))], [], (i3 0), 24⟩) (by exact Weak.cv ⟨.inl (.inl rfl), .inl (.inl rfl), .inl (.inl rfl), .inl (.inl rfl), trivial⟩ trivial (Nat.le_refl _)) ?_
      refine AW.region ?_
      refine ob1k h5 fun x5 ex5 h6 => ?_
      refine AOps.step rfl rfl rfl (OpQ.spec (ms_add rfl (.inl rfl) (.inl rfl) (fun _ => ex5)) _) ?_
      refine AOps.step rfl rfl rfl (OpQ.spec (sp_move rfl (.inl rfl)) _) ?_
      refine AOps.nil ?_
      exact NextQ1.mk h6 (vec [(i3 0)]) ((by exact Weak.cv ⟨.inl (.inl rfl), .inl (.inl rfl), .inl (.inl rfl), .inl (.inl rfl), trivial⟩ trivial (Nat.le_refl _)))
  · have h3 := ite_f hc1 h2
    refine AW.exit ?_
    exact wK2 _ _ ((by exact Weak.cv trivial trivial (Nat.le_refl _))) (J1 _ (vec [(i3 0)]) (hx1 _ (Option.some.inj h3).symm))
set_option maxHeartbeats 4000000 in
set_option maxRecDepth 20000 in
theorem w_ref_Between {a1 : List GAttr} {b1 : List GAttr} {r : (List GAttr)} (h : ref_Between a1 b1 = some r) : ARO Try.prog 73 [.r (.sl (a1.map GAttr.row)), .r (.sl (b1.map GAttr.row))] (.r (.sl (r.map GAttr.row))) := by
  unfold ref_Between at h
  refine ARO.mkF Try.func73 rfl rfl Try.ntmps73 rfl (Nat.le_of_ble_eq_true rfl) fun n0 => ?_
  refine AW.seq_w fun K1 hK1 wK1 => ?_
  refine AW.region ?_
  refine AOps.step rfl rfl rfl (OpQ.spec (sp_assign rfl (.inl rfl)) _) ?_
  refine AOps.nil ?_
  refine hK1 _ ?_
  refine AW.seq_w fun K2 hK2 wK2 => ?_
  refine AW.region ?_
  refine AOps.step rfl rfl rfl (OpQ.spec (sp_assign rfl (.inl rfl)) _) ?_
  refine AOps.nil ?_
  refine hK2 _ ?_
  refine AW.seq_w fun K3 hK3 wK3 => ?_
  refine AW.seq_w fun K4 hK4 wK4 => ?_
  refine AW.region ?_
  refine AOps.step rfl rfl rfl (OpQ.spec (sp_move rfl (.inl rfl)) _) ?_
  refine AOps.step rfl rfl rfl (OpQ.spec (ms_len rfl tg_47.slice (.inl rfl)) _) ?_
  refine AOps.step rfl rfl rfl (OpQ.spec (sp_move rfl (.inl rfl)) _) ?_
  refine AOps.nil ?_
  refine hK4 _ ?_
  refine AW.block ?_
  refine jb1k h fun o1 hit1 hk1 => ?_
  have J1 : ∀ (out4 : List GAttr) (i5 : Nat → Nat), o1 = out4 → K3 ⟨[(0, .r (.sl (a1.map GAttr.row))), (1, .r (.sl (b1.map GAttr.row))), (5, .r (.sl (out4.map GAttr.row)))], [], (i5 0), 56⟩ := by
    intro out4 i5 e
    have h1 := hk1 _ e
    refine hK3 _ ?_
    refine AW.seq_w fun K5 hK5 wK5 => ?_
    refine AW.seq_w fun K6 hK6 wK6 => ?_
    refine AW.region ?_
    refine AOps.step rfl rfl rfl (OpQ.spec (sp_move rfl (.inl rfl)) _) ?_
    refine AOps.step rfl rfl rfl (OpQ.spec (ms_len rfl tg_47.slice (.inl rfl)) _) ?_
    refine AOps.step rfl rfl rfl (OpQ.spec (sp_move rfl (.inl rfl)) _) ?_
    refine AOps.nil ?_
    refine hK6 _ ?_
    refine AW.block ?_
    refine jb1k h1 fun o2 hit2 hk2 => ?_
    have J2 : ∀ (out8 : List GAttr) (i10 : Nat → Nat), o2 = out8 → K5 ⟨[(5, .r (.sl (out8.map GAttr.row)))], [], (i10 0), 56⟩ := by
      intro out8 i10 e
      have h2 := hk2 _ e
      refine hK5 _ ?_
      refine AW.seq_w fun K7 hK7 wK7 => ?_
      refine AW.region ?_
      refine AOps.step rfl rfl rfl (OpQ.spec (sp_move rfl (.inl rfl)) _) ?_
      refine AOps.step rfl rfl rfl (OpQ.spec (sp_assign rfl (.inl rfl)) _) ?_
      refine AOps.nil ?_
      refine hK7 _ ?_
      refine AW.ret ?_
      exact retf1 (P := Try.prog) (fun (r : (List GAttr)) => .r (.sl (r.map GAttr.row))) h2 (.inl rfl) (.t (.d rfl))
    refine AW.iter2 (fun (out6 : List GAttr) (x5 : Int) i8 => ⟨[(0, .r (.sl (a1.map GAttr.row))), (1, .r (.sl (b1.map GAttr.row))), (5, .r (.sl (out6.map GAttr.row))), (34, .r (.int .i64 (a1.length : Int))), (35, .r (.int .i64 x5))], [], (i8 0), 56⟩) (vec [(i5 0)]) hit2 ((by exact Weak.cv ⟨.inl (.inl rfl), .inl (.inl rfl), .inl (.inl rfl), .inl (.inl rfl), .inl (.inl rfl), trivial⟩ trivial (Nat.le_refl _))) ?_
    intro out6 x5 i8 v1 hv1 hx2
    have h3 : ref_Between_L2 a1 b1 out6 x5 = some v1 := hv1; unfold ref_Between_L2 at h3
    refine AW.seq_w fun K8 hK8 wK8 => ?_
    refine AW.region ?_
    refine AOps.step rfl rfl rfl (OpQ.spec (sp_lss rfl (.inl rfl) (.inl rfl)) _) ?_
    refine AOps.nil ?_
    refine hK8 _ ?_
    refine AW.seq_w fun K9 hK9 wK9 => ?_
    refine AW.cond rfl (fun hc1 => ?_) (fun hc1 => ?_)
    · have h4 := ite_t hc1 h3
      refine AW.skip ?_
      refine hK9 _ ?_
      refine AW.seq_w fun K10 hK10 wK10 => ?_
      refine AW.block ?_
      refine jb1k h4 fun p1 hp1 hk3 => ?_
      have J3 : ∀ (out9 : List GAttr) (i11 : Nat → Nat), p1 = out9 → K10 ⟨[(0, .r (.sl (a1.map GAttr.row))), (1, .r (.sl (b1.map GAttr.row))), (5, .r (.sl (out9.map GAttr.row))), (34, .r (.int .i64 (a1.length : Int))), (35, .r (.int .i64 x5))], [], (i11 0), 56⟩ := by
        intro out9 i11 e
        have h5 := hk3 _ e
        refine hK10 _ ?_
        refine AW.region ?_
        refine ob1k h5 fun x7 ex7 h6 => ?_
        refine AOps.step rfl rfl rfl (OpQ.spec (ms_add rfl (.inl rfl) (.inl rfl) (fun _ => ex7)) _) ?_
        refine AOps.step rfl rfl rfl (OpQ.spec (sp_move rfl (.inl rfl)) _) ?_
        refine AOps.nil ?_
        exact NextQ2.mk h6 (vec [(i11 0)]) ((by exact Weak.cv ⟨.inl (.inl rfl), .inl (.inl rfl), .inl (.inl rfl), .inl (.inl rfl), .inl (.inl rfl), trivial⟩ trivial (Nat.le_refl _)))
      refine AW.seq_w fun K11 hK11 wK11 => ?_
      refine AW.region ?_
      refine AOps.step rfl rfl rfl (OpQ.spec (sp_move rfl (.inl rfl)) _) ?_
      refine AOps.step rfl rfl rfl (OpQ.spec (sp_assign rfl (.inl rfl)) _) ?_
      refine AOps.nil ?_
      refine hK11 _ ?_
      refine AW.seq_w fun K12 hK12 wK12 => ?_
      refine AW.region ?_
      refine AOps.step rfl rfl rfl (OpQ.spec (sp_move rfl (.inl rfl)) _) ?_
      refine AOps.step rfl rfl rfl (OpQ.spec (sp_move rfl (.inl rfl)) _) ?_
      refine AOps.step rfl rfl rfl (OpQ.spec (sp_move rfl (.inl rfl)) _) ?_
      refine ob1k hp1 fun x8 ex8 h7 => ?_
      refine AOps.step rfl rfl rfl (OpQ.spec (ms_idx rfl tg_47.slice (.inl rfl) (.inl rfl) (fun _ => rfl) (fun _ => ex8)) _) ?_
      refine AOps.step rfl rfl rfl (OpQ.spec (sp_fieldAddr_ro rfl tf_128_0 (.inl rfl)) _) ?_
      refine AOps.step rfl rfl rfl (OpQ.spec (ms_load (d := .str x8.Name) rfl ts_9 (.inl rfl) rfl) _) ?_
      refine ob1k h7 fun r1 er1 h8 => ?_
      refine AOps.step rfl rfl rfl (sp_call (r := .r (.str r1)) (caps := []) (bs := [.r (.sl (b1.map GAttr.row)), .r (.str x8.Name)]) rfl (.inl rfl) rfl ⟨⟨_, (.inl rfl), .d rfl⟩, ⟨_, (.inl rfl), .d rfl⟩, trivial⟩ (fun _ => w_ref_Get (er1)) rfl) ?_
      refine AOps.step rfl rfl rfl (OpQ.spec (sp_seql rfl (.inl rfl) (.inl rfl)) _) ?_
      refine AOps.nil ?_
      refine hK12 _ ?_
      refine AW.cond rfl (fun hc2 => ?_) (fun hc2 => ?_)
      · have h9 := ite_t hc2 h8
        refine AW.weak (s' := ⟨[(0, .r (.sl (a1.map GAttr.row))), (1, .r (.sl (b1.map GAttr.row))), (5, .r (.sl (out6.map GAttr.row))), (7, .r (.int .i64 x5)), (34, .r (.int .i64 (a1.length : Int))), (35, .r (.int .i64 x5))], [], (i8 0), 56⟩) (by exact Weak.cv ⟨.inl (.inl rfl), .inl (.inl rfl), .inl (.inl rfl), .inl (.inl rfl), .inl (.inl rfl), .inl (.inl rfl), trivial⟩ trivial (Nat.le_refl _)) ?_
        refine AW.region ?_
        refine AOps.step rfl rfl rfl (OpQ.spec (sp_move rfl (.inl rfl)) _) ?_
        refine AOps.step rfl rfl rfl (OpQ.spec (sp_move rfl (.inl rfl)) _) ?_
        refine AOps.step rfl rfl rfl (OpQ.spec (sp_move rfl (.inl rfl)) _) ?_
        refine AOps.step rfl rfl rfl (OpQ.spec (ms_idx rfl tg_47.slice (.inl rfl) (.inl rfl) (fun _ => rfl) (fun _ => ex8)) _) ?_
        refine AOps.step rfl rfl rfl (OpQ.spec (sp_fieldAddr_ro rfl tf_128_0 (.inl rfl)) _) ?_
        refine AOps.step rfl rfl rfl (OpQ.spec (ms_load (d := .str x8.Name) rfl ts_9 (.inl rfl) rfl) _) ?_
        refine AOps.step rfl rfl rfl (OpQ.spec (sp_build rfl tb_128 (q := [(0, _)]) (by exact ⟨rfl, rfl, rfl, (.inl rfl), trivial⟩) (cs := [.r (.str x8.Name), .r (.str [])]) (by rfl)) _) ?_
        refine ob1k h9 fun out10 eout10 h10 => ?_
        refine AOps.step rfl rfl rfl (sp_callS (r := .r (.sl (out10.map GAttr.row))) (caps := []) (bs := [.r (.sl (out6.map GAttr.row)), .agg [.r (.str x8.Name), .r (.str [])]]) rfl (.inl rfl) rfl ⟨.inl ⟨(.inl rfl), rfl⟩, .inl ⟨(.inl rfl), rfl⟩, trivial⟩ (fun _ => w_ref_put (eout10))) ?_
        refine AOps.step rfl rfl rfl (OpQ.spec (sp_assign rfl (.inl rfl)) _) ?_
        refine AOps.nil ?_
        exact wK10 _ _ ((by exact Weak.cv ⟨.inl (.inl rfl), .inl (.inl rfl), .inl (.inl rfl), .inl (.inl rfl), .inl (.inl rfl), trivial⟩ trivial (Nat.le_refl _))) (J3 _ (vec [(i8 0)]) (Option.some.inj h10).symm)
      · have h9 := ite_f hc2 h8
        refine AW.skip ?_
        exact wK10 _ _ ((by exact Weak.cv ⟨.inl (.inl rfl), .inl (.inl rfl), .inl (.inl rfl), .inl (.inl rfl), .inl (.inl rfl), trivial⟩ trivial (Nat.le_refl _))) (J3 _ (vec [(i8 0)]) (Option.some.inj h9).symm)
    · have h4 := ite_f hc1 h3
      refine AW.exit ?_
      exact wK5 _ _ ((by exact Weak.cv ⟨.inl (.inl rfl), trivial⟩ trivial (Nat.le_refl _))) (J2 _ (vec [(i8 0)]) (hx2 _ (Option.some.inj h4).symm))
  refine AW.iter2 (fun (out2 : List GAttr) (x2 : Int) i3 => ⟨[(0, .r (.sl (a1.map GAttr.row))), (1, .r (.sl (b1.map GAttr.row))), (5, .r (.sl (out2.map GAttr.row))), (9, .r (.int .i64 (b1.length : Int))), (10, .r (.int .i64 x2))], [], (i3 0), 56⟩) (vec [n0]) hit1 ((by exact Weak.cv ⟨.inl (.inl rfl), .inl (.inl rfl), .inl (.inr (.inr ⟨rfl, rfl⟩)), .inl (.inl rfl), .inl (.inl rfl), trivial⟩ trivial (Nat.le_refl _))) ?_
  intro out2 x2 i3 v2 hv2 hx1
  have h11 : ref_Between_L1 a1 b1 out2 x2 = some v2 := hv2; unfold ref_Between_L1 at h11
  refine AW.seq_w fun K13 hK13 wK13 => ?_
  refine AW.region ?_
  refine AOps.step rfl rfl rfl (OpQ.spec (sp_lss rfl (.inl rfl) (.inl rfl)) _) ?_
  refine AOps.nil ?_
  refine hK13 _ ?_
  refine AW.seq_w fun K14 hK14 wK14 => ?_
  refine AW.cond rfl (fun hc3 => ?_) (fun hc3 => ?_)
  · have h12 := ite_t hc3 h11
    refine AW.skip ?_
    refine hK14 _ ?_
    refine AW.seq_w fun K15 hK15 wK15 => ?_
    refine AW.block ?_
    refine jb1k h12 fun p2 hp2 hk4 => ?_
    have J4 : ∀ (out11 : List GAttr) (i12 : Nat → Nat), p2 = out11 → K15 ⟨[(0, .r (.sl (a1.map GAttr.row))), (1, .r (.sl (b1.map GAttr.row))), (5, .r (.sl (out11.map GAttr.row))), (9, .r (.int .i64 (b1.length : Int))), (10, .r (.int .i64 x2))], [], (i12 0), 56⟩ := by
      intro out11 i12 e
      have h13 := hk4 _ e
      refine hK15 _ ?_
      refine AW.region ?_
      refine ob1k h13 fun x9 ex9 h14 => ?_
      refine AOps.step rfl rfl rfl (OpQ.spec (ms_add rfl (.inl rfl) (.inl rfl) (fun _ => ex9)) _) ?_
      refine AOps.step rfl rfl rfl (OpQ.spec (sp_move rfl (.inl rfl)) _) ?_
      refine AOps.nil ?_
      exact NextQ2.mk h14 (vec [(i12 0)]) ((by exact Weak.cv ⟨.inl (.inl rfl), .inl (.inl rfl), .inl (.inl rfl), .inl (.inl rfl), .inl (.inl rfl), trivial⟩ trivial (Nat.le_refl _)))
    refine AW.seq_w fun K16 hK16 wK16 => ?_
    refine AW.region ?_
    refine AOps.step rfl rfl rfl (OpQ.spec (sp_move rfl (.inl rfl)) _) ?_
    refine AOps.step rfl rfl rfl (OpQ.spec (sp_assign rfl (.inl rfl)) _) ?_
    refine AOps.nil ?_
    refine hK16 _ ?_
    refine AW.seq_w fun K17 hK17 wK17 => ?_
    refine AW.regionQ hmix (by kernel_rfl) ?_
    refine AQ.step rfl rfl rfl (sp_move rfl (.inl rfl)) ?_
    refine AQ.step rfl rfl rfl (sp_move rfl (.inl rfl)) ?_
    refine AQ.step rfl rfl rfl (sp_move rfl (.inl rfl)) ?_
    refine ob1k hp2 fun x10 ex10 h15 => ?_
    refine AQ.step rfl rfl rfl (ms_idx rfl tg_47.slice (.inl rfl) (.inl rfl) (fun _ => rfl) (fun _ => ex10)) ?_
    refine AQ.step rfl rfl rfl (sp_fieldAddr_ro rfl tf_128_0 (.inl rfl)) ?_
    refine AQ.step rfl rfl rfl (ms_load (d := .str x10.Name) rfl ts_9 (.inl rfl) rfl) ?_
    refine ob1k h15 fun r2 er2 h16 => ?_
    refine AQ.stepC rfl rfl rfl (r := .r (.str r2)) (caps := []) (bs := [.r (.sl (a1.map GAttr.row)), .r (.str x10.Name)]) rfl (.inl rfl) rfl ⟨⟨_, (.inl rfl), .d rfl⟩, ⟨_, (.inl rfl), .d rfl⟩, trivial⟩ (fun _ => w_ref_Get (er2)) rfl ?_
    refine AQ.step rfl rfl rfl (sp_move rfl (.inl rfl)) ?_
    refine AQ.step rfl rfl rfl (sp_move rfl (.inl rfl)) ?_
    refine AQ.step rfl rfl rfl (ms_idx rfl tg_47.slice (.inl rfl) (.inl rfl) (fun _ => rfl) (fun _ => ex10)) ?_
    refine AQ.step rfl rfl rfl (sp_fieldAddr_ro rfl tf_128_1 (.inl rfl)) ?_
    refine AQ.step rfl rfl rfl (ms_load (d := .str x10.Value) rfl ts_9 (.inl rfl) rfl) ?_
    refine AQ.step rfl rfl rfl (sp_sneq rfl (.inl rfl) (.inl rfl)) ?_
    refine AQ.nil ?_
    refine hK17 _ ?_
    refine AW.cond rfl (fun hc4 => ?_) (fun hc4 => ?_)
    · have h17 := ite_t hc4 h16
      refine AW.weak (s' := ⟨[(0, .r (.sl (a1.map GAttr.row))), (1, .r (.sl (b1.map GAttr.row))), (5, .r (.sl (out2.map GAttr.row))), (6, .r (.int .i64 x2)), (9, .r (.int .i64 (b1.length : Int))), (10, .r (.int .i64 x2))], [], (i3 0), 56⟩) (by exact Weak.cv ⟨.inl (.inl rfl), .inl (.inl rfl), .inl (.inl rfl), .inl (.inl rfl), .inl (.inl rfl), .inl (.inl rfl), trivial⟩ trivial (Nat.le_refl _)) ?_
      refine AW.region ?_
      refine AOps.step rfl rfl rfl (OpQ.spec (sp_move rfl (.inl rfl)) _) ?_
      refine AOps.step rfl rfl rfl (OpQ.spec (sp_move rfl (.inl rfl)) _) ?_
      refine AOps.step rfl rfl rfl (OpQ.spec (sp_move rfl (.inl rfl)) _) ?_
      refine AOps.step rfl rfl rfl (OpQ.spec (ms_idx rfl tg_47.slice (.inl rfl) (.inl rfl) (fun _ => rfl) (fun _ => ex10)) _) ?_
      refine AOps.step rfl rfl rfl (OpQ.spec (ms_loadA (cs := [.r (.str x10.Name), .r (.str x10.Value)]) rfl ta_128 (.inl rfl) rfl rfl) _) ?_
      refine ob1k h17 fun out12 eout12 h18 => ?_
      refine AOps.step rfl rfl rfl (sp_callS (r := .r (.sl (out12.map GAttr.row))) (caps := []) (bs := [.r (.sl (out2.map GAttr.row)), .agg [.r (.str x10.Name), .r (.str x10.Value)]]) rfl (.inl rfl) rfl ⟨.inl ⟨(.inl rfl), rfl⟩, .inl ⟨(.inl rfl), rfl⟩, trivial⟩ (fun _ => w_ref_put (eout12))) ?_
      refine AOps.step rfl rfl rfl (OpQ.spec (sp_assign rfl (.inl rfl)) _) ?_
      refine AOps.nil ?_
      exact wK15 _ _ ((by exact Weak.cv ⟨.inl (.inl rfl), .inl (.inl rfl), .inl (.inl rfl), .inl (.inl rfl), .inl (.inl rfl), trivial⟩ trivial (Nat.le_refl _))) (J4 _ (vec [(i3 0)]) (Option.some.inj h18).symm)
    · have h17 := ite_f hc4 h16
      refine AW.skip ?_
      exact wK15 _ _ ((by exact Weak.cv ⟨.inl (.inl rfl), .inl (.inl rfl), .inl (.inl rfl), .inl (.inl rfl), .inl (.inl rfl), trivial⟩ trivial (Nat.le_refl _))) (J4 _ (vec [(i3 0)]) (Option.some.inj h17).symm)
  · have h12 := ite_f hc3 h11
    refine AW.exit ?_
    exact wK3 _ _ ((by exact Weak.cv ⟨.inl (.inl rfl), .inl (.inl rfl), .inl (.inl rfl), trivial⟩ trivial (Nat.le_refl _))) (J1 _ (vec [(i3 0)]) (hx1 _ (Option.some.inj h12).symm))
set_option maxHeartbeats 4000000 in
set_option maxRecDepth 20000 in
theorem w_ref_SameElem {a1 : GElem} {b1 : GElem} {r : Bool} (h : ref_SameElem a1 b1 = some r) : ARO Try.prog 93 [.agg [.r (.int .i64 a1.Char), .r (.int .i64 a1.Ref), .r (.sl (a1.Attrs.map GAttr.row))], .agg [.r (.int .i64 b1.Char), .r (.int .i64 b1.Ref), .r (.sl (b1.Attrs.map GAttr.row))]] (.r (.bool r)) := by
  unfold ref_SameElem at h
  refine ARO.mkF Try.func93 rfl rfl Try.ntmps93 rfl (Nat.le_of_ble_eq_true rfl) fun n0 => ?_
  refine AW.seq_w fun K1 hK1 wK1 => ?_
  refine AW.region ?_
  refine AOps.step rfl rfl rfl (ms_box (cs := [.r (.int .i64 a1.Char), .r (.int .i64 a1.Ref), .r (.sl (a1.Attrs.map GAttr.row))]) 2 rfl (.inl rfl) rfl rfl) ?_
  refine AOps.step rfl rfl rfl (ms_box (cs := [.r (.int .i64 b1.Char), .r (.int .i64 b1.Ref), .r (.sl (b1.Attrs.map GAttr.row))]) 3 rfl (.inl rfl) rfl rfl) ?_
  refine AOps.step rfl rfl rfl (OpQ.spec (sp_assign rfl (.inl rfl)) _) ?_
  refine AOps.nil ?_
  refine hK1 _ ?_
  refine AW.seq_w fun K2 hK2 wK2 => ?_
  refine AW.region ?_
  refine AOps.step rfl rfl rfl (OpQ.spec (sp_fieldAddr_own (ob := .box _ _ _) rfl tf_113_0 (.inl rfl) (fun _ => rfl) rfl) _) ?_
  refine AOps.step rfl rfl rfl (OpQ.spec (ms_load_box (a := .r (.int .i64 a1.Char)) rfl ts_3 (.inl rfl) rfl rfl) _) ?_
  refine AOps.step rfl rfl rfl (OpQ.spec (sp_fieldAddr_own (ob := .box _ _ _) rfl tf_113_0 (.inl rfl) (fun _ => rfl) rfl) _) ?_
  refine AOps.step rfl rfl rfl (OpQ.spec (ms_load_box (a := .r (.int .i64 b1.Char)) rfl ts_3 (.inl rfl) rfl rfl) _) ?_
  refine AOps.step rfl rfl rfl (OpQ.spec (sp_eql rfl (.inl rfl) (.inl rfl)) _) ?_
  refine AOps.step rfl rfl rfl (OpQ.spec (sp_move rfl (.inl rfl)) _) ?_
  refine AOps.stepW (.one rfl rfl rfl) rfl rfl (OpQ.spec (sp_fieldAddr_own (ob := .box _ _ _) rfl tf_113_1 (.inl rfl) (fun _ => rfl) rfl) _) ?_
  refine AOps.stepW (.one rfl rfl rfl) rfl rfl (OpQ.spec (ms_load_box (a := .r (.int .i64 a1.Ref)) rfl ts_3 (.inr ⟨_, (by exact id), rfl⟩) rfl rfl) _) ?_
  refine AOps.stepW (.one rfl rfl rfl) rfl rfl (OpQ.spec (sp_fieldAddr_own (ob := .box _ _ _) rfl tf_113_1 (.inl rfl) (fun _ => rfl) rfl) _) ?_
  refine AOps.stepW (.one rfl rfl rfl) rfl rfl (OpQ.spec (ms_load_box (a := .r (.int .i64 b1.Ref)) rfl ts_3 (.inr ⟨_, (by exact id), rfl⟩) rfl rfl) _) ?_
  refine AOps.stepW (.one rfl rfl rfl) rfl rfl (OpQ.spec (sp_eql rfl (.inr ⟨_, (by exact id), rfl⟩) (.inr ⟨_, (by exact id), rfl⟩)) _) ?_
  refine AOps.step rfl rfl rfl (OpQ.spec (sp_and rfl (.inl rfl) (.inr ⟨_, (by exact id), rfl⟩)) _) ?_
  refine AOps.step rfl rfl rfl (OpQ.spec (sp_move rfl (.inl rfl)) _) ?_
  refine AOps.stepW (.one rfl rfl rfl) rfl rfl (OpQ.spec (sp_fieldAddr_own (ob := .box _ _ _) rfl tf_113_2 (.inl rfl) (fun _ => rfl) rfl) _) ?_
  refine AOps.stepW (.one rfl rfl rfl) rfl rfl (OpQ.spec (ms_load_box (a := .r (.sl (a1.Attrs.map GAttr.row))) rfl ts_47 (.inr ⟨_, (by exact id), rfl⟩) rfl rfl) _) ?_
  refine AOps.stepW (.one rfl rfl rfl) rfl rfl (OpQ.spec (sp_fieldAddr_own (ob := .box _ _ _) rfl tf_113_2 (.inl rfl) (fun _ => rfl) rfl) _) ?_
  refine AOps.stepW (.one rfl rfl rfl) rfl rfl (OpQ.spec (ms_load_box (a := .r (.sl (b1.Attrs.map GAttr.row))) rfl ts_47 (.inr ⟨_, (by exact id), rfl⟩) rfl rfl) _) ?_
  refine ob1k h fun r1 er1 h1 => ?_
  refine AOps.stepW (.one rfl rfl rfl) rfl rfl (sp_call (r := .r (.bool r1)) (caps := []) (bs := [.r (.sl (a1.Attrs.map GAttr.row)), .r (.sl (b1.Attrs.map GAttr.row))]) rfl (.inl rfl) rfl ⟨⟨_, (.inr ⟨_, (by exact id), rfl⟩), .d rfl⟩, ⟨_, (.inr ⟨_, (by exact id), rfl⟩), .d rfl⟩, trivial⟩ (fun hg => w_ref_SameAttrs (gdt er1 hg)) rfl) ?_
  refine AOps.step rfl rfl rfl (OpQ.spec (sp_and rfl (.inl rfl) (.inr ⟨_, (by exact id), rfl⟩)) _) ?_
  refine AOps.step rfl rfl rfl (OpQ.spec (sp_assign rfl (.inl rfl)) _) ?_
  refine AOps.nil ?_
  refine hK2 _ ?_
  refine AW.ret ?_
  exact retf1 (P := Try.prog) (fun (r : Bool) => .r (.bool r)) h1 (.inl rfl) (.t (.d rfl))
set_option maxHeartbeats 4000000 in
set_option maxRecDepth 20000 in
theorem w_ref_SameFlow {a1 : List GElem} {b1 : List GElem} {r : Bool} (h : ref_SameFlow a1 b1 = some r) : ARO Try.prog 37 [.r (.sl (a1.map GElem.row)), .r (.sl (b1.map GElem.row))] (.r (.bool r)) := by
  unfold ref_SameFlow at h
  refine ARO.mkF Try.func37 rfl rfl Try.ntmps37 rfl (Nat.le_of_ble_eq_true rfl) fun n0 => ?_
  refine AW.seq_w fun K1 hK1 wK1 => ?_
  refine AW.region ?_
  refine AOps.step rfl rfl rfl (OpQ.spec (sp_assign rfl (.inl rfl)) _) ?_
  refine AOps.nil ?_
  refine hK1 _ ?_
  refine AW.seq_w fun K2 hK2 wK2 => ?_
  refine AW.seq_w fun K3 hK3 wK3 => ?_
  refine AW.region ?_
  refine AOps.step rfl rfl rfl (OpQ.spec (sp_move rfl (.inl rfl)) _) ?_
  refine AOps.step rfl rfl rfl (OpQ.spec (ms_len rfl tg_39.slice (.inl rfl)) _) ?_
  refine AOps.step rfl rfl rfl (OpQ.spec (sp_move rfl (.inl rfl)) _) ?_
  refine AOps.step rfl rfl rfl (OpQ.spec (ms_len rfl tg_39.slice (.inl rfl)) _) ?_
  refine AOps.step rfl rfl rfl (OpQ.spec (sp_neq rfl (.inl rfl) (.inl rfl)) _) ?_
  refine AOps.nil ?_
  refine hK3 _ ?_
  refine AW.cond rfl (fun hc1 => ?_) (fun hc1 => ?_)
  · have h1 := ite_t hc1 h
    refine AW.seq_w fun K4 hK4 wK4 => ?_
    refine AW.region ?_
    refine AOps.step rfl rfl rfl (OpQ.spec (sp_assign rfl (.inl rfl)) _) ?_
    refine AOps.nil ?_
    refine hK4 _ ?_
    refine AW.ret ?_
    exact retf1 (P := Try.prog) (fun (r : Bool) => .r (.bool r)) h1 (.inl rfl) (.t (.d rfl))
  · have h1 := ite_f hc1 h
    refine AW.skip ?_
    refine hK2 _ ?_
    refine AW.seq_w fun K5 hK5 wK5 => ?_
    refine AW.seq_w fun K6 hK6 wK6 => ?_
    refine AW.region ?_
    refine AOps.step rfl rfl rfl (OpQ.spec (sp_move rfl (.inl rfl)) _) ?_
    refine AOps.step rfl rfl rfl (OpQ.spec (ms_len rfl tg_39.slice (.inl rfl)) _) ?_
    refine AOps.step rfl rfl rfl (OpQ.spec (sp_move rfl (.inl rfl)) _) ?_
    refine AOps.nil ?_
    refine hK6 _ ?_
    refine AW.block ?_
    refine jc1k h1 fun o1 hit1 hk1 he1 => ?_
    have J1 : ∀ (u2 : Unit) (i5 : Nat → Nat), o1 = .nrm u2 → K5 ⟨[], [], (i5 0), 27⟩ := by
      intro u2 i5 e
      have h2 := hk1 _ e
      refine hK5 _ ?_
      refine AW.seq_w fun K7 hK7 wK7 => ?_
      refine AW.region ?_
      refine AOps.step rfl rfl rfl (OpQ.spec (sp_assign rfl (.inl rfl)) _) ?_
      refine AOps.nil ?_
      refine hK7 _ ?_
      refine AW.ret ?_
      exact retf1 (P := Try.prog) (fun (r : Bool) => .r (.bool r)) h2 (.inl rfl) (.t (.d rfl))
    refine AW.iter1 (fun (x2 : Int) i3 => ⟨[(0, .r (.sl (a1.map GElem.row))), (1, .r (.sl (b1.map GElem.row))), (12, .r (.int .i64 (a1.length : Int))), (13, .r (.int .i64 x2))], [], (i3 0), 27⟩) (vec [n0]) hit1 ((by exact Weak.cv ⟨.inl (.inl rfl), .inl (.inl rfl), .inl (.inl rfl), .inl (.inl rfl), trivial⟩ trivial (Nat.le_refl _))) ?_
    intro x2 i3 v1 hv1 hx1
    have h3 : ref_SameFlow_L1 a1 b1 x2 = some v1 := hv1; unfold ref_SameFlow_L1 at h3
    refine AW.seq_w fun K8 hK8 wK8 => ?_
    refine AW.region ?_
    refine AOps.step rfl rfl rfl (OpQ.spec (sp_lss rfl (.inl rfl) (.inl rfl)) _) ?_
    refine AOps.nil ?_
    refine hK8 _ ?_
    refine AW.seq_w fun K9 hK9 wK9 => ?_
    refine AW.cond rfl (fun hc2 => ?_) (fun hc2 => ?_)
    · have h4 := ite_t hc2 h3
      refine AW.skip ?_
      refine hK9 _ ?_
      refine AW.seq_w fun K10 hK10 wK10 => ?_
      refine AW.block ?_
      refine AW.seq_w fun K11 hK11 wK11 => ?_
      refine AW.region ?_
      refine AOps.step rfl rfl rfl (OpQ.spec (sp_move rfl (.inl rfl)) _) ?_
      refine AOps.step rfl rfl rfl (OpQ.spec (sp_assign rfl (.inl rfl)) _) ?_
      refine AOps.nil ?_
      refine hK11 _ ?_
      refine AW.seq_w fun K12 hK12 wK12 => ?_
      refine AW.regionQ hmix (by kernel_rfl) ?_
      refine AQ.step rfl rfl rfl (sp_move rfl (.inl rfl)) ?_
      refine AQ.step rfl rfl rfl (sp_move rfl (.inl rfl)) ?_
      refine ob1k h4 fun x4 ex4 h5 => ?_
      refine AQ.step rfl rfl rfl (ms_idx rfl tg_39.slice (.inl rfl) (.inl rfl) (fun _ => rfl) (fun _ => ex4)) ?_
      refine AQ.step rfl rfl rfl (ms_loadA (cs := [.r (.int .i64 x4.Char), .r (.int .i64 x4.Ref), .r (.sl (x4.Attrs.map GAttr.row))]) rfl ta_113 (.inl rfl) rfl rfl) ?_
      refine AQ.step rfl rfl rfl (sp_move rfl (.inl rfl)) ?_
      refine AQ.step rfl rfl rfl (sp_move rfl (.inl rfl)) ?_
      refine ob1k h5 fun x5 ex5 h6 => ?_
      refine AQ.step rfl rfl rfl (ms_idx rfl tg_39.slice (.inl rfl) (.inl rfl) (fun _ => rfl) (fun _ => ex5)) ?_
      refine AQ.step rfl rfl rfl (ms_loadA (cs := [.r (.int .i64 x5.Char), .r (.int .i64 x5.Ref), .r (.sl (x5.Attrs.map GAttr.row))]) rfl ta_113 (.inl rfl) rfl rfl) ?_
      refine ob1k h6 fun r1 er1 h7 => ?_
      refine AQ.stepC rfl rfl rfl (r := .r (.bool r1)) (caps := []) (bs := [.agg [.r (.int .i64 x4.Char), .r (.int .i64 x4.Ref), .r (.sl (x4.Attrs.map GAttr.row))], .agg [.r (.int .i64 x5.Char), .r (.int .i64 x5.Ref), .r (.sl (x5.Attrs.map GAttr.row))]]) rfl (.inl rfl) rfl ⟨⟨_, (.inl rfl), .g (cs := [.int .i64 x4.Char, .int .i64 x4.Ref, .sl (x4.Attrs.map GAttr.row)]) rfl rfl⟩, ⟨_, (.inl rfl), .g (cs := [.int .i64 x5.Char, .int .i64 x5.Ref, .sl (x5.Attrs.map GAttr.row)]) rfl rfl⟩, trivial⟩ (fun _ => w_ref_SameElem (er1)) rfl ?_
      refine AQ.step rfl rfl rfl (sp_not rfl (.inl rfl)) ?_
      refine AQ.nil ?_
      refine hK12 _ ?_
      refine AW.cond rfl (fun hc3 => ?_) (fun hc3 => ?_)
      · have h8 := ite_t hc3 h7
        refine AW.seq_w fun K13 hK13 wK13 => ?_
        refine AW.weak (s' := ⟨[], [], (i3 0), 27⟩) (by exact Weak.cv trivial trivial (Nat.le_refl _)) ?_
        refine AW.region ?_
        refine AOps.step rfl rfl rfl (OpQ.spec (sp_assign rfl (.inl rfl)) _) ?_
        refine AOps.nil ?_
        refine hK13 _ ?_
        refine AW.ret ?_
        exact retf1 (P := Try.prog) (fun (r : Bool) => .r (.bool r)) (he1 _ (hx1 _ (Option.some.inj h8).symm)) (.inl rfl) (.t (.d rfl))
      · have h8 := ite_f hc3 h7
        refine AW.skip ?_
        refine hK10 _ ?_
        refine AW.weak (s' := ⟨[(0, .r (.sl (a1.map GElem.row))), (1, .r (.sl (b1.map GElem.row))), (12, .r (.int .i64 (a1.length : Int))), (13, .r (.int .i64 x2))], [], (i3 0), 27⟩) (by exact Weak.cv ⟨.inl (.inl rfl), .inl (.inl rfl), .inl (.inl rfl), .inl (.inl rfl), trivial⟩ trivial (Nat.le_refl _)) ?_
        refine AW.region ?_
        refine ob1k h8 fun x6 ex6 h9 => ?_
        refine AOps.step rfl rfl rfl (OpQ.spec (ms_add rfl (.inl rfl) (.inl rfl) (fun _ => ex6)) _) ?_
        refine AOps.step rfl rfl rfl (OpQ.spec (sp_move rfl (.inl rfl)) _) ?_
        refine AOps.nil ?_
        exact NextQ1.mk h9 (vec [(i3 0)]) ((by exact Weak.cv ⟨.inl (.inl rfl), .inl (.inl rfl), .inl (.inl rfl), .inl (.inl rfl), trivial⟩ trivial (Nat.le_refl _)))
    · have h4 := ite_f hc2 h3
      refine AW.exit ?_
      exact wK5 _ _ ((by exact Weak.cv trivial trivial (Nat.le_refl _))) (J1 _ (vec [(i3 0)]) (hx1 _ (Option.some.inj h4).symm))
set_option maxHeartbeats 4000000 in
set_option maxRecDepth 20000 in
theorem w_law_exact {f1 : List GElem} {d1 : List GStep} {want1 : List GElem} {r : Bool} (h : law_exact f1 d1 want1 = some r) : ARO Try.prog 52 [.r (.sl (f1.map GElem.row)), .r (.sl (d1.map GStep.row)), .r (.sl (want1.map GElem.row))] (.r (.bool r)) := by
  unfold law_exact at h
  refine ARO.mkF Try.func52 rfl rfl Try.ntmps52 rfl (Nat.le_of_ble_eq_true rfl) fun n0 => ?_
  refine AW.seq_w fun K1 hK1 wK1 => ?_
  refine AW.region ?_
  refine AOps.step rfl rfl rfl (OpQ.spec (sp_assign rfl (.inl rfl)) _) ?_
  refine AOps.nil ?_
  refine hK1 _ ?_
  refine AW.seq_w fun K2 hK2 wK2 => ?_
  refine AW.seq_w fun K3 hK3 wK3 => ?_
  refine AW.region ?_
  refine AOps.step rfl rfl rfl (OpQ.spec (sp_move rfl (.inl rfl)) _) ?_
  refine ob1k h fun r1 er1 h1 => ?_
  refine AOps.step rfl rfl rfl (sp_call (r := .r (.int .i64 r1)) (caps := []) (bs := [.r (.sl (d1.map GStep.row))]) rfl (.inl rfl) rfl ⟨⟨_, (.inl rfl), .d rfl⟩, trivial⟩ (fun _ => w_ref_DeltaError (er1)) rfl) ?_
  refine AOps.step rfl rfl rfl (OpQ.spec (sp_neq rfl (.inl rfl) (.inl rfl)) _) ?_
  refine AOps.step rfl rfl rfl (OpQ.spec (sp_move rfl (.inl rfl)) _) ?_
  refine AOps.stepW (.one rfl rfl rfl) rfl rfl (OpQ.spec (sp_move rfl (.inl rfl)) _) ?_
  refine ob1k h1 fun r2 er2 h2 => ?_
  refine AOps.stepW (.one rfl rfl rfl) rfl rfl (sp_call (r := .r (.int .i64 r2)) (caps := []) (bs := [.r (.sl (d1.map GStep.row))]) rfl (.inl rfl) rfl ⟨⟨_, (.inr ⟨_, (by exact id), rfl⟩), .d rfl⟩, trivial⟩ (fun hg => w_ref_DeltaSize (gdt er2 hg)) rfl) ?_
  refine AOps.stepW (.one rfl rfl rfl) rfl rfl (OpQ.spec (sp_move rfl (.inl rfl)) _) ?_
  refine AOps.stepW (.one rfl rfl rfl) rfl rfl (OpQ.spec (ms_len rfl tg_39.slice (.inr ⟨_, (by exact id), rfl⟩)) _) ?_
  refine AOps.stepW (.one rfl rfl rfl) rfl rfl (OpQ.spec (sp_neq rfl (.inr ⟨_, (by exact id), rfl⟩) (.inr ⟨_, (by exact id), rfl⟩)) _) ?_
  refine AOps.step rfl rfl rfl (OpQ.spec (sp_or rfl (.inl rfl) (.inr ⟨_, (by exact id), rfl⟩)) _) ?_
  refine AOps.nil ?_
  refine hK3 _ ?_
  refine AW.cond rfl (fun hc1 => ?_) (fun hc1 => ?_)
  · have h3 := ite_t hc1 h2
    refine AW.seq_w fun K4 hK4 wK4 => ?_
    refine AW.weak (s' := ⟨[], [], n0, 67⟩) (by exact Weak.cv trivial trivial (Nat.le_refl _)) ?_
    refine AW.region ?_
    refine AOps.step rfl rfl rfl (OpQ.spec (sp_assign rfl (.inl rfl)) _) ?_
    refine AOps.nil ?_
    refine hK4 _ ?_
    refine AW.ret ?_
    exact retf1 (P := Try.prog) (fun (r : Bool) => .r (.bool r)) h3 (.inl rfl) (.t (.d rfl))
  · have h3 := ite_f hc1 h2
    refine AW.skip ?_
    refine hK2 _ ?_
    refine AW.seq_w fun K5 hK5 wK5 => ?_
    refine AW.weak (s' := ⟨[(0, .r (.sl (f1.map GElem.row))), (1, .r (.sl (d1.map GStep.row))), (2, .r (.sl (want1.map GElem.row)))], [], n0, 67⟩) (by exact Weak.cv ⟨.inl (.inl rfl), .inl (.inl rfl), .inl (.inl rfl), trivial⟩ trivial (Nat.le_refl _)) ?_
    refine AW.region ?_
    refine AOps.step rfl rfl rfl (OpQ.spec (sp_move rfl (.inl rfl)) _) ?_
    refine ob1k h3 fun r3 er3 h4 => ?_
    refine AOps.step rfl rfl rfl (sp_callS (r := .agg [.r (.sl (r3.Adds.map (rSl GElem.row))), .r (.sl (r3.Cuts.map rBool)), .r (.sl (r3.Attrs.map (rSl GAttr.row)))]) (caps := []) (bs := [.r (.sl (d1.map GStep.row))]) rfl (.inl rfl) rfl ⟨.inl ⟨(.inl rfl), rfl⟩, trivial⟩ (fun _ => w_ref_ActOf (er3))) ?_
    refine AOps.step rfl rfl rfl (ms_alloc (cs := [.cst (.slice none 0 0), .cst (.slice none 0 0), .cst (.slice none 0 0)]) 7 rfl t0_34 rfl rfl) ?_
    refine AOps.step0 rfl rfl (ms_store_box (ds := [.r (.sl (r3.Adds.map (rSl GElem.row))), .r (.sl (r3.Cuts.map rBool)), .r (.sl (r3.Attrs.map (rSl GAttr.row)))]) rfl tz_34 (.inl rfl) rfl (.inl rfl) rfl rfl rfl rfl) ?_
    refine AOps.nil ?_
    refine hK5 _ ?_
    refine AW.seq_w fun K6 hK6 wK6 => ?_
    refine AW.seq_w fun K7 hK7 wK7 => ?_
    refine AW.region ?_
    refine AOps.step rfl rfl rfl (OpQ.spec (sp_move rfl (.inl rfl)) _) ?_
    refine AOps.step rfl rfl rfl (OpQ.spec (ms_len rfl tg_39.slice (.inl rfl)) _) ?_
    refine AOps.step rfl rfl rfl (OpQ.spec (sp_move rfl (.inl rfl)) _) ?_
    refine AOps.nil ?_
    refine hK7 _ ?_
    refine AW.block ?_
    refine jc1k h4 fun o1 hit1 hk1 he1 => ?_
    have J1 : ∀ (u2 : Unit) (i5 : Nat → Nat), o1 = .nrm u2 → K6 ⟨[(0, .r (.sl (f1.map GElem.row))), (1, .r (.sl (d1.map GStep.row))), (2, .r (.sl (want1.map GElem.row)))], [], (i5 0), 67⟩ := by
      intro u2 i5 e
      have h5 := hk1 _ e
      refine hK6 _ ?_
      refine AW.seq_w fun K8 hK8 wK8 => ?_
      refine AW.region ?_
      refine AOps.step rfl rfl rfl (OpQ.spec (sp_move rfl (.inl rfl)) _) ?_
      refine AOps.step rfl rfl rfl (OpQ.spec (sp_move rfl (.inl rfl)) _) ?_
      refine ob2k h5 fun r4 r5 er4 h6 => ?_
      refine AOps.step rfl rfl rfl (sp_callS (r := .tup [.r (.sl (r4.map GElem.row)), .r (.int .i64 r5)]) (caps := []) (bs := [.r (.sl (f1.map GElem.row)), .r (.sl (d1.map GStep.row))]) rfl (.inl rfl) rfl ⟨.inl ⟨(.inl rfl), rfl⟩, .inl ⟨(.inl rfl), rfl⟩, trivial⟩ (fun _ => w_delta_Apply (er4))) ?_
      refine AOps.step rfl rfl rfl (OpQ.spec (sp_move rfl (.inl rfl)) _) ?_
      refine AOps.step rfl rfl rfl (OpQ.spec (sp_extract (a := .r (.sl (r4.map GElem.row))) rfl (.inl rfl) rfl) _) ?_
      refine AOps.step rfl rfl rfl (OpQ.spec (sp_extract (a := .r (.int .i64 r5)) rfl (.inl rfl) rfl) _) ?_
      refine AOps.step rfl rfl rfl (OpQ.spec (sp_assign rfl (.inl rfl)) _) ?_
      refine AOps.step rfl rfl rfl (OpQ.spec (sp_assign rfl (.inl rfl)) _) ?_
      refine AOps.nil ?_
      refine hK8 _ ?_
      refine AW.seq_w fun K9 hK9 wK9 => ?_
      refine AW.region ?_
      refine AOps.step rfl rfl rfl (OpQ.spec (sp_move rfl (.inl rfl)) _) ?_
      refine AOps.step rfl rfl rfl (OpQ.spec (sp_eql rfl (.inl rfl) (.inl rfl)) _) ?_
      refine AOps.step rfl rfl rfl (OpQ.spec (sp_move rfl (.inl rfl)) _) ?_
      refine AOps.stepW (.one rfl rfl rfl) rfl rfl (OpQ.spec (sp_move rfl (.inl rfl)) _) ?_
      refine AOps.stepW (.one rfl rfl rfl) rfl rfl (OpQ.spec (sp_move rfl (.inl rfl)) _) ?_
      refine ob1k h6 fun r6 er6 h7 => ?_
      refine AOps.stepW (.one rfl rfl rfl) rfl rfl (sp_call (r := .r (.bool r6)) (caps := []) (bs := [.r (.sl (r4.map GElem.row)), .r (.sl (want1.map GElem.row))]) rfl (.inl rfl) rfl ⟨⟨_, (.inr ⟨_, (by exact id), rfl⟩), .d rfl⟩, ⟨_, (.inr ⟨_, (by exact id), rfl⟩), .d rfl⟩, trivial⟩ (fun hg => w_ref_SameFlow (gdt er6 hg)) rfl) ?_
      refine AOps.step rfl rfl rfl (OpQ.spec (sp_and rfl (.inl rfl) (.inr ⟨_, (by exact id), rfl⟩)) _) ?_
      refine AOps.step rfl rfl rfl (OpQ.spec (sp_assign rfl (.inl rfl)) _) ?_
      refine AOps.nil ?_
      refine hK9 _ ?_
      refine AW.ret ?_
      exact retf1 (P := Try.prog) (fun (r : Bool) => .r (.bool r)) h7 (.inl rfl) (.t (.d rfl))
    refine AW.iter1 (fun (x2 : Int) i3 => ⟨[(0, .r (.sl (f1.map GElem.row))), (1, .r (.sl (d1.map GStep.row))), (2, .r (.sl (want1.map GElem.row))), (7, .ptr 7 n0 0 0), (24, .r (.int .i64 (f1.length : Int))), (25, .r (.int .i64 x2))], [(7, some (.box n0 34 [.r (.sl (r3.Adds.map (rSl GElem.row))), .r (.sl (r3.Cuts.map rBool)), .r (.sl (r3.Attrs.map (rSl GAttr.row)))]))], (i3 0), 67⟩) (vec [(n0 + 1)]) hit1 ((by exact Weak.cv ⟨.inl (.inl rfl), .inl (.inl rfl), .inl (.inl rfl), .inl (.inl rfl), .inl (.inl rfl), .inl (.inl rfl), trivial⟩ ⟨.inl rfl, trivial⟩ (Nat.le_refl _))) ?_
    intro x2 i3 v1 hv1 hx1
    have h8 : law_exact_L1 f1 r3 x2 = some v1 := hv1; unfold law_exact_L1 at h8
    refine AW.seq_w fun K10 hK10 wK10 => ?_
    refine AW.region ?_
    refine AOps.step rfl rfl rfl (OpQ.spec (sp_lss rfl (.inl rfl) (.inl rfl)) _) ?_
    refine AOps.nil ?_
    refine hK10 _ ?_
    refine AW.seq_w fun K11 hK11 wK11 => ?_
    refine AW.cond rfl (fun hc2 => ?_) (fun hc2 => ?_)
    · have h9 := ite_t hc2 h8
      refine AW.skip ?_
      refine hK11 _ ?_
      refine AW.seq_w fun K12 hK12 wK12 => ?_
      refine AW.block ?_
      refine AW.seq_w fun K13 hK13 wK13 => ?_
      refine AW.region ?_
      refine AOps.step rfl rfl rfl (OpQ.spec (sp_move rfl (.inl rfl)) _) ?_
      refine AOps.step rfl rfl rfl (OpQ.spec (sp_assign rfl (.inl rfl)) _) ?_
      refine AOps.nil ?_
      refine hK13 _ ?_
      refine AW.seq_w fun K14 hK14 wK14 => ?_
      refine ob1k h9 fun x4 ex4 h10 => ?_
      refine ob1k h10 fun x5 ex5 h11 => ?_
      refine ob1k h11 fun r7 er7 h12 => ?_
      refine ob1k h12 fun r8 er8 h13 => ?_
      refine AW.regionP 24 [⟨some 28, (fun _ => .r (.sl (f1.map GElem.row))), none, []⟩, ⟨some 29, (fun _ => .r (.int .i64 x2)), none, []⟩, ⟨some 30, (fun _ => .rop (GElem.row x4) 0), none, []⟩, ⟨some 31, (fun _ => .rop (GElem.row x4) 2), none, []⟩, ⟨some 32, (fun _ => .r (.sl (x4.Attrs.map GAttr.row))), none, []⟩, ⟨some 33, (fun _ => .r (.sl (f1.map GElem.row))), none, []⟩, ⟨some 34, (fun _ => .r (.int .i64 x2)), none, []⟩, ⟨some 35, (fun _ => .rop (GElem.row x4) 0), none, []⟩, ⟨some 36, (fun _ => .rop (GElem.row x4) 2), none, []⟩, ⟨some 37, (fun _ => .r (.sl (x4.Attrs.map GAttr.row))), none, []⟩, ⟨some 38, (fun _ => .ptr 7 n0 0 2), none, []⟩, ⟨some 39, (fun _ => .r (.sl (r3.Attrs.map (rSl GAttr.row)))), none, []⟩, ⟨some 40, (fun _ => .r (.int .i64 x2)), none, []⟩, ⟨some 41, (fun _ => .rop ((rSl GAttr.row) x5) 0), none, []⟩, ⟨some 42, (fun _ => .r (.sl (x5.map GAttr.row))), none, []⟩, ⟨some 43, (fun _ => .r (.sl (r7.map GAttr.row))), none, []⟩, ⟨some 44, (fun _ => .r (.sl (r8.map GAttr.row))), none, []⟩, ⟨some 45, (fun _ => .r (.int .i64 (r8.length : Int))), none, []⟩, ⟨some 46, (fun _ => .ptr 7 n0 0 2), none, []⟩, ⟨some 47, (fun _ => .r (.sl (r3.Attrs.map (rSl GAttr.row)))), none, []⟩, ⟨some 48, (fun _ => .r (.int .i64 x2)), none, []⟩, ⟨some 49, (fun _ => .rop ((rSl GAttr.row) x5) 0), none, []⟩, ⟨some 50, (fun _ => .r (.sl (x5.map GAttr.row))), none, []⟩, ⟨some 51, (fun _ => .r (.int .i64 (x5.length : Int))), none, []⟩] hmix (by kernel_rfl) (by exact ⟨fun _ _ h => ⟨rfl, fun _ _ e => by cases e⟩, fun _ _ h => ⟨rfl, fun _ _ e => by cases e⟩, fun _ _ h => ⟨rfl, fun _ _ e => by cases e⟩, fun _ _ h => ⟨rfl, fun _ _ e => by cases e⟩, fun _ _ h => ⟨rfl, fun _ _ e => by cases e⟩, fun _ _ h => ⟨rfl, fun _ _ e => by cases e⟩, fun _ _ h => ⟨rfl, fun _ _ e => by cases e⟩, fun _ _ h => ⟨rfl, fun _ _ e => by cases e⟩, fun _ _ h => ⟨rfl, fun _ _ e => by cases e⟩, fun _ _ h => ⟨rfl, fun _ _ e => by cases e⟩, fun _ _ h => ⟨rfl, fun _ _ e => by cases e⟩, fun _ _ h => ⟨rfl, fun _ _ e => by cases e⟩, fun _ _ h => ⟨rfl, fun _ _ e => by cases e⟩, fun _ _ h => ⟨rfl, fun _ _ e => by cases e⟩, fun _ _ h => ⟨rfl, fun _ _ e => by cases e⟩, fun _ _ h => ⟨rfl, fun _ _ e => by cases e⟩, fun _ _ h => ⟨rfl, fun _ _ e => by cases e⟩, fun _ _ h => ⟨rfl, fun _ _ e => by cases e⟩, fun _ _ h => ⟨rfl, fun _ _ e => by cases e⟩, fun _ _ h => ⟨rfl, fun _ _ e => by cases e⟩, fun _ _ h => ⟨rfl, fun _ _ e => by cases e⟩, fun _ _ h => ⟨rfl, fun _ _ e => by cases e⟩, fun _ _ h => ⟨rfl, fun _ _ e => by cases e⟩, fun _ _ h => ⟨rfl, fun _ _ e => by cases e⟩, trivial⟩) rfl (by exact ⟨Ob.quiet (n1 := fun n => n) rfl rfl (by intro d h; cases h; rfl) rfl (fun _ => [(0, .r (.sl (f1.map GElem.row)))]) (fun _ => []) (fun D G1 hr => ⟨inE_base rfl rfl, trivial⟩) (fun D G1 hr => trivial) (fun _ _ => rfl) (fun G1 e h' n => OpQ.spec (v := .r (.sl (f1.map GElem.row))) (sp_move rfl (.inl rfl)) _),
          Ob.quiet (n1 := fun n => n) rfl rfl (by intro d h; cases h; rfl) rfl (fun _ => [(8, .r (.int .i64 x2))]) (fun _ => []) (fun D G1 hr => ⟨inE_base rfl rfl, trivial⟩) (fun D G1 hr => trivial) (fun _ _ => rfl) (fun G1 e h' n => OpQ.spec (v := .r (.int .i64 x2)) (sp_move rfl (.inl rfl)) _),
          Ob.quiet (n1 := fun n => n) rfl rfl (by intro d h; cases h; rfl) rfl (fun _ => [(28, .r (.sl (f1.map GElem.row))), (29, .r (.int .i64 x2))]) (fun _ => []) (fun D G1 hr => ⟨inE_op hr 0 rfl rfl (by kernel_rfl) rfl rfl, inE_op hr 1 rfl rfl (by kernel_rfl) rfl rfl, trivial⟩) (fun D G1 hr => trivial) (fun _ _ => rfl) (fun G1 e h' n => OpQ.spec (v := .rop (GElem.row x4) 0) (ms_idx rfl tg_39.slice (.inl rfl) (.inl rfl) (fun _ => rfl) (fun _ => ex4)) _),
          Ob.quiet (n1 := fun n => n) rfl rfl (by intro d h; cases h; rfl) rfl (fun _ => [(30, .rop (GElem.row x4) 0)]) (fun _ => []) (fun D G1 hr => ⟨inE_op hr 2 rfl rfl (by kernel_rfl) rfl rfl, trivial⟩) (fun D G1 hr => trivial) (fun _ _ => rfl) (fun G1 e h' n => OpQ.spec (v := .rop (GElem.row x4) 2) (sp_fieldAddr_ro rfl tf_113_2 (.inl rfl)) _),
          Ob.quiet (n1 := fun n => n) rfl rfl (by intro d h; cases h; rfl) rfl (fun _ => [(31, .rop (GElem.row x4) 2)]) (fun _ => []) (fun D G1 hr => ⟨inE_op hr 3 rfl rfl (by kernel_rfl) rfl rfl, trivial⟩) (fun D G1 hr => trivial) (fun _ _ => rfl) (fun G1 e h' n => OpQ.spec (v := .r (.sl (x4.Attrs.map GAttr.row))) (ms_load (d := .sl (x4.Attrs.map GAttr.row)) rfl ts_47 (.inl rfl) rfl) _),
          Ob.quiet (n1 := fun n => n) rfl rfl (by intro d h; cases h; rfl) rfl (fun _ => [(0, .r (.sl (f1.map GElem.row)))]) (fun _ => []) (fun D G1 hr => ⟨inE_base rfl rfl, trivial⟩) (fun D G1 hr => trivial) (fun _ _ => rfl) (fun G1 e h' n => OpQ.spec (v := .r (.sl (f1.map GElem.row))) (sp_move rfl (.inl rfl)) _),
          Ob.quiet (n1 := fun n => n) rfl rfl (by intro d h; cases h; rfl) rfl (fun _ => [(8, .r (.int .i64 x2))]) (fun _ => []) (fun D G1 hr => ⟨inE_base rfl rfl, trivial⟩) (fun D G1 hr => trivial) (fun _ _ => rfl) (fun G1 e h' n => OpQ.spec (v := .r (.int .i64 x2)) (sp_move rfl (.inl rfl)) _),
          Ob.quiet (n1 := fun n => n) rfl rfl (by intro d h; cases h; rfl) rfl (fun _ => [(33, .r (.sl (f1.map GElem.row))), (34, .r (.int .i64 x2))]) (fun _ => []) (fun D G1 hr => ⟨inE_op hr 5 rfl rfl (by kernel_rfl) rfl rfl, inE_op hr 6 rfl rfl (by kernel_rfl) rfl rfl, trivial⟩) (fun D G1 hr => trivial) (fun _ _ => rfl) (fun G1 e h' n => OpQ.spec (v := .rop (GElem.row x4) 0) (ms_idx rfl tg_39.slice (.inl rfl) (.inl rfl) (fun _ => rfl) (fun _ => ex4)) _),
          Ob.quiet (n1 := fun n => n) rfl rfl (by intro d h; cases h; rfl) rfl (fun _ => [(35, .rop (GElem.row x4) 0)]) (fun _ => []) (fun D G1 hr => ⟨inE_op hr 7 rfl rfl (by kernel_rfl) rfl rfl, trivial⟩) (fun D G1 hr => trivial) (fun _ _ => rfl) (fun G1 e h' n => OpQ.spec (v := .rop (GElem.row x4) 2) (sp_fieldAddr_ro rfl tf_113_2 (.inl rfl)) _),
          Ob.quiet (n1 := fun n => n) rfl rfl (by intro d h; cases h; rfl) rfl (fun _ => [(36, .rop (GElem.row x4) 2)]) (fun _ => []) (fun D G1 hr => ⟨inE_op hr 8 rfl rfl (by kernel_rfl) rfl rfl, trivial⟩) (fun D G1 hr => trivial) (fun _ _ => rfl) (fun G1 e h' n => OpQ.spec (v := .r (.sl (x4.Attrs.map GAttr.row))) (ms_load (d := .sl (x4.Attrs.map GAttr.row)) rfl ts_47 (.inl rfl) rfl) _),
          Ob.quiet (n1 := fun n => n) rfl rfl (by intro d h; cases h; rfl) rfl (fun _ => [(7, .ptr 7 n0 0 0)]) (fun _ => [(7, some (.box n0 34 [.r (.sl (r3.Adds.map (rSl GElem.row))), .r (.sl (r3.Cuts.map rBool)), .r (.sl (r3.Attrs.map (rSl GAttr.row)))]))]) (fun D G1 hr => ⟨inE_base rfl rfl, trivial⟩) (fun D G1 hr => ⟨inH_base rfl rfl, trivial⟩) (fun _ _ => rfl) (fun G1 e h' n => OpQ.spec (v := .ptr 7 n0 0 2) (sp_fieldAddr_own (ob := .box _ _ _) rfl tf_34_2 (.inl rfl) (fun _ => rfl) rfl) _),
          Ob.quiet (n1 := fun n => n) rfl rfl (by intro d h; cases h; rfl) rfl (fun _ => [(38, .ptr 7 n0 0 2)]) (fun _ => [(7, some (.box n0 34 [.r (.sl (r3.Adds.map (rSl GElem.row))), .r (.sl (r3.Cuts.map rBool)), .r (.sl (r3.Attrs.map (rSl GAttr.row)))]))]) (fun D G1 hr => ⟨inE_op hr 10 rfl rfl (by kernel_rfl) rfl rfl, trivial⟩) (fun D G1 hr => ⟨inH_base rfl rfl, trivial⟩) (fun _ _ => rfl) (fun G1 e h' n => OpQ.spec (v := .r (.sl (r3.Attrs.map (rSl GAttr.row)))) (ms_load_box (a := .r (.sl (r3.Attrs.map (rSl GAttr.row)))) rfl ts_32 (.inl rfl) rfl rfl) _),
          Ob.quiet (n1 := fun n => n) rfl rfl (by intro d h; cases h; rfl) rfl (fun _ => [(8, .r (.int .i64 x2))]) (fun _ => []) (fun D G1 hr => ⟨inE_base rfl rfl, trivial⟩) (fun D G1 hr => trivial) (fun _ _ => rfl) (fun G1 e h' n => OpQ.spec (v := .r (.int .i64 x2)) (sp_move rfl (.inl rfl)) _),
          Ob.quiet (n1 := fun n => n) rfl rfl (by intro d h; cases h; rfl) rfl (fun _ => [(39, .r (.sl (r3.Attrs.map (rSl GAttr.row)))), (40, .r (.int .i64 x2))]) (fun _ => []) (fun D G1 hr => ⟨inE_op hr 11 rfl rfl (by kernel_rfl) rfl rfl, inE_op hr 12 rfl rfl (by kernel_rfl) rfl rfl, trivial⟩) (fun D G1 hr => trivial) (fun _ _ => rfl) (fun G1 e h' n => OpQ.spec (v := .rop ((rSl GAttr.row) x5) 0) (ms_idx rfl tg_32.slice (.inl rfl) (.inl rfl) (fun _ => rfl) (fun _ => ex5)) _),
          Ob.quiet (n1 := fun n => n) rfl rfl (by intro d h; cases h; rfl) rfl (fun _ => [(41, .rop ((rSl GAttr.row) x5) 0)]) (fun _ => []) (fun D G1 hr => ⟨inE_op hr 13 rfl rfl (by kernel_rfl) rfl rfl, trivial⟩) (fun D G1 hr => trivial) (fun _ _ => rfl) (fun G1 e h' n => OpQ.spec (v := .r (.sl (x5.map GAttr.row))) (ms_load (d := .sl (x5.map GAttr.row)) rfl ts_47 (.inl rfl) rfl) _),
          Ob.quiet (n1 := fun n => n) rfl rfl (by intro d h; cases h; rfl) rfl (fun _ => [(37, .r (.sl (x4.Attrs.map GAttr.row))), (42, .r (.sl (x5.map GAttr.row)))]) (fun _ => []) (fun D G1 hr => ⟨inE_op hr 9 rfl rfl (by kernel_rfl) rfl rfl, inE_op hr 14 rfl rfl (by kernel_rfl) rfl rfl, trivial⟩) (fun D G1 hr => trivial) (fun _ _ => rfl) (fun G1 e h' n => sp_callS (r := .r (.sl (r7.map GAttr.row))) (caps := []) (bs := [.r (.sl (x4.Attrs.map GAttr.row)), .r (.sl (x5.map GAttr.row))]) rfl (.inl rfl) rfl ⟨.inl ⟨(.inl rfl), rfl⟩, .inl ⟨(.inl rfl), rfl⟩, trivial⟩ (fun _ => w_ref_Changed (er7))),
          Ob.quiet (n1 := fun n => n) rfl rfl (by intro d h; cases h; rfl) rfl (fun _ => [(32, .r (.sl (x4.Attrs.map GAttr.row))), (43, .r (.sl (r7.map GAttr.row)))]) (fun _ => []) (fun D G1 hr => ⟨inE_op hr 4 rfl rfl (by kernel_rfl) rfl rfl, inE_op hr 15 rfl rfl (by kernel_rfl) rfl rfl, trivial⟩) (fun D G1 hr => trivial) (fun _ _ => rfl) (fun G1 e h' n => sp_callS (r := .r (.sl (r8.map GAttr.row))) (caps := []) (bs := [.r (.sl (x4.Attrs.map GAttr.row)), .r (.sl (r7.map GAttr.row))]) rfl (.inl rfl) rfl ⟨.inl ⟨(.inl rfl), rfl⟩, .inl ⟨(.inl rfl), rfl⟩, trivial⟩ (fun _ => w_ref_Between (er8))),
          Ob.quiet (n1 := fun n => n) rfl rfl (by intro d h; cases h; rfl) rfl (fun _ => [(44, .r (.sl (r8.map GAttr.row)))]) (fun _ => []) (fun D G1 hr => ⟨inE_op hr 16 rfl rfl (by kernel_rfl) rfl rfl, trivial⟩) (fun D G1 hr => trivial) (fun _ _ => rfl) (fun G1 e h' n => OpQ.spec (v := .r (.int .i64 (r8.length : Int))) (ms_len rfl tg_47.slice (.inl rfl)) _),
          Ob.quiet (n1 := fun n => n) rfl rfl (by intro d h; cases h; rfl) rfl (fun _ => [(7, .ptr 7 n0 0 0)]) (fun _ => [(7, some (.box n0 34 [.r (.sl (r3.Adds.map (rSl GElem.row))), .r (.sl (r3.Cuts.map rBool)), .r (.sl (r3.Attrs.map (rSl GAttr.row)))]))]) (fun D G1 hr => ⟨inE_base rfl rfl, trivial⟩) (fun D G1 hr => ⟨inH_base rfl rfl, trivial⟩) (fun _ _ => rfl) (fun G1 e h' n => OpQ.spec (v := .ptr 7 n0 0 2) (sp_fieldAddr_own (ob := .box _ _ _) rfl tf_34_2 (.inl rfl) (fun _ => rfl) rfl) _),
          Ob.quiet (n1 := fun n => n) rfl rfl (by intro d h; cases h; rfl) rfl (fun _ => [(46, .ptr 7 n0 0 2)]) (fun _ => [(7, some (.box n0 34 [.r (.sl (r3.Adds.map (rSl GElem.row))), .r (.sl (r3.Cuts.map rBool)), .r (.sl (r3.Attrs.map (rSl GAttr.row)))]))]) (fun D G1 hr => ⟨inE_op hr 18 rfl rfl (by kernel_rfl) rfl rfl, trivial⟩) (fun D G1 hr => ⟨inH_base rfl rfl, trivial⟩) (fun _ _ => rfl) (fun G1 e h' n => OpQ.spec (v := .r (.sl (r3.Attrs.map (rSl GAttr.row)))) (ms_load_box (a := .r (.sl (r3.Attrs.map (rSl GAttr.row)))) rfl ts_32 (.inl rfl) rfl rfl) _),
          Ob.quiet (n1 := fun n => n) rfl rfl (by intro d h; cases h; rfl) rfl (fun _ => [(8, .r (.int .i64 x2))]) (fun _ => []) (fun D G1 hr => ⟨inE_base rfl rfl, trivial⟩) (fun D G1 hr => trivial) (fun _ _ => rfl) (fun G1 e h' n => OpQ.spec (v := .r (.int .i64 x2)) (sp_move rfl (.inl rfl)) _),
          Ob.quiet (n1 := fun n => n) rfl rfl (by intro d h; cases h; rfl) rfl (fun _ => [(47, .r (.sl (r3.Attrs.map (rSl GAttr.row)))), (48, .r (.int .i64 x2))]) (fun _ => []) (fun D G1 hr => ⟨inE_op hr 19 rfl rfl (by kernel_rfl) rfl rfl, inE_op hr 20 rfl rfl (by kernel_rfl) rfl rfl, trivial⟩) (fun D G1 hr => trivial) (fun _ _ => rfl) (fun G1 e h' n => OpQ.spec (v := .rop ((rSl GAttr.row) x5) 0) (ms_idx rfl tg_32.slice (.inl rfl) (.inl rfl) (fun _ => rfl) (fun _ => ex5)) _),
          Ob.quiet (n1 := fun n => n) rfl rfl (by intro d h; cases h; rfl) rfl (fun _ => [(49, .rop ((rSl GAttr.row) x5) 0)]) (fun _ => []) (fun D G1 hr => ⟨inE_op hr 21 rfl rfl (by kernel_rfl) rfl rfl, trivial⟩) (fun D G1 hr => trivial) (fun _ _ => rfl) (fun G1 e h' n => OpQ.spec (v := .r (.sl (x5.map GAttr.row))) (ms_load (d := .sl (x5.map GAttr.row)) rfl ts_47 (.inl rfl) rfl) _),
          Ob.quiet (n1 := fun n => n) rfl rfl (by intro d h; cases h; rfl) rfl (fun _ => [(50, .r (.sl (x5.map GAttr.row)))]) (fun _ => []) (fun D G1 hr => ⟨inE_op hr 22 rfl rfl (by kernel_rfl) rfl rfl, trivial⟩) (fun D G1 hr => trivial) (fun _ _ => rfl) (fun G1 e h' n => OpQ.spec (v := .r (.int .i64 (x5.length : Int))) (ms_len rfl tg_47.slice (.inl rfl)) _),
          trivial⟩) fun G1 n1 => ?_
      refine AOps.weak (s' := ⟨[(0, .r (.sl (f1.map GElem.row))), (1, .r (.sl (d1.map GStep.row))), (2, .r (.sl (want1.map GElem.row))), (7, .ptr 7 n0 0 0), (8, .r (.int .i64 x2)), (24, .r (.int .i64 (f1.length : Int))), (25, .r (.int .i64 x2)), (26, .r (.bool (decide (x2 < (f1.length : Int))))), (27, .r (.int .i64 x2)), (28, .r (.sl (f1.map GElem.row))), (29, .r (.int .i64 x2)), (30, .rop (GElem.row x4) 0), (31, .rop (GElem.row x4) 2), (32, .r (.sl (x4.Attrs.map GAttr.row))), (33, .r (.sl (f1.map GElem.row))), (34, .r (.int .i64 x2)), (35, .rop (GElem.row x4) 0), (36, .rop (GElem.row x4) 2), (37, .r (.sl (x4.Attrs.map GAttr.row))), (38, .ptr 7 n0 0 2), (39, .r (.sl (r3.Attrs.map (rSl GAttr.row)))), (40, .r (.int .i64 x2)), (41, .rop ((rSl GAttr.row) x5) 0), (42, .r (.sl (x5.map GAttr.row))), (43, .r (.sl (r7.map GAttr.row))), (44, .r (.sl (r8.map GAttr.row))), (45, .r (.int .i64 (r8.length : Int))), (46, .ptr 7 n0 0 2), (47, .r (.sl (r3.Attrs.map (rSl GAttr.row)))), (48, .r (.int .i64 x2)), (49, .rop ((rSl GAttr.row) x5) 0), (50, .r (.sl (x5.map GAttr.row))), (51, .r (.int .i64 (x5.length : Int)))], [(7, some (.box n0 34 [.r (.sl (r3.Adds.map (rSl GElem.row))), .r (.sl (r3.Cuts.map rBool)), .r (.sl (r3.Attrs.map (rSl GAttr.row)))]))], n1, 67⟩) (by exact Weak.cv ⟨.inl (.inl rfl), .inl (.inl rfl), .inl (.inl rfl), .inl (.inl rfl), .inl (.inl rfl), .inl (.inl rfl), .inl (.inl rfl), .inl (.inl rfl), .inl (.inl rfl), .inl (.inl rfl), .inl (.inl rfl), .inl (.inl rfl), .inl (.inl rfl), .inl (.inl rfl), .inl (.inl rfl), .inl (.inl rfl), .inl (.inl rfl), .inl (.inl rfl), .inl (.inl rfl), .inl (.inl rfl), .inl (.inl rfl), .inl (.inl rfl), .inl (.inl rfl), .inl (.inl rfl), .inl (.inl rfl), .inl (.inl rfl), .inl (.inl rfl), .inl (.inl rfl), .inl (.inl rfl), .inl (.inl rfl), .inl (.inl rfl), .inl (.inl rfl), .inl (.inl rfl), trivial⟩ ⟨.inl rfl, trivial⟩ (Nat.le_refl _)) ?_
      refine AOps.step rfl rfl rfl (OpQ.spec (sp_neq rfl (.inl rfl) (.inl rfl)) _) ?_
      refine AOps.nil ?_
      refine hK14 _ ?_
      refine AW.cond rfl (fun hc3 => ?_) (fun hc3 => ?_)
      · have h14 := ite_t hc3 h13
        refine AW.seq_w fun K15 hK15 wK15 => ?_
        refine AW.weak (s' := ⟨[], [], n1, 67⟩) (by exact Weak.cv trivial trivial (Nat.le_refl _)) ?_
        refine AW.region ?_
        refine AOps.step rfl rfl rfl (OpQ.spec (sp_assign rfl (.inl rfl)) _) ?_
        refine AOps.nil ?_
        refine hK15 _ ?_
        refine AW.ret ?_
        exact retf1 (P := Try.prog) (fun (r : Bool) => .r (.bool r)) (he1 _ (hx1 _ (Option.some.inj h14).symm)) (.inl rfl) (.t (.d rfl))
      · have h14 := ite_f hc3 h13
        refine AW.skip ?_
        refine hK12 _ ?_
        refine AW.weak (s' := ⟨[(0, .r (.sl (f1.map GElem.row))), (1, .r (.sl (d1.map GStep.row))), (2, .r (.sl (want1.map GElem.row))), (7, .ptr 7 n0 0 0), (24, .r (.int .i64 (f1.length : Int))), (25, .r (.int .i64 x2))], [(7, some (.box n0 34 [.r (.sl (r3.Adds.map (rSl GElem.row))), .r (.sl (r3.Cuts.map rBool)), .r (.sl (r3.Attrs.map (rSl GAttr.row)))]))], n1, 67⟩) (by exact Weak.cv ⟨.inl (.inl rfl), .inl (.inl rfl), .inl (.inl rfl), .inl (.inl rfl), .inl (.inl rfl), .inl (.inl rfl), trivial⟩ ⟨.inl rfl, trivial⟩ (Nat.le_refl _)) ?_
        refine AW.region ?_
        refine ob1k h14 fun x6 ex6 h15 => ?_
        refine AOps.step rfl rfl rfl (OpQ.spec (ms_add rfl (.inl rfl) (.inl rfl) (fun _ => ex6)) _) ?_
        refine AOps.step rfl rfl rfl (OpQ.spec (sp_move rfl (.inl rfl)) _) ?_
        refine AOps.nil ?_
        exact NextQ1.mk h15 (vec [n1]) ((by exact Weak.cv ⟨.inl (.inl rfl), .inl (.inl rfl), .inl (.inl rfl), .inl (.inl rfl), .inl (.inl rfl), .inl (.inl rfl), trivial⟩ ⟨.inl rfl, trivial⟩ (Nat.le_refl _)))
    · have h9 := ite_f hc2 h8
      refine AW.exit ?_
      exact wK6 _ _ ((by exact Weak.cv ⟨.inl (.inl rfl), .inl (.inl rfl), .inl (.inl rfl), trivial⟩ trivial (Nat.le_refl _))) (J1 _ (vec [(i3 0)]) (hx1 _ (Option.some.inj h9).symm))
set_option maxHeartbeats 4000000 in
set_option maxRecDepth 20000 in
theorem w_law_TrackSettleMatches {f1 : List GElem} {from1 : Int} {to1 : Int} {r : Bool} (h : law_TrackSettleMatches f1 from1 to1 = some r) : ARO Try.prog 10 [.r (.sl (f1.map GElem.row)), .r (.int .i64 from1), .r (.int .i64 to1)] (.r (.bool r)) := by
  unfold law_TrackSettleMatches at h
  refine ARO.mkF Try.func10 rfl rfl Try.ntmps10 rfl (Nat.le_of_ble_eq_true rfl) fun n0 => ?_
  refine AW.seq_w fun K1 hK1 wK1 => ?_
  refine AW.region ?_
  refine AOps.step rfl rfl rfl (OpQ.spec (sp_assign rfl (.inl rfl)) _) ?_
  refine AOps.nil ?_
  refine hK1 _ ?_
  refine AW.seq_w fun K2 hK2 wK2 => ?_
  refine AW.seq_w fun K3 hK3 wK3 => ?_
  refine AW.region ?_
  refine ob1k h fun r1 er1 h1 => ?_
  refine AOps.step rfl rfl rfl (sp_call (r := .r (.bool r1)) (caps := []) (bs := []) rfl (.inl rfl) rfl trivial (fun _ => w_law_tracks (er1)) rfl) ?_
  refine AOps.step rfl rfl rfl (OpQ.spec (sp_not rfl (.inl rfl)) _) ?_
  refine AOps.step rfl rfl rfl (OpQ.spec (sp_move rfl (.inl rfl)) _) ?_
  refine ob1k h1 fun r2 er2 h2 => ?_
  refine AOps.stepW (.one rfl rfl rfl) rfl rfl (sp_call (r := .r (.bool r2)) (caps := []) (bs := []) rfl (.inl rfl) rfl trivial (fun hg => w_law_deltas (gdt er2 hg)) rfl) ?_
  refine AOps.stepW (.one rfl rfl rfl) rfl rfl (OpQ.spec (sp_not rfl (.inr ⟨_, (by exact id), rfl⟩)) _) ?_
  refine AOps.step rfl rfl rfl (OpQ.spec (sp_or rfl (.inl rfl) (.inr ⟨_, (by exact id), rfl⟩)) _) ?_
  refine AOps.nil ?_
  refine hK3 _ ?_
  refine AW.cond rfl (fun hc1 => ?_) (fun hc1 => ?_)
  · have h3 := ite_t hc1 h2
    refine AW.seq_w fun K4 hK4 wK4 => ?_
    refine AW.weak (s' := ⟨[], [], n0, 93⟩) (by exact Weak.cv trivial trivial (Nat.le_refl _)) ?_
    refine AW.region ?_
    refine AOps.step rfl rfl rfl (OpQ.spec (sp_assign rfl (.inl rfl)) _) ?_
    refine AOps.nil ?_
    refine hK4 _ ?_
    refine AW.ret ?_
    exact retf1 (P := Try.prog) (fun (r : Bool) => .r (.bool r)) h3 (.inl rfl) (.t (.d rfl))
  · have h3 := ite_f hc1 h2
    refine AW.skip ?_
    refine hK2 _ ?_
    refine AW.seq_w fun K5 hK5 wK5 => ?_
    refine AW.region ?_
    refine AOps.step rfl rfl rfl (OpQ.spec (sp_move rfl (.inl rfl)) _) ?_
    refine AOps.step rfl rfl rfl (OpQ.spec (sp_move rfl (.inl rfl)) _) ?_
    refine AOps.step rfl rfl rfl (OpQ.spec (sp_move rfl (.inl rfl)) _) ?_
    refine ob2k h3 fun r3 r4 er3 h4 => ?_
    refine AOps.step rfl rfl rfl (sp_callS (r := .tup [.r (.sl (r3.map GStep.row)), .r (.int .i64 r4)]) (caps := []) (bs := [.r (.sl (f1.map GElem.row)), .r (.int .i64 from1), .r (.int .i64 to1)]) rfl (.inl rfl) rfl ⟨.inl ⟨(.inl rfl), rfl⟩, .inl ⟨(.inl rfl), rfl⟩, .inl ⟨(.inl rfl), rfl⟩, trivial⟩ (fun _ => w_track_Accept (er3))) ?_
    refine AOps.step rfl rfl rfl (OpQ.spec (sp_move rfl (.inl rfl)) _) ?_
    refine AOps.step rfl rfl rfl (OpQ.spec (sp_extract (a := .r (.sl (r3.map GStep.row))) rfl (.inl rfl) rfl) _) ?_
    refine AOps.step rfl rfl rfl (OpQ.spec (sp_extract (a := .r (.int .i64 r4)) rfl (.inl rfl) rfl) _) ?_
    refine AOps.step rfl rfl rfl (OpQ.spec (sp_assign rfl (.inl rfl)) _) ?_
    refine AOps.step rfl rfl rfl (OpQ.spec (sp_assign rfl (.inl rfl)) _) ?_
    refine AOps.nil ?_
    refine hK5 _ ?_
    refine AW.seq_w fun K6 hK6 wK6 => ?_
    refine AW.weak (s' := ⟨[(0, .r (.sl (f1.map GElem.row))), (1, .r (.int .i64 from1)), (2, .r (.int .i64 to1)), (7, .r (.sl (r3.map GStep.row))), (8, .r (.int .i64 r4))], [], n0, 93⟩) (by exact Weak.cv ⟨.inl (.inl rfl), .inl (.inl rfl), .inl (.inl rfl), .inl (.inl rfl), .inl (.inl rfl), trivial⟩ trivial (Nat.le_refl _)) ?_
    refine AW.region ?_
    refine AOps.step rfl rfl rfl (OpQ.spec (sp_move rfl (.inl rfl)) _) ?_
    refine AOps.step rfl rfl rfl (OpQ.spec (sp_move rfl (.inl rfl)) _) ?_
    refine AOps.step rfl rfl rfl (OpQ.spec (sp_move rfl (.inl rfl)) _) ?_
    refine ob2k h4 fun r5 r6 er5 h5 => ?_
    refine AOps.step rfl rfl rfl (sp_callS (r := .tup [.r (.sl (r5.map GStep.row)), .r (.int .i64 r6)]) (caps := []) (bs := [.r (.sl (f1.map GElem.row)), .r (.int .i64 from1), .r (.int .i64 to1)]) rfl (.inl rfl) rfl ⟨.inl ⟨(.inl rfl), rfl⟩, .inl ⟨(.inl rfl), rfl⟩, .inl ⟨(.inl rfl), rfl⟩, trivial⟩ (fun _ => w_track_Reject (er5))) ?_
    refine AOps.step rfl rfl rfl (OpQ.spec (sp_move rfl (.inl rfl)) _) ?_
    refine AOps.step rfl rfl rfl (OpQ.spec (sp_extract (a := .r (.sl (r5.map GStep.row))) rfl (.inl rfl) rfl) _) ?_
    refine AOps.step rfl rfl rfl (OpQ.spec (sp_extract (a := .r (.int .i64 r6)) rfl (.inl rfl) rfl) _) ?_
    refine AOps.step rfl rfl rfl (OpQ.spec (sp_assign rfl (.inl rfl)) _) ?_
    refine AOps.step rfl rfl rfl (OpQ.spec (sp_assign rfl (.inl rfl)) _) ?_
    refine AOps.nil ?_
    refine hK6 _ ?_
    refine AW.seq_w fun K7 hK7 wK7 => ?_
    refine AW.region ?_
    refine AOps.step rfl rfl rfl (OpQ.spec (sp_move rfl (.inl rfl)) _) ?_
    refine ob1k h5 fun p1 ep1 h6 => ?_
    refine AOps.step rfl rfl rfl (sp_call (r := .r (.int .i64 p1)) (caps := []) (bs := [.r (.sl (f1.map GElem.row)), .r (.bool true)]) rfl (.inl rfl) rfl ⟨⟨_, (.inl rfl), .d rfl⟩, ⟨_, (.inl rfl), .d rfl⟩, trivial⟩ (fun _ => w_ref_FlowError (ep1)) rfl) ?_
    refine AOps.step rfl rfl rfl (OpQ.spec (sp_assign rfl (.inl rfl)) _) ?_
    refine AOps.nil ?_
    refine hK7 _ ?_
    refine AW.seq_w fun K8 hK8 wK8 => ?_
    refine AW.seq_w fun K9 hK9 wK9 => ?_
    refine AW.weak (s' := ⟨[(0, .r (.sl (f1.map GElem.row))), (1, .r (.int .i64 from1)), (2, .r (.int .i64 to1)), (7, .r (.sl (r3.map GStep.row))), (8, .r (.int .i64 r4)), (9, .r (.sl (r5.map GStep.row))), (10, .r (.int .i64 r6)), (11, .r (.int .i64 p1))], [], n0, 93⟩) (by exact Weak.cv ⟨.inl (.inl rfl), .inl (.inl rfl), .inl (.inl rfl), .inl (.inl rfl), .inl (.inl rfl), .inl (.inl rfl), .inl (.inl rfl), .inl (.inl rfl), trivial⟩ trivial (Nat.le_refl _)) ?_
    refine AW.region ?_
    refine AOps.step rfl rfl rfl (OpQ.spec (sp_move rfl (.inl rfl)) _) ?_
    refine AOps.step rfl rfl rfl (OpQ.spec (sp_eql rfl (.inl rfl) (.inl rfl)) _) ?_
    refine AOps.step rfl rfl rfl (OpQ.spec (sp_move rfl (.inl rfl)) _) ?_
    refine AOps.stepW (.one rfl rfl rfl) rfl rfl (OpQ.spec (sp_move rfl (.inl rfl)) _) ?_
    refine AOps.stepW (.one rfl rfl rfl) rfl rfl (OpQ.spec (sp_lss rfl (.inr ⟨_, (by exact id), rfl⟩) (.inl rfl)) _) ?_
    refine AOps.stepW (.one rfl rfl rfl) rfl rfl (OpQ.spec (sp_move rfl (.inr ⟨_, (by exact id), rfl⟩)) _) ?_
    refine AOps.stepW (.two rfl rfl rfl) rfl rfl (OpQ.spec (sp_move rfl (.inl rfl)) _) ?_
    refine AOps.stepW (.two rfl rfl rfl) rfl rfl (OpQ.spec (sp_move rfl (.inl rfl)) _) ?_
    refine AOps.stepW (.two rfl rfl rfl) rfl rfl (OpQ.spec (sp_lss rfl (.inr ⟨_, (by exact id), rfl⟩) (.inr ⟨_, (by exact id), rfl⟩)) _) ?_
    refine AOps.stepW (.one rfl rfl rfl) rfl rfl (OpQ.spec (sp_or rfl (.inr ⟨_, (by exact id), rfl⟩) (.inr ⟨_, (by exact id), rfl⟩)) _) ?_
    refine AOps.stepW (.one rfl rfl rfl) rfl rfl (OpQ.spec (sp_move rfl (.inr ⟨_, (by exact id), rfl⟩)) _) ?_
    refine AOps.stepW (.two rfl rfl rfl) rfl rfl (OpQ.spec (sp_move rfl (.inl rfl)) _) ?_
    refine AOps.stepW (.two rfl rfl rfl) rfl rfl (OpQ.spec (sp_move rfl (.inl rfl)) _) ?_
    refine AOps.stepW (.two rfl rfl rfl) rfl rfl (OpQ.spec (ms_len rfl tg_39.slice (.inr ⟨_, (by exact id), rfl⟩)) _) ?_
    refine AOps.stepW (.two rfl rfl rfl) rfl rfl (OpQ.spec (sp_gtr rfl (.inr ⟨_, (by exact id), rfl⟩) (.inr ⟨_, (by exact id), rfl⟩)) _) ?_
    refine AOps.stepW (.one rfl rfl rfl) rfl rfl (OpQ.spec (sp_or rfl (.inr ⟨_, (by exact id), rfl⟩) (.inr ⟨_, (by exact id), rfl⟩)) _) ?_
    refine AOps.step rfl rfl rfl (OpQ.spec (sp_and rfl (.inl rfl) (.inr ⟨_, (by exact id), rfl⟩)) _) ?_
    refine AOps.nil ?_
    refine hK9 _ ?_
    refine jb1k h6 fun p3 hp1 hk1 => ?_
    have J1 : ∀ (p2 : Int) (i1 : Nat → Nat), p3 = p2 → K8 ⟨[(0, .r (.sl (f1.map GElem.row))), (1, .r (.int .i64 from1)), (2, .r (.int .i64 to1)), (7, .r (.sl (r3.map GStep.row))), (8, .r (.int .i64 r4)), (9, .r (.sl (r5.map GStep.row))), (10, .r (.int .i64 r6)), (11, .r (.int .i64 p2))], [], (i1 0), 93⟩ := by
      intro p2 i1 e
      have h7 := hk1 _ e
      refine hK8 _ ?_
      refine AW.seq_w fun K10 hK10 wK10 => ?_
      refine AW.seq_w fun K11 hK11 wK11 => ?_
      refine AW.region ?_
      refine AOps.step rfl rfl rfl (OpQ.spec (sp_move rfl (.inl rfl)) _) ?_
      refine AOps.step rfl rfl rfl (OpQ.spec (sp_neq rfl (.inl rfl) (.inl rfl)) _) ?_
      refine AOps.nil ?_
      refine hK11 _ ?_
      refine AW.cond rfl (fun hc2 => ?_) (fun hc2 => ?_)
      · have h8 := ite_t hc2 h7
        refine AW.seq_w fun K12 hK12 wK12 => ?_
        refine AW.region ?_
        refine AOps.step rfl rfl rfl (OpQ.spec (sp_move rfl (.inl rfl)) _) ?_
        refine AOps.step rfl rfl rfl (OpQ.spec (sp_move rfl (.inl rfl)) _) ?_
        refine AOps.step rfl rfl rfl (OpQ.spec (sp_eql rfl (.inl rfl) (.inl rfl)) _) ?_
        refine AOps.step rfl rfl rfl (OpQ.spec (sp_move rfl (.inl rfl)) _) ?_
        refine AOps.stepW (.one rfl rfl rfl) rfl rfl (OpQ.spec (sp_move rfl (.inl rfl)) _) ?_
        refine AOps.stepW (.one rfl rfl rfl) rfl rfl (OpQ.spec (sp_move rfl (.inl rfl)) _) ?_
        refine AOps.stepW (.one rfl rfl rfl) rfl rfl (OpQ.spec (sp_eql rfl (.inr ⟨_, (by exact id), rfl⟩) (.inr ⟨_, (by exact id), rfl⟩)) _) ?_
        refine AOps.step rfl rfl rfl (OpQ.spec (sp_and rfl (.inl rfl) (.inr ⟨_, (by exact id), rfl⟩)) _) ?_
        refine AOps.step rfl rfl rfl (OpQ.spec (sp_move rfl (.inl rfl)) _) ?_
        refine AOps.stepW (.one rfl rfl rfl) rfl rfl (OpQ.spec (sp_move rfl (.inl rfl)) _) ?_
        refine AOps.stepW (.one rfl rfl rfl) rfl rfl (OpQ.spec (ms_len rfl tg_42.slice (.inr ⟨_, (by exact id), rfl⟩)) _) ?_
        refine AOps.stepW (.one rfl rfl rfl) rfl rfl (OpQ.spec (sp_move rfl (.inl rfl)) _) ?_
        refine AOps.stepW (.one rfl rfl rfl) rfl rfl (OpQ.spec (ms_len rfl tg_42.slice (.inr ⟨_, (by exact id), rfl⟩)) _) ?_
        refine ob1k h8 fun x1 ex1 h9 => ?_
        refine AOps.stepW (.one rfl rfl rfl) rfl rfl (OpQ.spec (ms_add rfl (.inr ⟨_, (by exact id), rfl⟩) (.inr ⟨_, (by exact id), rfl⟩) (gdt ex1)) _) ?_
        refine AOps.stepW (.one rfl rfl rfl) rfl rfl (OpQ.spec (sp_eql rfl (.inr ⟨_, (by exact id), rfl⟩) (.inl rfl)) _) ?_
        refine AOps.step rfl rfl rfl (OpQ.spec (sp_and rfl (.inl rfl) (.inr ⟨_, (by exact id), rfl⟩)) _) ?_
        refine AOps.step rfl rfl rfl (OpQ.spec (sp_assign rfl (.inl rfl)) _) ?_
        refine AOps.nil ?_
        refine hK12 _ ?_
        refine AW.ret ?_
        exact retf1 (P := Try.prog) (fun (r : Bool) => .r (.bool r)) h9 (.inl rfl) (.t (.d rfl))
      · have h8 := ite_f hc2 h7
        refine AW.skip ?_
        refine hK10 _ ?_
        refine AW.seq_w fun K13 hK13 wK13 => ?_
        refine AW.region ?_
        refine AOps.step rfl rfl rfl (OpQ.spec (sp_move rfl (.inl rfl)) _) ?_
        refine AOps.step rfl rfl rfl (OpQ.spec (sp_eql rfl (.inl rfl) (.inl rfl)) _) ?_
        refine AOps.step rfl rfl rfl (OpQ.spec (sp_move rfl (.inl rfl)) _) ?_
        refine AOps.stepW (.one rfl rfl rfl) rfl rfl (OpQ.spec (sp_move rfl (.inl rfl)) _) ?_
        refine AOps.stepW (.one rfl rfl rfl) rfl rfl (OpQ.spec (sp_eql rfl (.inr ⟨_, (by exact id), rfl⟩) (.inl rfl)) _) ?_
        refine AOps.step rfl rfl rfl (OpQ.spec (sp_and rfl (.inl rfl) (.inr ⟨_, (by exact id), rfl⟩)) _) ?_
        refine AOps.step rfl rfl rfl (OpQ.spec (sp_move rfl (.inl rfl)) _) ?_
        refine AOps.stepW (.one rfl rfl rfl) rfl rfl (OpQ.spec (sp_move rfl (.inl rfl)) _) ?_
        refine AOps.stepW (.one rfl rfl rfl) rfl rfl (OpQ.spec (sp_move rfl (.inl rfl)) _) ?_
        refine AOps.stepW (.one rfl rfl rfl) rfl rfl (OpQ.spec (sp_move rfl (.inl rfl)) _) ?_
        refine AOps.stepW (.one rfl rfl rfl) rfl rfl (OpQ.spec (sp_move rfl (.inl rfl)) _) ?_
        refine AOps.stepW (.one rfl rfl rfl) rfl rfl (OpQ.spec (sp_move rfl (.inl rfl)) _) ?_
        refine jb1k h8 fun p4 hp2 hk2 => ?_
        have J2 : ∀ (x2 : Bool) (i2 : Nat → Nat), p4 = x2 → K13 ⟨[(6, .r (.bool x2))], [], (i2 0), 93⟩ := by
          intro x2 i2 e
          have h10 := hk2 _ e
          refine hK13 _ ?_
          refine AW.ret ?_
          exact retf1 (P := Try.prog) (fun (r : Bool) => .r (.bool r)) h10 (.inl rfl) (.t (.d rfl))
        refine AOps.split (((decide (r4 = 0)) && (decide (r6 = 0))) == true) (fun hg1 => ?_) (fun hg1 => ?_)
        · have h11 := ite_t hg1 hp2
          refine AOps.weak (by exact Weak.unw (e' := [(0, .r (.sl (f1.map GElem.row))), (1, .r (.int .i64 from1)), (2, .r (.int .i64 to1)), (7, .r (.sl (r3.map GStep.row))), (8, .r (.int .i64 r4)), (9, .r (.sl (r5.map GStep.row))), (10, .r (.int .i64 r6)), (11, .r (.int .i64 p2)), (51, .r (.int .i64 p2)), (52, .r (.bool (!decide (p2 = 0)))), (69, .r (.int .i64 r4)), (70, .r (.bool (decide (r4 = 0)))), (71, .r (.bool (decide (r4 = 0)))), (74, .r (.bool ((decide (r4 = 0)) && (decide (r6 = 0))))), (75, .r (.bool ((decide (r4 = 0)) && (decide (r6 = 0))))), (76, .r (.sl (f1.map GElem.row))), (77, .r (.sl (r3.map GStep.row))), (78, .r (.sl (f1.map GElem.row))), (79, .r (.int .i64 from1)), (80, .r (.int .i64 to1))]) hg1 ⟨.inl rfl, .inl rfl, .inl rfl, .inl rfl, .inl rfl, .inl rfl, .inl rfl, .inl rfl, .inl rfl, .inl rfl, .inl rfl, .inl rfl, .inl rfl, .inl rfl, .inl rfl, .inr rfl, .inr rfl, .inr rfl, .inr rfl, .inr rfl, trivial⟩) ?_
          refine ob1k h11 fun r7 er7 h12 => ?_
          refine AOps.stepGT (.one rfl rfl rfl) hg1 rfl rfl (sp_callS (r := .r (.sl (r7.map GElem.row))) (caps := []) (bs := [.r (.sl (f1.map GElem.row)), .r (.int .i64 from1), .r (.int .i64 to1), .r (.bool true)]) rfl (.inl rfl) rfl ⟨.inl ⟨(.inl rfl), rfl⟩, .inl ⟨(.inl rfl), rfl⟩, .inl ⟨(.inl rfl), rfl⟩, .inl ⟨(.inl rfl), rfl⟩, trivial⟩ (fun _ => w_ref_Settled (er7))) ?_
          refine ob1k h12 fun r8 er8 h13 => ?_
          refine AOps.stepGT (.one rfl rfl rfl) hg1 rfl rfl (sp_call (r := .r (.bool r8)) (caps := []) (bs := [.r (.sl (f1.map GElem.row)), .r (.sl (r3.map GStep.row)), .r (.sl (r7.map GElem.row))]) rfl (.inl rfl) rfl ⟨⟨_, (.inl rfl), .d rfl⟩, ⟨_, (.inl rfl), .d rfl⟩, ⟨_, (.inl rfl), .d rfl⟩, trivial⟩ (fun _ => w_law_exact (er8)) rfl) ?_
          refine AOps.step rfl rfl rfl (OpQ.spec (sp_and rfl (.inl rfl) (.inl rfl)) _) ?_
          refine AOps.step rfl rfl rfl (OpQ.spec (sp_move rfl (.inl rfl)) _) ?_
          refine AOps.stepW (.one rfl rfl rfl) rfl rfl (OpQ.spec (sp_move rfl (.inl rfl)) _) ?_
          refine AOps.stepW (.one rfl rfl rfl) rfl rfl (OpQ.spec (sp_move rfl (.inl rfl)) _) ?_
          refine AOps.stepW (.one rfl rfl rfl) rfl rfl (OpQ.spec (sp_move rfl (.inl rfl)) _) ?_
          refine AOps.stepW (.one rfl rfl rfl) rfl rfl (OpQ.spec (sp_move rfl (.inl rfl)) _) ?_
          refine AOps.stepW (.one rfl rfl rfl) rfl rfl (OpQ.spec (sp_move rfl (.inl rfl)) _) ?_
          refine AOps.split ((((decide (r4 = 0)) && (decide (r6 = 0))) && r8) == true) (fun hg2 => ?_) (fun hg2 => ?_)
          · have h14 := ite_t hg2 h13
            refine AOps.weak (by exact Weak.unw (e' := [(0, .r (.sl (f1.map GElem.row))), (1, .r (.int .i64 from1)), (2, .r (.int .i64 to1)), (7, .r (.sl (r3.map GStep.row))), (8, .r (.int .i64 r4)), (9, .r (.sl (r5.map GStep.row))), (10, .r (.int .i64 r6)), (11, .r (.int .i64 p2)), (51, .r (.int .i64 p2)), (52, .r (.bool (!decide (p2 = 0)))), (69, .r (.int .i64 r4)), (70, .r (.bool (decide (r4 = 0)))), (71, .r (.bool (decide (r4 = 0)))), (74, .r (.bool ((decide (r4 = 0)) && (decide (r6 = 0))))), (75, .r (.bool ((decide (r4 = 0)) && (decide (r6 = 0))))), (76, .r (.sl (f1.map GElem.row))), (77, .r (.sl (r3.map GStep.row))), (78, .r (.sl (f1.map GElem.row))), (79, .r (.int .i64 from1)), (80, .r (.int .i64 to1)), (81, .r (.sl (r7.map GElem.row))), (82, .r (.bool r8)), (83, .r (.bool (((decide (r4 = 0)) && (decide (r6 = 0))) && r8))), (84, .r (.bool (((decide (r4 = 0)) && (decide (r6 = 0))) && r8))), (85, .r (.sl (f1.map GElem.row))), (86, .r (.sl (r5.map GStep.row))), (87, .r (.sl (f1.map GElem.row))), (88, .r (.int .i64 from1)), (89, .r (.int .i64 to1))]) hg2 ⟨.inl rfl, .inl rfl, .inl rfl, .inl rfl, .inl rfl, .inl rfl, .inl rfl, .inl rfl, .inl rfl, .inl rfl, .inl rfl, .inl rfl, .inl rfl, .inl rfl, .inl rfl, .inl rfl, .inl rfl, .inl rfl, .inl rfl, .inl rfl, .inl rfl, .inl rfl, .inl rfl, .inl rfl, .inr rfl, .inr rfl, .inr rfl, .inr rfl, .inr rfl, trivial⟩) ?_
            refine ob1k h14 fun r9 er9 h15 => ?_
            refine AOps.stepGT (.one rfl rfl rfl) hg2 rfl rfl (sp_callS (r := .r (.sl (r9.map GElem.row))) (caps := []) (bs := [.r (.sl (f1.map GElem.row)), .r (.int .i64 from1), .r (.int .i64 to1), .r (.bool false)]) rfl (.inl rfl) rfl ⟨.inl ⟨(.inl rfl), rfl⟩, .inl ⟨(.inl rfl), rfl⟩, .inl ⟨(.inl rfl), rfl⟩, .inl ⟨(.inl rfl), rfl⟩, trivial⟩ (fun _ => w_ref_Settled (er9))) ?_
            refine ob1k h15 fun r10 er10 h16 => ?_
            refine AOps.stepGT (.one rfl rfl rfl) hg2 rfl rfl (sp_call (r := .r (.bool r10)) (caps := []) (bs := [.r (.sl (f1.map GElem.row)), .r (.sl (r5.map GStep.row)), .r (.sl (r9.map GElem.row))]) rfl (.inl rfl) rfl ⟨⟨_, (.inl rfl), .d rfl⟩, ⟨_, (.inl rfl), .d rfl⟩, ⟨_, (.inl rfl), .d rfl⟩, trivial⟩ (fun _ => w_law_exact (er10)) rfl) ?_
            refine AOps.step rfl rfl rfl (OpQ.spec (sp_and rfl (.inl rfl) (.inl rfl)) _) ?_
            refine AOps.step rfl rfl rfl (OpQ.spec (sp_assign rfl (.inl rfl)) _) ?_
            refine AOps.nil ?_
            exact wK13 _ _ ((by exact Weak.cv ⟨.inl (.inl rfl), trivial⟩ trivial (Nat.le_refl _))) (J2 _ (vec [(i1 0)]) (Option.some.inj h16).symm)
          · have h14 := ite_f hg2 h13
            refine AOps.stepGF2 (.one rfl rfl rfl) hg2 rfl rfl ?_
            refine AOps.stepGF2 (.one rfl rfl rfl) hg2 rfl rfl ?_
            refine AOps.step rfl rfl rfl (OpQ.spec (sp_and rfl (.inl rfl) (.inr ⟨_, (by exact id), rfl⟩)) _) ?_
            refine AOps.step rfl rfl rfl (OpQ.spec (sp_assign rfl (.inl rfl)) _) ?_
            refine AOps.nil ?_
            exact wK13 _ _ ((by exact Weak.cv ⟨.inl (.inl rfl), trivial⟩ trivial (Nat.le_refl _))) (J2 _ (vec [(i1 0)]) (Option.some.inj h14).symm)
        · have h11 := ite_f hg1 hp2
          refine AOps.stepGF2 (.one rfl rfl rfl) hg1 rfl rfl ?_
          refine AOps.stepGF2 (.one rfl rfl rfl) hg1 rfl rfl ?_
          refine AOps.step rfl rfl rfl (OpQ.spec (sp_and rfl (.inl rfl) (.inr ⟨_, (by exact id), rfl⟩)) _) ?_
          refine AOps.step rfl rfl rfl (OpQ.spec (sp_move rfl (.inl rfl)) _) ?_
          refine AOps.stepW (.one rfl rfl rfl) rfl rfl (OpQ.spec (sp_move rfl (.inl rfl)) _) ?_
          refine AOps.stepW (.one rfl rfl rfl) rfl rfl (OpQ.spec (sp_move rfl (.inl rfl)) _) ?_
          refine AOps.stepW (.one rfl rfl rfl) rfl rfl (OpQ.spec (sp_move rfl (.inl rfl)) _) ?_
          refine AOps.stepW (.one rfl rfl rfl) rfl rfl (OpQ.spec (sp_move rfl (.inl rfl)) _) ?_
          refine AOps.stepW (.one rfl rfl rfl) rfl rfl (OpQ.spec (sp_move rfl (.inl rfl)) _) ?_
          refine AOps.split ((((decide (r4 = 0)) && (decide (r6 = 0))) && false) == true) (fun hg3 => ?_) (fun hg3 => ?_)
          · have h17 := ite_t hg3 h11
            refine AOps.weak (by exact Weak.unw (e' := [(0, .r (.sl (f1.map GElem.row))), (1, .r (.int .i64 from1)), (2, .r (.int .i64 to1)), (7, .r (.sl (r3.map GStep.row))), (8, .r (.int .i64 r4)), (9, .r (.sl (r5.map GStep.row))), (10, .r (.int .i64 r6)), (11, .r (.int .i64 p2)), (51, .r (.int .i64 p2)), (52, .r (.bool (!decide (p2 = 0)))), (69, .r (.int .i64 r4)), (70, .r (.bool (decide (r4 = 0)))), (71, .r (.bool (decide (r4 = 0)))), (74, .r (.bool ((decide (r4 = 0)) && (decide (r6 = 0))))), (75, .r (.bool ((decide (r4 = 0)) && (decide (r6 = 0))))), (83, .r (.bool (((decide (r4 = 0)) && (decide (r6 = 0))) && false))), (84, .r (.bool (((decide (r4 = 0)) && (decide (r6 = 0))) && false))), (85, .r (.sl (f1.map GElem.row))), (86, .r (.sl (r5.map GStep.row))), (87, .r (.sl (f1.map GElem.row))), (88, .r (.int .i64 from1)), (89, .r (.int .i64 to1))]) hg3 ⟨.inl rfl, .inl rfl, .inl rfl, .inl rfl, .inl rfl, .inl rfl, .inl rfl, .inl rfl, .inl rfl, .inl rfl, .inl rfl, .inl rfl, .inl rfl, .inl rfl, .inl rfl, .inl rfl, .inl rfl, .inr rfl, .inr rfl, .inr rfl, .inr rfl, .inr rfl, trivial⟩) ?_
            refine ob1k h17 fun r11 er11 h18 => ?_
            refine AOps.stepGT (.one rfl rfl rfl) hg3 rfl rfl (sp_callS (r := .r (.sl (r11.map GElem.row))) (caps := []) (bs := [.r (.sl (f1.map GElem.row)), .r (.int .i64 from1), .r (.int .i64 to1), .r (.bool false)]) rfl (.inl rfl) rfl ⟨.inl ⟨(.inl rfl), rfl⟩, .inl ⟨(.inl rfl), rfl⟩, .inl ⟨(.inl rfl), rfl⟩, .inl ⟨(.inl rfl), rfl⟩, trivial⟩ (fun _ => w_ref_Settled (er11))) ?_
            refine ob1k h18 fun r12 er12 h19 => ?_
            refine AOps.stepGT (.one rfl rfl rfl) hg3 rfl rfl (sp_call (r := .r (.bool r12)) (caps := []) (bs := [.r (.sl (f1.map GElem.row)), .r (.sl (r5.map GStep.row)), .r (.sl (r11.map GElem.row))]) rfl (.inl rfl) rfl ⟨⟨_, (.inl rfl), .d rfl⟩, ⟨_, (.inl rfl), .d rfl⟩, ⟨_, (.inl rfl), .d rfl⟩, trivial⟩ (fun _ => w_law_exact (er12)) rfl) ?_
            refine AOps.step rfl rfl rfl (OpQ.spec (sp_and rfl (.inl rfl) (.inl rfl)) _) ?_
            refine AOps.step rfl rfl rfl (OpQ.spec (sp_assign rfl (.inl rfl)) _) ?_
            refine AOps.nil ?_
            exact wK13 _ _ ((by exact Weak.cv ⟨.inl (.inl rfl), trivial⟩ trivial (Nat.le_refl _))) (J2 _ (vec [(i1 0)]) (Option.some.inj h19).symm)
          · have h17 := ite_f hg3 h11
            refine AOps.stepGF2 (.one rfl rfl rfl) hg3 rfl rfl ?_
            refine AOps.stepGF2 (.one rfl rfl rfl) hg3 rfl rfl ?_
            refine AOps.step rfl rfl rfl (OpQ.spec (sp_and rfl (.inl rfl) (.inr ⟨_, (by exact id), rfl⟩)) _) ?_
            refine AOps.step rfl rfl rfl (OpQ.spec (sp_assign rfl (.inl rfl)) _) ?_
            refine AOps.nil ?_
            exact wK13 _ _ ((by exact Weak.cv ⟨.inl (.inl rfl), trivial⟩ trivial (Nat.le_refl _))) (J2 _ (vec [(i1 0)]) (Option.some.inj h17).symm)
    refine AW.cond rfl (fun hc3 => ?_) (fun hc3 => ?_)
    · have h20 := ite_t hc3 hp1
      refine AW.weak (s' := ⟨[(0, .r (.sl (f1.map GElem.row))), (1, .r (.int .i64 from1)), (2, .r (.int .i64 to1)), (7, .r (.sl (r3.map GStep.row))), (8, .r (.int .i64 r4)), (9, .r (.sl (r5.map GStep.row))), (10, .r (.int .i64 r6))], [], n0, 93⟩) (by exact Weak.cv ⟨.inl (.inl rfl), .inl (.inl rfl), .inl (.inl rfl), .inl (.inl rfl), .inl (.inl rfl), .inl (.inl rfl), .inl (.inl rfl), trivial⟩ trivial (Nat.le_refl _)) ?_
      refine AW.region ?_
      refine AOps.step rfl rfl rfl (OpQ.spec (sp_assign rfl (.inl rfl)) _) ?_
      refine AOps.nil ?_
      exact wK8 _ _ ((by exact Weak.cv ⟨.inl (.inl rfl), .inl (.inl rfl), .inl (.inl rfl), .inl (.inl rfl), .inl (.inl rfl), .inl (.inl rfl), .inl (.inl rfl), .inl (.inl rfl), trivial⟩ trivial (Nat.le_refl _))) (J1 _ (vec [n0]) (Option.some.inj h20).symm)
    · have h20 := ite_f hc3 hp1
      refine AW.skip ?_
      exact wK8 _ _ ((by exact Weak.cv ⟨.inl (.inl rfl), .inl (.inl rfl), .inl (.inl rfl), .inl (.inl rfl), .inl (.inl rfl), .inl (.inl rfl), .inl (.inl rfl), .inl (.inl rfl), trivial⟩ trivial (Nat.le_refl _))) (J1 _ (vec [n0]) (Option.some.inj h20).symm)
end Go.Proofs.Ytdeglnbioiicaaa.Al
