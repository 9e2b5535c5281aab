/- Walks, as printed. -/
import Derived.Test.YtdeglnbioiicaaaWlk22x2
import Derived.Test.YtdeglnbioiicaaaProg
set_option linter.unusedVariables false
namespace Go.Proofs.Ytdeglnbioiicaaa.Al
open Go.Proofs
set_option maxHeartbeats 4000000 in
set_option maxRecDepth 20000 in
theorem w_ref_Back {f1 : List GElem} {a1 : Ref_Act} {r : Ref_Act} (h : ref_Back f1 a1 = some r) : ARO Try.prog 20 [.r (.sl (f1.map GElem.row)), .agg [.r (.sl (a1.Adds.map (rSl GElem.row))), .r (.sl (a1.Cuts.map rBool)), .r (.sl (a1.Attrs.map (rSl GAttr.row)))]] (.agg [.r (.sl (r.Adds.map (rSl GElem.row))), .r (.sl (r.Cuts.map rBool)), .r (.sl (r.Attrs.map (rSl GAttr.row)))]) := by
  unfold ref_Back at h
  refine ARO.mkF Try.func20 rfl rfl Try.ntmps20 rfl (Nat.le_of_ble_eq_true rfl) fun n0 => ?_
  refine AW.seq_w fun K1 hK1 wK1 => ?_
  refine AW.region ?_
  refine AOps.step rfl rfl rfl (ms_box (cs := [.r (.sl (a1.Adds.map (rSl GElem.row))), .r (.sl (a1.Cuts.map rBool)), .r (.sl (a1.Attrs.map (rSl GAttr.row)))]) 3 rfl (.inl rfl) rfl rfl) ?_
  refine AOps.step rfl rfl rfl (ms_alloc (cs := [.cst (.slice none 0 0), .cst (.slice none 0 0), .cst (.slice none 0 0)]) 4 rfl t0_34 rfl rfl) ?_
  refine AOps.nil ?_
  refine hK1 _ ?_
  refine AW.seq_w fun K2 hK2 wK2 => ?_
  refine AW.region ?_
  refine AOps.step rfl rfl rfl (ms_lit 9 rfl tg_30 (f := (rSl GElem.row)) (l := ([[]] : List (List GElem))) ⟨rfl, ⟨_, (.inl rfl), rfl⟩, trivial⟩ rfl (fun _ => rfl) rfl) ?_
  refine AOps.step rfl rfl rfl (OpQ.spec (sp_build rfl tb_34 (q := [(0, _)]) (by exact ⟨rfl, rfl, rfl, (.inl rfl), trivial⟩) (cs := [.own 9 (n0 + 2), .cst (.slice none 0 0), .cst (.slice none 0 0)]) (by rfl)) _) ?_
  refine AOps.step rfl rfl rfl (ms_alloc (cs := [.cst (.slice none 0 0), .cst (.slice none 0 0), .cst (.slice none 0 0)]) 5 rfl t0_34 rfl rfl) ?_
  refine AOps.step0 rfl rfl (ms_store_box (ds := [.own 9 (n0 + 2), .cst (.slice none 0 0), .cst (.slice none 0 0)]) rfl tz_34 (.inl rfl) rfl (.inl rfl) rfl rfl rfl rfl) ?_
  refine AOps.nil ?_
  refine hK2 _ ?_
  refine AW.seq_w fun K3 hK3 wK3 => ?_
  refine AW.seq_w fun K4 hK4 wK4 => ?_
  refine AW.region ?_
  refine AOps.step rfl rfl rfl (OpQ.spec (sp_assign rfl (.inl rfl)) _) ?_
  refine AOps.nil ?_
  refine hK4 _ ?_
  refine AW.block ?_
  refine jb1k h fun o1 hit1 hk1 => ?_
  have J1 : ∀ (out4 : Ref_Act) (i8 : Nat → Nat), o1 = out4 → K3 ⟨[(4, .ptr 4 (n0 + 1) 0 0), (5, .ptr 5 (n0 + 3) 0 0)], [(4, some (.box (n0 + 1) 34 [.cst (.slice none 0 0), .cst (.slice none 0 0), .cst (.slice none 0 0)])), (5, some (.box (n0 + 3) 34 [.own 9 (i8 0), .own 32 (i8 1), .own 36 (i8 2)])), (9, some (.arr (i8 0) 39 1 (out4.Adds.map (rSl GElem.row)))), (32, some (.arr (i8 1) 4 1 (out4.Cuts.map rBool))), (36, some (.arr (i8 2) 47 1 (out4.Attrs.map (rSl GAttr.row))))], (i8 3), 105⟩ := by
    intro out4 i8 e
    have h1 := hk1 _ e
    refine hK3 _ ?_
    refine AW.seq_w fun K5 hK5 wK5 => ?_
    refine AW.region ?_
    refine AOps.step rfl rfl rfl (OpQ.spec (ms_loadA_box rfl ta_34 (.inl rfl) rfl rfl) _) ?_
    refine AOps.step0 rfl rfl (ms_store_box (ds := [.own 9 (i8 0), .own 32 (i8 1), .own 36 (i8 2)]) rfl tz_34 (.inl rfl) rfl (.inl rfl) rfl rfl rfl rfl) ?_
    refine AOps.nil ?_
    refine hK5 _ ?_
    refine AW.ret ?_
    exact retf1 (P := Try.prog) (fun (r : Ref_Act) => .agg [.r (.sl (r.Adds.map (rSl GElem.row))), .r (.sl (r.Cuts.map rBool)), .r (.sl (r.Attrs.map (rSl GAttr.row)))]) h1 (.inl rfl) (.a ta_34 rfl rfl rfl (.agg ⟨.own rfl, .own rfl, .own rfl, trivial⟩))
  refine AW.iter2 (fun (i4 : Int) (out2 : Ref_Act) i5 => ⟨[(0, .r (.sl (f1.map GElem.row))), (3, .ptr 3 n0 0 0), (4, .ptr 4 (n0 + 1) 0 0), (5, .ptr 5 (n0 + 3) 0 0), (6, .r (.int .i64 i4))], [(3, some (.box n0 34 [.r (.sl (a1.Adds.map (rSl GElem.row))), .r (.sl (a1.Cuts.map rBool)), .r (.sl (a1.Attrs.map (rSl GAttr.row)))])), (4, some (.box (n0 + 1) 34 [.cst (.slice none 0 0), .cst (.slice none 0 0), .cst (.slice none 0 0)])), (5, some (.box (n0 + 3) 34 [.own 9 (i5 0), .own 32 (i5 1), .own 36 (i5 2)])), (9, some (.arr (i5 0) 39 1 (out2.Adds.map (rSl GElem.row)))), (32, some (.arr (i5 1) 4 1 (out2.Cuts.map rBool))), (36, some (.arr (i5 2) 47 1 (out2.Attrs.map (rSl GAttr.row))))], (i5 3), 105⟩) (vec [(n0 + 2), (n0 + 4), (n0 + 5), (n0 + 6)]) hit1 (Weak.trans (Weak.trans (Weak.adoptBox 5 1 32 4 1 (by decide) rfl rfl (by decide)) (by exact Weak.cv (e' := [(0, .r (.sl (f1.map GElem.row))), (1, .agg [.r (.sl (a1.Adds.map (rSl GElem.row))), .r (.sl (a1.Cuts.map rBool)), .r (.sl (a1.Attrs.map (rSl GAttr.row)))]), (3, .ptr 3 n0 0 0), (4, .ptr 4 (n0 + 1) 0 0), (5, .ptr 5 (n0 + 3) 0 0), (6, .r (.int .i64 0)), (9, .own 9 (n0 + 2)), (10, .agg [.own 9 (n0 + 2), .cst (.slice none 0 0), .cst (.slice none 0 0)])]) (h' := [(3, some (.box n0 34 [.r (.sl (a1.Adds.map (rSl GElem.row))), .r (.sl (a1.Cuts.map rBool)), .r (.sl (a1.Attrs.map (rSl GAttr.row)))])), (4, some (.box (n0 + 1) 34 [.cst (.slice none 0 0), .cst (.slice none 0 0), .cst (.slice none 0 0)])), (5, some (.box (n0 + 3) 34 [.own 9 (n0 + 2), .own 32 (n0 + 4), .cst (.slice none 0 0)])), (9, some (.arr (n0 + 2) 39 1 ([[]].map (rSl GElem.row)))), (32, some (.arr (n0 + 4) 4 1 (([] : List Bool).map rBool)))]) ⟨.inl (.inl rfl), .inl (.inl rfl), .inl (.inl rfl), .inl (.inl rfl), .inl (.inl rfl), .inl (.inl rfl), .inl (.inl rfl), .inl (.inl rfl), trivial⟩ ⟨.inl rfl, .inl rfl, .inl rfl, .inl rfl, .inl rfl, trivial⟩ (Nat.le_refl _))) (Weak.trans (Weak.trans (Weak.adoptBox 5 2 36 47 1 (by decide) rfl rfl (by decide)) (by exact Weak.cv (e' := [(0, .r (.sl (f1.map GElem.row))), (1, .agg [.r (.sl (a1.Adds.map (rSl GElem.row))), .r (.sl (a1.Cuts.map rBool)), .r (.sl (a1.Attrs.map (rSl GAttr.row)))]), (3, .ptr 3 n0 0 0), (4, .ptr 4 (n0 + 1) 0 0), (5, .ptr 5 (n0 + 3) 0 0), (6, .r (.int .i64 0)), (9, .own 9 (n0 + 2)), (10, .agg [.own 9 (n0 + 2), .cst (.slice none 0 0), .cst (.slice none 0 0)])]) (h' := [(3, some (.box n0 34 [.r (.sl (a1.Adds.map (rSl GElem.row))), .r (.sl (a1.Cuts.map rBool)), .r (.sl (a1.Attrs.map (rSl GAttr.row)))])), (4, some (.box (n0 + 1) 34 [.cst (.slice none 0 0), .cst (.slice none 0 0), .cst (.slice none 0 0)])), (5, some (.box (n0 + 3) 34 [.own 9 (n0 + 2), .own 32 (n0 + 4), .own 36 (n0 + 5)])), (9, some (.arr (n0 + 2) 39 1 ([[]].map (rSl GElem.row)))), (32, some (.arr (n0 + 4) 4 1 (([] : List Bool).map rBool))), (36, some (.arr (n0 + 5) 47 1 (([] : List (List GAttr)).map (rSl GAttr.row))))]) ⟨.inl (.inl rfl), .inl (.inl rfl), .inl (.inl rfl), .inl (.inl rfl), .inl (.inl rfl), .inl (.inl rfl), .inl (.inl rfl), .inl (.inl rfl), trivial⟩ ⟨.inl rfl, .inl rfl, .inl rfl, .inl rfl, .inl rfl, .inl rfl, trivial⟩ (Nat.le_refl _))) (by exact Weak.cv ⟨.inl (.inl rfl), .inl (.inl rfl), .inl (.inl rfl), .inl (.inl rfl), .inl (.inl rfl), trivial⟩ ⟨.inl rfl, .inl rfl, .inl rfl, .inl rfl, .inl rfl, .inl rfl, trivial⟩ (Nat.le_refl _)))) ?_
  intro i4 out2 i5 v1 hv1 hx1
  have h2 : ref_Back_L1 f1 a1 i4 out2 = some v1 := hv1; unfold ref_Back_L1 at h2
  refine AW.seq_w fun K6 hK6 wK6 => ?_
  refine AW.seq_w fun K7 hK7 wK7 => ?_
  refine AW.region ?_
  refine AOps.step rfl rfl rfl (OpQ.spec (sp_move rfl (.inl rfl)) _) ?_
  refine AOps.step rfl rfl rfl (OpQ.spec (sp_move rfl (.inl rfl)) _) ?_
  refine AOps.step rfl rfl rfl (OpQ.spec (ms_len rfl tg_39.slice (.inl rfl)) _) ?_
  refine AOps.step rfl rfl rfl (OpQ.spec (sp_leq rfl (.inl rfl) (.inl rfl)) _) ?_
  refine AOps.nil ?_
  refine hK7 _ ?_
  refine AW.cond rfl (fun hc1 => ?_) (fun hc1 => ?_)
  · have h3 := ite_t hc1 h2
    refine AW.skip ?_
    refine hK6 _ ?_
    refine AW.seq_w fun K8 hK8 wK8 => ?_
    refine AW.block ?_
    refine jc1k h3 fun p1 hp1 hk2 he2 => ?_
    have J2 : ∀ (out5 : Ref_Act) (i9 : Nat → Nat), p1 = .nrm out5 → K8 ⟨[(0, .r (.sl (f1.map GElem.row))), (3, .ptr 3 n0 0 0), (4, .ptr 4 (n0 + 1) 0 0), (5, .ptr 5 (n0 + 3) 0 0), (6, .r (.int .i64 i4))], [(3, some (.box n0 34 [.r (.sl (a1.Adds.map (rSl GElem.row))), .r (.sl (a1.Cuts.map rBool)), .r (.sl (a1.Attrs.map (rSl GAttr.row)))])), (4, some (.box (n0 + 1) 34 [.cst (.slice none 0 0), .cst (.slice none 0 0), .cst (.slice none 0 0)])), (5, some (.box (n0 + 3) 34 [.own 9 (i9 0), .own 32 (i9 1), .own 36 (i9 2)])), (9, some (.arr (i9 0) 39 1 (out5.Adds.map (rSl GElem.row)))), (32, some (.arr (i9 1) 4 1 (out5.Cuts.map rBool))), (36, some (.arr (i9 2) 47 1 (out5.Attrs.map (rSl GAttr.row))))], (i9 3), 105⟩ := by
      intro out5 i9 e
      have h4 := hk2 _ e
      refine hK8 _ ?_
      refine AW.region ?_
      refine AOps.step rfl rfl rfl (OpQ.spec (sp_move rfl (.inl rfl)) _) ?_
      refine ob1k h4 fun i10 ei10 h5 => ?_
      refine AOps.step rfl rfl rfl (OpQ.spec (ms_add rfl (.inl rfl) (.inl rfl) (fun _ => ei10)) _) ?_
      refine AOps.step rfl rfl rfl (OpQ.spec (sp_assign rfl (.inl rfl)) _) ?_
      refine AOps.nil ?_
      exact NextQ2.mk h5 (vec [(i9 0), (i9 1), (i9 2), (i9 3)]) ((by exact Weak.cv ⟨.inl (.inl rfl), .inl (.inl rfl), .inl (.inl rfl), .inl (.inl rfl), .inl (.inl rfl), trivial⟩ ⟨.inl rfl, .inl rfl, .inl rfl, .inl rfl, .inl rfl, .inl rfl, trivial⟩ (Nat.le_refl _)))
    refine AW.seq_w fun K9 hK9 wK9 => ?_
    refine AW.seq_w fun K10 hK10 wK10 => ?_
    refine AW.region ?_
    refine AOps.step rfl rfl rfl (OpQ.spec (sp_fieldAddr_own (ob := .box _ _ _) rfl tf_34_0 (.inl rfl) (fun _ => rfl) rfl) _) ?_
    refine AOps.step rfl rfl rfl (OpQ.spec (ms_load_box (a := .r (.sl (a1.Adds.map (rSl GElem.row)))) rfl ts_30 (.inl rfl) rfl rfl) _) ?_
    refine AOps.step rfl rfl rfl (OpQ.spec (sp_move rfl (.inl rfl)) _) ?_
    refine ob1k hp1 fun x1 ex1 h6 => ?_
    refine AOps.step rfl rfl rfl (OpQ.spec (ms_idx rfl tg_30.slice (.inl rfl) (.inl rfl) (fun _ => rfl) (fun _ => ex1)) _) ?_
    refine AOps.step rfl rfl rfl (OpQ.spec (ms_load (d := .sl (x1.map GElem.row)) rfl ts_39 (.inl rfl) rfl) _) ?_
    refine AOps.step rfl rfl rfl (OpQ.spec (ms_len rfl tg_39.slice (.inl rfl)) _) ?_
    refine AOps.step rfl rfl rfl (OpQ.spec (sp_move rfl (.inl rfl)) _) ?_
    refine AOps.nil ?_
    refine hK10 _ ?_
    refine AW.block ?_
    refine jb1k h6 fun o2 hit2 hk3 => ?_
    have J3 : ∀ (out9 : Ref_Act) (i15 : Nat → Nat), o2 = out9 → K9 ⟨[(0, .r (.sl (f1.map GElem.row))), (3, .ptr 3 n0 0 0), (4, .ptr 4 (n0 + 1) 0 0), (5, .ptr 5 (n0 + 3) 0 0), (6, .r (.int .i64 i4))], [(3, some (.box n0 34 [.r (.sl (a1.Adds.map (rSl GElem.row))), .r (.sl (a1.Cuts.map rBool)), .r (.sl (a1.Attrs.map (rSl GAttr.row)))])), (4, some (.box (n0 + 1) 34 [.cst (.slice none 0 0), .cst (.slice none 0 0), .cst (.slice none 0 0)])), (5, some (.box (n0 + 3) 34 [.own 9 (i15 0), .own 32 (i15 1), .own 36 (i15 2)])), (9, some (.arr (i15 0) 39 1 (out9.Adds.map (rSl GElem.row)))), (32, some (.arr (i15 1) 4 1 (out9.Cuts.map rBool))), (36, some (.arr (i15 2) 47 1 (out9.Attrs.map (rSl GAttr.row))))], (i15 3), 105⟩ := by
      intro out9 i15 e
      have h7 := hk3 _ e
      refine hK9 _ ?_
      refine AW.seq_w fun K11 hK11 wK11 => ?_
      refine AW.seq_w fun K12 hK12 wK12 => ?_
      refine AW.region ?_
      refine AOps.step rfl rfl rfl (OpQ.spec (sp_move rfl (.inl rfl)) _) ?_
      refine AOps.step rfl rfl rfl (OpQ.spec (sp_move rfl (.inl rfl)) _) ?_
      refine AOps.step rfl rfl rfl (OpQ.spec (ms_len rfl tg_39.slice (.inl rfl)) _) ?_
      refine AOps.step rfl rfl rfl (OpQ.spec (sp_eql rfl (.inl rfl) (.inl rfl)) _) ?_
      refine AOps.nil ?_
      refine hK12 _ ?_
      refine AW.cond rfl (fun hc2 => ?_) (fun hc2 => ?_)
      · have h8 := ite_t hc2 h7
        refine AW.exit ?_
        exact wK3 _ _ ((by exact Weak.cv ⟨.inl (.inl rfl), .inl (.inl rfl), trivial⟩ ⟨.inl rfl, .inl rfl, .inl rfl, .inl rfl, .inl rfl, trivial⟩ (Nat.le_refl _))) (J1 _ (vec [(i15 0), (i15 1), (i15 2), (i15 3)]) (hx1 _ (Option.some.inj (he2 _ (Option.some.inj h8).symm)).symm))
      · have h8 := ite_f hc2 h7
        refine AW.skip ?_
        refine hK11 _ ?_
        refine AW.seq_w fun K13 hK13 wK13 => ?_
        refine AW.region ?_
        refine AOps.step rfl rfl rfl (OpQ.spec (sp_fieldAddr_own (ob := .box _ _ _) rfl tf_34_0 (.inl rfl) (fun _ => rfl) rfl) _) ?_
        refine AOps.step rfl rfl rfl (OpQ.spec (ms_load_box (a := .own 9 (i15 0)) rfl ts_30 (.inl rfl) rfl rfl) _) ?_
        refine AOps.step rfl rfl rfl (OpQ.spec (ms_len_own rfl tg_30.slice (.inl rfl) rfl) _) ?_
        refine ob1k h8 fun k1 ek1 h9 => ?_
        refine AOps.step rfl rfl rfl (OpQ.spec (ms_sub rfl (.inl rfl) (.inl rfl) (fun _ => ek1)) _) ?_
        refine AOps.step rfl rfl rfl (OpQ.spec (sp_assign rfl (.inl rfl)) _) ?_
        refine AOps.nil ?_
        refine hK13 _ ?_
        refine AW.seq_w fun K14 hK14 wK14 => ?_
        refine AW.seq_w fun K15 hK15 wK15 => ?_
        refine AW.region ?_
        refine AOps.step rfl rfl rfl (OpQ.spec (sp_fieldAddr_own (ob := .box _ _ _) rfl tf_34_1 (.inl rfl) (fun _ => rfl) rfl) _) ?_
        refine AOps.step rfl rfl rfl (OpQ.spec (ms_load_box (a := .r (.sl (a1.Cuts.map rBool))) rfl ts_31 (.inl rfl) rfl rfl) _) ?_
        refine AOps.step rfl rfl rfl (OpQ.spec (sp_move rfl (.inl rfl)) _) ?_
        refine ob1k h9 fun x5 ex5 h10 => ?_
        refine AOps.step rfl rfl rfl (OpQ.spec (ms_idx rfl tg_31.slice (.inl rfl) (.inl rfl) (fun _ => rfl) (fun _ => ex5)) _) ?_
        refine AOps.step rfl rfl rfl (OpQ.spec (ms_load (d := .bool x5) rfl ts_4 (.inl rfl) rfl) _) ?_
        refine AOps.nil ?_
        refine hK15 _ ?_
        refine AW.cond rfl (fun hc3 => ?_) (fun hc3 => ?_)
        · have h11 := ite_t hc3 h10
          refine AW.seq_w fun K16 hK16 wK16 => ?_
          refine AW.weak (s' := ⟨[(0, .r (.sl (f1.map GElem.row))), (3, .ptr 3 n0 0 0), (4, .ptr 4 (n0 + 1) 0 0), (5, .ptr 5 (n0 + 3) 0 0), (6, .r (.int .i64 i4)), (7, .r (.int .i64 k1))], [(3, some (.box n0 34 [.r (.sl (a1.Adds.map (rSl GElem.row))), .r (.sl (a1.Cuts.map rBool)), .r (.sl (a1.Attrs.map (rSl GAttr.row)))])), (4, some (.box (n0 + 1) 34 [.cst (.slice none 0 0), .cst (.slice none 0 0), .cst (.slice none 0 0)])), (5, some (.box (n0 + 3) 34 [.own 9 (i15 0), .own 32 (i15 1), .own 36 (i15 2)])), (9, some (.arr (i15 0) 39 1 (out9.Adds.map (rSl GElem.row)))), (32, some (.arr (i15 1) 4 1 (out9.Cuts.map rBool))), (36, some (.arr (i15 2) 47 1 (out9.Attrs.map (rSl GAttr.row))))], (i15 3), 105⟩) (by exact Weak.cv ⟨.inl (.inl rfl), .inl (.inl rfl), .inl (.inl rfl), .inl (.inl rfl), .inl (.inl rfl), .inl (.inl rfl), trivial⟩ ⟨.inl rfl, .inl rfl, .inl rfl, .inl rfl, .inl rfl, .inl rfl, trivial⟩ (Nat.le_refl _)) ?_
          refine ob1k h11 fun x6 ex6 h12 => ?_
          refine ob1k h12 fun l1 el1 h13 => ?_
          refine ob1k h13 fun x7 ex7 h14 => ?_
          refine ob1k h14 fun l2 el2 h15 => ?_
          refine AW.regionP 16 [⟨some 54, (fun _ => .ptr 5 (n0 + 3) 0 0), none, []⟩, ⟨some 55, (fun _ => .own 9 (i15 0)), none, []⟩, ⟨some 56, (fun _ => .r (.int .i64 k1)), none, []⟩, ⟨some 57, (fun G1 => .own 57 (G1 3)), some (57, (fun G1 => some (.arr (G1 3) 113 3 (([] : List GElem).map GElem.row)))), [3]⟩, ⟨some 58, (fun _ => .ptr 5 (n0 + 3) 0 0), none, []⟩, ⟨some 59, (fun _ => .own 9 (i15 0)), none, []⟩, ⟨some 60, (fun _ => .r (.int .i64 k1)), none, []⟩, ⟨some 61, (fun _ => .ptr 9 (i15 0) k1.toNat 0), none, []⟩, ⟨some 62, (fun _ => .r (.sl (x6.map GElem.row))), none, []⟩, ⟨some 63, (fun G1 => .own 57 (G1 9)), some (57, (fun G1 => some (.arr (G1 9) 113 3 (l1.map GElem.row)))), [9]⟩, ⟨some 64, (fun _ => .r (.sl (f1.map GElem.row))), none, []⟩, ⟨some 65, (fun _ => .r (.int .i64 i4)), none, []⟩, ⟨some 66, (fun _ => .rop (GElem.row x7) 0), none, []⟩, ⟨some 67, (fun _ => .agg [.r (.int .i64 x7.Char), .r (.int .i64 x7.Ref), .r (.sl (x7.Attrs.map GAttr.row))]), none, []⟩, ⟨some 68, (fun G1 => .own 68 (G1 14)), some (68, (fun G1 => some (.arr (G1 14) 113 3 ([x7].map GElem.row)))), [14]⟩, ⟨some 69, (fun G1 => .own 57 (G1 15)), some (57, (fun G1 => some (.arr (G1 15) 113 3 (l2.map GElem.row)))), [15]⟩] hmix (by kernel_rfl) (by exact ⟨fun _ _ h => ⟨rfl, fun _ _ e => by cases e⟩, fun _ _ h => ⟨rfl, fun _ _ e => by cases e⟩, fun _ _ h => ⟨rfl, fun _ _ e => by cases e⟩, fun _ _ h => ⟨by simp only [h 3 rfl], fun _ _ e => by cases e; simp only [h 3 rfl]⟩, fun _ _ h => ⟨rfl, fun _ _ e => by cases e⟩, fun _ _ h => ⟨rfl, fun _ _ e => by cases e⟩, fun _ _ h => ⟨rfl, fun _ _ e => by cases e⟩, fun _ _ h => ⟨rfl, fun _ _ e => by cases e⟩, fun _ _ h => ⟨rfl, fun _ _ e => by cases e⟩, fun _ _ h => ⟨by simp only [h 9 rfl], fun _ _ e => by cases e; simp only [h 9 rfl]⟩, fun _ _ h => ⟨rfl, fun _ _ e => by cases e⟩, fun _ _ h => ⟨rfl, fun _ _ e => by cases e⟩, fun _ _ h => ⟨rfl, fun _ _ e => by cases e⟩, fun _ _ h => ⟨rfl, fun _ _ e => by cases e⟩, fun _ _ h => ⟨by simp only [h 14 rfl], fun _ _ e => by cases e; simp only [h 14 rfl]⟩, fun _ _ h => ⟨by simp only [h 15 rfl], fun _ _ e => by cases e; simp only [h 15 rfl]⟩, trivial⟩) rfl (by exact ⟨Ob.quiet (n1 := fun n => n) rfl rfl (by intro d h; cases h; rfl) rfl (fun _ => [(5, .ptr 5 (n0 + 3) 0 0)]) (fun _ => [(5, some (.box (n0 + 3) 34 [.own 9 (i15 0), .own 32 (i15 1), .own 36 (i15 2)]))]) (fun D G1 hr => ⟨inE_base rfl rfl, trivial⟩) (fun D G1 hr => ⟨inH_base rfl rfl, trivial⟩) (fun _ _ => rfl) (fun G1 e h' n => OpQ.spec (v := .ptr 5 (n0 + 3) 0 0) (sp_fieldAddr_own (ob := .box _ _ _) rfl tf_34_0 (.inl rfl) (fun _ => rfl) rfl) _),
              Ob.quiet (n1 := fun n => n) rfl rfl (by intro d h; cases h; rfl) rfl (fun _ => [(54, .ptr 5 (n0 + 3) 0 0)]) (fun _ => [(5, some (.box (n0 + 3) 34 [.own 9 (i15 0), .own 32 (i15 1), .own 36 (i15 2)]))]) (fun D G1 hr => ⟨inE_op hr 0 rfl rfl (by kernel_rfl) rfl rfl, trivial⟩) (fun D G1 hr => ⟨inH_base rfl rfl, trivial⟩) (fun _ _ => rfl) (fun G1 e h' n => OpQ.spec (v := .own 9 (i15 0)) (ms_load_box (a := .own 9 (i15 0)) rfl ts_30 (.inl rfl) rfl rfl) _),
              Ob.quiet (n1 := fun n => n) rfl rfl (by intro d h; cases h; rfl) rfl (fun _ => [(7, .r (.int .i64 k1))]) (fun _ => []) (fun D G1 hr => ⟨inE_base rfl rfl, trivial⟩) (fun D G1 hr => trivial) (fun _ _ => rfl) (fun G1 e h' n => OpQ.spec (v := .r (.int .i64 k1)) (sp_move rfl (.inl rfl)) _),
              Ob.make (n1 := fun n => n + 1) rfl rfl (by intro d h; cases h; rfl) rfl (fun _ => []) (fun _ => []) (fun D G1 hr => trivial) (fun D G1 hr => trivial) (fun G1 e h' n => ms_lit 57 rfl tg_39 (f := GElem.row) (l := ([] : List GElem)) trivial rfl (fun _ => rfl) rfl),
              Ob.quiet (n1 := fun n => n) rfl rfl (by intro d h; cases h; rfl) rfl (fun _ => [(5, .ptr 5 (n0 + 3) 0 0)]) (fun _ => [(5, some (.box (n0 + 3) 34 [.own 9 (i15 0), .own 32 (i15 1), .own 36 (i15 2)]))]) (fun D G1 hr => ⟨inE_base rfl rfl, trivial⟩) (fun D G1 hr => ⟨inH_base rfl rfl, trivial⟩) (fun _ _ => rfl) (fun G1 e h' n => OpQ.spec (v := .ptr 5 (n0 + 3) 0 0) (sp_fieldAddr_own (ob := .box _ _ _) rfl tf_34_0 (.inl rfl) (fun _ => rfl) rfl) _),
              Ob.quiet (n1 := fun n => n) rfl rfl (by intro d h; cases h; rfl) rfl (fun _ => [(58, .ptr 5 (n0 + 3) 0 0)]) (fun _ => [(5, some (.box (n0 + 3) 34 [.own 9 (i15 0), .own 32 (i15 1), .own 36 (i15 2)]))]) (fun D G1 hr => ⟨inE_op hr 4 rfl rfl (by kernel_rfl) rfl rfl, trivial⟩) (fun D G1 hr => ⟨inH_base rfl rfl, trivial⟩) (fun _ _ => rfl) (fun G1 e h' n => OpQ.spec (v := .own 9 (i15 0)) (ms_load_box (a := .own 9 (i15 0)) rfl ts_30 (.inl rfl) rfl rfl) _),
              Ob.quiet (n1 := fun n => n) rfl rfl (by intro d h; cases h; rfl) rfl (fun _ => [(7, .r (.int .i64 k1))]) (fun _ => []) (fun D G1 hr => ⟨inE_base rfl rfl, trivial⟩) (fun D G1 hr => trivial) (fun _ _ => rfl) (fun G1 e h' n => OpQ.spec (v := .r (.int .i64 k1)) (sp_move rfl (.inl rfl)) _),
              Ob.quiet (n1 := fun n => n) rfl rfl (by intro d h; cases h; rfl) rfl (fun _ => [(59, .own 9 (i15 0)), (60, .r (.int .i64 k1))]) (fun _ => [(9, some (.arr (i15 0) 39 1 (out9.Adds.map (rSl GElem.row))))]) (fun D G1 hr => ⟨inE_op hr 5 rfl rfl (by kernel_rfl) rfl rfl, inE_op hr 6 rfl rfl (by kernel_rfl) rfl rfl, trivial⟩) (fun D G1 hr => ⟨inH_base rfl rfl, trivial⟩) (fun _ _ => rfl) (fun G1 e h' n => OpQ.spec (v := .ptr 9 (i15 0) k1.toNat 0) (ms_idx_own rfl tg_30.slice (.inl rfl) rfl (.inl rfl) (fun _ => ex6)) _),
              Ob.quiet (n1 := fun n => n) rfl rfl (by intro d h; cases h; rfl) rfl (fun _ => [(61, .ptr 9 (i15 0) k1.toNat 0)]) (fun _ => [(9, some (.arr (i15 0) 39 1 (out9.Adds.map (rSl GElem.row))))]) (fun D G1 hr => ⟨inE_op hr 7 rfl rfl (by kernel_rfl) rfl rfl, trivial⟩) (fun D G1 hr => ⟨inH_base rfl rfl, trivial⟩) (fun _ _ => rfl) (fun G1 e h' n => OpQ.spec (v := .r (.sl (x6.map GElem.row))) (ms_load_own (d := .sl (x6.map GElem.row)) rfl ts_39 (.inl rfl) (fun _ => rfl) (fun _ => ex6) rfl) _),
              Ob.make (n1 := fun n => n + 1) rfl rfl (by intro d h; cases h; rfl) rfl (fun G1 => [(57, .own 57 (G1 3)), (62, .r (.sl (x6.map GElem.row)))]) (fun G1 => [(57, some (.arr (G1 3) 113 3 (([] : List GElem).map GElem.row)))]) (fun D G1 hr => ⟨inE_op hr 3 rfl rfl (by kernel_rfl) rfl rfl, inE_op hr 8 rfl rfl (by kernel_rfl) rfl rfl, trivial⟩) (fun D G1 hr => ⟨inH_op hr 3 rfl rfl (by kernel_rfl) (by kernel_rfl) rfl, trivial⟩) (fun G1 e h' n => ms_app rfl tg_39 (.inl rfl) rfl (.inl ⟨(.inl rfl), fun _ => rfl⟩) el1),
              Ob.quiet (n1 := fun n => n) rfl rfl (by intro d h; cases h; rfl) rfl (fun _ => [(0, .r (.sl (f1.map GElem.row)))]) (fun _ => []) (fun D G1 hr => ⟨inE_base rfl rfl, trivial⟩) (fun D G1 hr => trivial) (fun _ _ => rfl) (fun G1 e h' n => OpQ.spec (v := .r (.sl (f1.map GElem.row))) (sp_move rfl (.inl rfl)) _),
              Ob.quiet (n1 := fun n => n) rfl rfl (by intro d h; cases h; rfl) rfl (fun _ => [(6, .r (.int .i64 i4))]) (fun _ => []) (fun D G1 hr => ⟨inE_base rfl rfl, trivial⟩) (fun D G1 hr => trivial) (fun _ _ => rfl) (fun G1 e h' n => OpQ.spec (v := .r (.int .i64 i4)) (sp_move rfl (.inl rfl)) _),
              Ob.quiet (n1 := fun n => n) rfl rfl (by intro d h; cases h; rfl) rfl (fun _ => [(64, .r (.sl (f1.map GElem.row))), (65, .r (.int .i64 i4))]) (fun _ => []) (fun D G1 hr => ⟨inE_op hr 10 rfl rfl (by kernel_rfl) rfl rfl, inE_op hr 11 rfl rfl (by kernel_rfl) rfl rfl, trivial⟩) (fun D G1 hr => trivial) (fun _ _ => rfl) (fun G1 e h' n => OpQ.spec (v := .rop (GElem.row x7) 0) (ms_idx rfl tg_39.slice (.inl rfl) (.inl rfl) (fun _ => rfl) (fun _ => ex7)) _),
              Ob.quiet (n1 := fun n => n) rfl rfl (by intro d h; cases h; rfl) rfl (fun _ => [(66, .rop (GElem.row x7) 0)]) (fun _ => []) (fun D G1 hr => ⟨inE_op hr 12 rfl rfl (by kernel_rfl) rfl rfl, trivial⟩) (fun D G1 hr => trivial) (fun _ _ => rfl) (fun G1 e h' n => OpQ.spec (v := .agg [.r (.int .i64 x7.Char), .r (.int .i64 x7.Ref), .r (.sl (x7.Attrs.map GAttr.row))]) (ms_loadA (cs := [.r (.int .i64 x7.Char), .r (.int .i64 x7.Ref), .r (.sl (x7.Attrs.map GAttr.row))]) rfl ta_113 (.inl rfl) rfl rfl) _),
              Ob.make (n1 := fun n => n + 1) rfl rfl (by intro d h; cases h; rfl) rfl (fun _ => [(67, .agg [.r (.int .i64 x7.Char), .r (.int .i64 x7.Ref), .r (.sl (x7.Attrs.map GAttr.row))])]) (fun _ => []) (fun D G1 hr => ⟨inE_op hr 13 rfl rfl (by kernel_rfl) rfl rfl, trivial⟩) (fun D G1 hr => trivial) (fun G1 e h' n => ms_lit 68 rfl tg_39 (f := GElem.row) (l := ([x7] : List GElem)) ⟨rfl, ⟨_, (.inl rfl), rfl⟩, trivial⟩ rfl (fun _ => rfl) rfl),
              Ob.make (n1 := fun n => n + 1) rfl rfl (by intro d h; cases h; rfl) rfl (fun G1 => [(63, .own 57 (G1 9)), (68, .own 68 (G1 14))]) (fun G1 => [(57, some (.arr (G1 9) 113 3 (l1.map GElem.row))), (68, some (.arr (G1 14) 113 3 ([x7].map GElem.row)))]) (fun D G1 hr => ⟨inE_op hr 9 rfl rfl (by kernel_rfl) rfl rfl, inE_op hr 14 rfl rfl (by kernel_rfl) rfl rfl, trivial⟩) (fun D G1 hr => ⟨inH_op hr 9 rfl rfl (by kernel_rfl) (by kernel_rfl) rfl, inH_op hr 14 rfl rfl (by kernel_rfl) (by kernel_rfl) rfl, trivial⟩) (fun G1 e h' n => ms_app rfl tg_39 (.inl rfl) rfl (.inr (.inl ⟨_, _, (.inl rfl), rfl⟩)) el2),
              trivial⟩) fun G1 n1 => ?_
          refine AOps.weak (s' := ⟨[(0, .r (.sl (f1.map GElem.row))), (3, .ptr 3 n0 0 0), (4, .ptr 4 (n0 + 1) 0 0), (5, .ptr 5 (n0 + 3) 0 0), (6, .r (.int .i64 i4)), (7, .r (.int .i64 k1)), (54, .ptr 5 (n0 + 3) 0 0), (55, .own 9 (i15 0)), (56, .r (.int .i64 k1)), (58, .ptr 5 (n0 + 3) 0 0), (59, .own 9 (i15 0)), (60, .r (.int .i64 k1)), (61, .ptr 9 (i15 0) k1.toNat 0), (62, .r (.sl (x6.map GElem.row))), (64, .r (.sl (f1.map GElem.row))), (65, .r (.int .i64 i4)), (66, .rop (GElem.row x7) 0), (67, .agg [.r (.int .i64 x7.Char), .r (.int .i64 x7.Ref), .r (.sl (x7.Attrs.map GAttr.row))]), (68, .own 68 (G1 14)), (69, .own 57 (G1 15))], [(3, some (.box n0 34 [.r (.sl (a1.Adds.map (rSl GElem.row))), .r (.sl (a1.Cuts.map rBool)), .r (.sl (a1.Attrs.map (rSl GAttr.row)))])), (4, some (.box (n0 + 1) 34 [.cst (.slice none 0 0), .cst (.slice none 0 0), .cst (.slice none 0 0)])), (5, some (.box (n0 + 3) 34 [.own 9 (i15 0), .own 32 (i15 1), .own 36 (i15 2)])), (9, some (.arr (i15 0) 39 1 (out9.Adds.map (rSl GElem.row)))), (32, some (.arr (i15 1) 4 1 (out9.Cuts.map rBool))), (36, some (.arr (i15 2) 47 1 (out9.Attrs.map (rSl GAttr.row)))), (57, some (.arr (G1 15) 113 3 (l2.map GElem.row))), (68, some (.arr (G1 14) 113 3 ([x7].map GElem.row)))], n1, 105⟩) (by exact Weak.cv ⟨.inl (.inl rfl), .inl (.inl rfl), .inl (.inl rfl), .inl (.inl rfl), .inl (.inl rfl), .inl (.inl rfl), .inl (.inl rfl), .inl (.inl rfl), .inl (.inl rfl), .inl (.inl rfl), .inl (.inl rfl), .inl (.inl rfl), .inl (.inl rfl), .inl (.inl rfl), .inl (.inl rfl), .inl (.inl rfl), .inl (.inl rfl), .inl (.inl rfl), .inl (.inl rfl), .inl (.inl rfl), trivial⟩ ⟨.inl rfl, .inl rfl, .inl rfl, .inl rfl, .inl rfl, .inl rfl, .inl rfl, .inl rfl, trivial⟩ (Nat.le_refl _)) ?_
          refine AOps.step rfl rfl rfl (OpQ.spec (ms_idx_own rfl tg_30.slice (.inl rfl) rfl (.inl rfl) (fun _ => ex6)) _) ?_
          refine AOps.weak (by exact Weak.frz (e' := [(0, .r (.sl (f1.map GElem.row))), (3, .ptr 3 n0 0 0), (4, .ptr 4 (n0 + 1) 0 0), (5, .ptr 5 (n0 + 3) 0 0), (6, .r (.int .i64 i4)), (7, .r (.int .i64 k1)), (54, .ptr 5 (n0 + 3) 0 0), (55, .own 9 (i15 0)), (56, .r (.int .i64 k1)), (58, .ptr 5 (n0 + 3) 0 0), (59, .own 9 (i15 0)), (60, .r (.int .i64 k1)), (61, .ptr 9 (i15 0) k1.toNat 0), (62, .r (.sl (x6.map GElem.row))), (64, .r (.sl (f1.map GElem.row))), (65, .r (.int .i64 i4)), (66, .rop (GElem.row x7) 0), (67, .agg [.r (.int .i64 x7.Char), .r (.int .i64 x7.Ref), .r (.sl (x7.Attrs.map GAttr.row))]), (68, .own 68 (G1 14)), (69, .r (.sl (l2.map GElem.row))), (70, .ptr 9 (i15 0) k1.toNat 0)]) (h' := [(3, some (.box n0 34 [.r (.sl (a1.Adds.map (rSl GElem.row))), .r (.sl (a1.Cuts.map rBool)), .r (.sl (a1.Attrs.map (rSl GAttr.row)))])), (4, some (.box (n0 + 1) 34 [.cst (.slice none 0 0), .cst (.slice none 0 0), .cst (.slice none 0 0)])), (5, some (.box (n0 + 3) 34 [.own 9 (i15 0), .own 32 (i15 1), .own 36 (i15 2)])), (9, some (.arr (i15 0) 39 1 (out9.Adds.map (rSl GElem.row)))), (32, some (.arr (i15 1) 4 1 (out9.Cuts.map rBool))), (36, some (.arr (i15 2) 47 1 (out9.Attrs.map (rSl GAttr.row)))), (68, some (.arr (G1 14) 113 3 ([x7].map GElem.row)))]) 57 rfl ⟨.inl (.inl rfl), .inl (.inl rfl), .inl (.inl rfl), .inl (.inl rfl), .inl (.inl rfl), .inl (.inl rfl), .inl (.inl rfl), .inl (.inl rfl), .inl (.inl rfl), .inl (.inl rfl), .inl (.inl rfl), .inl (.inl rfl), .inl (.inl rfl), .inl (.inl rfl), .inl (.inl rfl), .inl (.inl rfl), .inl (.inl rfl), .inl (.inl rfl), .inl (.inl rfl), .inl (.inr (.inr ⟨rfl, rfl⟩)), .inl (.inl rfl), trivial⟩ ⟨rfl, .inl rfl, rfl, .inl rfl, rfl, .inl rfl, rfl, .inl rfl, rfl, .inl rfl, rfl, .inl rfl, rfl, .inl rfl, trivial⟩) ?_
          refine AOps.step0 rfl rfl (ms_store (v := l2) rfl tz_39 (.inl rfl) rfl ex6 (.inl rfl) rfl rfl rfl rfl) ?_
          refine AOps.nil ?_
          refine hK16 _ ?_
          refine AW.exit ?_
          exact wK8 _ _ ((by exact Weak.cv ⟨.inl (.inl rfl), .inl (.inl rfl), .inl (.inl rfl), .inl (.inl rfl), .inl (.inl rfl), trivial⟩ ⟨.inl rfl, .inl rfl, .inl rfl, .inl rfl, .inl rfl, .inl rfl, trivial⟩ (Nat.le_refl _))) (J2 _ (vec [(i15 0), (i15 1), (i15 2), n1]) (Option.some.inj h15).symm)
        · have h11 := ite_f hc3 h10
          refine AW.skip ?_
          refine hK14 _ ?_
          refine AW.seq_w fun K17 hK17 wK17 => ?_
          refine AW.weak (s' := ⟨[(0, .r (.sl (f1.map GElem.row))), (3, .ptr 3 n0 0 0), (4, .ptr 4 (n0 + 1) 0 0), (5, .ptr 5 (n0 + 3) 0 0), (6, .r (.int .i64 i4))], [(3, some (.box n0 34 [.r (.sl (a1.Adds.map (rSl GElem.row))), .r (.sl (a1.Cuts.map rBool)), .r (.sl (a1.Attrs.map (rSl GAttr.row)))])), (4, some (.box (n0 + 1) 34 [.cst (.slice none 0 0), .cst (.slice none 0 0), .cst (.slice none 0 0)])), (5, some (.box (n0 + 3) 34 [.own 9 (i15 0), .own 32 (i15 1), .own 36 (i15 2)])), (9, some (.arr (i15 0) 39 1 (out9.Adds.map (rSl GElem.row)))), (32, some (.arr (i15 1) 4 1 (out9.Cuts.map rBool))), (36, some (.arr (i15 2) 47 1 (out9.Attrs.map (rSl GAttr.row))))], (i15 3), 105⟩) (by exact Weak.cv ⟨.inl (.inl rfl), .inl (.inl rfl), .inl (.inl rfl), .inl (.inl rfl), .inl (.inl rfl), trivial⟩ ⟨.inl rfl, .inl rfl, .inl rfl, .inl rfl, .inl rfl, .inl rfl, trivial⟩ (Nat.le_refl _)) ?_
          refine ob1k h11 fun x8 ex8 h16 => ?_
          refine ob1k h16 fun x9 ex9 h17 => ?_
          refine ob1k h17 fun r1 er1 h18 => ?_
          refine AW.regionP 16 [⟨some 71, (fun _ => .r (.sl (f1.map GElem.row))), none, []⟩, ⟨some 72, (fun _ => .r (.int .i64 i4)), none, []⟩, ⟨some 73, (fun _ => .rop (GElem.row x8) 0), none, []⟩, ⟨some 74, (fun _ => .rop (GElem.row x8) 2), none, []⟩, ⟨some 75, (fun _ => .r (.sl (x8.Attrs.map GAttr.row))), none, []⟩, ⟨some 76, (fun _ => .ptr 3 n0 0 2), none, []⟩, ⟨some 77, (fun _ => .r (.sl (a1.Attrs.map (rSl GAttr.row)))), none, []⟩, ⟨some 78, (fun _ => .r (.int .i64 i4)), none, []⟩, ⟨some 79, (fun _ => .rop ((rSl GAttr.row) x9) 0), none, []⟩, ⟨some 80, (fun _ => .r (.sl (x9.map GAttr.row))), none, []⟩, ⟨some 81, (fun _ => .r (.sl (r1.map GAttr.row))), none, []⟩, ⟨some 82, (fun _ => .r (.sl (f1.map GElem.row))), none, []⟩, ⟨some 83, (fun _ => .r (.int .i64 i4)), none, []⟩, ⟨some 84, (fun _ => .rop (GElem.row x8) 0), none, []⟩, ⟨some 85, (fun _ => .rop (GElem.row x8) 2), none, []⟩, ⟨some 86, (fun _ => .r (.sl (x8.Attrs.map GAttr.row))), none, []⟩] hmix (by kernel_rfl) (by exact ⟨fun _ _ h => ⟨rfl, fun _ _ e => by cases e⟩, fun _ _ h => ⟨rfl, fun _ _ e => by cases e⟩, fun _ _ h => ⟨rfl, fun _ _ e => by cases e⟩, fun _ _ h => ⟨rfl, fun _ _ e => by cases e⟩, fun _ _ h => ⟨rfl, fun _ _ e => by cases e⟩, fun _ _ h => ⟨rfl, fun _ _ e => by cases e⟩, fun _ _ h => ⟨rfl, fun _ _ e => by cases e⟩, fun _ _ h => ⟨rfl, fun _ _ e => by cases e⟩, fun _ _ h => ⟨rfl, fun _ _ e => by cases e⟩, fun _ _ h => ⟨rfl, fun _ _ e => by cases e⟩, fun _ _ h => ⟨rfl, fun _ _ e => by cases e⟩, fun _ _ h => ⟨rfl, fun _ _ e => by cases e⟩, fun _ _ h => ⟨rfl, fun _ _ e => by cases e⟩, fun _ _ h => ⟨rfl, fun _ _ e => by cases e⟩, fun _ _ h => ⟨rfl, fun _ _ e => by cases e⟩, fun _ _ h => ⟨rfl, fun _ _ e => by cases e⟩, trivial⟩) rfl (by exact ⟨Ob.quiet (n1 := fun n => n) rfl rfl (by intro d h; cases h; rfl) rfl (fun _ => [(0, .r (.sl (f1.map GElem.row)))]) (fun _ => []) (fun D G2 hr => ⟨inE_base rfl rfl, trivial⟩) (fun D G2 hr => trivial) (fun _ _ => rfl) (fun G2 e h' n => OpQ.spec (v := .r (.sl (f1.map GElem.row))) (sp_move rfl (.inl rfl)) _),
              Ob.quiet (n1 := fun n => n) rfl rfl (by intro d h; cases h; rfl) rfl (fun _ => [(6, .r (.int .i64 i4))]) (fun _ => []) (fun D G2 hr => ⟨inE_base rfl rfl, trivial⟩) (fun D G2 hr => trivial) (fun _ _ => rfl) (fun G2 e h' n => OpQ.spec (v := .r (.int .i64 i4)) (sp_move rfl (.inl rfl)) _),
              Ob.quiet (n1 := fun n => n) rfl rfl (by intro d h; cases h; rfl) rfl (fun _ => [(71, .r (.sl (f1.map GElem.row))), (72, .r (.int .i64 i4))]) (fun _ => []) (fun D G2 hr => ⟨inE_op hr 0 rfl rfl (by kernel_rfl) rfl rfl, inE_op hr 1 rfl rfl (by kernel_rfl) rfl rfl, trivial⟩) (fun D G2 hr => trivial) (fun _ _ => rfl) (fun G2 e h' n => OpQ.spec (v := .rop (GElem.row x8) 0) (ms_idx rfl tg_39.slice (.inl rfl) (.inl rfl) (fun _ => rfl) (fun _ => ex8)) _),
              Ob.quiet (n1 := fun n => n) rfl rfl (by intro d h; cases h; rfl) rfl (fun _ => [(73, .rop (GElem.row x8) 0)]) (fun _ => []) (fun D G2 hr => ⟨inE_op hr 2 rfl rfl (by kernel_rfl) rfl rfl, trivial⟩) (fun D G2 hr => trivial) (fun _ _ => rfl) (fun G2 e h' n => OpQ.spec (v := .rop (GElem.row x8) 2) (sp_fieldAddr_ro rfl tf_113_2 (.inl rfl)) _),
              Ob.quiet (n1 := fun n => n) rfl rfl (by intro d h; cases h; rfl) rfl (fun _ => [(74, .rop (GElem.row x8) 2)]) (fun _ => []) (fun D G2 hr => ⟨inE_op hr 3 rfl rfl (by kernel_rfl) rfl rfl, trivial⟩) (fun D G2 hr => trivial) (fun _ _ => rfl) (fun G2 e h' n => OpQ.spec (v := .r (.sl (x8.Attrs.map GAttr.row))) (ms_load (d := .sl (x8.Attrs.map GAttr.row)) rfl ts_47 (.inl rfl) rfl) _),
              Ob.quiet (n1 := fun n => n) rfl rfl (by intro d h; cases h; rfl) rfl (fun _ => [(3, .ptr 3 n0 0 0)]) (fun _ => [(3, some (.box n0 34 [.r (.sl (a1.Adds.map (rSl GElem.row))), .r (.sl (a1.Cuts.map rBool)), .r (.sl (a1.Attrs.map (rSl GAttr.row)))]))]) (fun D G2 hr => ⟨inE_base rfl rfl, trivial⟩) (fun D G2 hr => ⟨inH_base rfl rfl, trivial⟩) (fun _ _ => rfl) (fun G2 e h' n => OpQ.spec (v := .ptr 3 n0 0 2) (sp_fieldAddr_own (ob := .box _ _ _) rfl tf_34_2 (.inl rfl) (fun _ => rfl) rfl) _),
              Ob.quiet (n1 := fun n => n) rfl rfl (by intro d h; cases h; rfl) rfl (fun _ => [(76, .ptr 3 n0 0 2)]) (fun _ => [(3, some (.box n0 34 [.r (.sl (a1.Adds.map (rSl GElem.row))), .r (.sl (a1.Cuts.map rBool)), .r (.sl (a1.Attrs.map (rSl GAttr.row)))]))]) (fun D G2 hr => ⟨inE_op hr 5 rfl rfl (by kernel_rfl) rfl rfl, trivial⟩) (fun D G2 hr => ⟨inH_base rfl rfl, trivial⟩) (fun _ _ => rfl) (fun G2 e h' n => OpQ.spec (v := .r (.sl (a1.Attrs.map (rSl GAttr.row)))) (ms_load_box (a := .r (.sl (a1.Attrs.map (rSl GAttr.row)))) rfl ts_32 (.inl rfl) rfl rfl) _),
              Ob.quiet (n1 := fun n => n) rfl rfl (by intro d h; cases h; rfl) rfl (fun _ => [(6, .r (.int .i64 i4))]) (fun _ => []) (fun D G2 hr => ⟨inE_base rfl rfl, trivial⟩) (fun D G2 hr => trivial) (fun _ _ => rfl) (fun G2 e h' n => OpQ.spec (v := .r (.int .i64 i4)) (sp_move rfl (.inl rfl)) _),
              Ob.quiet (n1 := fun n => n) rfl rfl (by intro d h; cases h; rfl) rfl (fun _ => [(77, .r (.sl (a1.Attrs.map (rSl GAttr.row)))), (78, .r (.int .i64 i4))]) (fun _ => []) (fun D G2 hr => ⟨inE_op hr 6 rfl rfl (by kernel_rfl) rfl rfl, inE_op hr 7 rfl rfl (by kernel_rfl) rfl rfl, trivial⟩) (fun D G2 hr => trivial) (fun _ _ => rfl) (fun G2 e h' n => OpQ.spec (v := .rop ((rSl GAttr.row) x9) 0) (ms_idx rfl tg_32.slice (.inl rfl) (.inl rfl) (fun _ => rfl) (fun _ => ex9)) _),
              Ob.quiet (n1 := fun n => n) rfl rfl (by intro d h; cases h; rfl) rfl (fun _ => [(79, .rop ((rSl GAttr.row) x9) 0)]) (fun _ => []) (fun D G2 hr => ⟨inE_op hr 8 rfl rfl (by kernel_rfl) rfl rfl, trivial⟩) (fun D G2 hr => trivial) (fun _ _ => rfl) (fun G2 e h' n => OpQ.spec (v := .r (.sl (x9.map GAttr.row))) (ms_load (d := .sl (x9.map GAttr.row)) rfl ts_47 (.inl rfl) rfl) _),
              Ob.quiet (n1 := fun n => n) rfl rfl (by intro d h; cases h; rfl) rfl (fun _ => [(75, .r (.sl (x8.Attrs.map GAttr.row))), (80, .r (.sl (x9.map GAttr.row)))]) (fun _ => []) (fun D G2 hr => ⟨inE_op hr 4 rfl rfl (by kernel_rfl) rfl rfl, inE_op hr 9 rfl rfl (by kernel_rfl) rfl rfl, trivial⟩) (fun D G2 hr => trivial) (fun _ _ => rfl) (fun G2 e h' n => sp_callS (r := .r (.sl (r1.map GAttr.row))) (caps := []) (bs := [.r (.sl (x8.Attrs.map GAttr.row)), .r (.sl (x9.map GAttr.row))]) rfl (.inl rfl) rfl ⟨.inl ⟨(.inl rfl), rfl⟩, .inl ⟨(.inl rfl), rfl⟩, trivial⟩ (fun _ => w_ref_Changed (er1))),
              Ob.quiet (n1 := fun n => n) rfl rfl (by intro d h; cases h; rfl) rfl (fun _ => [(0, .r (.sl (f1.map GElem.row)))]) (fun _ => []) (fun D G2 hr => ⟨inE_base rfl rfl, trivial⟩) (fun D G2 hr => trivial) (fun _ _ => rfl) (fun G2 e h' n => OpQ.spec (v := .r (.sl (f1.map GElem.row))) (sp_move rfl (.inl rfl)) _),
              Ob.quiet (n1 := fun n => n) rfl rfl (by intro d h; cases h; rfl) rfl (fun _ => [(6, .r (.int .i64 i4))]) (fun _ => []) (fun D G2 hr => ⟨inE_base rfl rfl, trivial⟩) (fun D G2 hr => trivial) (fun _ _ => rfl) (fun G2 e h' n => OpQ.spec (v := .r (.int .i64 i4)) (sp_move rfl (.inl rfl)) _),
              Ob.quiet (n1 := fun n => n) rfl rfl (by intro d h; cases h; rfl) rfl (fun _ => [(82, .r (.sl (f1.map GElem.row))), (83, .r (.int .i64 i4))]) (fun _ => []) (fun D G2 hr => ⟨inE_op hr 11 rfl rfl (by kernel_rfl) rfl rfl, inE_op hr 12 rfl rfl (by kernel_rfl) rfl rfl, trivial⟩) (fun D G2 hr => trivial) (fun _ _ => rfl) (fun G2 e h' n => OpQ.spec (v := .rop (GElem.row x8) 0) (ms_idx rfl tg_39.slice (.inl rfl) (.inl rfl) (fun _ => rfl) (fun _ => ex8)) _),
              Ob.quiet (n1 := fun n => n) rfl rfl (by intro d h; cases h; rfl) rfl (fun _ => [(84, .rop (GElem.row x8) 0)]) (fun _ => []) (fun D G2 hr => ⟨inE_op hr 13 rfl rfl (by kernel_rfl) rfl rfl, trivial⟩) (fun D G2 hr => trivial) (fun _ _ => rfl) (fun G2 e h' n => OpQ.spec (v := .rop (GElem.row x8) 2) (sp_fieldAddr_ro rfl tf_113_2 (.inl rfl)) _),
              Ob.quiet (n1 := fun n => n) rfl rfl (by intro d h; cases h; rfl) rfl (fun _ => [(85, .rop (GElem.row x8) 2)]) (fun _ => []) (fun D G2 hr => ⟨inE_op hr 14 rfl rfl (by kernel_rfl) rfl rfl, trivial⟩) (fun D G2 hr => trivial) (fun _ _ => rfl) (fun G2 e h' n => OpQ.spec (v := .r (.sl (x8.Attrs.map GAttr.row))) (ms_load (d := .sl (x8.Attrs.map GAttr.row)) rfl ts_47 (.inl rfl) rfl) _),
              trivial⟩) fun G2 n2 => ?_
          refine AOps.weak (s' := ⟨[(0, .r (.sl (f1.map GElem.row))), (3, .ptr 3 n0 0 0), (4, .ptr 4 (n0 + 1) 0 0), (5, .ptr 5 (n0 + 3) 0 0), (6, .r (.int .i64 i4)), (71, .r (.sl (f1.map GElem.row))), (72, .r (.int .i64 i4)), (73, .rop (GElem.row x8) 0), (74, .rop (GElem.row x8) 2), (75, .r (.sl (x8.Attrs.map GAttr.row))), (76, .ptr 3 n0 0 2), (77, .r (.sl (a1.Attrs.map (rSl GAttr.row)))), (78, .r (.int .i64 i4)), (79, .rop ((rSl GAttr.row) x9) 0), (80, .r (.sl (x9.map GAttr.row))), (81, .r (.sl (r1.map GAttr.row))), (82, .r (.sl (f1.map GElem.row))), (83, .r (.int .i64 i4)), (84, .rop (GElem.row x8) 0), (85, .rop (GElem.row x8) 2), (86, .r (.sl (x8.Attrs.map GAttr.row)))], [(3, some (.box n0 34 [.r (.sl (a1.Adds.map (rSl GElem.row))), .r (.sl (a1.Cuts.map rBool)), .r (.sl (a1.Attrs.map (rSl GAttr.row)))])), (4, some (.box (n0 + 1) 34 [.cst (.slice none 0 0), .cst (.slice none 0 0), .cst (.slice none 0 0)])), (5, some (.box (n0 + 3) 34 [.own 9 (i15 0), .own 32 (i15 1), .own 36 (i15 2)])), (9, some (.arr (i15 0) 39 1 (out9.Adds.map (rSl GElem.row)))), (32, some (.arr (i15 1) 4 1 (out9.Cuts.map rBool))), (36, some (.arr (i15 2) 47 1 (out9.Attrs.map (rSl GAttr.row))))], n2, 105⟩) (by exact Weak.cv ⟨.inl (.inl rfl), .inl (.inl rfl), .inl (.inl rfl), .inl (.inl rfl), .inl (.inl rfl), .inl (.inl rfl), .inl (.inl rfl), .inl (.inl rfl), .inl (.inl rfl), .inl (.inl rfl), .inl (.inl rfl), .inl (.inl rfl), .inl (.inl rfl), .inl (.inl rfl), .inl (.inl rfl), .inl (.inl rfl), .inl (.inl rfl), .inl (.inl rfl), .inl (.inl rfl), .inl (.inl rfl), .inl (.inl rfl), trivial⟩ ⟨.inl rfl, .inl rfl, .inl rfl, .inl rfl, .inl rfl, .inl rfl, trivial⟩ (Nat.le_refl _)) ?_
          refine ob1k h18 fun change1 echange1 h19 => ?_
          refine AOps.step rfl rfl rfl (sp_callS (r := .r (.sl (change1.map GAttr.row))) (caps := []) (bs := [.r (.sl (r1.map GAttr.row)), .r (.sl (x8.Attrs.map GAttr.row))]) rfl (.inl rfl) rfl ⟨.inl ⟨(.inl rfl), rfl⟩, .inl ⟨(.inl rfl), rfl⟩, trivial⟩ (fun _ => w_ref_Between (echange1))) ?_
          refine AOps.step rfl rfl rfl (OpQ.spec (sp_assign rfl (.inl rfl)) _) ?_
          refine AOps.nil ?_
          refine hK17 _ ?_
          refine AW.weak (s' := ⟨[(0, .r (.sl (f1.map GElem.row))), (3, .ptr 3 n0 0 0), (4, .ptr 4 (n0 + 1) 0 0), (5, .ptr 5 (n0 + 3) 0 0), (6, .r (.int .i64 i4)), (8, .r (.sl (change1.map GAttr.row)))], [(3, some (.box n0 34 [.r (.sl (a1.Adds.map (rSl GElem.row))), .r (.sl (a1.Cuts.map rBool)), .r (.sl (a1.Attrs.map (rSl GAttr.row)))])), (4, some (.box (n0 + 1) 34 [.cst (.slice none 0 0), .cst (.slice none 0 0), .cst (.slice none 0 0)])), (5, some (.box (n0 + 3) 34 [.own 9 (i15 0), .own 32 (i15 1), .own 36 (i15 2)])), (9, some (.arr (i15 0) 39 1 (out9.Adds.map (rSl GElem.row)))), (32, some (.arr (i15 1) 4 1 (out9.Cuts.map rBool))), (36, some (.arr (i15 2) 47 1 (out9.Attrs.map (rSl GAttr.row))))], n2, 105⟩) (by exact Weak.cv ⟨.inl (.inl rfl), .inl (.inl rfl), .inl (.inl rfl), .inl (.inl rfl), .inl (.inl rfl), .inl (.inl rfl), trivial⟩ ⟨.inl rfl, .inl rfl, .inl rfl, .inl rfl, .inl rfl, .inl rfl, trivial⟩ (Nat.le_refl _)) ?_
          refine ob1k h19 fun l3 el3 h20 => ?_
          refine ob1k h20 fun l4 el4 h21 => ?_
          refine ob1k h21 fun l5 el5 h22 => ?_
          refine AW.regionP 14 [⟨some 88, (fun _ => .ptr 5 (n0 + 3) 0 0), none, []⟩, ⟨some 89, (fun _ => .own 9 (i15 0)), none, []⟩, ⟨some 90, (fun G3 => .own 90 (G3 2)), some (90, (fun G3 => some (.arr (G3 2) 39 1 ([[]].map (rSl GElem.row))))), [2]⟩, ⟨some 91, (fun G3 => .own 9 (G3 3)), some (9, (fun G3 => some (.arr (G3 3) 39 1 (l3.map (rSl GElem.row))))), [3]⟩, ⟨some 92, (fun _ => .ptr 5 (n0 + 3) 0 1), none, []⟩, ⟨some 93, (fun _ => .own 32 (i15 1)), none, []⟩, ⟨some 94, (fun G3 => .own 94 (G3 6)), some (94, (fun G3 => some (.arr (G3 6) 4 1 ([false].map rBool)))), [6]⟩, ⟨some 95, (fun G3 => .own 32 (G3 7)), some (32, (fun G3 => some (.arr (G3 7) 4 1 (l4.map rBool)))), [7]⟩, ⟨some 96, (fun _ => .ptr 5 (n0 + 3) 0 2), none, []⟩, ⟨some 97, (fun _ => .own 36 (i15 2)), none, []⟩, ⟨some 98, (fun _ => .r (.sl (change1.map GAttr.row))), none, []⟩, ⟨some 99, (fun G3 => .own 99 (G3 11)), some (99, (fun G3 => some (.arr (G3 11) 47 1 ([change1].map (rSl GAttr.row))))), [11]⟩, ⟨some 100, (fun G3 => .own 36 (G3 12)), some (36, (fun G3 => some (.arr (G3 12) 47 1 (l5.map (rSl GAttr.row))))), [12]⟩, ⟨some 101, (fun _ => .ptr 5 (n0 + 3) 0 0), none, []⟩] hmix (by kernel_rfl) (by exact ⟨fun _ _ h => ⟨rfl, fun _ _ e => by cases e⟩, fun _ _ h => ⟨rfl, fun _ _ e => by cases e⟩, fun _ _ h => ⟨by simp only [h 2 rfl], fun _ _ e => by cases e; simp only [h 2 rfl]⟩, fun _ _ h => ⟨by simp only [h 3 rfl], fun _ _ e => by cases e; simp only [h 3 rfl]⟩, fun _ _ h => ⟨rfl, fun _ _ e => by cases e⟩, fun _ _ h => ⟨rfl, fun _ _ e => by cases e⟩, fun _ _ h => ⟨by simp only [h 6 rfl], fun _ _ e => by cases e; simp only [h 6 rfl]⟩, fun _ _ h => ⟨by simp only [h 7 rfl], fun _ _ e => by cases e; simp only [h 7 rfl]⟩, fun _ _ h => ⟨rfl, fun _ _ e => by cases e⟩, fun _ _ h => ⟨rfl, fun _ _ e => by cases e⟩, fun _ _ h => ⟨rfl, fun _ _ e => by cases e⟩, fun _ _ h => ⟨by simp only [h 11 rfl], fun _ _ e => by cases e; simp only [h 11 rfl]⟩, fun _ _ h => ⟨by simp only [h 12 rfl], fun _ _ e => by cases e; simp only [h 12 rfl]⟩, fun _ _ h => ⟨rfl, fun _ _ e => by cases e⟩, trivial⟩) rfl (by exact ⟨Ob.quiet (n1 := fun n => n) rfl rfl (by intro d h; cases h; rfl) rfl (fun _ => [(5, .ptr 5 (n0 + 3) 0 0)]) (fun _ => [(5, some (.box (n0 + 3) 34 [.own 9 (i15 0), .own 32 (i15 1), .own 36 (i15 2)]))]) (fun D G3 hr => ⟨inE_base rfl rfl, trivial⟩) (fun D G3 hr => ⟨inH_base rfl rfl, trivial⟩) (fun _ _ => rfl) (fun G3 e h' n => OpQ.spec (v := .ptr 5 (n0 + 3) 0 0) (sp_fieldAddr_own (ob := .box _ _ _) rfl tf_34_0 (.inl rfl) (fun _ => rfl) rfl) _),
              Ob.quiet (n1 := fun n => n) rfl rfl (by intro d h; cases h; rfl) rfl (fun _ => [(88, .ptr 5 (n0 + 3) 0 0)]) (fun _ => [(5, some (.box (n0 + 3) 34 [.own 9 (i15 0), .own 32 (i15 1), .own 36 (i15 2)]))]) (fun D G3 hr => ⟨inE_op hr 0 rfl rfl (by kernel_rfl) rfl rfl, trivial⟩) (fun D G3 hr => ⟨inH_base rfl rfl, trivial⟩) (fun _ _ => rfl) (fun G3 e h' n => OpQ.spec (v := .own 9 (i15 0)) (ms_load_box (a := .own 9 (i15 0)) rfl ts_30 (.inl rfl) rfl rfl) _),
              Ob.make (n1 := fun n => n + 1) rfl rfl (by intro d h; cases h; rfl) rfl (fun _ => []) (fun _ => []) (fun D G3 hr => trivial) (fun D G3 hr => trivial) (fun G3 e h' n => ms_lit 90 rfl tg_30 (f := (rSl GElem.row)) (l := ([[]] : List (List GElem))) ⟨rfl, ⟨_, (.inl rfl), rfl⟩, trivial⟩ rfl (fun _ => rfl) rfl),
              Ob.make (n1 := fun n => n + 1) rfl rfl (by intro d h; cases h; rfl) rfl (fun G3 => [(89, .own 9 (i15 0)), (90, .own 90 (G3 2))]) (fun G3 => [(9, some (.arr (i15 0) 39 1 (out9.Adds.map (rSl GElem.row)))), (90, some (.arr (G3 2) 39 1 ([[]].map (rSl GElem.row))))]) (fun D G3 hr => ⟨inE_op hr 1 rfl rfl (by kernel_rfl) rfl rfl, inE_op hr 2 rfl rfl (by kernel_rfl) rfl rfl, trivial⟩) (fun D G3 hr => ⟨inH_baseL hr (by kernel_rfl) rfl, inH_op hr 2 rfl rfl (by kernel_rfl) (by kernel_rfl) rfl, trivial⟩) (fun G3 e h' n => ms_app rfl tg_30 (.inl rfl) rfl (.inr (.inl ⟨_, _, (.inl rfl), rfl⟩)) el3),
              Ob.quiet (n1 := fun n => n) rfl rfl (by intro d h; cases h; rfl) rfl (fun _ => [(5, .ptr 5 (n0 + 3) 0 0)]) (fun _ => [(5, some (.box (n0 + 3) 34 [.own 9 (i15 0), .own 32 (i15 1), .own 36 (i15 2)]))]) (fun D G3 hr => ⟨inE_base rfl rfl, trivial⟩) (fun D G3 hr => ⟨inH_base rfl rfl, trivial⟩) (fun _ _ => rfl) (fun G3 e h' n => OpQ.spec (v := .ptr 5 (n0 + 3) 0 1) (sp_fieldAddr_own (ob := .box _ _ _) rfl tf_34_1 (.inl rfl) (fun _ => rfl) rfl) _),
              Ob.quiet (n1 := fun n => n) rfl rfl (by intro d h; cases h; rfl) rfl (fun _ => [(92, .ptr 5 (n0 + 3) 0 1)]) (fun _ => [(5, some (.box (n0 + 3) 34 [.own 9 (i15 0), .own 32 (i15 1), .own 36 (i15 2)]))]) (fun D G3 hr => ⟨inE_op hr 4 rfl rfl (by kernel_rfl) rfl rfl, trivial⟩) (fun D G3 hr => ⟨inH_base rfl rfl, trivial⟩) (fun _ _ => rfl) (fun G3 e h' n => OpQ.spec (v := .own 32 (i15 1)) (ms_load_box (a := .own 32 (i15 1)) rfl ts_31 (.inl rfl) rfl rfl) _),
              Ob.make (n1 := fun n => n + 1) rfl rfl (by intro d h; cases h; rfl) rfl (fun _ => []) (fun _ => []) (fun D G3 hr => trivial) (fun D G3 hr => trivial) (fun G3 e h' n => ms_lit 94 rfl tg_31 (f := rBool) (l := ([false] : List Bool)) ⟨rfl, ⟨_, (.inl rfl), rfl⟩, trivial⟩ rfl (fun _ => rfl) rfl),
              Ob.make (n1 := fun n => n + 1) rfl rfl (by intro d h; cases h; rfl) rfl (fun G3 => [(93, .own 32 (i15 1)), (94, .own 94 (G3 6))]) (fun G3 => [(32, some (.arr (i15 1) 4 1 (out9.Cuts.map rBool))), (94, some (.arr (G3 6) 4 1 ([false].map rBool)))]) (fun D G3 hr => ⟨inE_op hr 5 rfl rfl (by kernel_rfl) rfl rfl, inE_op hr 6 rfl rfl (by kernel_rfl) rfl rfl, trivial⟩) (fun D G3 hr => ⟨inH_baseL hr (by kernel_rfl) rfl, inH_op hr 6 rfl rfl (by kernel_rfl) (by kernel_rfl) rfl, trivial⟩) (fun G3 e h' n => ms_app rfl tg_31 (.inl rfl) rfl (.inr (.inl ⟨_, _, (.inl rfl), rfl⟩)) el4),
              Ob.quiet (n1 := fun n => n) rfl rfl (by intro d h; cases h; rfl) rfl (fun _ => [(5, .ptr 5 (n0 + 3) 0 0)]) (fun _ => [(5, some (.box (n0 + 3) 34 [.own 9 (i15 0), .own 32 (i15 1), .own 36 (i15 2)]))]) (fun D G3 hr => ⟨inE_base rfl rfl, trivial⟩) (fun D G3 hr => ⟨inH_base rfl rfl, trivial⟩) (fun _ _ => rfl) (fun G3 e h' n => OpQ.spec (v := .ptr 5 (n0 + 3) 0 2) (sp_fieldAddr_own (ob := .box _ _ _) rfl tf_34_2 (.inl rfl) (fun _ => rfl) rfl) _),
              Ob.quiet (n1 := fun n => n) rfl rfl (by intro d h; cases h; rfl) rfl (fun _ => [(96, .ptr 5 (n0 + 3) 0 2)]) (fun _ => [(5, some (.box (n0 + 3) 34 [.own 9 (i15 0), .own 32 (i15 1), .own 36 (i15 2)]))]) (fun D G3 hr => ⟨inE_op hr 8 rfl rfl (by kernel_rfl) rfl rfl, trivial⟩) (fun D G3 hr => ⟨inH_base rfl rfl, trivial⟩) (fun _ _ => rfl) (fun G3 e h' n => OpQ.spec (v := .own 36 (i15 2)) (ms_load_box (a := .own 36 (i15 2)) rfl ts_32 (.inl rfl) rfl rfl) _),
              Ob.quiet (n1 := fun n => n) rfl rfl (by intro d h; cases h; rfl) rfl (fun _ => [(8, .r (.sl (change1.map GAttr.row)))]) (fun _ => []) (fun D G3 hr => ⟨inE_base rfl rfl, trivial⟩) (fun D G3 hr => trivial) (fun _ _ => rfl) (fun G3 e h' n => OpQ.spec (v := .r (.sl (change1.map GAttr.row))) (sp_move rfl (.inl rfl)) _),
              Ob.make (n1 := fun n => n + 1) rfl rfl (by intro d h; cases h; rfl) rfl (fun _ => [(98, .r (.sl (change1.map GAttr.row)))]) (fun _ => []) (fun D G3 hr => ⟨inE_op hr 10 rfl rfl (by kernel_rfl) rfl rfl, trivial⟩) (fun D G3 hr => trivial) (fun G3 e h' n => ms_lit 99 rfl tg_32 (f := (rSl GAttr.row)) (l := ([change1] : List (List GAttr))) ⟨rfl, ⟨_, (.inl rfl), rfl⟩, trivial⟩ rfl (fun _ => rfl) rfl),
              Ob.make (n1 := fun n => n + 1) rfl rfl (by intro d h; cases h; rfl) rfl (fun G3 => [(97, .own 36 (i15 2)), (99, .own 99 (G3 11))]) (fun G3 => [(36, some (.arr (i15 2) 47 1 (out9.Attrs.map (rSl GAttr.row)))), (99, some (.arr (G3 11) 47 1 ([change1].map (rSl GAttr.row))))]) (fun D G3 hr => ⟨inE_op hr 9 rfl rfl (by kernel_rfl) rfl rfl, inE_op hr 11 rfl rfl (by kernel_rfl) rfl rfl, trivial⟩) (fun D G3 hr => ⟨inH_baseL hr (by kernel_rfl) rfl, inH_op hr 11 rfl rfl (by kernel_rfl) (by kernel_rfl) rfl, trivial⟩) (fun G3 e h' n => ms_app rfl tg_32 (.inl rfl) rfl (.inr (.inl ⟨_, _, (.inl rfl), rfl⟩)) el5),
              Ob.quiet (n1 := fun n => n) rfl rfl (by intro d h; cases h; rfl) rfl (fun _ => [(5, .ptr 5 (n0 + 3) 0 0)]) (fun _ => [(5, some (.box (n0 + 3) 34 [.own 9 (i15 0), .own 32 (i15 1), .own 36 (i15 2)]))]) (fun D G3 hr => ⟨inE_base rfl rfl, trivial⟩) (fun D G3 hr => ⟨inH_base rfl rfl, trivial⟩) (fun _ _ => rfl) (fun G3 e h' n => OpQ.spec (v := .ptr 5 (n0 + 3) 0 0) (sp_fieldAddr_own (ob := .box _ _ _) rfl tf_34_0 (.inl rfl) (fun _ => rfl) rfl) _),
              trivial⟩) fun G3 n3 => ?_
          refine AOps.weak (s' := ⟨[(0, .r (.sl (f1.map GElem.row))), (3, .ptr 3 n0 0 0), (4, .ptr 4 (n0 + 1) 0 0), (5, .ptr 5 (n0 + 3) 0 0), (6, .r (.int .i64 i4)), (8, .r (.sl (change1.map GAttr.row))), (88, .ptr 5 (n0 + 3) 0 0), (90, .own 90 (G3 2)), (91, .own 9 (G3 3)), (92, .ptr 5 (n0 + 3) 0 1), (94, .own 94 (G3 6)), (95, .own 32 (G3 7)), (96, .ptr 5 (n0 + 3) 0 2), (98, .r (.sl (change1.map GAttr.row))), (99, .own 99 (G3 11)), (100, .own 36 (G3 12)), (101, .ptr 5 (n0 + 3) 0 0)], [(3, some (.box n0 34 [.r (.sl (a1.Adds.map (rSl GElem.row))), .r (.sl (a1.Cuts.map rBool)), .r (.sl (a1.Attrs.map (rSl GAttr.row)))])), (4, some (.box (n0 + 1) 34 [.cst (.slice none 0 0), .cst (.slice none 0 0), .cst (.slice none 0 0)])), (5, some (.box (n0 + 3) 34 [.own 9 (i15 0), .own 32 (i15 1), .own 36 (i15 2)])), (9, some (.arr (G3 3) 39 1 (l3.map (rSl GElem.row)))), (32, some (.arr (G3 7) 4 1 (l4.map rBool))), (36, some (.arr (G3 12) 47 1 (l5.map (rSl GAttr.row)))), (90, some (.arr (G3 2) 39 1 ([[]].map (rSl GElem.row)))), (94, some (.arr (G3 6) 4 1 ([false].map rBool))), (99, some (.arr (G3 11) 47 1 ([change1].map (rSl GAttr.row))))], n3, 105⟩) (by exact Weak.cv ⟨.inl (.inl rfl), .inl (.inl rfl), .inl (.inl rfl), .inl (.inl rfl), .inl (.inl rfl), .inl (.inl rfl), .inl (.inl rfl), .inl (.inl rfl), .inl (.inl rfl), .inl (.inl rfl), .inl (.inl rfl), .inl (.inl rfl), .inl (.inl rfl), .inl (.inl rfl), .inl (.inl rfl), .inl (.inl rfl), .inl (.inl rfl), trivial⟩ ⟨.inl rfl, .inl rfl, .inl rfl, .inl rfl, .inl rfl, .inl rfl, .inl rfl, .inl rfl, .inl rfl, trivial⟩ (Nat.le_refl _)) ?_
          refine AOps.step0 rfl rfl (ms_store_box (ds := [.own 9 (G3 3), .own 32 (i15 1), .own 36 (i15 2)]) rfl tz_30 (.inl rfl) rfl (.inl rfl) rfl rfl rfl rfl) ?_
          refine AOps.step rfl rfl rfl (OpQ.spec (sp_fieldAddr_own (ob := .box _ _ _) rfl tf_34_1 (.inl rfl) (fun _ => rfl) rfl) _) ?_
          refine AOps.step0 rfl rfl (ms_store_box (ds := [.own 9 (G3 3), .own 32 (G3 7), .own 36 (i15 2)]) rfl tz_31 (.inl rfl) rfl (.inl rfl) rfl rfl rfl rfl) ?_
          refine AOps.step rfl rfl rfl (OpQ.spec (sp_fieldAddr_own (ob := .box _ _ _) rfl tf_34_2 (.inl rfl) (fun _ => rfl) rfl) _) ?_
          refine AOps.step0 rfl rfl (ms_store_box (ds := [.own 9 (G3 3), .own 32 (G3 7), .own 36 (G3 12)]) rfl tz_32 (.inl rfl) rfl (.inl rfl) rfl rfl rfl rfl) ?_
          refine AOps.nil ?_
          exact wK8 _ _ ((by exact Weak.cv ⟨.inl (.inl rfl), .inl (.inl rfl), .inl (.inl rfl), .inl (.inl rfl), .inl (.inl rfl), trivial⟩ ⟨.inl rfl, .inl rfl, .inl rfl, .inl rfl, .inl rfl, .inl rfl, trivial⟩ (Nat.le_refl _))) (J2 _ (vec [(G3 3), (G3 7), (G3 12), n3]) (Option.some.inj h22).symm)
    refine AW.iter2 (fun (x3 : Int) (out7 : Ref_Act) i13 => ⟨[(0, .r (.sl (f1.map GElem.row))), (3, .ptr 3 n0 0 0), (4, .ptr 4 (n0 + 1) 0 0), (5, .ptr 5 (n0 + 3) 0 0), (6, .r (.int .i64 i4)), (22, .r (.int .i64 (x1.length : Int))), (23, .r (.int .i64 x3))], [(3, some (.box n0 34 [.r (.sl (a1.Adds.map (rSl GElem.row))), .r (.sl (a1.Cuts.map rBool)), .r (.sl (a1.Attrs.map (rSl GAttr.row)))])), (4, some (.box (n0 + 1) 34 [.cst (.slice none 0 0), .cst (.slice none 0 0), .cst (.slice none 0 0)])), (5, some (.box (n0 + 3) 34 [.own 9 (i13 0), .own 32 (i13 1), .own 36 (i13 2)])), (9, some (.arr (i13 0) 39 1 (out7.Adds.map (rSl GElem.row)))), (32, some (.arr (i13 1) 4 1 (out7.Cuts.map rBool))), (36, some (.arr (i13 2) 47 1 (out7.Attrs.map (rSl GAttr.row))))], (i13 3), 105⟩) (vec [(i5 0), (i5 1), (i5 2), (i5 3)]) hit2 ((by exact Weak.cv ⟨.inl (.inl rfl), .inl (.inl rfl), .inl (.inl rfl), .inl (.inl rfl), .inl (.inl rfl), .inl (.inl rfl), .inl (.inl rfl), trivial⟩ ⟨.inl rfl, .inl rfl, .inl rfl, .inl rfl, .inl rfl, .inl rfl, trivial⟩ (Nat.le_refl _))) ?_
    intro x3 out7 i13 v2 hv2 hx2
    have h23 : ref_Back_L2 x1 x3 out7 = some v2 := hv2; unfold ref_Back_L2 at h23
    refine AW.seq_w fun K18 hK18 wK18 => ?_
    refine AW.region ?_
    refine AOps.step rfl rfl rfl (OpQ.spec (sp_lss rfl (.inl rfl) (.inl rfl)) _) ?_
    refine AOps.nil ?_
    refine hK18 _ ?_
    refine AW.seq_w fun K19 hK19 wK19 => ?_
    refine AW.cond rfl (fun hc4 => ?_) (fun hc4 => ?_)
    · have h24 := ite_t hc4 h23
      refine AW.skip ?_
      refine hK19 _ ?_
      refine AW.seq_w fun K20 hK20 wK20 => ?_
      refine AW.block ?_
      refine ob1k h24 fun l6 el6 h25 => ?_
      refine ob1k h25 fun l7 el7 h26 => ?_
      refine ob1k h26 fun l8 el8 h27 => ?_
      refine AW.regionP 13 [⟨some 25, (fun _ => .ptr 5 (n0 + 3) 0 0), none, []⟩, ⟨some 26, (fun _ => .own 9 (i13 0)), none, []⟩, ⟨some 27, (fun G4 => .own 27 (G4 2)), some (27, (fun G4 => some (.arr (G4 2) 39 1 ([[]].map (rSl GElem.row))))), [2]⟩, ⟨some 28, (fun G4 => .own 9 (G4 3)), some (9, (fun G4 => some (.arr (G4 3) 39 1 (l6.map (rSl GElem.row))))), [3]⟩, ⟨some 29, (fun _ => .ptr 5 (n0 + 3) 0 1), none, []⟩, ⟨some 30, (fun _ => .own 32 (i13 1)), none, []⟩, ⟨some 31, (fun G4 => .own 31 (G4 6)), some (31, (fun G4 => some (.arr (G4 6) 4 1 ([true].map rBool)))), [6]⟩, ⟨some 32, (fun G4 => .own 32 (G4 7)), some (32, (fun G4 => some (.arr (G4 7) 4 1 (l7.map rBool)))), [7]⟩, ⟨some 33, (fun _ => .ptr 5 (n0 + 3) 0 2), none, []⟩, ⟨some 34, (fun _ => .own 36 (i13 2)), none, []⟩, ⟨some 35, (fun G4 => .own 35 (G4 10)), some (35, (fun G4 => some (.arr (G4 10) 47 1 ([[]].map (rSl GAttr.row))))), [10]⟩, ⟨some 36, (fun G4 => .own 36 (G4 11)), some (36, (fun G4 => some (.arr (G4 11) 47 1 (l8.map (rSl GAttr.row))))), [11]⟩, ⟨some 37, (fun _ => .ptr 5 (n0 + 3) 0 0), none, []⟩] hmix (by kernel_rfl) (by exact ⟨fun _ _ h => ⟨rfl, fun _ _ e => by cases e⟩, fun _ _ h => ⟨rfl, fun _ _ e => by cases e⟩, fun _ _ h => ⟨by simp only [h 2 rfl], fun _ _ e => by cases e; simp only [h 2 rfl]⟩, fun _ _ h => ⟨by simp only [h 3 rfl], fun _ _ e => by cases e; simp only [h 3 rfl]⟩, fun _ _ h => ⟨rfl, fun _ _ e => by cases e⟩, fun _ _ h => ⟨rfl, fun _ _ e => by cases e⟩, fun _ _ h => ⟨by simp only [h 6 rfl], fun _ _ e => by cases e; simp only [h 6 rfl]⟩, fun _ _ h => ⟨by simp only [h 7 rfl], fun _ _ e => by cases e; simp only [h 7 rfl]⟩, fun _ _ h => ⟨rfl, fun _ _ e => by cases e⟩, fun _ _ h => ⟨rfl, fun _ _ e => by cases e⟩, fun _ _ h => ⟨by simp only [h 10 rfl], fun _ _ e => by cases e; simp only [h 10 rfl]⟩, fun _ _ h => ⟨by simp only [h 11 rfl], fun _ _ e => by cases e; simp only [h 11 rfl]⟩, fun _ _ h => ⟨rfl, fun _ _ e => by cases e⟩, trivial⟩) rfl (by exact ⟨Ob.quiet (n1 := fun n => n) rfl rfl (by intro d h; cases h; rfl) rfl (fun _ => [(5, .ptr 5 (n0 + 3) 0 0)]) (fun _ => [(5, some (.box (n0 + 3) 34 [.own 9 (i13 0), .own 32 (i13 1), .own 36 (i13 2)]))]) (fun D G4 hr => ⟨inE_base rfl rfl, trivial⟩) (fun D G4 hr => ⟨inH_base rfl rfl, trivial⟩) (fun _ _ => rfl) (fun G4 e h' n => OpQ.spec (v := .ptr 5 (n0 + 3) 0 0) (sp_fieldAddr_own (ob := .box _ _ _) rfl tf_34_0 (.inl rfl) (fun _ => rfl) rfl) _),
          Ob.quiet (n1 := fun n => n) rfl rfl (by intro d h; cases h; rfl) rfl (fun _ => [(25, .ptr 5 (n0 + 3) 0 0)]) (fun _ => [(5, some (.box (n0 + 3) 34 [.own 9 (i13 0), .own 32 (i13 1), .own 36 (i13 2)]))]) (fun D G4 hr => ⟨inE_op hr 0 rfl rfl (by kernel_rfl) rfl rfl, trivial⟩) (fun D G4 hr => ⟨inH_base rfl rfl, trivial⟩) (fun _ _ => rfl) (fun G4 e h' n => OpQ.spec (v := .own 9 (i13 0)) (ms_load_box (a := .own 9 (i13 0)) rfl ts_30 (.inl rfl) rfl rfl) _),
          Ob.make (n1 := fun n => n + 1) rfl rfl (by intro d h; cases h; rfl) rfl (fun _ => []) (fun _ => []) (fun D G4 hr => trivial) (fun D G4 hr => trivial) (fun G4 e h' n => ms_lit 27 rfl tg_30 (f := (rSl GElem.row)) (l := ([[]] : List (List GElem))) ⟨rfl, ⟨_, (.inl rfl), rfl⟩, trivial⟩ rfl (fun _ => rfl) rfl),
          Ob.make (n1 := fun n => n + 1) rfl rfl (by intro d h; cases h; rfl) rfl (fun G4 => [(26, .own 9 (i13 0)), (27, .own 27 (G4 2))]) (fun G4 => [(9, some (.arr (i13 0) 39 1 (out7.Adds.map (rSl GElem.row)))), (27, some (.arr (G4 2) 39 1 ([[]].map (rSl GElem.row))))]) (fun D G4 hr => ⟨inE_op hr 1 rfl rfl (by kernel_rfl) rfl rfl, inE_op hr 2 rfl rfl (by kernel_rfl) rfl rfl, trivial⟩) (fun D G4 hr => ⟨inH_baseL hr (by kernel_rfl) rfl, inH_op hr 2 rfl rfl (by kernel_rfl) (by kernel_rfl) rfl, trivial⟩) (fun G4 e h' n => ms_app rfl tg_30 (.inl rfl) rfl (.inr (.inl ⟨_, _, (.inl rfl), rfl⟩)) el6),
          Ob.quiet (n1 := fun n => n) rfl rfl (by intro d h; cases h; rfl) rfl (fun _ => [(5, .ptr 5 (n0 + 3) 0 0)]) (fun _ => [(5, some (.box (n0 + 3) 34 [.own 9 (i13 0), .own 32 (i13 1), .own 36 (i13 2)]))]) (fun D G4 hr => ⟨inE_base rfl rfl, trivial⟩) (fun D G4 hr => ⟨inH_base rfl rfl, trivial⟩) (fun _ _ => rfl) (fun G4 e h' n => OpQ.spec (v := .ptr 5 (n0 + 3) 0 1) (sp_fieldAddr_own (ob := .box _ _ _) rfl tf_34_1 (.inl rfl) (fun _ => rfl) rfl) _),
          Ob.quiet (n1 := fun n => n) rfl rfl (by intro d h; cases h; rfl) rfl (fun _ => [(29, .ptr 5 (n0 + 3) 0 1)]) (fun _ => [(5, some (.box (n0 + 3) 34 [.own 9 (i13 0), .own 32 (i13 1), .own 36 (i13 2)]))]) (fun D G4 hr => ⟨inE_op hr 4 rfl rfl (by kernel_rfl) rfl rfl, trivial⟩) (fun D G4 hr => ⟨inH_base rfl rfl, trivial⟩) (fun _ _ => rfl) (fun G4 e h' n => OpQ.spec (v := .own 32 (i13 1)) (ms_load_box (a := .own 32 (i13 1)) rfl ts_31 (.inl rfl) rfl rfl) _),
          Ob.make (n1 := fun n => n + 1) rfl rfl (by intro d h; cases h; rfl) rfl (fun _ => []) (fun _ => []) (fun D G4 hr => trivial) (fun D G4 hr => trivial) (fun G4 e h' n => ms_lit 31 rfl tg_31 (f := rBool) (l := ([true] : List Bool)) ⟨rfl, ⟨_, (.inl rfl), rfl⟩, trivial⟩ rfl (fun _ => rfl) rfl),
          Ob.make (n1 := fun n => n + 1) rfl rfl (by intro d h; cases h; rfl) rfl (fun G4 => [(30, .own 32 (i13 1)), (31, .own 31 (G4 6))]) (fun G4 => [(31, some (.arr (G4 6) 4 1 ([true].map rBool))), (32, some (.arr (i13 1) 4 1 (out7.Cuts.map rBool)))]) (fun D G4 hr => ⟨inE_op hr 5 rfl rfl (by kernel_rfl) rfl rfl, inE_op hr 6 rfl rfl (by kernel_rfl) rfl rfl, trivial⟩) (fun D G4 hr => ⟨inH_op hr 6 rfl rfl (by kernel_rfl) (by kernel_rfl) rfl, inH_baseL hr (by kernel_rfl) rfl, trivial⟩) (fun G4 e h' n => ms_app rfl tg_31 (.inl rfl) rfl (.inr (.inl ⟨_, _, (.inl rfl), rfl⟩)) el7),
          Ob.quiet (n1 := fun n => n) rfl rfl (by intro d h; cases h; rfl) rfl (fun _ => [(5, .ptr 5 (n0 + 3) 0 0)]) (fun _ => [(5, some (.box (n0 + 3) 34 [.own 9 (i13 0), .own 32 (i13 1), .own 36 (i13 2)]))]) (fun D G4 hr => ⟨inE_base rfl rfl, trivial⟩) (fun D G4 hr => ⟨inH_base rfl rfl, trivial⟩) (fun _ _ => rfl) (fun G4 e h' n => OpQ.spec (v := .ptr 5 (n0 + 3) 0 2) (sp_fieldAddr_own (ob := .box _ _ _) rfl tf_34_2 (.inl rfl) (fun _ => rfl) rfl) _),
          Ob.quiet (n1 := fun n => n) rfl rfl (by intro d h; cases h; rfl) rfl (fun _ => [(33, .ptr 5 (n0 + 3) 0 2)]) (fun _ => [(5, some (.box (n0 + 3) 34 [.own 9 (i13 0), .own 32 (i13 1), .own 36 (i13 2)]))]) (fun D G4 hr => ⟨inE_op hr 8 rfl rfl (by kernel_rfl) rfl rfl, trivial⟩) (fun D G4 hr => ⟨inH_base rfl rfl, trivial⟩) (fun _ _ => rfl) (fun G4 e h' n => OpQ.spec (v := .own 36 (i13 2)) (ms_load_box (a := .own 36 (i13 2)) rfl ts_32 (.inl rfl) rfl rfl) _),
          Ob.make (n1 := fun n => n + 1) rfl rfl (by intro d h; cases h; rfl) rfl (fun _ => []) (fun _ => []) (fun D G4 hr => trivial) (fun D G4 hr => trivial) (fun G4 e h' n => ms_lit 35 rfl tg_32 (f := (rSl GAttr.row)) (l := ([[]] : List (List GAttr))) ⟨rfl, ⟨_, (.inl rfl), rfl⟩, trivial⟩ rfl (fun _ => rfl) rfl),
          Ob.make (n1 := fun n => n + 1) rfl rfl (by intro d h; cases h; rfl) rfl (fun G4 => [(34, .own 36 (i13 2)), (35, .own 35 (G4 10))]) (fun G4 => [(35, some (.arr (G4 10) 47 1 ([[]].map (rSl GAttr.row)))), (36, some (.arr (i13 2) 47 1 (out7.Attrs.map (rSl GAttr.row))))]) (fun D G4 hr => ⟨inE_op hr 9 rfl rfl (by kernel_rfl) rfl rfl, inE_op hr 10 rfl rfl (by kernel_rfl) rfl rfl, trivial⟩) (fun D G4 hr => ⟨inH_op hr 10 rfl rfl (by kernel_rfl) (by kernel_rfl) rfl, inH_baseL hr (by kernel_rfl) rfl, trivial⟩) (fun G4 e h' n => ms_app rfl tg_32 (.inl rfl) rfl (.inr (.inl ⟨_, _, (.inl rfl), rfl⟩)) el8),
          Ob.quiet (n1 := fun n => n) rfl rfl (by intro d h; cases h; rfl) rfl (fun _ => [(5, .ptr 5 (n0 + 3) 0 0)]) (fun _ => [(5, some (.box (n0 + 3) 34 [.own 9 (i13 0), .own 32 (i13 1), .own 36 (i13 2)]))]) (fun D G4 hr => ⟨inE_base rfl rfl, trivial⟩) (fun D G4 hr => ⟨inH_base rfl rfl, trivial⟩) (fun _ _ => rfl) (fun G4 e h' n => OpQ.spec (v := .ptr 5 (n0 + 3) 0 0) (sp_fieldAddr_own (ob := .box _ _ _) rfl tf_34_0 (.inl rfl) (fun _ => rfl) rfl) _),
          trivial⟩) fun G4 n4 => ?_
      refine AOps.weak (s' := ⟨[(0, .r (.sl (f1.map GElem.row))), (3, .ptr 3 n0 0 0), (4, .ptr 4 (n0 + 1) 0 0), (5, .ptr 5 (n0 + 3) 0 0), (6, .r (.int .i64 i4)), (22, .r (.int .i64 (x1.length : Int))), (23, .r (.int .i64 x3)), (24, .r (.bool (decide (x3 < (x1.length : Int))))), (25, .ptr 5 (n0 + 3) 0 0), (27, .own 27 (G4 2)), (28, .own 9 (G4 3)), (29, .ptr 5 (n0 + 3) 0 1), (31, .own 31 (G4 6)), (32, .own 32 (G4 7)), (33, .ptr 5 (n0 + 3) 0 2), (35, .own 35 (G4 10)), (36, .own 36 (G4 11)), (37, .ptr 5 (n0 + 3) 0 0)], [(3, some (.box n0 34 [.r (.sl (a1.Adds.map (rSl GElem.row))), .r (.sl (a1.Cuts.map rBool)), .r (.sl (a1.Attrs.map (rSl GAttr.row)))])), (4, some (.box (n0 + 1) 34 [.cst (.slice none 0 0), .cst (.slice none 0 0), .cst (.slice none 0 0)])), (5, some (.box (n0 + 3) 34 [.own 9 (i13 0), .own 32 (i13 1), .own 36 (i13 2)])), (9, some (.arr (G4 3) 39 1 (l6.map (rSl GElem.row)))), (27, some (.arr (G4 2) 39 1 ([[]].map (rSl GElem.row)))), (31, some (.arr (G4 6) 4 1 ([true].map rBool))), (32, some (.arr (G4 7) 4 1 (l7.map rBool))), (35, some (.arr (G4 10) 47 1 ([[]].map (rSl GAttr.row)))), (36, some (.arr (G4 11) 47 1 (l8.map (rSl GAttr.row))))], n4, 105⟩) (by exact Weak.cv ⟨.inl (.inl rfl), .inl (.inl rfl), .inl (.inl rfl), .inl (.inl rfl), .inl (.inl rfl), .inl (.inl rfl), .inl (.inl rfl), .inl (.inl rfl), .inl (.inl rfl), .inl (.inl rfl), .inl (.inl rfl), .inl (.inl rfl), .inl (.inl rfl), .inl (.inl rfl), .inl (.inl rfl), .inl (.inl rfl), .inl (.inl rfl), .inl (.inl rfl), trivial⟩ ⟨.inl rfl, .inl rfl, .inl rfl, .inl rfl, .inl rfl, .inl rfl, .inl rfl, .inl rfl, .inl rfl, trivial⟩ (Nat.le_refl _)) ?_
      refine AOps.step0 rfl rfl (ms_store_box (ds := [.own 9 (G4 3), .own 32 (i13 1), .own 36 (i13 2)]) rfl tz_30 (.inl rfl) rfl (.inl rfl) rfl rfl rfl rfl) ?_
      refine AOps.step rfl rfl rfl (OpQ.spec (sp_fieldAddr_own (ob := .box _ _ _) rfl tf_34_1 (.inl rfl) (fun _ => rfl) rfl) _) ?_
      refine AOps.step0 rfl rfl (ms_store_box (ds := [.own 9 (G4 3), .own 32 (G4 7), .own 36 (i13 2)]) rfl tz_31 (.inl rfl) rfl (.inl rfl) rfl rfl rfl rfl) ?_
      refine AOps.step rfl rfl rfl (OpQ.spec (sp_fieldAddr_own (ob := .box _ _ _) rfl tf_34_2 (.inl rfl) (fun _ => rfl) rfl) _) ?_
      refine AOps.step0 rfl rfl (ms_store_box (ds := [.own 9 (G4 3), .own 32 (G4 7), .own 36 (G4 11)]) rfl tz_32 (.inl rfl) rfl (.inl rfl) rfl rfl rfl rfl) ?_
      refine AOps.nil ?_
      refine hK20 _ ?_
      refine AW.weak (s' := ⟨[(0, .r (.sl (f1.map GElem.row))), (3, .ptr 3 n0 0 0), (4, .ptr 4 (n0 + 1) 0 0), (5, .ptr 5 (n0 + 3) 0 0), (6, .r (.int .i64 i4)), (22, .r (.int .i64 (x1.length : Int))), (23, .r (.int .i64 x3))], [(3, some (.box n0 34 [.r (.sl (a1.Adds.map (rSl GElem.row))), .r (.sl (a1.Cuts.map rBool)), .r (.sl (a1.Attrs.map (rSl GAttr.row)))])), (4, some (.box (n0 + 1) 34 [.cst (.slice none 0 0), .cst (.slice none 0 0), .cst (.slice none 0 0)])), (5, some (.box (n0 + 3) 34 [.own 9 (G4 3), .own 32 (G4 7), .own 36 (G4 11)])), (9, some (.arr (G4 3) 39 1 (l6.map (rSl GElem.row)))), (32, some (.arr (G4 7) 4 1 (l7.map rBool))), (36, some (.arr (G4 11) 47 1 (l8.map (rSl GAttr.row))))], n4, 105⟩) (by exact Weak.cv ⟨.inl (.inl rfl), .inl (.inl rfl), .inl (.inl rfl), .inl (.inl rfl), .inl (.inl rfl), .inl (.inl rfl), .inl (.inl rfl), trivial⟩ ⟨.inl rfl, .inl rfl, .inl rfl, .inl rfl, .inl rfl, .inl rfl, trivial⟩ (Nat.le_refl _)) ?_
      refine AW.region ?_
      refine ob1k h27 fun x10 ex10 h28 => ?_
      refine AOps.step rfl rfl rfl (OpQ.spec (ms_add rfl (.inl rfl) (.inl rfl) (fun _ => ex10)) _) ?_
      refine AOps.step rfl rfl rfl (OpQ.spec (sp_move rfl (.inl rfl)) _) ?_
      refine AOps.nil ?_
      exact NextQ2.mk h28 (vec [(G4 3), (G4 7), (G4 11), n4]) ((by exact Weak.cv ⟨.inl (.inl rfl), .inl (.inl rfl), .inl (.inl rfl), .inl (.inl rfl), .inl (.inl rfl), .inl (.inl rfl), .inl (.inl rfl), trivial⟩ ⟨.inl rfl, .inl rfl, .inl rfl, .inl rfl, .inl rfl, .inl rfl, trivial⟩ (Nat.le_refl _)))
    · have h24 := ite_f hc4 h23
      refine AW.exit ?_
      exact wK9 _ _ ((by exact Weak.cv ⟨.inl (.inl rfl), .inl (.inl rfl), .inl (.inl rfl), .inl (.inl rfl), .inl (.inl rfl), trivial⟩ ⟨.inl rfl, .inl rfl, .inl rfl, .inl rfl, .inl rfl, .inl rfl, trivial⟩ (Nat.le_refl _))) (J3 _ (vec [(i13 0), (i13 1), (i13 2), (i13 3)]) (hx2 _ (Option.some.inj h24).symm))
  · have h3 := ite_f hc1 h2
    refine AW.exit ?_
    exact wK3 _ _ ((by exact Weak.cv ⟨.inl (.inl rfl), .inl (.inl rfl), trivial⟩ ⟨.inl rfl, .inl rfl, .inl rfl, .inl rfl, .inl rfl, trivial⟩ (Nat.le_refl _))) (J1 _ (vec [(i5 0), (i5 1), (i5 2), (i5 3)]) (hx1 _ (Option.some.inj h3).symm))
set_option maxHeartbeats 4000000 in
set_option maxRecDepth 20000 in
theorem w_ref_DeltaOf {a1 : Ref_Act} {r : (List GStep)} (h : ref_DeltaOf a1 = some r) : ARO Try.prog 32 [.agg [.r (.sl (a1.Adds.map (rSl GElem.row))), .r (.sl (a1.Cuts.map rBool)), .r (.sl (a1.Attrs.map (rSl GAttr.row)))]] (.r (.sl (r.map GStep.row))) := by
  unfold ref_DeltaOf at h
  refine ARO.mkF Try.func32 rfl rfl Try.ntmps32 rfl (Nat.le_of_ble_eq_true rfl) fun n0 => ?_
  refine AW.seq_w fun K1 hK1 wK1 => ?_
  refine AW.region ?_
  refine AOps.step rfl rfl rfl (ms_box (cs := [.r (.sl (a1.Adds.map (rSl GElem.row))), .r (.sl (a1.Cuts.map rBool)), .r (.sl (a1.Attrs.map (rSl GAttr.row)))]) 1 rfl (.inl rfl) rfl rfl) ?_
  refine AOps.step rfl rfl rfl (OpQ.spec (sp_assign rfl (.inl rfl)) _) ?_
  refine AOps.nil ?_
  refine hK1 _ ?_
  refine AW.seq_w fun K2 hK2 wK2 => ?_
  refine AW.region ?_
  refine AOps.step rfl rfl rfl (OpQ.spec (sp_assign rfl (.inl rfl)) _) ?_
  refine AOps.nil ?_
  refine hK2 _ ?_
  refine AW.seq_w fun K3 hK3 wK3 => ?_
  refine AW.region ?_
  refine AOps.step rfl rfl rfl (OpQ.spec (sp_assign rfl (.inl rfl)) _) ?_
  refine AOps.nil ?_
  refine hK3 _ ?_
  refine AW.seq_w fun K4 hK4 wK4 => ?_
  refine AW.region ?_
  refine AOps.step rfl rfl rfl (OpQ.spec (sp_assign rfl (.inl rfl)) _) ?_
  refine AOps.nil ?_
  refine hK4 _ ?_
  refine AW.seq_w fun K5 hK5 wK5 => ?_
  refine AW.seq_w fun K6 hK6 wK6 => ?_
  refine AW.region ?_
  refine AOps.step rfl rfl rfl (OpQ.spec (sp_assign rfl (.inl rfl)) _) ?_
  refine AOps.nil ?_
  refine hK6 _ ?_
  refine AW.block ?_
  refine jb1k h fun o1 hit1 hk1 => ?_
  have J1 : ∀ (out4 : List GStep) (i8 : Nat → Nat), o1 = out4 → K5 ⟨[(3, .own 5003 (i8 0))], [(5003, some (.arr (i8 0) 49 4 (out4.map GStep.row)))], (i8 1), 100⟩ := by
    intro out4 i8 e
    have h1 := hk1 _ e
    refine hK5 _ ?_
    refine AW.seq_w fun K7 hK7 wK7 => ?_
    refine AW.region ?_
    refine AOps.step rfl rfl rfl (OpQ.spec (sp_move rfl (.inl rfl)) _) ?_
    refine AOps.step rfl rfl rfl (OpQ.spec (sp_assign rfl (.inl rfl)) _) ?_
    refine AOps.nil ?_
    refine hK7 _ ?_
    refine AW.ret ?_
    exact retf1 (P := Try.prog) (fun (r : (List GStep)) => .r (.sl (r.map GStep.row))) h1 (.inl rfl) (.t (.one (.own rfl)))
  refine AW.iter4 (fun (cuts2 : Int) (i4 : Int) (out2 : List GStep) (adds2 : List GElem) i5 => ⟨[(1, .ptr 1 n0 0 0), (3, .own 5003 (i5 0)), (4, .own 5004 (i5 1)), (5, .r (.int .i64 cuts2)), (6, .r (.int .i64 i4))], [(1, some (.box n0 34 [.r (.sl (a1.Adds.map (rSl GElem.row))), .r (.sl (a1.Cuts.map rBool)), .r (.sl (a1.Attrs.map (rSl GAttr.row)))])), (5003, some (.arr (i5 0) 49 4 (out2.map GStep.row))), (5004, some (.arr (i5 1) 113 3 (adds2.map GElem.row)))], (i5 2), 100⟩) (vec [(n0 + 1), (n0 + 2), (n0 + 3)]) hit1 (Weak.trans (Weak.trans (Weak.adopt 3 5003 49 4 (by decide) rfl) (by exact Weak.cv (e' := [(0, .agg [.r (.sl (a1.Adds.map (rSl GElem.row))), .r (.sl (a1.Cuts.map rBool)), .r (.sl (a1.Attrs.map (rSl GAttr.row)))]), (1, .ptr 1 n0 0 0), (2, .cst (.slice none 0 0)), (3, .own 5003 (n0 + 1)), (4, .cst (.slice none 0 0)), (5, .r (.int .i64 0)), (6, .r (.int .i64 0))]) (h' := [(1, some (.box n0 34 [.r (.sl (a1.Adds.map (rSl GElem.row))), .r (.sl (a1.Cuts.map rBool)), .r (.sl (a1.Attrs.map (rSl GAttr.row)))])), (5003, some (.arr (n0 + 1) 49 4 (([] : List GStep).map GStep.row)))]) ⟨.inl (.inl rfl), .inl (.inl rfl), .inl (.inl rfl), .inl (.inl rfl), .inl (.inl rfl), .inl (.inl rfl), .inl (.inl rfl), trivial⟩ ⟨.inl rfl, .inl rfl, trivial⟩ (Nat.le_refl _))) (Weak.trans (Weak.trans (Weak.adopt 4 5004 113 3 (by decide) rfl) (by exact Weak.cv (e' := [(0, .agg [.r (.sl (a1.Adds.map (rSl GElem.row))), .r (.sl (a1.Cuts.map rBool)), .r (.sl (a1.Attrs.map (rSl GAttr.row)))]), (1, .ptr 1 n0 0 0), (2, .cst (.slice none 0 0)), (3, .own 5003 (n0 + 1)), (4, .own 5004 (n0 + 2)), (5, .r (.int .i64 0)), (6, .r (.int .i64 0))]) (h' := [(1, some (.box n0 34 [.r (.sl (a1.Adds.map (rSl GElem.row))), .r (.sl (a1.Cuts.map rBool)), .r (.sl (a1.Attrs.map (rSl GAttr.row)))])), (5003, some (.arr (n0 + 1) 49 4 (([] : List GStep).map GStep.row))), (5004, some (.arr (n0 + 2) 113 3 (([] : List GElem).map GElem.row)))]) ⟨.inl (.inl rfl), .inl (.inl rfl), .inl (.inl rfl), .inl (.inl rfl), .inl (.inl rfl), .inl (.inl rfl), .inl (.inl rfl), trivial⟩ ⟨.inl rfl, .inl rfl, .inl rfl, trivial⟩ (Nat.le_refl _))) (by exact Weak.cv ⟨.inl (.inl rfl), .inl (.inl rfl), .inl (.inl rfl), .inl (.inl rfl), .inl (.inl rfl), trivial⟩ ⟨.inl rfl, .inl rfl, .inl rfl, trivial⟩ (Nat.le_refl _)))) ?_
  intro cuts2 i4 out2 adds2 i5 v1 hv1 hx1
  have h2 : ref_DeltaOf_L1 a1 cuts2 i4 out2 adds2 = some v1 := hv1; unfold ref_DeltaOf_L1 at h2
  refine AW.seq_w fun K8 hK8 wK8 => ?_
  refine AW.seq_w fun K9 hK9 wK9 => ?_
  refine AW.region ?_
  refine AOps.step rfl rfl rfl (OpQ.spec (sp_move rfl (.inl rfl)) _) ?_
  refine AOps.step rfl rfl rfl (OpQ.spec (sp_fieldAddr_own (ob := .box _ _ _) rfl tf_34_1 (.inl rfl) (fun _ => rfl) rfl) _) ?_
  refine AOps.step rfl rfl rfl (OpQ.spec (ms_load_box (a := .r (.sl (a1.Cuts.map rBool))) rfl ts_31 (.inl rfl) rfl rfl) _) ?_
  refine AOps.step rfl rfl rfl (OpQ.spec (ms_len rfl tg_31.slice (.inl rfl)) _) ?_
  refine AOps.step rfl rfl rfl (OpQ.spec (sp_leq rfl (.inl rfl) (.inl rfl)) _) ?_
  refine AOps.nil ?_
  refine hK9 _ ?_
  refine AW.cond rfl (fun hc1 => ?_) (fun hc1 => ?_)
  · have h3 := ite_t hc1 h2
    refine AW.skip ?_
    refine hK8 _ ?_
    refine AW.seq_w fun K10 hK10 wK10 => ?_
    refine AW.block ?_
    refine jc3k h3 fun p1 hp1 hk2 he2 => ?_
    have J2 : ∀ (cuts4 : Int) (out5 : List GStep) (adds4 : List GElem) (i9 : Nat → Nat), p1 = .nrm (cuts4, out5, adds4) → K10 ⟨[(1, .ptr 1 n0 0 0), (3, .own 5003 (i9 0)), (4, .own 5004 (i9 1)), (5, .r (.int .i64 cuts4)), (6, .r (.int .i64 i4))], [(1, some (.box n0 34 [.r (.sl (a1.Adds.map (rSl GElem.row))), .r (.sl (a1.Cuts.map rBool)), .r (.sl (a1.Attrs.map (rSl GAttr.row)))])), (5003, some (.arr (i9 0) 49 4 (out5.map GStep.row))), (5004, some (.arr (i9 1) 113 3 (adds4.map GElem.row)))], (i9 2), 100⟩ := by
      intro cuts4 out5 adds4 i9 e
      have h4 := hk2 _ _ _ e
      refine hK10 _ ?_
      refine AW.region ?_
      refine AOps.step rfl rfl rfl (OpQ.spec (sp_move rfl (.inl rfl)) _) ?_
      refine ob1k h4 fun i10 ei10 h5 => ?_
      refine AOps.step rfl rfl rfl (OpQ.spec (ms_add rfl (.inl rfl) (.inl rfl) (fun _ => ei10)) _) ?_
      refine AOps.step rfl rfl rfl (OpQ.spec (sp_assign rfl (.inl rfl)) _) ?_
      refine AOps.nil ?_
      exact NextQ4.mk h5 (vec [(i9 0), (i9 1), (i9 2)]) ((by exact Weak.cv ⟨.inl (.inl rfl), .inl (.inl rfl), .inl (.inl rfl), .inl (.inl rfl), .inl (.inl rfl), trivial⟩ ⟨.inl rfl, .inl rfl, .inl rfl, trivial⟩ (Nat.le_refl _)))
    refine AW.seq_w fun K11 hK11 wK11 => ?_
    refine AW.region ?_
    refine AOps.step rfl rfl rfl (OpQ.spec (sp_move rfl (.inl rfl)) _) ?_
    refine AOps.step rfl rfl rfl (OpQ.spec (sp_fieldAddr_own (ob := .box _ _ _) rfl tf_34_0 (.inl rfl) (fun _ => rfl) rfl) _) ?_
    refine AOps.step rfl rfl rfl (OpQ.spec (ms_load_box (a := .r (.sl (a1.Adds.map (rSl GElem.row)))) rfl ts_30 (.inl rfl) rfl rfl) _) ?_
    refine AOps.step rfl rfl rfl (OpQ.spec (sp_move rfl (.inl rfl)) _) ?_
    refine ob1k hp1 fun x1 ex1 h6 => ?_
    refine AOps.step rfl rfl rfl (OpQ.spec (ms_idx rfl tg_30.slice (.inl rfl) (.inl rfl) (fun _ => rfl) (fun _ => ex1)) _) ?_
    refine AOps.step rfl rfl rfl (OpQ.spec (ms_load (d := .sl (x1.map GElem.row)) rfl ts_39 (.inl rfl) rfl) _) ?_
    refine ob1k h6 fun adds5 eadds5 h7 => ?_
    refine AOps.step rfl rfl rfl (ms_app rfl tg_39 (.inl rfl) rfl (.inl ⟨(.inl rfl), fun _ => rfl⟩) eadds5) ?_
    refine AOps.step rfl rfl rfl (OpQ.spec (sp_assign rfl (.inl rfl)) _) ?_
    refine AOps.nil ?_
    refine hK11 _ ?_
    refine AW.seq_w fun K12 hK12 wK12 => ?_
    refine AW.seq_w fun K13 hK13 wK13 => ?_
    refine AW.weak (s' := ⟨[(1, .ptr 1 n0 0 0), (3, .own 5003 (i5 0)), (4, .own 5004 (i5 2)), (5, .r (.int .i64 cuts2)), (6, .r (.int .i64 i4))], [(1, some (.box n0 34 [.r (.sl (a1.Adds.map (rSl GElem.row))), .r (.sl (a1.Cuts.map rBool)), .r (.sl (a1.Attrs.map (rSl GAttr.row)))])), (5003, some (.arr (i5 0) 49 4 (out2.map GStep.row))), (5004, some (.arr (i5 2) 113 3 (adds5.map GElem.row)))], ((i5 2) + 1), 100⟩) (by exact Weak.cv ⟨.inl (.inl rfl), .inl (.inl rfl), .inl (.inl rfl), .inl (.inl rfl), .inl (.inl rfl), trivial⟩ ⟨.inl rfl, .inl rfl, .inl rfl, trivial⟩ (Nat.le_refl _)) ?_
    refine AW.region ?_
    refine AOps.step rfl rfl rfl (OpQ.spec (sp_move rfl (.inl rfl)) _) ?_
    refine AOps.step rfl rfl rfl (OpQ.spec (sp_fieldAddr_own (ob := .box _ _ _) rfl tf_34_1 (.inl rfl) (fun _ => rfl) rfl) _) ?_
    refine AOps.step rfl rfl rfl (OpQ.spec (ms_load_box (a := .r (.sl (a1.Cuts.map rBool))) rfl ts_31 (.inl rfl) rfl rfl) _) ?_
    refine AOps.step rfl rfl rfl (OpQ.spec (ms_len rfl tg_31.slice (.inl rfl)) _) ?_
    refine AOps.step rfl rfl rfl (OpQ.spec (sp_lss rfl (.inl rfl) (.inl rfl)) _) ?_
    refine AOps.step rfl rfl rfl (OpQ.spec (sp_move rfl (.inl rfl)) _) ?_
    refine AOps.stepW (.one rfl rfl rfl) rfl rfl (OpQ.spec (sp_fieldAddr_own (ob := .box _ _ _) rfl tf_34_1 (.inl rfl) (fun _ => rfl) rfl) _) ?_
    refine AOps.stepW (.one rfl rfl rfl) rfl rfl (OpQ.spec (ms_load_box (a := .r (.sl (a1.Cuts.map rBool))) rfl ts_31 (.inr ⟨_, (by exact id), rfl⟩) rfl rfl) _) ?_
    refine AOps.stepW (.one rfl rfl rfl) rfl rfl (OpQ.spec (sp_move rfl (.inl rfl)) _) ?_
    refine ob1k h7 fun x2 ex2 h8 => ?_
    refine AOps.stepW (.one rfl rfl rfl) rfl rfl (OpQ.spec (ms_idx rfl tg_31.slice (.inr ⟨_, (by exact id), rfl⟩) (.inr ⟨_, (by exact id), rfl⟩) (fun _ => rfl) (gdt ex2)) _) ?_
    refine AOps.stepW (.one rfl rfl rfl) rfl rfl (OpQ.spec (ms_load (d := .bool x2) rfl ts_4 (.inr ⟨_, (by exact id), rfl⟩) rfl) _) ?_
    refine AOps.step rfl rfl rfl (OpQ.spec (sp_and rfl (.inl rfl) (.inr ⟨_, (by exact id), rfl⟩)) _) ?_
    refine AOps.nil ?_
    refine hK13 _ ?_
    refine AW.cond rfl (fun hc2 => ?_) (fun hc2 => ?_)
    · have h9 := ite_t hc2 h8
      refine AW.seq_w fun K14 hK14 wK14 => ?_
      refine AW.region ?_
      refine AOps.step rfl rfl rfl (OpQ.spec (sp_move rfl (.inl rfl)) _) ?_
      refine ob1k h9 fun cuts5 ecuts5 h10 => ?_
      refine AOps.step rfl rfl rfl (OpQ.spec (ms_add rfl (.inl rfl) (.inl rfl) (fun _ => ecuts5)) _) ?_
      refine AOps.step rfl rfl rfl (OpQ.spec (sp_assign rfl (.inl rfl)) _) ?_
      refine AOps.nil ?_
      refine hK14 _ ?_
      refine AW.exit ?_
      exact wK10 _ _ ((by exact Weak.cv ⟨.inl (.inl rfl), .inl (.inl rfl), .inl (.inl rfl), .inl (.inl rfl), .inl (.inl rfl), trivial⟩ ⟨.inl rfl, .inl rfl, .inl rfl, trivial⟩ (Nat.le_refl _))) (J2 _ _ _ (vec [(i5 0), (i5 2), ((i5 2) + 1)]) (Option.some.inj h10).symm)
    · have h9 := ite_f hc2 h8
      refine AW.skip ?_
      refine hK12 _ ?_
      refine AW.seq_w fun K15 hK15 wK15 => ?_
      refine AW.seq_w fun K16 hK16 wK16 => ?_
      refine AW.region ?_
      refine AOps.step rfl rfl rfl (OpQ.spec (sp_move rfl (.inl rfl)) _) ?_
      refine AOps.step rfl rfl rfl (OpQ.spec (ms_len_own rfl tg_39.slice (.inl rfl) rfl) _) ?_
      refine AOps.step rfl rfl rfl (OpQ.spec (sp_gtr rfl (.inl rfl) (.inl rfl)) _) ?_
      refine AOps.nil ?_
      refine hK16 _ ?_
      refine jb1k h9 fun p2 hp2 hk3 => ?_
      have J3 : ∀ (out6 : List GStep) (i11 : Nat → Nat), p2 = out6 → K15 ⟨[(1, .ptr 1 n0 0 0), (3, .own 5003 (i11 0)), (5, .r (.int .i64 cuts2)), (6, .r (.int .i64 i4))], [(1, some (.box n0 34 [.r (.sl (a1.Adds.map (rSl GElem.row))), .r (.sl (a1.Cuts.map rBool)), .r (.sl (a1.Attrs.map (rSl GAttr.row)))])), (5003, some (.arr (i11 0) 49 4 (out6.map GStep.row)))], (i11 1), 100⟩ := by
        intro out6 i11 e
        have h11 := hk3 _ e
        refine hK15 _ ?_
        refine AW.seq_w fun K17 hK17 wK17 => ?_
        refine AW.seq_w fun K18 hK18 wK18 => ?_
        refine AW.region ?_
        refine AOps.step rfl rfl rfl (OpQ.spec (sp_move rfl (.inl rfl)) _) ?_
        refine AOps.step rfl rfl rfl (OpQ.spec (sp_gtr rfl (.inl rfl) (.inl rfl)) _) ?_
        refine AOps.nil ?_
        refine hK18 _ ?_
        refine jb1k h11 fun p3 hp3 hk4 => ?_
        have J4 : ∀ (out7 : List GStep) (i12 : Nat → Nat), p3 = out7 → K17 ⟨[(1, .ptr 1 n0 0 0), (3, .own 5003 (i12 0)), (6, .r (.int .i64 i4))], [(1, some (.box n0 34 [.r (.sl (a1.Adds.map (rSl GElem.row))), .r (.sl (a1.Cuts.map rBool)), .r (.sl (a1.Attrs.map (rSl GAttr.row)))])), (5003, some (.arr (i12 0) 49 4 (out7.map GStep.row)))], (i12 1), 100⟩ := by
          intro out7 i12 e
          have h12 := hk4 _ e
          refine hK17 _ ?_
          refine AW.seq_w fun K19 hK19 wK19 => ?_
          refine AW.region ?_
          refine AOps.step rfl rfl rfl (OpQ.spec (sp_assign rfl (.inl rfl)) _) ?_
          refine AOps.step rfl rfl rfl (OpQ.spec (sp_assign rfl (.inl rfl)) _) ?_
          refine AOps.nil ?_
          refine hK19 _ ?_
          refine AW.seq_w fun K20 hK20 wK20 => ?_
          refine AW.seq_w fun K21 hK21 wK21 => ?_
          refine AW.region ?_
          refine AOps.step rfl rfl rfl (OpQ.spec (sp_move rfl (.inl rfl)) _) ?_
          refine AOps.step rfl rfl rfl (OpQ.spec (sp_fieldAddr_own (ob := .box _ _ _) rfl tf_34_1 (.inl rfl) (fun _ => rfl) rfl) _) ?_
          refine AOps.step rfl rfl rfl (OpQ.spec (ms_load_box (a := .r (.sl (a1.Cuts.map rBool))) rfl ts_31 (.inl rfl) rfl rfl) _) ?_
          refine AOps.step rfl rfl rfl (OpQ.spec (ms_len rfl tg_31.slice (.inl rfl)) _) ?_
          refine AOps.step rfl rfl rfl (OpQ.spec (sp_eql rfl (.inl rfl) (.inl rfl)) _) ?_
          refine AOps.nil ?_
          refine hK21 _ ?_
          refine AW.cond rfl (fun hc3 => ?_) (fun hc3 => ?_)
          · have h13 := ite_t hc3 h12
            refine AW.exit ?_
            exact wK5 _ _ ((by exact Weak.cv ⟨.inl (.inl rfl), trivial⟩ ⟨.inl rfl, trivial⟩ (Nat.le_refl _))) (J1 _ (vec [(i12 0), (i12 1)]) (hx1 _ (Option.some.inj (he2 _ (Option.some.inj h13).symm)).symm))
          · have h13 := ite_f hc3 h12
            refine AW.skip ?_
            refine hK20 _ ?_
            refine AW.seq_w fun K22 hK22 wK22 => ?_
            refine AW.region ?_
            refine AOps.step rfl rfl rfl (OpQ.spec (sp_move rfl (.inl rfl)) _) ?_
            refine AOps.step rfl rfl rfl (OpQ.spec (ms_len_own rfl tg_42.slice (.inl rfl) rfl) _) ?_
            refine ob1k h13 fun k1 ek1 h14 => ?_
            refine AOps.step rfl rfl rfl (OpQ.spec (ms_sub rfl (.inl rfl) (.inl rfl) (fun _ => ek1)) _) ?_
            refine AOps.step rfl rfl rfl (OpQ.spec (sp_assign rfl (.inl rfl)) _) ?_
            refine AOps.nil ?_
            refine hK22 _ ?_
            refine AW.seq_w fun K23 hK23 wK23 => ?_
            refine AW.regionQ hmix (by kernel_rfl) ?_
            refine AQ.step rfl rfl rfl (sp_move rfl (.inl rfl)) ?_
            refine AQ.step rfl rfl rfl (sp_geq rfl (.inl rfl) (.inl rfl)) ?_
            refine AQ.step rfl rfl rfl (sp_move rfl (.inl rfl)) ?_
            refine AQ.stepW (.one rfl rfl rfl) rfl rfl (sp_move rfl (.inl rfl)) ?_
            refine AQ.stepW (.one rfl rfl rfl) rfl rfl (sp_move rfl (.inl rfl)) ?_
            refine ob1k h14 fun x3 ex3 h15 => ?_
            refine AQ.stepW (.one rfl rfl rfl) rfl rfl (ms_idx_own rfl tg_42.slice (.inr ⟨_, (by exact id), rfl⟩) rfl (.inr ⟨_, (by exact id), rfl⟩) (gdt ex3)) ?_
            refine AQ.stepW (.one rfl rfl rfl) rfl rfl (sp_fieldAddr_own (ob := .arr _ _ _ _) rfl tf_49_0 (.inr ⟨_, (by exact id), rfl⟩) (fun _ => rfl) rfl) ?_
            refine AQ.stepW (.one rfl rfl rfl) rfl rfl (ms_load_own (d := .int .i64 x3.Kind) rfl ts_3 (.inr ⟨_, (by exact id), rfl⟩) (fun _ => rfl) (gdt ex3) rfl) ?_
            refine AQ.stepW (.one rfl rfl rfl) rfl rfl (sp_eql rfl (.inr ⟨_, (by exact id), rfl⟩) (.inl rfl)) ?_
            refine AQ.step rfl rfl rfl (sp_and rfl (.inl rfl) (.inr ⟨_, (by exact id), rfl⟩)) ?_
            refine AQ.step rfl rfl rfl (sp_move rfl (.inl rfl)) ?_
            refine AQ.stepW (.one rfl rfl rfl) rfl rfl (sp_move rfl (.inl rfl)) ?_
            refine AQ.stepW (.one rfl rfl rfl) rfl rfl (sp_move rfl (.inl rfl)) ?_
            refine ob1k h15 fun x4 ex4 h16 => ?_
            refine AQ.stepW (.one rfl rfl rfl) rfl rfl (ms_idx_own rfl tg_42.slice (.inr ⟨_, (by exact id), rfl⟩) rfl (.inr ⟨_, (by exact id), rfl⟩) (gdt ex4)) ?_
            refine AQ.stepW (.one rfl rfl rfl) rfl rfl (sp_fieldAddr_own (ob := .arr _ _ _ _) rfl tf_49_2 (.inr ⟨_, (by exact id), rfl⟩) (fun _ => rfl) rfl) ?_
            refine AQ.stepW (.one rfl rfl rfl) rfl rfl (ms_load_own (d := .sl (x4.Attrs.map GAttr.row)) rfl ts_47 (.inr ⟨_, (by exact id), rfl⟩) (fun _ => rfl) (gdt ex4) rfl) ?_
            refine AQ.stepW (.one rfl rfl rfl) rfl rfl (sp_fieldAddr_own (ob := .box _ _ _) rfl tf_34_2 (.inl rfl) (fun _ => rfl) rfl) ?_
            refine AQ.stepW (.one rfl rfl rfl) rfl rfl (ms_load_box (a := .r (.sl (a1.Attrs.map (rSl GAttr.row)))) rfl ts_32 (.inr ⟨_, (by exact id), rfl⟩) rfl rfl) ?_
            refine AQ.stepW (.one rfl rfl rfl) rfl rfl (sp_move rfl (.inl rfl)) ?_
            refine ob1k h16 fun x5 ex5 h17 => ?_
            refine AQ.stepW (.one rfl rfl rfl) rfl rfl (ms_idx rfl tg_32.slice (.inr ⟨_, (by exact id), rfl⟩) (.inr ⟨_, (by exact id), rfl⟩) (fun _ => rfl) (gdt ex5)) ?_
            refine AQ.stepW (.one rfl rfl rfl) rfl rfl (ms_load (d := .sl (x5.map GAttr.row)) rfl ts_47 (.inr ⟨_, (by exact id), rfl⟩) rfl) ?_
            refine ob1k h17 fun r1 er1 h18 => ?_
            refine AQ.stepWC (.one rfl rfl rfl) rfl rfl (r := .r (.bool r1)) (caps := []) (bs := [.r (.sl (x4.Attrs.map GAttr.row)), .r (.sl (x5.map GAttr.row))]) rfl (.inl rfl) rfl ⟨⟨_, (.inr ⟨_, (by exact id), rfl⟩), .d rfl⟩, ⟨_, (.inr ⟨_, (by exact id), rfl⟩), .d rfl⟩, trivial⟩ (fun hg => w_ref_SameAttrs (gdt er1 hg)) rfl ?_
            refine AQ.step rfl rfl rfl (sp_and rfl (.inl rfl) (.inr ⟨_, (by exact id), rfl⟩)) ?_
            refine AQ.nil ?_
            refine hK23 _ ?_
            refine AW.cond rfl (fun hc4 => ?_) (fun hc4 => ?_)
            · have h19 := ite_t hc4 h18
              refine AW.weak (s' := ⟨[(1, .ptr 1 n0 0 0), (3, .own 5003 (i12 0)), (4, .cst (.slice none 0 0)), (5, .r (.int .i64 0)), (6, .r (.int .i64 i4)), (7, .r (.int .i64 k1))], [(1, some (.box n0 34 [.r (.sl (a1.Adds.map (rSl GElem.row))), .r (.sl (a1.Cuts.map rBool)), .r (.sl (a1.Attrs.map (rSl GAttr.row)))])), (5003, some (.arr (i12 0) 49 4 (out7.map GStep.row)))], (i12 1), 100⟩) (by exact Weak.cv ⟨.inl (.inl rfl), .inl (.inl rfl), .inl (.inl rfl), .inl (.inl rfl), .inl (.inl rfl), .inl (.inl rfl), trivial⟩ ⟨.inl rfl, .inl rfl, trivial⟩ (Nat.le_refl _)) ?_
              refine AW.region ?_
              refine AOps.step rfl rfl rfl (OpQ.spec (sp_move rfl (.inl rfl)) _) ?_
              refine AOps.step rfl rfl rfl (OpQ.spec (sp_move rfl (.inl rfl)) _) ?_
              refine ob1k h19 fun x6 ex6 h20 => ?_
              refine AOps.step rfl rfl rfl (OpQ.spec (ms_idx_own rfl tg_42.slice (.inl rfl) rfl (.inl rfl) (fun _ => ex6)) _) ?_
              refine AOps.step rfl rfl rfl (OpQ.spec (sp_fieldAddr_own (ob := .arr _ _ _ _) rfl tf_49_1 (.inl rfl) (fun _ => rfl) rfl) _) ?_
              refine AOps.step rfl rfl rfl (OpQ.spec (ms_load_own (d := .int .i64 x6.N) rfl ts_3 (.inl rfl) (fun _ => rfl) (fun _ => ex6) rfl) _) ?_
              refine ob1k h20 fun x7 ex7 h21 => ?_
              refine AOps.step rfl rfl rfl (OpQ.spec (ms_add rfl (.inl rfl) (.inl rfl) (fun _ => ex7)) _) ?_
              refine AOps.step rfl rfl rfl (OpQ.spec (ms_idx_own rfl tg_42.slice (.inl rfl) rfl (.inl rfl) (fun _ => ex6)) _) ?_
              refine AOps.step rfl rfl rfl (OpQ.spec (sp_fieldAddr_own (ob := .arr _ _ _ _) rfl tf_49_1 (.inl rfl) (fun _ => rfl) rfl) _) ?_
              refine AOps.step0 rfl rfl (ms_store (v := (GStep.mk x6.Kind x7 x6.Attrs x6.Elems)) rfl tz_3 (.inl rfl) rfl ex6 (.inl rfl) rfl rfl rfl rfl) ?_
              refine AOps.nil ?_
              exact wK10 _ _ (Weak.trans (Weak.trans (Weak.adopt 4 5004 113 3 (by decide) rfl) (by exact Weak.cv (e' := [(1, .ptr 1 n0 0 0), (3, .own 5003 (i12 0)), (4, .own 5004 (i12 1)), (5, .r (.int .i64 0)), (6, .r (.int .i64 i4)), (7, .r (.int .i64 k1)), (82, .own 5003 (i12 0)), (83, .r (.int .i64 k1)), (84, .ptr 5003 (i12 0) k1.toNat 0), (85, .ptr 5003 (i12 0) k1.toNat 1), (86, .r (.int .i64 x6.N)), (87, .r (.int .i64 x7)), (88, .ptr 5003 (i12 0) k1.toNat 0), (89, .ptr 5003 (i12 0) k1.toNat 1)]) (h' := [(1, some (.box n0 34 [.r (.sl (a1.Adds.map (rSl GElem.row))), .r (.sl (a1.Cuts.map rBool)), .r (.sl (a1.Attrs.map (rSl GAttr.row)))])), (5003, some (.arr (i12 0) 49 4 ((out7.set k1.toNat (GStep.mk x6.Kind x7 x6.Attrs x6.Elems)).map GStep.row))), (5004, some (.arr (i12 1) 113 3 (([] : List GElem).map GElem.row)))]) ⟨.inl (.inl rfl), .inl (.inl rfl), .inl (.inl rfl), .inl (.inl rfl), .inl (.inl rfl), .inl (.inl rfl), .inl (.inl rfl), .inl (.inl rfl), .inl (.inl rfl), .inl (.inl rfl), .inl (.inl rfl), .inl (.inl rfl), .inl (.inl rfl), .inl (.inl rfl), trivial⟩ ⟨.inl rfl, .inl rfl, .inl rfl, trivial⟩ (Nat.le_refl _))) (by exact Weak.cv ⟨.inl (.inl rfl), .inl (.inl rfl), .inl (.inl rfl), .inl (.inl rfl), .inl (.inl rfl), trivial⟩ ⟨.inl rfl, .inl rfl, .inl rfl, trivial⟩ (Nat.le_refl _))) (J2 _ _ _ (vec [(i12 0), (i12 1), ((i12 1) + 1)]) (Option.some.inj h21).symm)
            · have h19 := ite_f hc4 h18
              refine AW.weak (s' := ⟨[(1, .ptr 1 n0 0 0), (3, .own 5003 (i12 0)), (4, .cst (.slice none 0 0)), (5, .r (.int .i64 0)), (6, .r (.int .i64 i4))], [(1, some (.box n0 34 [.r (.sl (a1.Adds.map (rSl GElem.row))), .r (.sl (a1.Cuts.map rBool)), .r (.sl (a1.Attrs.map (rSl GAttr.row)))])), (5003, some (.arr (i12 0) 49 4 (out7.map GStep.row)))], (i12 1), 100⟩) (by exact Weak.cv ⟨.inl (.inl rfl), .inl (.inl rfl), .inl (.inl rfl), .inl (.inl rfl), .inl (.inl rfl), trivial⟩ ⟨.inl rfl, .inl rfl, trivial⟩ (Nat.le_refl _)) ?_
              refine AW.region ?_
              refine AOps.step rfl rfl rfl (OpQ.spec (sp_move rfl (.inl rfl)) _) ?_
              refine AOps.step rfl rfl rfl (OpQ.spec (sp_fieldAddr_own (ob := .box _ _ _) rfl tf_34_2 (.inl rfl) (fun _ => rfl) rfl) _) ?_
              refine AOps.step rfl rfl rfl (OpQ.spec (ms_load_box (a := .r (.sl (a1.Attrs.map (rSl GAttr.row)))) rfl ts_32 (.inl rfl) rfl rfl) _) ?_
              refine AOps.step rfl rfl rfl (OpQ.spec (sp_move rfl (.inl rfl)) _) ?_
              refine ob1k h19 fun x8 ex8 h22 => ?_
              refine AOps.step rfl rfl rfl (OpQ.spec (ms_idx rfl tg_32.slice (.inl rfl) (.inl rfl) (fun _ => rfl) (fun _ => ex8)) _) ?_
              refine AOps.step rfl rfl rfl (OpQ.spec (ms_load (d := .sl (x8.map GAttr.row)) rfl ts_47 (.inl rfl) rfl) _) ?_
              refine AOps.step rfl rfl rfl (OpQ.spec (sp_build rfl tb_49 (q := [(0, _), (1, _), (2, _)]) (by exact ⟨rfl, rfl, rfl, (.inl rfl), rfl, rfl, rfl, (.inl rfl), rfl, rfl, rfl, (.inl rfl), trivial⟩) (cs := [.r (.int .i64 0), .r (.int .i64 1), .r (.sl (x8.map GAttr.row)), .cst (.slice none 0 0)]) (by rfl)) _) ?_
              refine AOps.step rfl rfl rfl (ms_lit 97 rfl tg_42 (f := GStep.row) (l := ([(GStep.mk 0 1 x8 [])] : List GStep)) ⟨rfl, ⟨_, (.inl rfl), rfl⟩, trivial⟩ rfl (fun _ => rfl) rfl) ?_
              refine ob1k h22 fun out8 eout8 h23 => ?_
              refine AOps.step rfl rfl rfl (ms_app rfl tg_42 (.inl rfl) rfl (.inr (.inl ⟨_, _, (.inl rfl), rfl⟩)) eout8) ?_
              refine AOps.step rfl rfl rfl (OpQ.spec (sp_assign rfl (.inl rfl)) _) ?_
              refine AOps.nil ?_
              exact wK10 _ _ (Weak.trans (Weak.trans (Weak.adopt 4 5004 113 3 (by decide) rfl) (by exact Weak.cv (e' := [(1, .ptr 1 n0 0 0), (3, .own 5003 ((i12 1) + 1)), (4, .own 5004 ((i12 1) + 2)), (5, .r (.int .i64 0)), (6, .r (.int .i64 i4)), (91, .ptr 1 n0 0 2), (92, .r (.sl (a1.Attrs.map (rSl GAttr.row)))), (93, .r (.int .i64 i4)), (94, .rop ((rSl GAttr.row) x8) 0), (95, .r (.sl (x8.map GAttr.row))), (96, .agg [.r (.int .i64 0), .r (.int .i64 1), .r (.sl (x8.map GAttr.row)), .cst (.slice none 0 0)]), (97, .own 97 (i12 1)), (98, .own 5003 ((i12 1) + 1))]) (h' := [(1, some (.box n0 34 [.r (.sl (a1.Adds.map (rSl GElem.row))), .r (.sl (a1.Cuts.map rBool)), .r (.sl (a1.Attrs.map (rSl GAttr.row)))])), (97, some (.arr (i12 1) 49 4 ([(GStep.mk 0 1 x8 [])].map GStep.row))), (5003, some (.arr ((i12 1) + 1) 49 4 (out8.map GStep.row))), (5004, some (.arr ((i12 1) + 2) 113 3 (([] : List GElem).map GElem.row)))]) ⟨.inl (.inl rfl), .inl (.inl rfl), .inl (.inl rfl), .inl (.inl rfl), .inl (.inl rfl), .inl (.inl rfl), .inl (.inl rfl), .inl (.inl rfl), .inl (.inl rfl), .inl (.inl rfl), .inl (.inl rfl), .inl (.inl rfl), .inl (.inl rfl), trivial⟩ ⟨.inl rfl, .inl rfl, .inl rfl, .inl rfl, trivial⟩ (Nat.le_refl _))) (by exact Weak.cv ⟨.inl (.inl rfl), .inl (.inl rfl), .inl (.inl rfl), .inl (.inl rfl), .inl (.inl rfl), trivial⟩ ⟨.inl rfl, .inl rfl, .inl rfl, trivial⟩ (Nat.le_refl _))) (J2 _ _ _ (vec [((i12 1) + 1), ((i12 1) + 2), ((i12 1) + 3)]) (Option.some.inj h23).symm)
        refine AW.cond rfl (fun hc5 => ?_) (fun hc5 => ?_)
        · have h24 := ite_t hc5 hp3
          refine AW.region ?_
          refine AOps.step rfl rfl rfl (OpQ.spec (sp_move rfl (.inl rfl)) _) ?_
          refine AOps.step rfl rfl rfl (OpQ.spec (sp_move rfl (.inl rfl)) _) ?_
          refine AOps.step rfl rfl rfl (OpQ.spec (sp_build rfl tb_49 (q := [(0, _), (1, _)]) (by exact ⟨rfl, rfl, rfl, (.inl rfl), rfl, rfl, rfl, (.inl rfl), trivial⟩) (cs := [.r (.int .i64 2), .r (.int .i64 cuts2), .cst (.slice none 0 0), .cst (.slice none 0 0)]) (by rfl)) _) ?_
          refine AOps.step rfl rfl rfl (ms_lit 49 rfl tg_42 (f := GStep.row) (l := ([(GStep.mk 2 cuts2 [] [])] : List GStep)) ⟨rfl, ⟨_, (.inl rfl), rfl⟩, trivial⟩ rfl (fun _ => rfl) rfl) ?_
          refine ob1k h24 fun out9 eout9 h25 => ?_
          refine AOps.step rfl rfl rfl (ms_app rfl tg_42 (.inl rfl) rfl (.inr (.inl ⟨_, _, (.inl rfl), rfl⟩)) eout9) ?_
          refine AOps.step rfl rfl rfl (OpQ.spec (sp_assign rfl (.inl rfl)) _) ?_
          refine AOps.nil ?_
          exact wK17 _ _ ((by exact Weak.cv ⟨.inl (.inl rfl), .inl (.inl rfl), .inl (.inl rfl), trivial⟩ ⟨.inl rfl, .inl rfl, trivial⟩ (Nat.le_refl _))) (J4 _ (vec [((i11 1) + 1), ((i11 1) + 2)]) (Option.some.inj h25).symm)
        · have h24 := ite_f hc5 hp3
          refine AW.skip ?_
          exact wK17 _ _ ((by exact Weak.cv ⟨.inl (.inl rfl), .inl (.inl rfl), .inl (.inl rfl), trivial⟩ ⟨.inl rfl, .inl rfl, trivial⟩ (Nat.le_refl _))) (J4 _ (vec [(i11 0), (i11 1)]) (Option.some.inj h24).symm)
      refine AW.cond rfl (fun hc6 => ?_) (fun hc6 => ?_)
      · have h26 := ite_t hc6 hp2
        refine AW.weak (s' := ⟨[(1, .ptr 1 n0 0 0), (3, .own 5003 (i5 0)), (4, .own 5004 (i5 2)), (5, .r (.int .i64 cuts2)), (6, .r (.int .i64 i4))], [(1, some (.box n0 34 [.r (.sl (a1.Adds.map (rSl GElem.row))), .r (.sl (a1.Cuts.map rBool)), .r (.sl (a1.Attrs.map (rSl GAttr.row)))])), (5003, some (.arr (i5 0) 49 4 (out2.map GStep.row))), (5004, some (.arr (i5 2) 113 3 (adds5.map GElem.row)))], ((i5 2) + 1), 100⟩) (by exact Weak.cv ⟨.inl (.inl rfl), .inl (.inl rfl), .inl (.inl rfl), .inl (.inl rfl), .inl (.inl rfl), trivial⟩ ⟨.inl rfl, .inl rfl, .inl rfl, trivial⟩ (Nat.le_refl _)) ?_
        refine AW.region ?_
        refine AOps.step rfl rfl rfl (OpQ.spec (sp_move rfl (.inl rfl)) _) ?_
        refine AOps.step rfl rfl rfl (OpQ.spec (sp_move rfl (.inl rfl)) _) ?_
        refine AOps.step rfl rfl rfl (OpQ.spec (sp_build rfl tb_49 (q := [(0, _), (3, _)]) (by exact ⟨rfl, rfl, rfl, (.inl rfl), rfl, rfl, rfl, (.inl rfl), trivial⟩) (cs := [.r (.int .i64 1), .r (.int .i64 0), .cst (.slice none 0 0), .own 5004 (i5 2)]) (by rfl)) _) ?_
        refine AOps.weak (by exact Weak.frz (e' := [(1, .ptr 1 n0 0 0), (3, .own 5003 (i5 0)), (4, .r (.sl (adds5.map GElem.row))), (5, .r (.int .i64 cuts2)), (6, .r (.int .i64 i4)), (39, .own 5003 (i5 0)), (40, .r (.sl (adds5.map GElem.row))), (41, .agg [.r (.int .i64 1), .r (.int .i64 0), .cst (.slice none 0 0), .r (.sl (adds5.map GElem.row))])]) (h' := [(1, some (.box n0 34 [.r (.sl (a1.Adds.map (rSl GElem.row))), .r (.sl (a1.Cuts.map rBool)), .r (.sl (a1.Attrs.map (rSl GAttr.row)))])), (5003, some (.arr (i5 0) 49 4 (out2.map GStep.row)))]) 5004 rfl ⟨.inl (.inl rfl), .inl (.inl rfl), .inl (.inr (.inr ⟨rfl, rfl⟩)), .inl (.inl rfl), .inl (.inl rfl), .inl (.inl rfl), .inl (.inr (.inr ⟨rfl, rfl⟩)), .inr ⟨_, _, rfl, rfl, ⟨.inl rfl, .inl rfl, .inl rfl, .inr (.inr ⟨rfl, rfl⟩), trivial⟩⟩, trivial⟩ ⟨rfl, .inl rfl, rfl, .inl rfl, trivial⟩) ?_
        refine AOps.step rfl rfl rfl (ms_lit 42 rfl tg_42 (f := GStep.row) (l := ([(GStep.mk 1 0 [] adds5)] : List GStep)) ⟨rfl, ⟨_, (.inl rfl), rfl⟩, trivial⟩ rfl (fun _ => rfl) rfl) ?_
        refine ob1k h26 fun out10 eout10 h27 => ?_
        refine AOps.step rfl rfl rfl (ms_app rfl tg_42 (.inl rfl) rfl (.inr (.inl ⟨_, _, (.inl rfl), rfl⟩)) eout10) ?_
        refine AOps.step rfl rfl rfl (OpQ.spec (sp_assign rfl (.inl rfl)) _) ?_
        refine AOps.nil ?_
        exact wK15 _ _ ((by exact Weak.cv ⟨.inl (.inl rfl), .inl (.inl rfl), .inl (.inl rfl), .inl (.inl rfl), trivial⟩ ⟨.inl rfl, .inl rfl, trivial⟩ (Nat.le_refl _))) (J3 _ (vec [((i5 2) + 2), ((i5 2) + 3)]) (Option.some.inj h27).symm)
      · have h26 := ite_f hc6 hp2
        refine AW.skip ?_
        exact wK15 _ _ ((by exact Weak.cv ⟨.inl (.inl rfl), .inl (.inl rfl), .inl (.inl rfl), .inl (.inl rfl), trivial⟩ ⟨.inl rfl, .inl rfl, trivial⟩ (Nat.le_refl _))) (J3 _ (vec [(i5 0), ((i5 2) + 1)]) (Option.some.inj h26).symm)
  · have h3 := ite_f hc1 h2
    refine AW.exit ?_
    exact wK5 _ _ ((by exact Weak.cv ⟨.inl (.inl rfl), trivial⟩ ⟨.inl rfl, trivial⟩ (Nat.le_refl _))) (J1 _ (vec [(i5 0), (i5 2)]) (hx1 _ (Option.some.inj h3).symm))
set_option maxHeartbeats 4000000 in
set_option maxRecDepth 20000 in
theorem w_ref_SameDelta {a1 : List GStep} {b1 : List GStep} {r : Bool} (h : ref_SameDelta a1 b1 = some r) : ARO Try.prog 31 [.r (.sl (a1.map GStep.row)), .r (.sl (b1.map GStep.row))] (.r (.bool r)) := by
  unfold ref_SameDelta at h
  refine ARO.mkF Try.func31 rfl rfl Try.ntmps31 rfl (Nat.le_of_ble_eq_true rfl) fun n0 => ?_
  refine AW.seq_w fun K1 hK1 wK1 => ?_
  refine AW.region ?_
  refine AOps.step rfl rfl rfl (OpQ.spec (sp_assign rfl (.inl rfl)) _) ?_
  refine AOps.nil ?_
  refine hK1 _ ?_
  refine AW.seq_w fun K2 hK2 wK2 => ?_
  refine AW.seq_w fun K3 hK3 wK3 => ?_
  refine AW.region ?_
  refine AOps.step rfl rfl rfl (OpQ.spec (sp_move rfl (.inl rfl)) _) ?_
  refine AOps.step rfl rfl rfl (OpQ.spec (ms_len rfl tg_42.slice (.inl rfl)) _) ?_
  refine AOps.step rfl rfl rfl (OpQ.spec (sp_move rfl (.inl rfl)) _) ?_
  refine AOps.step rfl rfl rfl (OpQ.spec (ms_len rfl tg_42.slice (.inl rfl)) _) ?_
  refine AOps.step rfl rfl rfl (OpQ.spec (sp_neq rfl (.inl rfl) (.inl rfl)) _) ?_
  refine AOps.nil ?_
  refine hK3 _ ?_
  refine AW.cond rfl (fun hc1 => ?_) (fun hc1 => ?_)
  · have h1 := ite_t hc1 h
    refine AW.seq_w fun K4 hK4 wK4 => ?_
    refine AW.region ?_
    refine AOps.step rfl rfl rfl (OpQ.spec (sp_assign rfl (.inl rfl)) _) ?_
    refine AOps.nil ?_
    refine hK4 _ ?_
    refine AW.ret ?_
    exact retf1 (P := Try.prog) (fun (r : Bool) => .r (.bool r)) h1 (.inl rfl) (.t (.d rfl))
  · have h1 := ite_f hc1 h
    refine AW.skip ?_
    refine hK2 _ ?_
    refine AW.seq_w fun K5 hK5 wK5 => ?_
    refine AW.seq_w fun K6 hK6 wK6 => ?_
    refine AW.region ?_
    refine AOps.step rfl rfl rfl (OpQ.spec (sp_move rfl (.inl rfl)) _) ?_
    refine AOps.step rfl rfl rfl (OpQ.spec (ms_len rfl tg_42.slice (.inl rfl)) _) ?_
    refine AOps.step rfl rfl rfl (OpQ.spec (sp_move rfl (.inl rfl)) _) ?_
    refine AOps.nil ?_
    refine hK6 _ ?_
    refine AW.block ?_
    refine jc1k h1 fun o1 hit1 hk1 he1 => ?_
    have J1 : ∀ (u2 : Unit) (i5 : Nat → Nat), o1 = .nrm u2 → K5 ⟨[], [], (i5 0), 69⟩ := by
      intro u2 i5 e
      have h2 := hk1 _ e
      refine hK5 _ ?_
      refine AW.seq_w fun K7 hK7 wK7 => ?_
      refine AW.region ?_
      refine AOps.step rfl rfl rfl (OpQ.spec (sp_assign rfl (.inl rfl)) _) ?_
      refine AOps.nil ?_
      refine hK7 _ ?_
      refine AW.ret ?_
      exact retf1 (P := Try.prog) (fun (r : Bool) => .r (.bool r)) h2 (.inl rfl) (.t (.d rfl))
    refine AW.iter1 (fun (x2 : Int) i3 => ⟨[(0, .r (.sl (a1.map GStep.row))), (1, .r (.sl (b1.map GStep.row))), (12, .r (.int .i64 (a1.length : Int))), (13, .r (.int .i64 x2))], [], (i3 0), 69⟩) (vec [n0]) hit1 ((by exact Weak.cv ⟨.inl (.inl rfl), .inl (.inl rfl), .inl (.inl rfl), .inl (.inl rfl), trivial⟩ trivial (Nat.le_refl _))) ?_
    intro x2 i3 v1 hv1 hx1
    have h3 : ref_SameDelta_L1 a1 b1 x2 = some v1 := hv1; unfold ref_SameDelta_L1 at h3
    refine AW.seq_w fun K8 hK8 wK8 => ?_
    refine AW.region ?_
    refine AOps.step rfl rfl rfl (OpQ.spec (sp_lss rfl (.inl rfl) (.inl rfl)) _) ?_
    refine AOps.nil ?_
    refine hK8 _ ?_
    refine AW.seq_w fun K9 hK9 wK9 => ?_
    refine AW.cond rfl (fun hc2 => ?_) (fun hc2 => ?_)
    · have h4 := ite_t hc2 h3
      refine AW.skip ?_
      refine hK9 _ ?_
      refine AW.seq_w fun K10 hK10 wK10 => ?_
      refine AW.block ?_
      refine AW.seq_w fun K11 hK11 wK11 => ?_
      refine AW.region ?_
      refine AOps.step rfl rfl rfl (OpQ.spec (sp_move rfl (.inl rfl)) _) ?_
      refine AOps.step rfl rfl rfl (OpQ.spec (sp_assign rfl (.inl rfl)) _) ?_
      refine AOps.nil ?_
      refine hK11 _ ?_
      refine AW.seq_w fun K12 hK12 wK12 => ?_
      refine AW.regionQ hmix (by kernel_rfl) ?_
      refine AQ.step rfl rfl rfl (sp_move rfl (.inl rfl)) ?_
      refine AQ.step rfl rfl rfl (sp_move rfl (.inl rfl)) ?_
      refine ob1k h4 fun x4 ex4 h5 => ?_
      refine AQ.step rfl rfl rfl (ms_idx rfl tg_42.slice (.inl rfl) (.inl rfl) (fun _ => rfl) (fun _ => ex4)) ?_
      refine AQ.step rfl rfl rfl (sp_fieldAddr_ro rfl tf_49_0 (.inl rfl)) ?_
      refine AQ.step rfl rfl rfl (ms_load (d := .int .i64 x4.Kind) rfl ts_3 (.inl rfl) rfl) ?_
      refine AQ.step rfl rfl rfl (sp_move rfl (.inl rfl)) ?_
      refine AQ.step rfl rfl rfl (sp_move rfl (.inl rfl)) ?_
      refine ob1k h5 fun x5 ex5 h6 => ?_
      refine AQ.step rfl rfl rfl (ms_idx rfl tg_42.slice (.inl rfl) (.inl rfl) (fun _ => rfl) (fun _ => ex5)) ?_
      refine AQ.step rfl rfl rfl (sp_fieldAddr_ro rfl tf_49_0 (.inl rfl)) ?_
      refine AQ.step rfl rfl rfl (ms_load (d := .int .i64 x5.Kind) rfl ts_3 (.inl rfl) rfl) ?_
      refine AQ.step rfl rfl rfl (sp_neq rfl (.inl rfl) (.inl rfl)) ?_
      refine AQ.step rfl rfl rfl (sp_move rfl (.inl rfl)) ?_
      refine AQ.stepW (.one rfl rfl rfl) rfl rfl (sp_move rfl (.inl rfl)) ?_
      refine AQ.stepW (.one rfl rfl rfl) rfl rfl (sp_move rfl (.inl rfl)) ?_
      refine AQ.stepW (.one rfl rfl rfl) rfl rfl (ms_idx rfl tg_42.slice (.inr ⟨_, (by exact id), rfl⟩) (.inr ⟨_, (by exact id), rfl⟩) (fun _ => rfl) (fun _ => ex4)) ?_
      refine AQ.stepW (.one rfl rfl rfl) rfl rfl (sp_fieldAddr_ro rfl tf_49_1 (.inr ⟨_, (by exact id), rfl⟩)) ?_
      refine AQ.stepW (.one rfl rfl rfl) rfl rfl (ms_load (d := .int .i64 x4.N) rfl ts_3 (.inr ⟨_, (by exact id), rfl⟩) rfl) ?_
      refine AQ.stepW (.one rfl rfl rfl) rfl rfl (sp_move rfl (.inl rfl)) ?_
      refine AQ.stepW (.one rfl rfl rfl) rfl rfl (sp_move rfl (.inl rfl)) ?_
      refine AQ.stepW (.one rfl rfl rfl) rfl rfl (ms_idx rfl tg_42.slice (.inr ⟨_, (by exact id), rfl⟩) (.inr ⟨_, (by exact id), rfl⟩) (fun _ => rfl) (fun _ => ex5)) ?_
      refine AQ.stepW (.one rfl rfl rfl) rfl rfl (sp_fieldAddr_ro rfl tf_49_1 (.inr ⟨_, (by exact id), rfl⟩)) ?_
      refine AQ.stepW (.one rfl rfl rfl) rfl rfl (ms_load (d := .int .i64 x5.N) rfl ts_3 (.inr ⟨_, (by exact id), rfl⟩) rfl) ?_
      refine AQ.stepW (.one rfl rfl rfl) rfl rfl (sp_neq rfl (.inr ⟨_, (by exact id), rfl⟩) (.inr ⟨_, (by exact id), rfl⟩)) ?_
      refine AQ.step rfl rfl rfl (sp_or rfl (.inl rfl) (.inr ⟨_, (by exact id), rfl⟩)) ?_
      refine AQ.step rfl rfl rfl (sp_move rfl (.inl rfl)) ?_
      refine AQ.stepW (.one rfl rfl rfl) rfl rfl (sp_move rfl (.inl rfl)) ?_
      refine AQ.stepW (.one rfl rfl rfl) rfl rfl (sp_move rfl (.inl rfl)) ?_
      refine AQ.stepW (.one rfl rfl rfl) rfl rfl (ms_idx rfl tg_42.slice (.inr ⟨_, (by exact id), rfl⟩) (.inr ⟨_, (by exact id), rfl⟩) (fun _ => rfl) (fun _ => ex4)) ?_
      refine AQ.stepW (.one rfl rfl rfl) rfl rfl (sp_fieldAddr_ro rfl tf_49_2 (.inr ⟨_, (by exact id), rfl⟩)) ?_
      refine AQ.stepW (.one rfl rfl rfl) rfl rfl (ms_load (d := .sl (x4.Attrs.map GAttr.row)) rfl ts_47 (.inr ⟨_, (by exact id), rfl⟩) rfl) ?_
      refine AQ.stepW (.one rfl rfl rfl) rfl rfl (sp_move rfl (.inl rfl)) ?_
      refine AQ.stepW (.one rfl rfl rfl) rfl rfl (sp_move rfl (.inl rfl)) ?_
      refine AQ.stepW (.one rfl rfl rfl) rfl rfl (ms_idx rfl tg_42.slice (.inr ⟨_, (by exact id), rfl⟩) (.inr ⟨_, (by exact id), rfl⟩) (fun _ => rfl) (fun _ => ex5)) ?_
      refine AQ.stepW (.one rfl rfl rfl) rfl rfl (sp_fieldAddr_ro rfl tf_49_2 (.inr ⟨_, (by exact id), rfl⟩)) ?_
      refine AQ.stepW (.one rfl rfl rfl) rfl rfl (ms_load (d := .sl (x5.Attrs.map GAttr.row)) rfl ts_47 (.inr ⟨_, (by exact id), rfl⟩) rfl) ?_
      refine ob1k h6 fun r1 er1 h7 => ?_
      refine AQ.stepWC (.one rfl rfl rfl) rfl rfl (r := .r (.bool r1)) (caps := []) (bs := [.r (.sl (x4.Attrs.map GAttr.row)), .r (.sl (x5.Attrs.map GAttr.row))]) rfl (.inl rfl) rfl ⟨⟨_, (.inr ⟨_, (by exact id), rfl⟩), .d rfl⟩, ⟨_, (.inr ⟨_, (by exact id), rfl⟩), .d rfl⟩, trivial⟩ (fun hg => w_ref_SameAttrs (gdt er1 hg)) rfl ?_
      refine AQ.stepW (.one rfl rfl rfl) rfl rfl (sp_not rfl (.inr ⟨_, (by exact id), rfl⟩)) ?_
      refine AQ.step rfl rfl rfl (sp_or rfl (.inl rfl) (.inr ⟨_, (by exact id), rfl⟩)) ?_
      refine AQ.step rfl rfl rfl (sp_move rfl (.inl rfl)) ?_
      refine AQ.stepW (.one rfl rfl rfl) rfl rfl (sp_move rfl (.inl rfl)) ?_
      refine AQ.stepW (.one rfl rfl rfl) rfl rfl (sp_move rfl (.inl rfl)) ?_
      refine AQ.stepW (.one rfl rfl rfl) rfl rfl (ms_idx rfl tg_42.slice (.inr ⟨_, (by exact id), rfl⟩) (.inr ⟨_, (by exact id), rfl⟩) (fun _ => rfl) (fun _ => ex4)) ?_
      refine AQ.stepW (.one rfl rfl rfl) rfl rfl (sp_fieldAddr_ro rfl tf_49_3 (.inr ⟨_, (by exact id), rfl⟩)) ?_
      refine AQ.stepW (.one rfl rfl rfl) rfl rfl (ms_load (d := .sl (x4.Elems.map GElem.row)) rfl ts_39 (.inr ⟨_, (by exact id), rfl⟩) rfl) ?_
      refine AQ.stepW (.one rfl rfl rfl) rfl rfl (sp_move rfl (.inl rfl)) ?_
      refine AQ.stepW (.one rfl rfl rfl) rfl rfl (sp_move rfl (.inl rfl)) ?_
      refine AQ.stepW (.one rfl rfl rfl) rfl rfl (ms_idx rfl tg_42.slice (.inr ⟨_, (by exact id), rfl⟩) (.inr ⟨_, (by exact id), rfl⟩) (fun _ => rfl) (fun _ => ex5)) ?_
      refine AQ.stepW (.one rfl rfl rfl) rfl rfl (sp_fieldAddr_ro rfl tf_49_3 (.inr ⟨_, (by exact id), rfl⟩)) ?_
      refine AQ.stepW (.one rfl rfl rfl) rfl rfl (ms_load (d := .sl (x5.Elems.map GElem.row)) rfl ts_39 (.inr ⟨_, (by exact id), rfl⟩) rfl) ?_
      refine ob1k h7 fun r2 er2 h8 => ?_
      refine AQ.stepWC (.one rfl rfl rfl) rfl rfl (r := .r (.bool r2)) (caps := []) (bs := [.r (.sl (x4.Elems.map GElem.row)), .r (.sl (x5.Elems.map GElem.row))]) rfl (.inl rfl) rfl ⟨⟨_, (.inr ⟨_, (by exact id), rfl⟩), .d rfl⟩, ⟨_, (.inr ⟨_, (by exact id), rfl⟩), .d rfl⟩, trivial⟩ (fun hg => w_ref_SameFlow (gdt er2 hg)) rfl ?_
      refine AQ.stepW (.one rfl rfl rfl) rfl rfl (sp_not rfl (.inr ⟨_, (by exact id), rfl⟩)) ?_
      refine AQ.step rfl rfl rfl (sp_or rfl (.inl rfl) (.inr ⟨_, (by exact id), rfl⟩)) ?_
      refine AQ.nil ?_
      refine hK12 _ ?_
      refine AW.cond rfl (fun hc3 => ?_) (fun hc3 => ?_)
      · have h9 := ite_t hc3 h8
        refine AW.seq_w fun K13 hK13 wK13 => ?_
        refine AW.weak (s' := ⟨[], [], (i3 0), 69⟩) (by exact Weak.cv trivial trivial (Nat.le_refl _)) ?_
        refine AW.region ?_
        refine AOps.step rfl rfl rfl (OpQ.spec (sp_assign rfl (.inl rfl)) _) ?_
        refine AOps.nil ?_
        refine hK13 _ ?_
        refine AW.ret ?_
        exact retf1 (P := Try.prog) (fun (r : Bool) => .r (.bool r)) (he1 _ (hx1 _ (Option.some.inj h9).symm)) (.inl rfl) (.t (.d rfl))
      · have h9 := ite_f hc3 h8
        refine AW.skip ?_
        refine hK10 _ ?_
        refine AW.weak (s' := ⟨[(0, .r (.sl (a1.map GStep.row))), (1, .r (.sl (b1.map GStep.row))), (12, .r (.int .i64 (a1.length : Int))), (13, .r (.int .i64 x2))], [], (i3 0), 69⟩) (by exact Weak.cv ⟨.inl (.inl rfl), .inl (.inl rfl), .inl (.inl rfl), .inl (.inl rfl), trivial⟩ trivial (Nat.le_refl _)) ?_
        refine AW.region ?_
        refine ob1k h9 fun x6 ex6 h10 => ?_
        refine AOps.step rfl rfl rfl (OpQ.spec (ms_add rfl (.inl rfl) (.inl rfl) (fun _ => ex6)) _) ?_
        refine AOps.step rfl rfl rfl (OpQ.spec (sp_move rfl (.inl rfl)) _) ?_
        refine AOps.nil ?_
        exact NextQ1.mk h10 (vec [(i3 0)]) ((by exact Weak.cv ⟨.inl (.inl rfl), .inl (.inl rfl), .inl (.inl rfl), .inl (.inl rfl), trivial⟩ trivial (Nat.le_refl _)))
    · have h4 := ite_f hc2 h3
      refine AW.exit ?_
      exact wK5 _ _ ((by exact Weak.cv trivial trivial (Nat.le_refl _))) (J1 _ (vec [(i3 0)]) (hx1 _ (Option.some.inj h4).symm))
set_option maxHeartbeats 4000000 in
set_option maxRecDepth 20000 in
theorem w_law_DeltaApplyMatches {f1 : List GElem} {d1 : List GStep} {r : Bool} (h : law_DeltaApplyMatches f1 d1 = some r) : ARO Try.prog 6 [.r (.sl (f1.map GElem.row)), .r (.sl (d1.map GStep.row))] (.r (.bool r)) := by
  unfold law_DeltaApplyMatches at h
  refine ARO.mkF Try.func6 rfl rfl Try.ntmps6 rfl (Nat.le_of_ble_eq_true rfl) fun n0 => ?_
  refine AW.seq_w fun K1 hK1 wK1 => ?_
  refine AW.region ?_
  refine AOps.step rfl rfl rfl (OpQ.spec (sp_assign rfl (.inl rfl)) _) ?_
  refine AOps.nil ?_
  refine hK1 _ ?_
  refine AW.seq_w fun K2 hK2 wK2 => ?_
  refine AW.seq_w fun K3 hK3 wK3 => ?_
  refine AW.region ?_
  refine ob1k h fun r1 er1 h1 => ?_
  refine AOps.step rfl rfl rfl (sp_call (r := .r (.bool r1)) (caps := []) (bs := []) rfl (.inl rfl) rfl trivial (fun _ => w_law_deltas (er1)) rfl) ?_
  refine AOps.step rfl rfl rfl (OpQ.spec (sp_not rfl (.inl rfl)) _) ?_
  refine AOps.nil ?_
  refine hK3 _ ?_
  refine AW.cond rfl (fun hc1 => ?_) (fun hc1 => ?_)
  · have h2 := ite_t hc1 h1
    refine AW.seq_w fun K4 hK4 wK4 => ?_
    refine AW.region ?_
    refine AOps.step rfl rfl rfl (OpQ.spec (sp_assign rfl (.inl rfl)) _) ?_
    refine AOps.nil ?_
    refine hK4 _ ?_
    refine AW.ret ?_
    exact retf1 (P := Try.prog) (fun (r : Bool) => .r (.bool r)) h2 (.inl rfl) (.t (.d rfl))
  · have h2 := ite_f hc1 h1
    refine AW.skip ?_
    refine hK2 _ ?_
    refine AW.seq_w fun K5 hK5 wK5 => ?_
    refine AW.region ?_
    refine AOps.step rfl rfl rfl (OpQ.spec (sp_move rfl (.inl rfl)) _) ?_
    refine AOps.step rfl rfl rfl (OpQ.spec (sp_move rfl (.inl rfl)) _) ?_
    refine ob2k h2 fun r2 r3 er2 h3 => ?_
    refine AOps.step rfl rfl rfl (sp_callS (r := .tup [.r (.sl (r2.map GElem.row)), .r (.int .i64 r3)]) (caps := []) (bs := [.r (.sl (f1.map GElem.row)), .r (.sl (d1.map GStep.row))]) rfl (.inl rfl) rfl ⟨.inl ⟨(.inl rfl), rfl⟩, .inl ⟨(.inl rfl), rfl⟩, trivial⟩ (fun _ => w_delta_Apply (er2))) ?_
    refine AOps.step rfl rfl rfl (OpQ.spec (sp_move rfl (.inl rfl)) _) ?_
    refine AOps.step rfl rfl rfl (OpQ.spec (sp_extract (a := .r (.sl (r2.map GElem.row))) rfl (.inl rfl) rfl) _) ?_
    refine AOps.step rfl rfl rfl (OpQ.spec (sp_extract (a := .r (.int .i64 r3)) rfl (.inl rfl) rfl) _) ?_
    refine AOps.step rfl rfl rfl (OpQ.spec (sp_assign rfl (.inl rfl)) _) ?_
    refine AOps.step rfl rfl rfl (OpQ.spec (sp_assign rfl (.inl rfl)) _) ?_
    refine AOps.nil ?_
    refine hK5 _ ?_
    refine AW.seq_w fun K6 hK6 wK6 => ?_
    refine AW.weak (s' := ⟨[(0, .r (.sl (f1.map GElem.row))), (1, .r (.sl (d1.map GStep.row))), (5, .r (.sl (r2.map GElem.row))), (6, .r (.int .i64 r3))], [], n0, 69⟩) (by exact Weak.cv ⟨.inl (.inl rfl), .inl (.inl rfl), .inl (.inl rfl), .inl (.inl rfl), trivial⟩ trivial (Nat.le_refl _)) ?_
    refine AW.region ?_
    refine AOps.step rfl rfl rfl (OpQ.spec (sp_move rfl (.inl rfl)) _) ?_
    refine AOps.step rfl rfl rfl (OpQ.spec (sp_move rfl (.inl rfl)) _) ?_
    refine ob2k h3 fun r4 r5 er4 h4 => ?_
    refine AOps.step rfl rfl rfl (sp_callS (r := .tup [.r (.sl (r4.map GStep.row)), .r (.int .i64 r5)]) (caps := []) (bs := [.r (.sl (f1.map GElem.row)), .r (.sl (d1.map GStep.row))]) rfl (.inl rfl) rfl ⟨.inl ⟨(.inl rfl), rfl⟩, .inl ⟨(.inl rfl), rfl⟩, trivial⟩ (fun _ => w_delta_Undo (er4))) ?_
    refine AOps.step rfl rfl rfl (OpQ.spec (sp_move rfl (.inl rfl)) _) ?_
    refine AOps.step rfl rfl rfl (OpQ.spec (sp_extract (a := .r (.sl (r4.map GStep.row))) rfl (.inl rfl) rfl) _) ?_
    refine AOps.step rfl rfl rfl (OpQ.spec (sp_extract (a := .r (.int .i64 r5)) rfl (.inl rfl) rfl) _) ?_
    refine AOps.step rfl rfl rfl (OpQ.spec (sp_assign rfl (.inl rfl)) _) ?_
    refine AOps.step rfl rfl rfl (OpQ.spec (sp_assign rfl (.inl rfl)) _) ?_
    refine AOps.nil ?_
    refine hK6 _ ?_
    refine AW.seq_w fun K7 hK7 wK7 => ?_
    refine AW.seq_w fun K8 hK8 wK8 => ?_
    refine AW.region ?_
    refine AOps.step rfl rfl rfl (OpQ.spec (sp_move rfl (.inl rfl)) _) ?_
    refine AOps.step rfl rfl rfl (OpQ.spec (sp_move rfl (.inl rfl)) _) ?_
    refine ob1k h4 fun p1 ep1 h5 => ?_
    refine AOps.step rfl rfl rfl (sp_call (r := .r (.int .i64 p1)) (caps := []) (bs := [.r (.sl (f1.map GElem.row)), .r (.sl (d1.map GStep.row))]) rfl (.inl rfl) rfl ⟨⟨_, (.inl rfl), .d rfl⟩, ⟨_, (.inl rfl), .d rfl⟩, trivial⟩ (fun _ => w_law_fitError (ep1)) rfl) ?_
    refine AOps.step rfl rfl rfl (OpQ.spec (sp_assign rfl (.inl rfl)) _) ?_
    refine AOps.nil ?_
    refine hK8 _ ?_
    refine AW.seq_w fun K9 hK9 wK9 => ?_
    refine AW.weak (s' := ⟨[(0, .r (.sl (f1.map GElem.row))), (1, .r (.sl (d1.map GStep.row))), (5, .r (.sl (r2.map GElem.row))), (6, .r (.int .i64 r3)), (7, .r (.sl (r4.map GStep.row))), (8, .r (.int .i64 r5)), (9, .r (.int .i64 p1))], [], n0, 69⟩) (by exact Weak.cv ⟨.inl (.inl rfl), .inl (.inl rfl), .inl (.inl rfl), .inl (.inl rfl), .inl (.inl rfl), .inl (.inl rfl), .inl (.inl rfl), trivial⟩ trivial (Nat.le_refl _)) ?_
    refine AW.region ?_
    refine AOps.step rfl rfl rfl (OpQ.spec (sp_move rfl (.inl rfl)) _) ?_
    refine AOps.step rfl rfl rfl (OpQ.spec (sp_neq rfl (.inl rfl) (.inl rfl)) _) ?_
    refine AOps.nil ?_
    refine hK9 _ ?_
    refine AW.cond rfl (fun hc2 => ?_) (fun hc2 => ?_)
    · have h6 := ite_t hc2 h5
      refine AW.seq_w fun K10 hK10 wK10 => ?_
      refine AW.region ?_
      refine AOps.step rfl rfl rfl (OpQ.spec (sp_move rfl (.inl rfl)) _) ?_
      refine AOps.step rfl rfl rfl (OpQ.spec (sp_move rfl (.inl rfl)) _) ?_
      refine AOps.step rfl rfl rfl (OpQ.spec (sp_eql rfl (.inl rfl) (.inl rfl)) _) ?_
      refine AOps.step rfl rfl rfl (OpQ.spec (sp_move rfl (.inl rfl)) _) ?_
      refine AOps.stepW (.one rfl rfl rfl) rfl rfl (OpQ.spec (sp_move rfl (.inl rfl)) _) ?_
      refine AOps.stepW (.one rfl rfl rfl) rfl rfl (OpQ.spec (sp_move rfl (.inl rfl)) _) ?_
      refine AOps.stepW (.one rfl rfl rfl) rfl rfl (OpQ.spec (sp_eql rfl (.inr ⟨_, (by exact id), rfl⟩) (.inr ⟨_, (by exact id), rfl⟩)) _) ?_
      refine AOps.step rfl rfl rfl (OpQ.spec (sp_and rfl (.inl rfl) (.inr ⟨_, (by exact id), rfl⟩)) _) ?_
      refine AOps.step rfl rfl rfl (OpQ.spec (sp_move rfl (.inl rfl)) _) ?_
      refine AOps.stepW (.one rfl rfl rfl) rfl rfl (OpQ.spec (sp_move rfl (.inl rfl)) _) ?_
      refine AOps.stepW (.one rfl rfl rfl) rfl rfl (OpQ.spec (ms_len rfl tg_39.slice (.inr ⟨_, (by exact id), rfl⟩)) _) ?_
      refine AOps.stepW (.one rfl rfl rfl) rfl rfl (OpQ.spec (sp_move rfl (.inl rfl)) _) ?_
      refine AOps.stepW (.one rfl rfl rfl) rfl rfl (OpQ.spec (ms_len rfl tg_42.slice (.inr ⟨_, (by exact id), rfl⟩)) _) ?_
      refine ob1k h6 fun x1 ex1 h7 => ?_
      refine AOps.stepW (.one rfl rfl rfl) rfl rfl (OpQ.spec (ms_add rfl (.inr ⟨_, (by exact id), rfl⟩) (.inr ⟨_, (by exact id), rfl⟩) (gdt ex1)) _) ?_
      refine AOps.stepW (.one rfl rfl rfl) rfl rfl (OpQ.spec (sp_eql rfl (.inr ⟨_, (by exact id), rfl⟩) (.inl rfl)) _) ?_
      refine AOps.step rfl rfl rfl (OpQ.spec (sp_and rfl (.inl rfl) (.inr ⟨_, (by exact id), rfl⟩)) _) ?_
      refine AOps.step rfl rfl rfl (OpQ.spec (sp_assign rfl (.inl rfl)) _) ?_
      refine AOps.nil ?_
      refine hK10 _ ?_
      refine AW.ret ?_
      exact retf1 (P := Try.prog) (fun (r : Bool) => .r (.bool r)) h7 (.inl rfl) (.t (.d rfl))
    · have h6 := ite_f hc2 h5
      refine AW.skip ?_
      refine hK7 _ ?_
      refine AW.seq_w fun K11 hK11 wK11 => ?_
      refine AW.region ?_
      refine AOps.step rfl rfl rfl (OpQ.spec (sp_move rfl (.inl rfl)) _) ?_
      refine ob1k h6 fun r6 er6 h8 => ?_
      refine AOps.step rfl rfl rfl (sp_callS (r := .agg [.r (.sl (r6.Adds.map (rSl GElem.row))), .r (.sl (r6.Cuts.map rBool)), .r (.sl (r6.Attrs.map (rSl GAttr.row)))]) (caps := []) (bs := [.r (.sl (d1.map GStep.row))]) rfl (.inl rfl) rfl ⟨.inl ⟨(.inl rfl), rfl⟩, trivial⟩ (fun _ => w_ref_ActOf (er6))) ?_
      refine AOps.step rfl rfl rfl (ms_alloc (cs := [.cst (.slice none 0 0), .cst (.slice none 0 0), .cst (.slice none 0 0)]) 10 rfl t0_34 rfl rfl) ?_
      refine AOps.step0 rfl rfl (ms_store_box (ds := [.r (.sl (r6.Adds.map (rSl GElem.row))), .r (.sl (r6.Cuts.map rBool)), .r (.sl (r6.Attrs.map (rSl GAttr.row)))]) rfl tz_34 (.inl rfl) rfl (.inl rfl) rfl rfl rfl rfl) ?_
      refine AOps.nil ?_
      refine hK11 _ ?_
      refine AW.seq_w fun K12 hK12 wK12 => ?_
      refine AW.region ?_
      refine AOps.step rfl rfl rfl (OpQ.spec (sp_move rfl (.inl rfl)) _) ?_
      refine AOps.step rfl rfl rfl (OpQ.spec (sp_eql rfl (.inl rfl) (.inl rfl)) _) ?_
      refine AOps.step rfl rfl rfl (OpQ.spec (sp_move rfl (.inl rfl)) _) ?_
      refine AOps.stepW (.one rfl rfl rfl) rfl rfl (OpQ.spec (sp_move rfl (.inl rfl)) _) ?_
      refine AOps.stepW (.one rfl rfl rfl) rfl rfl (OpQ.spec (sp_eql rfl (.inr ⟨_, (by exact id), rfl⟩) (.inl rfl)) _) ?_
      refine AOps.step rfl rfl rfl (OpQ.spec (sp_and rfl (.inl rfl) (.inr ⟨_, (by exact id), rfl⟩)) _) ?_
      refine AOps.step rfl rfl rfl (OpQ.spec (sp_move rfl (.inl rfl)) _) ?_
      refine AOps.stepW (.one rfl rfl rfl) rfl rfl (OpQ.spec (sp_move rfl (.inl rfl)) _) ?_
      refine AOps.stepW (.one rfl rfl rfl) rfl rfl (OpQ.spec (sp_move rfl (.inl rfl)) _) ?_
      refine AOps.stepW (.one rfl rfl rfl) rfl rfl (OpQ.spec (ms_loadA_box rfl ta_34 (.inl rfl) rfl rfl) _) ?_
      refine jb1k h8 fun p2 hp1 hk1 => ?_
      have J1 : ∀ (x2 : Bool) (i1 : Nat → Nat), p2 = x2 → K12 ⟨[(4, .r (.bool x2))], [], (i1 0), 69⟩ := by
        intro x2 i1 e
        have h9 := hk1 _ e
        refine hK12 _ ?_
        refine AW.ret ?_
        exact retf1 (P := Try.prog) (fun (r : Bool) => .r (.bool r)) h9 (.inl rfl) (.t (.d rfl))
      refine AOps.split (((decide (r3 = 0)) && (decide (r5 = 0))) == true) (fun hg1 => ?_) (fun hg1 => ?_)
      · have h10 := ite_t hg1 hp1
        refine AOps.weak (by exact Weak.unw (e' := [(0, .r (.sl (f1.map GElem.row))), (1, .r (.sl (d1.map GStep.row))), (5, .r (.sl (r2.map GElem.row))), (6, .r (.int .i64 r3)), (7, .r (.sl (r4.map GStep.row))), (8, .r (.int .i64 r5)), (9, .r (.int .i64 p1)), (10, .ptr 10 n0 0 0), (28, .r (.int .i64 p1)), (29, .r (.bool (!decide (p1 = 0)))), (46, .r (.sl (d1.map GStep.row))), (47, .agg [.r (.sl (r6.Adds.map (rSl GElem.row))), .r (.sl (r6.Cuts.map rBool)), .r (.sl (r6.Attrs.map (rSl GAttr.row)))]), (48, .r (.int .i64 r3)), (49, .r (.bool (decide (r3 = 0)))), (50, .r (.bool (decide (r3 = 0)))), (53, .r (.bool ((decide (r3 = 0)) && (decide (r5 = 0))))), (54, .r (.bool ((decide (r3 = 0)) && (decide (r5 = 0))))), (55, .r (.sl (r2.map GElem.row))), (56, .r (.sl (f1.map GElem.row))), (57, .agg [.r (.sl (r6.Adds.map (rSl GElem.row))), .r (.sl (r6.Cuts.map rBool)), .r (.sl (r6.Attrs.map (rSl GAttr.row)))])]) hg1 ⟨.inl rfl, .inl rfl, .inl rfl, .inl rfl, .inl rfl, .inl rfl, .inl rfl, .inl rfl, .inl rfl, .inl rfl, .inl rfl, .inl rfl, .inl rfl, .inl rfl, .inl rfl, .inl rfl, .inl rfl, .inr rfl, .inr rfl, .inr rfl, trivial⟩) ?_
        refine ob1k h10 fun r7 er7 h11 => ?_
        refine AOps.stepGT (.one rfl rfl rfl) hg1 rfl rfl (sp_callS (r := .r (.sl (r7.map GElem.row))) (caps := []) (bs := [.r (.sl (f1.map GElem.row)), .agg [.r (.sl (r6.Adds.map (rSl GElem.row))), .r (.sl (r6.Cuts.map rBool)), .r (.sl (r6.Attrs.map (rSl GAttr.row)))]]) rfl (.inl rfl) rfl ⟨.inl ⟨(.inl rfl), rfl⟩, .inl ⟨(.inl rfl), rfl⟩, trivial⟩ (fun _ => w_ref_Done (er7))) ?_
        refine ob1k h11 fun r8 er8 h12 => ?_
        refine AOps.stepGT (.one rfl rfl rfl) hg1 rfl rfl (sp_call (r := .r (.bool r8)) (caps := []) (bs := [.r (.sl (r2.map GElem.row)), .r (.sl (r7.map GElem.row))]) rfl (.inl rfl) rfl ⟨⟨_, (.inl rfl), .d rfl⟩, ⟨_, (.inl rfl), .d rfl⟩, trivial⟩ (fun _ => w_ref_SameFlow (er8)) rfl) ?_
        refine AOps.step rfl rfl rfl (OpQ.spec (sp_and rfl (.inl rfl) (.inl rfl)) _) ?_
        refine AOps.step rfl rfl rfl (OpQ.spec (sp_move rfl (.inl rfl)) _) ?_
        refine AOps.stepW (.one rfl rfl rfl) rfl rfl (OpQ.spec (sp_move rfl (.inl rfl)) _) ?_
        refine AOps.stepW (.one rfl rfl rfl) rfl rfl (OpQ.spec (sp_move rfl (.inl rfl)) _) ?_
        refine AOps.stepW (.one rfl rfl rfl) rfl rfl (OpQ.spec (ms_loadA_box rfl ta_34 (.inl rfl) rfl rfl) _) ?_
        refine AOps.split ((((decide (r3 = 0)) && (decide (r5 = 0))) && r8) == true) (fun hg2 => ?_) (fun hg2 => ?_)
        · have h13 := ite_t hg2 h12
          refine AOps.weak (by exact Weak.unw (e' := [(0, .r (.sl (f1.map GElem.row))), (1, .r (.sl (d1.map GStep.row))), (5, .r (.sl (r2.map GElem.row))), (6, .r (.int .i64 r3)), (7, .r (.sl (r4.map GStep.row))), (8, .r (.int .i64 r5)), (9, .r (.int .i64 p1)), (10, .ptr 10 n0 0 0), (28, .r (.int .i64 p1)), (29, .r (.bool (!decide (p1 = 0)))), (46, .r (.sl (d1.map GStep.row))), (47, .agg [.r (.sl (r6.Adds.map (rSl GElem.row))), .r (.sl (r6.Cuts.map rBool)), .r (.sl (r6.Attrs.map (rSl GAttr.row)))]), (48, .r (.int .i64 r3)), (49, .r (.bool (decide (r3 = 0)))), (50, .r (.bool (decide (r3 = 0)))), (53, .r (.bool ((decide (r3 = 0)) && (decide (r5 = 0))))), (54, .r (.bool ((decide (r3 = 0)) && (decide (r5 = 0))))), (55, .r (.sl (r2.map GElem.row))), (56, .r (.sl (f1.map GElem.row))), (57, .agg [.r (.sl (r6.Adds.map (rSl GElem.row))), .r (.sl (r6.Cuts.map rBool)), .r (.sl (r6.Attrs.map (rSl GAttr.row)))]), (58, .r (.sl (r7.map GElem.row))), (59, .r (.bool r8)), (60, .r (.bool (((decide (r3 = 0)) && (decide (r5 = 0))) && r8))), (61, .r (.bool (((decide (r3 = 0)) && (decide (r5 = 0))) && r8))), (62, .r (.sl (r4.map GStep.row))), (63, .r (.sl (f1.map GElem.row))), (64, .agg [.r (.sl (r6.Adds.map (rSl GElem.row))), .r (.sl (r6.Cuts.map rBool)), .r (.sl (r6.Attrs.map (rSl GAttr.row)))])]) hg2 ⟨.inl rfl, .inl rfl, .inl rfl, .inl rfl, .inl rfl, .inl rfl, .inl rfl, .inl rfl, .inl rfl, .inl rfl, .inl rfl, .inl rfl, .inl rfl, .inl rfl, .inl rfl, .inl rfl, .inl rfl, .inl rfl, .inl rfl, .inl rfl, .inl rfl, .inl rfl, .inl rfl, .inl rfl, .inr rfl, .inr rfl, .inr rfl, trivial⟩) ?_
          refine ob1k h13 fun r9 er9 h14 => ?_
          refine AOps.stepGT (.one rfl rfl rfl) hg2 rfl rfl (sp_callS (r := .agg [.r (.sl (r9.Adds.map (rSl GElem.row))), .r (.sl (r9.Cuts.map rBool)), .r (.sl (r9.Attrs.map (rSl GAttr.row)))]) (caps := []) (bs := [.r (.sl (f1.map GElem.row)), .agg [.r (.sl (r6.Adds.map (rSl GElem.row))), .r (.sl (r6.Cuts.map rBool)), .r (.sl (r6.Attrs.map (rSl GAttr.row)))]]) rfl (.inl rfl) rfl ⟨.inl ⟨(.inl rfl), rfl⟩, .inl ⟨(.inl rfl), rfl⟩, trivial⟩ (fun _ => w_ref_Back (er9))) ?_
          refine ob1k h14 fun r10 er10 h15 => ?_
          refine AOps.stepGT (.one rfl rfl rfl) hg2 rfl rfl (sp_callS (r := .r (.sl (r10.map GStep.row))) (caps := []) (bs := [.agg [.r (.sl (r9.Adds.map (rSl GElem.row))), .r (.sl (r9.Cuts.map rBool)), .r (.sl (r9.Attrs.map (rSl GAttr.row)))]]) rfl (.inl rfl) rfl ⟨.inl ⟨(.inl rfl), rfl⟩, trivial⟩ (fun _ => w_ref_DeltaOf (er10))) ?_
          refine ob1k h15 fun r11 er11 h16 => ?_
          refine AOps.stepGT (.one rfl rfl rfl) hg2 rfl rfl (sp_call (r := .r (.bool r11)) (caps := []) (bs := [.r (.sl (r4.map GStep.row)), .r (.sl (r10.map GStep.row))]) rfl (.inl rfl) rfl ⟨⟨_, (.inl rfl), .d rfl⟩, ⟨_, (.inl rfl), .d rfl⟩, trivial⟩ (fun _ => w_ref_SameDelta (er11)) rfl) ?_
          refine AOps.step rfl rfl rfl (OpQ.spec (sp_and rfl (.inl rfl) (.inl rfl)) _) ?_
          refine AOps.step rfl rfl rfl (OpQ.spec (sp_assign rfl (.inl rfl)) _) ?_
          refine AOps.nil ?_
          exact wK12 _ _ ((by exact Weak.cv ⟨.inl (.inl rfl), trivial⟩ trivial (Nat.le_refl _))) (J1 _ (vec [(n0 + 1)]) (Option.some.inj h16).symm)
        · have h13 := ite_f hg2 h12
          refine AOps.stepGF2 (.one rfl rfl rfl) hg2 rfl rfl ?_
          refine AOps.stepGF2 (.one rfl rfl rfl) hg2 rfl rfl ?_
          refine AOps.stepGF2 (.one rfl rfl rfl) hg2 rfl rfl ?_
          refine AOps.step rfl rfl rfl (OpQ.spec (sp_and rfl (.inl rfl) (.inr ⟨_, (by exact id), rfl⟩)) _) ?_
          refine AOps.step rfl rfl rfl (OpQ.spec (sp_assign rfl (.inl rfl)) _) ?_
          refine AOps.nil ?_
          exact wK12 _ _ ((by exact Weak.cv ⟨.inl (.inl rfl), trivial⟩ trivial (Nat.le_refl _))) (J1 _ (vec [(n0 + 1)]) (Option.some.inj h13).symm)
      · have h10 := ite_f hg1 hp1
        refine AOps.stepGF2 (.one rfl rfl rfl) hg1 rfl rfl ?_
        refine AOps.stepGF2 (.one rfl rfl rfl) hg1 rfl rfl ?_
        refine AOps.step rfl rfl rfl (OpQ.spec (sp_and rfl (.inl rfl) (.inr ⟨_, (by exact id), rfl⟩)) _) ?_
        refine AOps.step rfl rfl rfl (OpQ.spec (sp_move rfl (.inl rfl)) _) ?_
        refine AOps.stepW (.one rfl rfl rfl) rfl rfl (OpQ.spec (sp_move rfl (.inl rfl)) _) ?_
        refine AOps.stepW (.one rfl rfl rfl) rfl rfl (OpQ.spec (sp_move rfl (.inl rfl)) _) ?_
        refine AOps.stepW (.one rfl rfl rfl) rfl rfl (OpQ.spec (ms_loadA_box rfl ta_34 (.inl rfl) rfl rfl) _) ?_
        refine AOps.split ((((decide (r3 = 0)) && (decide (r5 = 0))) && false) == true) (fun hg3 => ?_) (fun hg3 => ?_)
        · have h17 := ite_t hg3 h10
          refine AOps.weak (by exact Weak.unw (e' := [(0, .r (.sl (f1.map GElem.row))), (1, .r (.sl (d1.map GStep.row))), (5, .r (.sl (r2.map GElem.row))), (6, .r (.int .i64 r3)), (7, .r (.sl (r4.map GStep.row))), (8, .r (.int .i64 r5)), (9, .r (.int .i64 p1)), (10, .ptr 10 n0 0 0), (28, .r (.int .i64 p1)), (29, .r (.bool (!decide (p1 = 0)))), (46, .r (.sl (d1.map GStep.row))), (47, .agg [.r (.sl (r6.Adds.map (rSl GElem.row))), .r (.sl (r6.Cuts.map rBool)), .r (.sl (r6.Attrs.map (rSl GAttr.row)))]), (48, .r (.int .i64 r3)), (49, .r (.bool (decide (r3 = 0)))), (50, .r (.bool (decide (r3 = 0)))), (53, .r (.bool ((decide (r3 = 0)) && (decide (r5 = 0))))), (54, .r (.bool ((decide (r3 = 0)) && (decide (r5 = 0))))), (60, .r (.bool (((decide (r3 = 0)) && (decide (r5 = 0))) && false))), (61, .r (.bool (((decide (r3 = 0)) && (decide (r5 = 0))) && false))), (62, .r (.sl (r4.map GStep.row))), (63, .r (.sl (f1.map GElem.row))), (64, .agg [.r (.sl (r6.Adds.map (rSl GElem.row))), .r (.sl (r6.Cuts.map rBool)), .r (.sl (r6.Attrs.map (rSl GAttr.row)))])]) hg3 ⟨.inl rfl, .inl rfl, .inl rfl, .inl rfl, .inl rfl, .inl rfl, .inl rfl, .inl rfl, .inl rfl, .inl rfl, .inl rfl, .inl rfl, .inl rfl, .inl rfl, .inl rfl, .inl rfl, .inl rfl, .inl rfl, .inl rfl, .inr rfl, .inr rfl, .inr rfl, trivial⟩) ?_
          refine ob1k h17 fun r12 er12 h18 => ?_
          refine AOps.stepGT (.one rfl rfl rfl) hg3 rfl rfl (sp_callS (r := .agg [.r (.sl (r12.Adds.map (rSl GElem.row))), .r (.sl (r12.Cuts.map rBool)), .r (.sl (r12.Attrs.map (rSl GAttr.row)))]) (caps := []) (bs := [.r (.sl (f1.map GElem.row)), .agg [.r (.sl (r6.Adds.map (rSl GElem.row))), .r (.sl (r6.Cuts.map rBool)), .r (.sl (r6.Attrs.map (rSl GAttr.row)))]]) rfl (.inl rfl) rfl ⟨.inl ⟨(.inl rfl), rfl⟩, .inl ⟨(.inl rfl), rfl⟩, trivial⟩ (fun _ => w_ref_Back (er12))) ?_
          refine ob1k h18 fun r13 er13 h19 => ?_
          refine AOps.stepGT (.one rfl rfl rfl) hg3 rfl rfl (sp_callS (r := .r (.sl (r13.map GStep.row))) (caps := []) (bs := [.agg [.r (.sl (r12.Adds.map (rSl GElem.row))), .r (.sl (r12.Cuts.map rBool)), .r (.sl (r12.Attrs.map (rSl GAttr.row)))]]) rfl (.inl rfl) rfl ⟨.inl ⟨(.inl rfl), rfl⟩, trivial⟩ (fun _ => w_ref_DeltaOf (er13))) ?_
          refine ob1k h19 fun r14 er14 h20 => ?_
          refine AOps.stepGT (.one rfl rfl rfl) hg3 rfl rfl (sp_call (r := .r (.bool r14)) (caps := []) (bs := [.r (.sl (r4.map GStep.row)), .r (.sl (r13.map GStep.row))]) rfl (.inl rfl) rfl ⟨⟨_, (.inl rfl), .d rfl⟩, ⟨_, (.inl rfl), .d rfl⟩, trivial⟩ (fun _ => w_ref_SameDelta (er14)) rfl) ?_
          refine AOps.step rfl rfl rfl (OpQ.spec (sp_and rfl (.inl rfl) (.inl rfl)) _) ?_
          refine AOps.step rfl rfl rfl (OpQ.spec (sp_assign rfl (.inl rfl)) _) ?_
          refine AOps.nil ?_
          exact wK12 _ _ ((by exact Weak.cv ⟨.inl (.inl rfl), trivial⟩ trivial (Nat.le_refl _))) (J1 _ (vec [(n0 + 1)]) (Option.some.inj h20).symm)
        · have h17 := ite_f hg3 h10
          refine AOps.stepGF2 (.one rfl rfl rfl) hg3 rfl rfl ?_
          refine AOps.stepGF2 (.one rfl rfl rfl) hg3 rfl rfl ?_
          refine AOps.stepGF2 (.one rfl rfl rfl) hg3 rfl rfl ?_
          refine AOps.step rfl rfl rfl (OpQ.spec (sp_and rfl (.inl rfl) (.inr ⟨_, (by exact id), rfl⟩)) _) ?_
          refine AOps.step rfl rfl rfl (OpQ.spec (sp_assign rfl (.inl rfl)) _) ?_
          refine AOps.nil ?_
          exact wK12 _ _ ((by exact Weak.cv ⟨.inl (.inl rfl), trivial⟩ trivial (Nat.le_refl _))) (J1 _ (vec [(n0 + 1)]) (Option.some.inj h17).symm)
end Go.Proofs.Ytdeglnbioiicaaa.Al
