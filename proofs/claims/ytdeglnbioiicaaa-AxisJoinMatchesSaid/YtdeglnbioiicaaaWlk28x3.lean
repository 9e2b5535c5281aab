/- Walks, as printed. -/
import Derived.Test.YtdeglnbioiicaaaWlk28x2
import Derived.Test.YtdeglnbioiicaaaProg
set_option linter.unusedVariables false
namespace Go.Proofs.Ytdeglnbioiicaaa.Al
open Go.Proofs
set_option maxHeartbeats 4000000 in
set_option maxRecDepth 20000 in
theorem w_ref_Both {a1 : Ref_Act} {b1 : Ref_Act} {r : Ref_Act} (h : ref_Both a1 b1 = some r) : ARO Try.prog 22 [.agg [.r (.sl (a1.Adds.map (rSl GElem.row))), .r (.sl (a1.Cuts.map rBool)), .r (.sl (a1.Attrs.map (rSl GAttr.row)))], .agg [.r (.sl (b1.Adds.map (rSl GElem.row))), .r (.sl (b1.Cuts.map rBool)), .r (.sl (b1.Attrs.map (rSl GAttr.row)))]] (.agg [.r (.sl (r.Adds.map (rSl GElem.row))), .r (.sl (r.Cuts.map rBool)), .r (.sl (r.Attrs.map (rSl GAttr.row)))]) := by
  unfold ref_Both at h
  refine ARO.mkF Try.func22 rfl rfl Try.ntmps22 rfl (Nat.le_of_ble_eq_true rfl) fun n0 => ?_
  refine AW.seq_w fun K1 hK1 wK1 => ?_
  refine AW.region ?_
  refine AOps.step rfl rfl rfl (ms_box (cs := [.r (.sl (a1.Adds.map (rSl GElem.row))), .r (.sl (a1.Cuts.map rBool)), .r (.sl (a1.Attrs.map (rSl GAttr.row)))]) 2 rfl (.inl rfl) rfl rfl) ?_
  refine AOps.step rfl rfl rfl (ms_box (cs := [.r (.sl (b1.Adds.map (rSl GElem.row))), .r (.sl (b1.Cuts.map rBool)), .r (.sl (b1.Attrs.map (rSl GAttr.row)))]) 3 rfl (.inl rfl) rfl rfl) ?_
  refine AOps.step rfl rfl rfl (ms_alloc (cs := [.cst (.slice none 0 0), .cst (.slice none 0 0), .cst (.slice none 0 0)]) 4 rfl t0_34 rfl rfl) ?_
  refine AOps.nil ?_
  refine hK1 _ ?_
  refine AW.seq_w fun K2 hK2 wK2 => ?_
  refine AW.region ?_
  refine AOps.step rfl rfl rfl (ms_lit 12 rfl tg_30 (f := (rSl GElem.row)) (l := ([[]] : List (List GElem))) ⟨rfl, ⟨_, (.inl rfl), rfl⟩, trivial⟩ rfl (fun _ => rfl) rfl) ?_
  refine AOps.step rfl rfl rfl (OpQ.spec (sp_build rfl tb_34 (q := [(0, _)]) (by exact ⟨rfl, rfl, rfl, (.inl rfl), trivial⟩) (cs := [.own 12 (n0 + 3), .cst (.slice none 0 0), .cst (.slice none 0 0)]) (by rfl)) _) ?_
  refine AOps.step rfl rfl rfl (ms_alloc (cs := [.cst (.slice none 0 0), .cst (.slice none 0 0), .cst (.slice none 0 0)]) 5 rfl t0_34 rfl rfl) ?_
  refine AOps.step0 rfl rfl (ms_store_box (ds := [.own 12 (n0 + 3), .cst (.slice none 0 0), .cst (.slice none 0 0)]) rfl tz_34 (.inl rfl) rfl (.inl rfl) rfl rfl rfl rfl) ?_
  refine AOps.nil ?_
  refine hK2 _ ?_
  refine AW.seq_w fun K3 hK3 wK3 => ?_
  refine AW.region ?_
  refine AOps.step rfl rfl rfl (OpQ.spec (sp_assign rfl (.inl rfl)) _) ?_
  refine AOps.nil ?_
  refine hK3 _ ?_
  refine AW.seq_w fun K4 hK4 wK4 => ?_
  refine AW.seq_w fun K5 hK5 wK5 => ?_
  refine AW.region ?_
  refine AOps.step rfl rfl rfl (OpQ.spec (sp_assign rfl (.inl rfl)) _) ?_
  refine AOps.nil ?_
  refine hK5 _ ?_
  refine AW.block ?_
  refine jb1k h fun o1 hit1 hk1 => ?_
  have J1 : ∀ (out4 : Ref_Act) (i8 : Nat → Nat), o1 = out4 → K4 ⟨[(4, .ptr 4 (n0 + 2) 0 0), (5, .ptr 5 (n0 + 4) 0 0)], [(4, some (.box (n0 + 2) 34 [.cst (.slice none 0 0), .cst (.slice none 0 0), .cst (.slice none 0 0)])), (5, some (.box (n0 + 4) 34 [.own 12 (i8 0), .own 9081 (i8 1), .own 9082 (i8 2)])), (12, some (.arr (i8 0) 39 1 (out4.Adds.map (rSl GElem.row)))), (9081, some (.arr (i8 1) 4 1 (out4.Cuts.map rBool))), (9082, some (.arr (i8 2) 47 1 (out4.Attrs.map (rSl GAttr.row))))], (i8 3), 186⟩ := by
    intro out4 i8 e
    have h1 := hk1 _ e
    refine hK4 _ ?_
    refine AW.seq_w fun K6 hK6 wK6 => ?_
    refine AW.region ?_
    refine AOps.step rfl rfl rfl (OpQ.spec (ms_loadA_box rfl ta_34 (.inl rfl) rfl rfl) _) ?_
    refine AOps.step0 rfl rfl (ms_store_box (ds := [.own 12 (i8 0), .own 9081 (i8 1), .own 9082 (i8 2)]) rfl tz_34 (.inl rfl) rfl (.inl rfl) rfl rfl rfl rfl) ?_
    refine AOps.nil ?_
    refine hK6 _ ?_
    refine AW.ret ?_
    exact retf1 (P := Try.prog) (fun (r : Ref_Act) => .agg [.r (.sl (r.Adds.map (rSl GElem.row))), .r (.sl (r.Cuts.map rBool)), .r (.sl (r.Attrs.map (rSl GAttr.row)))]) h1 (.inl rfl) (.a ta_34 rfl rfl rfl (.agg ⟨.own rfl, .own rfl, .own rfl, trivial⟩))
  refine AW.iter3 (fun (at2 : Int) (i4 : Int) (out2 : Ref_Act) i5 => ⟨[(2, .ptr 2 n0 0 0), (3, .ptr 3 (n0 + 1) 0 0), (4, .ptr 4 (n0 + 2) 0 0), (5, .ptr 5 (n0 + 4) 0 0), (6, .r (.int .i64 at2)), (7, .r (.int .i64 i4))], [(2, some (.box n0 34 [.r (.sl (a1.Adds.map (rSl GElem.row))), .r (.sl (a1.Cuts.map rBool)), .r (.sl (a1.Attrs.map (rSl GAttr.row)))])), (3, some (.box (n0 + 1) 34 [.r (.sl (b1.Adds.map (rSl GElem.row))), .r (.sl (b1.Cuts.map rBool)), .r (.sl (b1.Attrs.map (rSl GAttr.row)))])), (4, some (.box (n0 + 2) 34 [.cst (.slice none 0 0), .cst (.slice none 0 0), .cst (.slice none 0 0)])), (5, some (.box (n0 + 4) 34 [.own 12 (i5 0), .own 9081 (i5 1), .own 9082 (i5 2)])), (12, some (.arr (i5 0) 39 1 (out2.Adds.map (rSl GElem.row)))), (9081, some (.arr (i5 1) 4 1 (out2.Cuts.map rBool))), (9082, some (.arr (i5 2) 47 1 (out2.Attrs.map (rSl GAttr.row))))], (i5 3), 186⟩) (vec [(n0 + 3), (n0 + 5), (n0 + 6), (n0 + 7)]) hit1 (Weak.trans (Weak.trans (Weak.adoptBox 5 1 9081 4 1 (by decide) rfl rfl (by decide)) (by exact Weak.cv (e' := [(0, .agg [.r (.sl (a1.Adds.map (rSl GElem.row))), .r (.sl (a1.Cuts.map rBool)), .r (.sl (a1.Attrs.map (rSl GAttr.row)))]), (1, .agg [.r (.sl (b1.Adds.map (rSl GElem.row))), .r (.sl (b1.Cuts.map rBool)), .r (.sl (b1.Attrs.map (rSl GAttr.row)))]), (2, .ptr 2 n0 0 0), (3, .ptr 3 (n0 + 1) 0 0), (4, .ptr 4 (n0 + 2) 0 0), (5, .ptr 5 (n0 + 4) 0 0), (6, .r (.int .i64 0)), (7, .r (.int .i64 0)), (12, .own 12 (n0 + 3)), (13, .agg [.own 12 (n0 + 3), .cst (.slice none 0 0), .cst (.slice none 0 0)])]) (h' := [(2, some (.box n0 34 [.r (.sl (a1.Adds.map (rSl GElem.row))), .r (.sl (a1.Cuts.map rBool)), .r (.sl (a1.Attrs.map (rSl GAttr.row)))])), (3, some (.box (n0 + 1) 34 [.r (.sl (b1.Adds.map (rSl GElem.row))), .r (.sl (b1.Cuts.map rBool)), .r (.sl (b1.Attrs.map (rSl GAttr.row)))])), (4, some (.box (n0 + 2) 34 [.cst (.slice none 0 0), .cst (.slice none 0 0), .cst (.slice none 0 0)])), (5, some (.box (n0 + 4) 34 [.own 12 (n0 + 3), .own 9081 (n0 + 5), .cst (.slice none 0 0)])), (12, some (.arr (n0 + 3) 39 1 ([[]].map (rSl GElem.row)))), (9081, some (.arr (n0 + 5) 4 1 (([] : List Bool).map rBool)))]) ⟨.inl (.inl rfl), .inl (.inl rfl), .inl (.inl rfl), .inl (.inl rfl), .inl (.inl rfl), .inl (.inl rfl), .inl (.inl rfl), .inl (.inl rfl), .inl (.inl rfl), .inl (.inl rfl), trivial⟩ ⟨.inl rfl, .inl rfl, .inl rfl, .inl rfl, .inl rfl, .inl rfl, trivial⟩ (Nat.le_refl _))) (Weak.trans (Weak.trans (Weak.adoptBox 5 2 9082 47 1 (by decide) rfl rfl (by decide)) (by exact Weak.cv (e' := [(0, .agg [.r (.sl (a1.Adds.map (rSl GElem.row))), .r (.sl (a1.Cuts.map rBool)), .r (.sl (a1.Attrs.map (rSl GAttr.row)))]), (1, .agg [.r (.sl (b1.Adds.map (rSl GElem.row))), .r (.sl (b1.Cuts.map rBool)), .r (.sl (b1.Attrs.map (rSl GAttr.row)))]), (2, .ptr 2 n0 0 0), (3, .ptr 3 (n0 + 1) 0 0), (4, .ptr 4 (n0 + 2) 0 0), (5, .ptr 5 (n0 + 4) 0 0), (6, .r (.int .i64 0)), (7, .r (.int .i64 0)), (12, .own 12 (n0 + 3)), (13, .agg [.own 12 (n0 + 3), .cst (.slice none 0 0), .cst (.slice none 0 0)])]) (h' := [(2, some (.box n0 34 [.r (.sl (a1.Adds.map (rSl GElem.row))), .r (.sl (a1.Cuts.map rBool)), .r (.sl (a1.Attrs.map (rSl GAttr.row)))])), (3, some (.box (n0 + 1) 34 [.r (.sl (b1.Adds.map (rSl GElem.row))), .r (.sl (b1.Cuts.map rBool)), .r (.sl (b1.Attrs.map (rSl GAttr.row)))])), (4, some (.box (n0 + 2) 34 [.cst (.slice none 0 0), .cst (.slice none 0 0), .cst (.slice none 0 0)])), (5, some (.box (n0 + 4) 34 [.own 12 (n0 + 3), .own 9081 (n0 + 5), .own 9082 (n0 + 6)])), (12, some (.arr (n0 + 3) 39 1 ([[]].map (rSl GElem.row)))), (9081, some (.arr (n0 + 5) 4 1 (([] : List Bool).map rBool))), (9082, some (.arr (n0 + 6) 47 1 (([] : List (List GAttr)).map (rSl GAttr.row))))]) ⟨.inl (.inl rfl), .inl (.inl rfl), .inl (.inl rfl), .inl (.inl rfl), .inl (.inl rfl), .inl (.inl rfl), .inl (.inl rfl), .inl (.inl rfl), .inl (.inl rfl), .inl (.inl rfl), trivial⟩ ⟨.inl rfl, .inl rfl, .inl rfl, .inl rfl, .inl rfl, .inl rfl, .inl rfl, trivial⟩ (Nat.le_refl _))) (by exact Weak.cv ⟨.inl (.inl rfl), .inl (.inl rfl), .inl (.inl rfl), .inl (.inl rfl), .inl (.inl rfl), .inl (.inl rfl), trivial⟩ ⟨.inl rfl, .inl rfl, .inl rfl, .inl rfl, .inl rfl, .inl rfl, .inl rfl, trivial⟩ (Nat.le_refl _)))) ?_
  intro at2 i4 out2 i5 v1 hv1 hx1
  have h2 : ref_Both_L1 a1 b1 at2 i4 out2 = some v1 := hv1; unfold ref_Both_L1 at h2
  refine AW.seq_w fun K7 hK7 wK7 => ?_
  refine AW.seq_w fun K8 hK8 wK8 => ?_
  refine AW.region ?_
  refine AOps.step rfl rfl rfl (OpQ.spec (sp_move rfl (.inl rfl)) _) ?_
  refine AOps.step rfl rfl rfl (OpQ.spec (sp_fieldAddr_own (ob := .box _ _ _) rfl tf_34_1 (.inl rfl) (fun _ => rfl) rfl) _) ?_
  refine AOps.step rfl rfl rfl (OpQ.spec (ms_load_box (a := .r (.sl (a1.Cuts.map rBool))) rfl ts_31 (.inl rfl) rfl rfl) _) ?_
  refine AOps.step rfl rfl rfl (OpQ.spec (ms_len rfl tg_31.slice (.inl rfl)) _) ?_
  refine AOps.step rfl rfl rfl (OpQ.spec (sp_leq rfl (.inl rfl) (.inl rfl)) _) ?_
  refine AOps.nil ?_
  refine hK8 _ ?_
  refine AW.cond rfl (fun hc1 => ?_) (fun hc1 => ?_)
  · have h3 := ite_t hc1 h2
    refine AW.skip ?_
    refine hK7 _ ?_
    refine AW.seq_w fun K9 hK9 wK9 => ?_
    refine AW.block ?_
    refine jc2k h3 fun p1 hp1 hk2 he2 => ?_
    have J2 : ∀ (at4 : Int) (out5 : Ref_Act) (i9 : Nat → Nat), p1 = .nrm (at4, out5) → K9 ⟨[(2, .ptr 2 n0 0 0), (3, .ptr 3 (n0 + 1) 0 0), (4, .ptr 4 (n0 + 2) 0 0), (5, .ptr 5 (n0 + 4) 0 0), (6, .r (.int .i64 at4)), (7, .r (.int .i64 i4))], [(2, some (.box n0 34 [.r (.sl (a1.Adds.map (rSl GElem.row))), .r (.sl (a1.Cuts.map rBool)), .r (.sl (a1.Attrs.map (rSl GAttr.row)))])), (3, some (.box (n0 + 1) 34 [.r (.sl (b1.Adds.map (rSl GElem.row))), .r (.sl (b1.Cuts.map rBool)), .r (.sl (b1.Attrs.map (rSl GAttr.row)))])), (4, some (.box (n0 + 2) 34 [.cst (.slice none 0 0), .cst (.slice none 0 0), .cst (.slice none 0 0)])), (5, some (.box (n0 + 4) 34 [.own 12 (i9 0), .own 9081 (i9 1), .own 9082 (i9 2)])), (12, some (.arr (i9 0) 39 1 (out5.Adds.map (rSl GElem.row)))), (9081, some (.arr (i9 1) 4 1 (out5.Cuts.map rBool))), (9082, some (.arr (i9 2) 47 1 (out5.Attrs.map (rSl GAttr.row))))], (i9 3), 186⟩ := by
      intro at4 out5 i9 e
      have h4 := hk2 _ _ e
      refine hK9 _ ?_
      refine AW.region ?_
      refine AOps.step rfl rfl rfl (OpQ.spec (sp_move rfl (.inl rfl)) _) ?_
      refine ob1k h4 fun i10 ei10 h5 => ?_
      refine AOps.step rfl rfl rfl (OpQ.spec (ms_add rfl (.inl rfl) (.inl rfl) (fun _ => ei10)) _) ?_
      refine AOps.step rfl rfl rfl (OpQ.spec (sp_assign rfl (.inl rfl)) _) ?_
      refine AOps.nil ?_
      exact NextQ3.mk h5 (vec [(i9 0), (i9 1), (i9 2), (i9 3)]) ((by exact Weak.cv ⟨.inl (.inl rfl), .inl (.inl rfl), .inl (.inl rfl), .inl (.inl rfl), .inl (.inl rfl), .inl (.inl rfl), trivial⟩ ⟨.inl rfl, .inl rfl, .inl rfl, .inl rfl, .inl rfl, .inl rfl, .inl rfl, trivial⟩ (Nat.le_refl _)))
    refine AW.seq_w fun K10 hK10 wK10 => ?_
    refine AW.seq_w fun K11 hK11 wK11 => ?_
    refine AW.region ?_
    refine AOps.step rfl rfl rfl (OpQ.spec (sp_fieldAddr_own (ob := .box _ _ _) rfl tf_34_0 (.inl rfl) (fun _ => rfl) rfl) _) ?_
    refine AOps.step rfl rfl rfl (OpQ.spec (ms_load_box (a := .r (.sl (a1.Adds.map (rSl GElem.row)))) rfl ts_30 (.inl rfl) rfl rfl) _) ?_
    refine AOps.step rfl rfl rfl (OpQ.spec (sp_move rfl (.inl rfl)) _) ?_
    refine ob1k hp1 fun x1 ex1 h6 => ?_
    refine AOps.step rfl rfl rfl (OpQ.spec (ms_idx rfl tg_30.slice (.inl rfl) (.inl rfl) (fun _ => rfl) (fun _ => ex1)) _) ?_
    refine AOps.step rfl rfl rfl (OpQ.spec (ms_load (d := .sl (x1.map GElem.row)) rfl ts_39 (.inl rfl) rfl) _) ?_
    refine AOps.step rfl rfl rfl (OpQ.spec (ms_len rfl tg_39.slice (.inl rfl)) _) ?_
    refine AOps.step rfl rfl rfl (OpQ.spec (sp_move rfl (.inl rfl)) _) ?_
    refine AOps.nil ?_
    refine hK11 _ ?_
    refine AW.block ?_
    refine jb2k h6 fun o2 hit2 hk3 => ?_
    have J3 : ∀ (at8 : Int) (out9 : Ref_Act) (i15 : Nat → Nat), o2 = (at8, out9) → K10 ⟨[(2, .ptr 2 n0 0 0), (3, .ptr 3 (n0 + 1) 0 0), (4, .ptr 4 (n0 + 2) 0 0), (5, .ptr 5 (n0 + 4) 0 0), (6, .r (.int .i64 at8)), (7, .r (.int .i64 i4))], [(2, some (.box n0 34 [.r (.sl (a1.Adds.map (rSl GElem.row))), .r (.sl (a1.Cuts.map rBool)), .r (.sl (a1.Attrs.map (rSl GAttr.row)))])), (3, some (.box (n0 + 1) 34 [.r (.sl (b1.Adds.map (rSl GElem.row))), .r (.sl (b1.Cuts.map rBool)), .r (.sl (b1.Attrs.map (rSl GAttr.row)))])), (4, some (.box (n0 + 2) 34 [.cst (.slice none 0 0), .cst (.slice none 0 0), .cst (.slice none 0 0)])), (5, some (.box (n0 + 4) 34 [.own 12 (i15 0), .own 9081 (i15 1), .own 9082 (i15 2)])), (12, some (.arr (i15 0) 39 1 (out9.Adds.map (rSl GElem.row)))), (9081, some (.arr (i15 1) 4 1 (out9.Cuts.map rBool))), (9082, some (.arr (i15 2) 47 1 (out9.Attrs.map (rSl GAttr.row))))], (i15 3), 186⟩ := by
      intro at8 out9 i15 e
      have h7 := hk3 _ _ e
      refine hK10 _ ?_
      refine AW.seq_w fun K12 hK12 wK12 => ?_
      refine AW.region ?_
      refine AOps.step rfl rfl rfl (OpQ.spec (sp_fieldAddr_own (ob := .box _ _ _) rfl tf_34_0 (.inl rfl) (fun _ => rfl) rfl) _) ?_
      refine AOps.step rfl rfl rfl (OpQ.spec (ms_load_box (a := .own 12 (i15 0)) rfl ts_30 (.inl rfl) rfl rfl) _) ?_
      refine AOps.step rfl rfl rfl (OpQ.spec (ms_len_own rfl tg_30.slice (.inl rfl) rfl) _) ?_
      refine ob1k h7 fun last1 elast1 h8 => ?_
      refine AOps.step rfl rfl rfl (OpQ.spec (ms_sub rfl (.inl rfl) (.inl rfl) (fun _ => elast1)) _) ?_
      refine AOps.step rfl rfl rfl (OpQ.spec (sp_assign rfl (.inl rfl)) _) ?_
      refine AOps.nil ?_
      refine hK12 _ ?_
      refine AW.seq_w fun K13 hK13 wK13 => ?_
      refine AW.seq_w fun K14 hK14 wK14 => ?_
      refine AW.region ?_
      refine AOps.step rfl rfl rfl (OpQ.spec (sp_move rfl (.inl rfl)) _) ?_
      refine AOps.step rfl rfl rfl (OpQ.spec (sp_fieldAddr_own (ob := .box _ _ _) rfl tf_34_1 (.inl rfl) (fun _ => rfl) rfl) _) ?_
      refine AOps.step rfl rfl rfl (OpQ.spec (ms_load_box (a := .r (.sl (a1.Cuts.map rBool))) rfl ts_31 (.inl rfl) rfl rfl) _) ?_
      refine AOps.step rfl rfl rfl (OpQ.spec (ms_len rfl tg_31.slice (.inl rfl)) _) ?_
      refine AOps.step rfl rfl rfl (OpQ.spec (sp_eql rfl (.inl rfl) (.inl rfl)) _) ?_
      refine AOps.nil ?_
      refine hK14 _ ?_
      refine AW.cond rfl (fun hc2 => ?_) (fun hc2 => ?_)
      · have h9 := ite_t hc2 h8
        refine AW.seq_w fun K15 hK15 wK15 => ?_
        refine AW.weak (s' := ⟨[(3, .ptr 3 (n0 + 1) 0 0), (4, .ptr 4 (n0 + 2) 0 0), (5, .ptr 5 (n0 + 4) 0 0), (6, .r (.int .i64 at8)), (11, .r (.int .i64 last1))], [(3, some (.box (n0 + 1) 34 [.r (.sl (b1.Adds.map (rSl GElem.row))), .r (.sl (b1.Cuts.map rBool)), .r (.sl (b1.Attrs.map (rSl GAttr.row)))])), (4, some (.box (n0 + 2) 34 [.cst (.slice none 0 0), .cst (.slice none 0 0), .cst (.slice none 0 0)])), (5, some (.box (n0 + 4) 34 [.own 12 (i15 0), .own 9081 (i15 1), .own 9082 (i15 2)])), (12, some (.arr (i15 0) 39 1 (out9.Adds.map (rSl GElem.row)))), (9081, some (.arr (i15 1) 4 1 (out9.Cuts.map rBool))), (9082, some (.arr (i15 2) 47 1 (out9.Attrs.map (rSl GAttr.row))))], (i15 3), 186⟩) (by exact Weak.cv ⟨.inl (.inl rfl), .inl (.inl rfl), .inl (.inl rfl), .inl (.inl rfl), .inl (.inl rfl), trivial⟩ ⟨.inl rfl, .inl rfl, .inl rfl, .inl rfl, .inl rfl, .inl rfl, trivial⟩ (Nat.le_refl _)) ?_
        refine ob1k h9 fun x5 ex5 h10 => ?_
        refine ob1k h10 fun l1 el1 h11 => ?_
        refine ob1k h11 fun x6 ex6 h12 => ?_
        refine ob1k h12 fun l2 el2 h13 => ?_
        refine AW.regionP 16 [⟨some 98, (fun _ => .ptr 5 (n0 + 4) 0 0), none, []⟩, ⟨some 99, (fun _ => .own 12 (i15 0)), none, []⟩, ⟨some 100, (fun _ => .r (.int .i64 last1)), none, []⟩, ⟨some 101, (fun G1 => .own 101 (G1 3)), some (101, (fun G1 => some (.arr (G1 3) 113 3 (([] : List GElem).map GElem.row)))), [3]⟩, ⟨some 102, (fun _ => .ptr 5 (n0 + 4) 0 0), none, []⟩, ⟨some 103, (fun _ => .own 12 (i15 0)), none, []⟩, ⟨some 104, (fun _ => .r (.int .i64 last1)), none, []⟩, ⟨some 105, (fun _ => .ptr 12 (i15 0) last1.toNat 0), none, []⟩, ⟨some 106, (fun _ => .r (.sl (x5.map GElem.row))), none, []⟩, ⟨some 107, (fun G1 => .own 101 (G1 9)), some (101, (fun G1 => some (.arr (G1 9) 113 3 (l1.map GElem.row)))), [9]⟩, ⟨some 108, (fun _ => .ptr 3 (n0 + 1) 0 0), none, []⟩, ⟨some 109, (fun _ => .r (.sl (b1.Adds.map (rSl GElem.row)))), none, []⟩, ⟨some 110, (fun _ => .r (.int .i64 at8)), none, []⟩, ⟨some 111, (fun _ => .rop ((rSl GElem.row) x6) 0), none, []⟩, ⟨some 112, (fun _ => .r (.sl (x6.map GElem.row))), none, []⟩, ⟨some 113, (fun G1 => .own 101 (G1 15)), some (101, (fun G1 => some (.arr (G1 15) 113 3 (l2.map GElem.row)))), [15]⟩] hmix (by kernel_rfl) (by exact ⟨fun _ _ h => ⟨rfl, fun _ _ e => by cases e⟩, fun _ _ h => ⟨rfl, fun _ _ e => by cases e⟩, fun _ _ h => ⟨rfl, fun _ _ e => by cases e⟩, fun _ _ h => ⟨by simp only [h 3 rfl], fun _ _ e => by cases e; simp only [h 3 rfl]⟩, fun _ _ h => ⟨rfl, fun _ _ e => by cases e⟩, fun _ _ h => ⟨rfl, fun _ _ e => by cases e⟩, fun _ _ h => ⟨rfl, fun _ _ e => by cases e⟩, fun _ _ h => ⟨rfl, fun _ _ e => by cases e⟩, fun _ _ h => ⟨rfl, fun _ _ e => by cases e⟩, fun _ _ h => ⟨by simp only [h 9 rfl], fun _ _ e => by cases e; simp only [h 9 rfl]⟩, fun _ _ h => ⟨rfl, fun _ _ e => by cases e⟩, fun _ _ h => ⟨rfl, fun _ _ e => by cases e⟩, fun _ _ h => ⟨rfl, fun _ _ e => by cases e⟩, fun _ _ h => ⟨rfl, fun _ _ e => by cases e⟩, fun _ _ h => ⟨rfl, fun _ _ e => by cases e⟩, fun _ _ h => ⟨by simp only [h 15 rfl], fun _ _ e => by cases e; simp only [h 15 rfl]⟩, trivial⟩) rfl (by exact ⟨Ob.quiet (n1 := fun n => n) rfl rfl (by intro d h; cases h; rfl) rfl (fun _ => [(5, .ptr 5 (n0 + 4) 0 0)]) (fun _ => [(5, some (.box (n0 + 4) 34 [.own 12 (i15 0), .own 9081 (i15 1), .own 9082 (i15 2)]))]) (fun D G1 hr => ⟨inE_base rfl rfl, trivial⟩) (fun D G1 hr => ⟨inH_base rfl rfl, trivial⟩) (fun _ _ => rfl) (fun G1 e h' n => OpQ.spec (v := .ptr 5 (n0 + 4) 0 0) (sp_fieldAddr_own (ob := .box _ _ _) rfl tf_34_0 (.inl rfl) (fun _ => rfl) rfl) _),
            Ob.quiet (n1 := fun n => n) rfl rfl (by intro d h; cases h; rfl) rfl (fun _ => [(98, .ptr 5 (n0 + 4) 0 0)]) (fun _ => [(5, some (.box (n0 + 4) 34 [.own 12 (i15 0), .own 9081 (i15 1), .own 9082 (i15 2)]))]) (fun D G1 hr => ⟨inE_op hr 0 rfl rfl (by kernel_rfl) rfl rfl, trivial⟩) (fun D G1 hr => ⟨inH_base rfl rfl, trivial⟩) (fun _ _ => rfl) (fun G1 e h' n => OpQ.spec (v := .own 12 (i15 0)) (ms_load_box (a := .own 12 (i15 0)) rfl ts_30 (.inl rfl) rfl rfl) _),
            Ob.quiet (n1 := fun n => n) rfl rfl (by intro d h; cases h; rfl) rfl (fun _ => [(11, .r (.int .i64 last1))]) (fun _ => []) (fun D G1 hr => ⟨inE_base rfl rfl, trivial⟩) (fun D G1 hr => trivial) (fun _ _ => rfl) (fun G1 e h' n => OpQ.spec (v := .r (.int .i64 last1)) (sp_move rfl (.inl rfl)) _),
            Ob.make (n1 := fun n => n + 1) rfl rfl (by intro d h; cases h; rfl) rfl (fun _ => []) (fun _ => []) (fun D G1 hr => trivial) (fun D G1 hr => trivial) (fun G1 e h' n => ms_lit 101 rfl tg_39 (f := GElem.row) (l := ([] : List GElem)) trivial rfl (fun _ => rfl) rfl),
            Ob.quiet (n1 := fun n => n) rfl rfl (by intro d h; cases h; rfl) rfl (fun _ => [(5, .ptr 5 (n0 + 4) 0 0)]) (fun _ => [(5, some (.box (n0 + 4) 34 [.own 12 (i15 0), .own 9081 (i15 1), .own 9082 (i15 2)]))]) (fun D G1 hr => ⟨inE_base rfl rfl, trivial⟩) (fun D G1 hr => ⟨inH_base rfl rfl, trivial⟩) (fun _ _ => rfl) (fun G1 e h' n => OpQ.spec (v := .ptr 5 (n0 + 4) 0 0) (sp_fieldAddr_own (ob := .box _ _ _) rfl tf_34_0 (.inl rfl) (fun _ => rfl) rfl) _),
            Ob.quiet (n1 := fun n => n) rfl rfl (by intro d h; cases h; rfl) rfl (fun _ => [(102, .ptr 5 (n0 + 4) 0 0)]) (fun _ => [(5, some (.box (n0 + 4) 34 [.own 12 (i15 0), .own 9081 (i15 1), .own 9082 (i15 2)]))]) (fun D G1 hr => ⟨inE_op hr 4 rfl rfl (by kernel_rfl) rfl rfl, trivial⟩) (fun D G1 hr => ⟨inH_base rfl rfl, trivial⟩) (fun _ _ => rfl) (fun G1 e h' n => OpQ.spec (v := .own 12 (i15 0)) (ms_load_box (a := .own 12 (i15 0)) rfl ts_30 (.inl rfl) rfl rfl) _),
            Ob.quiet (n1 := fun n => n) rfl rfl (by intro d h; cases h; rfl) rfl (fun _ => [(11, .r (.int .i64 last1))]) (fun _ => []) (fun D G1 hr => ⟨inE_base rfl rfl, trivial⟩) (fun D G1 hr => trivial) (fun _ _ => rfl) (fun G1 e h' n => OpQ.spec (v := .r (.int .i64 last1)) (sp_move rfl (.inl rfl)) _),
            Ob.quiet (n1 := fun n => n) rfl rfl (by intro d h; cases h; rfl) rfl (fun _ => [(103, .own 12 (i15 0)), (104, .r (.int .i64 last1))]) (fun _ => [(12, some (.arr (i15 0) 39 1 (out9.Adds.map (rSl GElem.row))))]) (fun D G1 hr => ⟨inE_op hr 5 rfl rfl (by kernel_rfl) rfl rfl, inE_op hr 6 rfl rfl (by kernel_rfl) rfl rfl, trivial⟩) (fun D G1 hr => ⟨inH_base rfl rfl, trivial⟩) (fun _ _ => rfl) (fun G1 e h' n => OpQ.spec (v := .ptr 12 (i15 0) last1.toNat 0) (ms_idx_own rfl tg_30.slice (.inl rfl) rfl (.inl rfl) (fun _ => ex5)) _),
            Ob.quiet (n1 := fun n => n) rfl rfl (by intro d h; cases h; rfl) rfl (fun _ => [(105, .ptr 12 (i15 0) last1.toNat 0)]) (fun _ => [(12, some (.arr (i15 0) 39 1 (out9.Adds.map (rSl GElem.row))))]) (fun D G1 hr => ⟨inE_op hr 7 rfl rfl (by kernel_rfl) rfl rfl, trivial⟩) (fun D G1 hr => ⟨inH_base rfl rfl, trivial⟩) (fun _ _ => rfl) (fun G1 e h' n => OpQ.spec (v := .r (.sl (x5.map GElem.row))) (ms_load_own (d := .sl (x5.map GElem.row)) rfl ts_39 (.inl rfl) (fun _ => rfl) (fun _ => ex5) rfl) _),
            Ob.make (n1 := fun n => n + 1) rfl rfl (by intro d h; cases h; rfl) rfl (fun G1 => [(101, .own 101 (G1 3)), (106, .r (.sl (x5.map GElem.row)))]) (fun G1 => [(101, some (.arr (G1 3) 113 3 (([] : List GElem).map GElem.row)))]) (fun D G1 hr => ⟨inE_op hr 3 rfl rfl (by kernel_rfl) rfl rfl, inE_op hr 8 rfl rfl (by kernel_rfl) rfl rfl, trivial⟩) (fun D G1 hr => ⟨inH_op hr 3 rfl rfl (by kernel_rfl) (by kernel_rfl) rfl, trivial⟩) (fun G1 e h' n => ms_app rfl tg_39 (.inl rfl) rfl (.inl ⟨(.inl rfl), fun _ => rfl⟩) el1),
            Ob.quiet (n1 := fun n => n) rfl rfl (by intro d h; cases h; rfl) rfl (fun _ => [(3, .ptr 3 (n0 + 1) 0 0)]) (fun _ => [(3, some (.box (n0 + 1) 34 [.r (.sl (b1.Adds.map (rSl GElem.row))), .r (.sl (b1.Cuts.map rBool)), .r (.sl (b1.Attrs.map (rSl GAttr.row)))]))]) (fun D G1 hr => ⟨inE_base rfl rfl, trivial⟩) (fun D G1 hr => ⟨inH_base rfl rfl, trivial⟩) (fun _ _ => rfl) (fun G1 e h' n => OpQ.spec (v := .ptr 3 (n0 + 1) 0 0) (sp_fieldAddr_own (ob := .box _ _ _) rfl tf_34_0 (.inl rfl) (fun _ => rfl) rfl) _),
            Ob.quiet (n1 := fun n => n) rfl rfl (by intro d h; cases h; rfl) rfl (fun _ => [(108, .ptr 3 (n0 + 1) 0 0)]) (fun _ => [(3, some (.box (n0 + 1) 34 [.r (.sl (b1.Adds.map (rSl GElem.row))), .r (.sl (b1.Cuts.map rBool)), .r (.sl (b1.Attrs.map (rSl GAttr.row)))]))]) (fun D G1 hr => ⟨inE_op hr 10 rfl rfl (by kernel_rfl) rfl rfl, trivial⟩) (fun D G1 hr => ⟨inH_base rfl rfl, trivial⟩) (fun _ _ => rfl) (fun G1 e h' n => OpQ.spec (v := .r (.sl (b1.Adds.map (rSl GElem.row)))) (ms_load_box (a := .r (.sl (b1.Adds.map (rSl GElem.row)))) rfl ts_30 (.inl rfl) rfl rfl) _),
            Ob.quiet (n1 := fun n => n) rfl rfl (by intro d h; cases h; rfl) rfl (fun _ => [(6, .r (.int .i64 at8))]) (fun _ => []) (fun D G1 hr => ⟨inE_base rfl rfl, trivial⟩) (fun D G1 hr => trivial) (fun _ _ => rfl) (fun G1 e h' n => OpQ.spec (v := .r (.int .i64 at8)) (sp_move rfl (.inl rfl)) _),
            Ob.quiet (n1 := fun n => n) rfl rfl (by intro d h; cases h; rfl) rfl (fun _ => [(109, .r (.sl (b1.Adds.map (rSl GElem.row)))), (110, .r (.int .i64 at8))]) (fun _ => []) (fun D G1 hr => ⟨inE_op hr 11 rfl rfl (by kernel_rfl) rfl rfl, inE_op hr 12 rfl rfl (by kernel_rfl) rfl rfl, trivial⟩) (fun D G1 hr => trivial) (fun _ _ => rfl) (fun G1 e h' n => OpQ.spec (v := .rop ((rSl GElem.row) x6) 0) (ms_idx rfl tg_30.slice (.inl rfl) (.inl rfl) (fun _ => rfl) (fun _ => ex6)) _),
            Ob.quiet (n1 := fun n => n) rfl rfl (by intro d h; cases h; rfl) rfl (fun _ => [(111, .rop ((rSl GElem.row) x6) 0)]) (fun _ => []) (fun D G1 hr => ⟨inE_op hr 13 rfl rfl (by kernel_rfl) rfl rfl, trivial⟩) (fun D G1 hr => trivial) (fun _ _ => rfl) (fun G1 e h' n => OpQ.spec (v := .r (.sl (x6.map GElem.row))) (ms_load (d := .sl (x6.map GElem.row)) rfl ts_39 (.inl rfl) rfl) _),
            Ob.make (n1 := fun n => n + 1) rfl rfl (by intro d h; cases h; rfl) rfl (fun G1 => [(107, .own 101 (G1 9)), (112, .r (.sl (x6.map GElem.row)))]) (fun G1 => [(101, some (.arr (G1 9) 113 3 (l1.map GElem.row)))]) (fun D G1 hr => ⟨inE_op hr 9 rfl rfl (by kernel_rfl) rfl rfl, inE_op hr 14 rfl rfl (by kernel_rfl) rfl rfl, trivial⟩) (fun D G1 hr => ⟨inH_op hr 9 rfl rfl (by kernel_rfl) (by kernel_rfl) rfl, trivial⟩) (fun G1 e h' n => ms_app rfl tg_39 (.inl rfl) rfl (.inl ⟨(.inl rfl), fun _ => rfl⟩) el2),
            trivial⟩) fun G1 n1 => ?_
        refine AOps.weak (s' := ⟨[(3, .ptr 3 (n0 + 1) 0 0), (4, .ptr 4 (n0 + 2) 0 0), (5, .ptr 5 (n0 + 4) 0 0), (6, .r (.int .i64 at8)), (11, .r (.int .i64 last1)), (98, .ptr 5 (n0 + 4) 0 0), (99, .own 12 (i15 0)), (100, .r (.int .i64 last1)), (102, .ptr 5 (n0 + 4) 0 0), (103, .own 12 (i15 0)), (104, .r (.int .i64 last1)), (105, .ptr 12 (i15 0) last1.toNat 0), (106, .r (.sl (x5.map GElem.row))), (108, .ptr 3 (n0 + 1) 0 0), (109, .r (.sl (b1.Adds.map (rSl GElem.row)))), (110, .r (.int .i64 at8)), (111, .rop ((rSl GElem.row) x6) 0), (112, .r (.sl (x6.map GElem.row))), (113, .own 101 (G1 15))], [(3, some (.box (n0 + 1) 34 [.r (.sl (b1.Adds.map (rSl GElem.row))), .r (.sl (b1.Cuts.map rBool)), .r (.sl (b1.Attrs.map (rSl GAttr.row)))])), (4, some (.box (n0 + 2) 34 [.cst (.slice none 0 0), .cst (.slice none 0 0), .cst (.slice none 0 0)])), (5, some (.box (n0 + 4) 34 [.own 12 (i15 0), .own 9081 (i15 1), .own 9082 (i15 2)])), (12, some (.arr (i15 0) 39 1 (out9.Adds.map (rSl GElem.row)))), (101, some (.arr (G1 15) 113 3 (l2.map GElem.row))), (9081, some (.arr (i15 1) 4 1 (out9.Cuts.map rBool))), (9082, some (.arr (i15 2) 47 1 (out9.Attrs.map (rSl GAttr.row))))], n1, 186⟩) (by exact Weak.cv ⟨.inl (.inl rfl), .inl (.inl rfl), .inl (.inl rfl), .inl (.inl rfl), .inl (.inl rfl), .inl (.inl rfl), .inl (.inl rfl), .inl (.inl rfl), .inl (.inl rfl), .inl (.inl rfl), .inl (.inl rfl), .inl (.inl rfl), .inl (.inl rfl), .inl (.inl rfl), .inl (.inl rfl), .inl (.inl rfl), .inl (.inl rfl), .inl (.inl rfl), .inl (.inl rfl), trivial⟩ ⟨.inl rfl, .inl rfl, .inl rfl, .inl rfl, .inl rfl, .inl rfl, .inl rfl, trivial⟩ (Nat.le_refl _)) ?_
        refine AOps.step rfl rfl rfl (OpQ.spec (ms_idx_own rfl tg_30.slice (.inl rfl) rfl (.inl rfl) (fun _ => ex5)) _) ?_
        refine AOps.step0 rfl rfl (ms_store_own rfl tz_39 (.inl rfl) rfl ex5 (.inl rfl)) ?_
        refine AOps.nil ?_
        refine hK15 _ ?_
        refine AW.exit ?_
        exact wK4 _ _ (Weak.trans (by exact Weak.frz (e' := [(3, .ptr 3 (n0 + 1) 0 0), (4, .ptr 4 (n0 + 2) 0 0), (5, .ptr 5 (n0 + 4) 0 0), (6, .r (.int .i64 at8)), (11, .r (.int .i64 last1)), (98, .ptr 5 (n0 + 4) 0 0), (99, .own 12 (i15 0)), (100, .r (.int .i64 last1)), (102, .ptr 5 (n0 + 4) 0 0), (103, .own 12 (i15 0)), (104, .r (.int .i64 last1)), (105, .ptr 12 (i15 0) last1.toNat 0), (106, .r (.sl (x5.map GElem.row))), (108, .ptr 3 (n0 + 1) 0 0), (109, .r (.sl (b1.Adds.map (rSl GElem.row)))), (110, .r (.int .i64 at8)), (111, .rop ((rSl GElem.row) x6) 0), (112, .r (.sl (x6.map GElem.row))), (113, .r (.sl (l2.map GElem.row))), (114, .ptr 12 (i15 0) last1.toNat 0)]) (h' := [(3, some (.box (n0 + 1) 34 [.r (.sl (b1.Adds.map (rSl GElem.row))), .r (.sl (b1.Cuts.map rBool)), .r (.sl (b1.Attrs.map (rSl GAttr.row)))])), (4, some (.box (n0 + 2) 34 [.cst (.slice none 0 0), .cst (.slice none 0 0), .cst (.slice none 0 0)])), (5, some (.box (n0 + 4) 34 [.own 12 (i15 0), .own 9081 (i15 1), .own 9082 (i15 2)])), (12, some (.arr (i15 0) 39 1 ((out9.Adds.set last1.toNat l2).map (rSl GElem.row)))), (9081, some (.arr (i15 1) 4 1 (out9.Cuts.map rBool))), (9082, some (.arr (i15 2) 47 1 (out9.Attrs.map (rSl GAttr.row))))]) 101 rfl ⟨.inl (.inl rfl), .inl (.inl rfl), .inl (.inl rfl), .inl (.inl rfl), .inl (.inl rfl), .inl (.inl rfl), .inl (.inl rfl), .inl (.inl rfl), .inl (.inl rfl), .inl (.inl rfl), .inl (.inl rfl), .inl (.inl rfl), .inl (.inl rfl), .inl (.inl rfl), .inl (.inl rfl), .inl (.inl rfl), .inl (.inl rfl), .inl (.inl rfl), .inl (.inr (.inr ⟨rfl, rfl⟩)), .inl (.inl rfl), trivial⟩ ⟨rfl, .inl rfl, rfl, .inl rfl, rfl, .inl rfl, rfl, .inr (.inr (.inr ⟨_, _, _, _, _, rfl, rfl, List.map_set⟩)), rfl, .inl rfl, rfl, .inl rfl, trivial⟩) (by exact Weak.cv ⟨.inl (.inl rfl), .inl (.inl rfl), trivial⟩ ⟨.inl rfl, .inl rfl, .inl rfl, .inl rfl, .inl rfl, trivial⟩ (Nat.le_refl _))) (J1 _ (vec [(i15 0), (i15 1), (i15 2), n1]) (hx1 _ (Option.some.inj (he2 _ (Option.some.inj h13).symm)).symm))
      · have h9 := ite_f hc2 h8
        refine AW.skip ?_
        refine hK13 _ ?_
        refine AW.seq_w fun K16 hK16 wK16 => ?_
        refine AW.seq_w fun K17 hK17 wK17 => ?_
        refine AW.weak (s' := ⟨[(2, .ptr 2 n0 0 0), (3, .ptr 3 (n0 + 1) 0 0), (4, .ptr 4 (n0 + 2) 0 0), (5, .ptr 5 (n0 + 4) 0 0), (6, .r (.int .i64 at8)), (7, .r (.int .i64 i4)), (11, .r (.int .i64 last1))], [(2, some (.box n0 34 [.r (.sl (a1.Adds.map (rSl GElem.row))), .r (.sl (a1.Cuts.map rBool)), .r (.sl (a1.Attrs.map (rSl GAttr.row)))])), (3, some (.box (n0 + 1) 34 [.r (.sl (b1.Adds.map (rSl GElem.row))), .r (.sl (b1.Cuts.map rBool)), .r (.sl (b1.Attrs.map (rSl GAttr.row)))])), (4, some (.box (n0 + 2) 34 [.cst (.slice none 0 0), .cst (.slice none 0 0), .cst (.slice none 0 0)])), (5, some (.box (n0 + 4) 34 [.own 12 (i15 0), .own 9081 (i15 1), .own 9082 (i15 2)])), (12, some (.arr (i15 0) 39 1 (out9.Adds.map (rSl GElem.row)))), (9081, some (.arr (i15 1) 4 1 (out9.Cuts.map rBool))), (9082, some (.arr (i15 2) 47 1 (out9.Attrs.map (rSl GAttr.row))))], (i15 3), 186⟩) (by exact Weak.cv ⟨.inl (.inl rfl), .inl (.inl rfl), .inl (.inl rfl), .inl (.inl rfl), .inl (.inl rfl), .inl (.inl rfl), .inl (.inl rfl), trivial⟩ ⟨.inl rfl, .inl rfl, .inl rfl, .inl rfl, .inl rfl, .inl rfl, .inl rfl, trivial⟩ (Nat.le_refl _)) ?_
        refine AW.region ?_
        refine AOps.step rfl rfl rfl (OpQ.spec (sp_fieldAddr_own (ob := .box _ _ _) rfl tf_34_1 (.inl rfl) (fun _ => rfl) rfl) _) ?_
        refine AOps.step rfl rfl rfl (OpQ.spec (ms_load_box (a := .r (.sl (a1.Cuts.map rBool))) rfl ts_31 (.inl rfl) rfl rfl) _) ?_
        refine AOps.step rfl rfl rfl (OpQ.spec (sp_move rfl (.inl rfl)) _) ?_
        refine ob1k h9 fun x7 ex7 h14 => ?_
        refine AOps.step rfl rfl rfl (OpQ.spec (ms_idx rfl tg_31.slice (.inl rfl) (.inl rfl) (fun _ => rfl) (fun _ => ex7)) _) ?_
        refine AOps.step rfl rfl rfl (OpQ.spec (ms_load (d := .bool x7) rfl ts_4 (.inl rfl) rfl) _) ?_
        refine AOps.nil ?_
        refine hK17 _ ?_
        refine AW.cond rfl (fun hc3 => ?_) (fun hc3 => ?_)
        · have h15 := ite_t hc3 h14
          refine AW.seq_w fun K18 hK18 wK18 => ?_
          refine ob1k h15 fun l3 el3 h16 => ?_
          refine ob1k h16 fun l4 el4 h17 => ?_
          refine ob1k h17 fun l5 el5 h18 => ?_
          refine AW.regionP 13 [⟨some 120, (fun _ => .ptr 5 (n0 + 4) 0 0), none, []⟩, ⟨some 121, (fun _ => .own 12 (i15 0)), none, []⟩, ⟨some 122, (fun G2 => .own 122 (G2 2)), some (122, (fun G2 => some (.arr (G2 2) 39 1 ([[]].map (rSl GElem.row))))), [2]⟩, ⟨some 123, (fun G2 => .own 12 (G2 3)), some (12, (fun G2 => some (.arr (G2 3) 39 1 (l3.map (rSl GElem.row))))), [3]⟩, ⟨some 124, (fun _ => .ptr 5 (n0 + 4) 0 1), none, []⟩, ⟨some 125, (fun _ => .own 9081 (i15 1)), none, []⟩, ⟨some 126, (fun G2 => .own 126 (G2 6)), some (126, (fun G2 => some (.arr (G2 6) 4 1 ([true].map rBool)))), [6]⟩, ⟨some 127, (fun G2 => .own 9081 (G2 7)), some (9081, (fun G2 => some (.arr (G2 7) 4 1 (l4.map rBool)))), [7]⟩, ⟨some 128, (fun _ => .ptr 5 (n0 + 4) 0 2), none, []⟩, ⟨some 129, (fun _ => .own 9082 (i15 2)), none, []⟩, ⟨some 130, (fun G2 => .own 130 (G2 10)), some (130, (fun G2 => some (.arr (G2 10) 47 1 ([[]].map (rSl GAttr.row))))), [10]⟩, ⟨some 131, (fun G2 => .own 9082 (G2 11)), some (9082, (fun G2 => some (.arr (G2 11) 47 1 (l5.map (rSl GAttr.row))))), [11]⟩, ⟨some 132, (fun _ => .ptr 5 (n0 + 4) 0 0), none, []⟩] hmix (by kernel_rfl) (by exact ⟨fun _ _ h => ⟨rfl, fun _ _ e => by cases e⟩, fun _ _ h => ⟨rfl, fun _ _ e => by cases e⟩, fun _ _ h => ⟨by simp only [h 2 rfl], fun _ _ e => by cases e; simp only [h 2 rfl]⟩, fun _ _ h => ⟨by simp only [h 3 rfl], fun _ _ e => by cases e; simp only [h 3 rfl]⟩, fun _ _ h => ⟨rfl, fun _ _ e => by cases e⟩, fun _ _ h => ⟨rfl, fun _ _ e => by cases e⟩, fun _ _ h => ⟨by simp only [h 6 rfl], fun _ _ e => by cases e; simp only [h 6 rfl]⟩, fun _ _ h => ⟨by simp only [h 7 rfl], fun _ _ e => by cases e; simp only [h 7 rfl]⟩, fun _ _ h => ⟨rfl, fun _ _ e => by cases e⟩, fun _ _ h => ⟨rfl, fun _ _ e => by cases e⟩, fun _ _ h => ⟨by simp only [h 10 rfl], fun _ _ e => by cases e; simp only [h 10 rfl]⟩, fun _ _ h => ⟨by simp only [h 11 rfl], fun _ _ e => by cases e; simp only [h 11 rfl]⟩, fun _ _ h => ⟨rfl, fun _ _ e => by cases e⟩, trivial⟩) rfl (by exact ⟨Ob.quiet (n1 := fun n => n) rfl rfl (by intro d h; cases h; rfl) rfl (fun _ => [(5, .ptr 5 (n0 + 4) 0 0)]) (fun _ => [(5, some (.box (n0 + 4) 34 [.own 12 (i15 0), .own 9081 (i15 1), .own 9082 (i15 2)]))]) (fun D G2 hr => ⟨inE_base rfl rfl, trivial⟩) (fun D G2 hr => ⟨inH_base rfl rfl, trivial⟩) (fun _ _ => rfl) (fun G2 e h' n => OpQ.spec (v := .ptr 5 (n0 + 4) 0 0) (sp_fieldAddr_own (ob := .box _ _ _) rfl tf_34_0 (.inl rfl) (fun _ => rfl) rfl) _),
              Ob.quiet (n1 := fun n => n) rfl rfl (by intro d h; cases h; rfl) rfl (fun _ => [(120, .ptr 5 (n0 + 4) 0 0)]) (fun _ => [(5, some (.box (n0 + 4) 34 [.own 12 (i15 0), .own 9081 (i15 1), .own 9082 (i15 2)]))]) (fun D G2 hr => ⟨inE_op hr 0 rfl rfl (by kernel_rfl) rfl rfl, trivial⟩) (fun D G2 hr => ⟨inH_base rfl rfl, trivial⟩) (fun _ _ => rfl) (fun G2 e h' n => OpQ.spec (v := .own 12 (i15 0)) (ms_load_box (a := .own 12 (i15 0)) rfl ts_30 (.inl rfl) rfl rfl) _),
              Ob.make (n1 := fun n => n + 1) rfl rfl (by intro d h; cases h; rfl) rfl (fun _ => []) (fun _ => []) (fun D G2 hr => trivial) (fun D G2 hr => trivial) (fun G2 e h' n => ms_lit 122 rfl tg_30 (f := (rSl GElem.row)) (l := ([[]] : List (List GElem))) ⟨rfl, ⟨_, (.inl rfl), rfl⟩, trivial⟩ rfl (fun _ => rfl) rfl),
              Ob.make (n1 := fun n => n + 1) rfl rfl (by intro d h; cases h; rfl) rfl (fun G2 => [(121, .own 12 (i15 0)), (122, .own 122 (G2 2))]) (fun G2 => [(12, some (.arr (i15 0) 39 1 (out9.Adds.map (rSl GElem.row)))), (122, some (.arr (G2 2) 39 1 ([[]].map (rSl GElem.row))))]) (fun D G2 hr => ⟨inE_op hr 1 rfl rfl (by kernel_rfl) rfl rfl, inE_op hr 2 rfl rfl (by kernel_rfl) rfl rfl, trivial⟩) (fun D G2 hr => ⟨inH_baseL hr (by kernel_rfl) rfl, inH_op hr 2 rfl rfl (by kernel_rfl) (by kernel_rfl) rfl, trivial⟩) (fun G2 e h' n => ms_app rfl tg_30 (.inl rfl) rfl (.inr (.inl ⟨_, _, (.inl rfl), rfl⟩)) el3),
              Ob.quiet (n1 := fun n => n) rfl rfl (by intro d h; cases h; rfl) rfl (fun _ => [(5, .ptr 5 (n0 + 4) 0 0)]) (fun _ => [(5, some (.box (n0 + 4) 34 [.own 12 (i15 0), .own 9081 (i15 1), .own 9082 (i15 2)]))]) (fun D G2 hr => ⟨inE_base rfl rfl, trivial⟩) (fun D G2 hr => ⟨inH_base rfl rfl, trivial⟩) (fun _ _ => rfl) (fun G2 e h' n => OpQ.spec (v := .ptr 5 (n0 + 4) 0 1) (sp_fieldAddr_own (ob := .box _ _ _) rfl tf_34_1 (.inl rfl) (fun _ => rfl) rfl) _),
              Ob.quiet (n1 := fun n => n) rfl rfl (by intro d h; cases h; rfl) rfl (fun _ => [(124, .ptr 5 (n0 + 4) 0 1)]) (fun _ => [(5, some (.box (n0 + 4) 34 [.own 12 (i15 0), .own 9081 (i15 1), .own 9082 (i15 2)]))]) (fun D G2 hr => ⟨inE_op hr 4 rfl rfl (by kernel_rfl) rfl rfl, trivial⟩) (fun D G2 hr => ⟨inH_base rfl rfl, trivial⟩) (fun _ _ => rfl) (fun G2 e h' n => OpQ.spec (v := .own 9081 (i15 1)) (ms_load_box (a := .own 9081 (i15 1)) rfl ts_31 (.inl rfl) rfl rfl) _),
              Ob.make (n1 := fun n => n + 1) rfl rfl (by intro d h; cases h; rfl) rfl (fun _ => []) (fun _ => []) (fun D G2 hr => trivial) (fun D G2 hr => trivial) (fun G2 e h' n => ms_lit 126 rfl tg_31 (f := rBool) (l := ([true] : List Bool)) ⟨rfl, ⟨_, (.inl rfl), rfl⟩, trivial⟩ rfl (fun _ => rfl) rfl),
              Ob.make (n1 := fun n => n + 1) rfl rfl (by intro d h; cases h; rfl) rfl (fun G2 => [(125, .own 9081 (i15 1)), (126, .own 126 (G2 6))]) (fun G2 => [(126, some (.arr (G2 6) 4 1 ([true].map rBool))), (9081, some (.arr (i15 1) 4 1 (out9.Cuts.map rBool)))]) (fun D G2 hr => ⟨inE_op hr 5 rfl rfl (by kernel_rfl) rfl rfl, inE_op hr 6 rfl rfl (by kernel_rfl) rfl rfl, trivial⟩) (fun D G2 hr => ⟨inH_op hr 6 rfl rfl (by kernel_rfl) (by kernel_rfl) rfl, inH_baseL hr (by kernel_rfl) rfl, trivial⟩) (fun G2 e h' n => ms_app rfl tg_31 (.inl rfl) rfl (.inr (.inl ⟨_, _, (.inl rfl), rfl⟩)) el4),
              Ob.quiet (n1 := fun n => n) rfl rfl (by intro d h; cases h; rfl) rfl (fun _ => [(5, .ptr 5 (n0 + 4) 0 0)]) (fun _ => [(5, some (.box (n0 + 4) 34 [.own 12 (i15 0), .own 9081 (i15 1), .own 9082 (i15 2)]))]) (fun D G2 hr => ⟨inE_base rfl rfl, trivial⟩) (fun D G2 hr => ⟨inH_base rfl rfl, trivial⟩) (fun _ _ => rfl) (fun G2 e h' n => OpQ.spec (v := .ptr 5 (n0 + 4) 0 2) (sp_fieldAddr_own (ob := .box _ _ _) rfl tf_34_2 (.inl rfl) (fun _ => rfl) rfl) _),
              Ob.quiet (n1 := fun n => n) rfl rfl (by intro d h; cases h; rfl) rfl (fun _ => [(128, .ptr 5 (n0 + 4) 0 2)]) (fun _ => [(5, some (.box (n0 + 4) 34 [.own 12 (i15 0), .own 9081 (i15 1), .own 9082 (i15 2)]))]) (fun D G2 hr => ⟨inE_op hr 8 rfl rfl (by kernel_rfl) rfl rfl, trivial⟩) (fun D G2 hr => ⟨inH_base rfl rfl, trivial⟩) (fun _ _ => rfl) (fun G2 e h' n => OpQ.spec (v := .own 9082 (i15 2)) (ms_load_box (a := .own 9082 (i15 2)) rfl ts_32 (.inl rfl) rfl rfl) _),
              Ob.make (n1 := fun n => n + 1) rfl rfl (by intro d h; cases h; rfl) rfl (fun _ => []) (fun _ => []) (fun D G2 hr => trivial) (fun D G2 hr => trivial) (fun G2 e h' n => ms_lit 130 rfl tg_32 (f := (rSl GAttr.row)) (l := ([[]] : List (List GAttr))) ⟨rfl, ⟨_, (.inl rfl), rfl⟩, trivial⟩ rfl (fun _ => rfl) rfl),
              Ob.make (n1 := fun n => n + 1) rfl rfl (by intro d h; cases h; rfl) rfl (fun G2 => [(129, .own 9082 (i15 2)), (130, .own 130 (G2 10))]) (fun G2 => [(130, some (.arr (G2 10) 47 1 ([[]].map (rSl GAttr.row)))), (9082, some (.arr (i15 2) 47 1 (out9.Attrs.map (rSl GAttr.row))))]) (fun D G2 hr => ⟨inE_op hr 9 rfl rfl (by kernel_rfl) rfl rfl, inE_op hr 10 rfl rfl (by kernel_rfl) rfl rfl, trivial⟩) (fun D G2 hr => ⟨inH_op hr 10 rfl rfl (by kernel_rfl) (by kernel_rfl) rfl, inH_baseL hr (by kernel_rfl) rfl, trivial⟩) (fun G2 e h' n => ms_app rfl tg_32 (.inl rfl) rfl (.inr (.inl ⟨_, _, (.inl rfl), rfl⟩)) el5),
              Ob.quiet (n1 := fun n => n) rfl rfl (by intro d h; cases h; rfl) rfl (fun _ => [(5, .ptr 5 (n0 + 4) 0 0)]) (fun _ => [(5, some (.box (n0 + 4) 34 [.own 12 (i15 0), .own 9081 (i15 1), .own 9082 (i15 2)]))]) (fun D G2 hr => ⟨inE_base rfl rfl, trivial⟩) (fun D G2 hr => ⟨inH_base rfl rfl, trivial⟩) (fun _ _ => rfl) (fun G2 e h' n => OpQ.spec (v := .ptr 5 (n0 + 4) 0 0) (sp_fieldAddr_own (ob := .box _ _ _) rfl tf_34_0 (.inl rfl) (fun _ => rfl) rfl) _),
              trivial⟩) fun G2 n2 => ?_
          refine AOps.weak (s' := ⟨[(2, .ptr 2 n0 0 0), (3, .ptr 3 (n0 + 1) 0 0), (4, .ptr 4 (n0 + 2) 0 0), (5, .ptr 5 (n0 + 4) 0 0), (6, .r (.int .i64 at8)), (7, .r (.int .i64 i4)), (11, .r (.int .i64 last1)), (115, .ptr 2 n0 0 1), (116, .r (.sl (a1.Cuts.map rBool))), (117, .r (.int .i64 i4)), (118, .rop (rBool x7) 0), (119, .r (.bool x7)), (120, .ptr 5 (n0 + 4) 0 0), (122, .own 122 (G2 2)), (123, .own 12 (G2 3)), (124, .ptr 5 (n0 + 4) 0 1), (126, .own 126 (G2 6)), (127, .own 9081 (G2 7)), (128, .ptr 5 (n0 + 4) 0 2), (130, .own 130 (G2 10)), (131, .own 9082 (G2 11)), (132, .ptr 5 (n0 + 4) 0 0)], [(2, some (.box n0 34 [.r (.sl (a1.Adds.map (rSl GElem.row))), .r (.sl (a1.Cuts.map rBool)), .r (.sl (a1.Attrs.map (rSl GAttr.row)))])), (3, some (.box (n0 + 1) 34 [.r (.sl (b1.Adds.map (rSl GElem.row))), .r (.sl (b1.Cuts.map rBool)), .r (.sl (b1.Attrs.map (rSl GAttr.row)))])), (4, some (.box (n0 + 2) 34 [.cst (.slice none 0 0), .cst (.slice none 0 0), .cst (.slice none 0 0)])), (5, some (.box (n0 + 4) 34 [.own 12 (i15 0), .own 9081 (i15 1), .own 9082 (i15 2)])), (12, some (.arr (G2 3) 39 1 (l3.map (rSl GElem.row)))), (122, some (.arr (G2 2) 39 1 ([[]].map (rSl GElem.row)))), (126, some (.arr (G2 6) 4 1 ([true].map rBool))), (130, some (.arr (G2 10) 47 1 ([[]].map (rSl GAttr.row)))), (9081, some (.arr (G2 7) 4 1 (l4.map rBool))), (9082, some (.arr (G2 11) 47 1 (l5.map (rSl GAttr.row))))], n2, 186⟩) (by exact Weak.cv ⟨.inl (.inl rfl), .inl (.inl rfl), .inl (.inl rfl), .inl (.inl rfl), .inl (.inl rfl), .inl (.inl rfl), .inl (.inl rfl), .inl (.inl rfl), .inl (.inl rfl), .inl (.inl rfl), .inl (.inl rfl), .inl (.inl rfl), .inl (.inl rfl), .inl (.inl rfl), .inl (.inl rfl), .inl (.inl rfl), .inl (.inl rfl), .inl (.inl rfl), .inl (.inl rfl), .inl (.inl rfl), .inl (.inl rfl), .inl (.inl rfl), trivial⟩ ⟨.inl rfl, .inl rfl, .inl rfl, .inl rfl, .inl rfl, .inl rfl, .inl rfl, .inl rfl, .inl rfl, .inl rfl, trivial⟩ (Nat.le_refl _)) ?_
          refine AOps.step0 rfl rfl (ms_store_box (ds := [.own 12 (G2 3), .own 9081 (i15 1), .own 9082 (i15 2)]) rfl tz_30 (.inl rfl) rfl (.inl rfl) rfl rfl rfl rfl) ?_
          refine AOps.step rfl rfl rfl (OpQ.spec (sp_fieldAddr_own (ob := .box _ _ _) rfl tf_34_1 (.inl rfl) (fun _ => rfl) rfl) _) ?_
          refine AOps.step0 rfl rfl (ms_store_box (ds := [.own 12 (G2 3), .own 9081 (G2 7), .own 9082 (i15 2)]) rfl tz_31 (.inl rfl) rfl (.inl rfl) rfl rfl rfl rfl) ?_
          refine AOps.step rfl rfl rfl (OpQ.spec (sp_fieldAddr_own (ob := .box _ _ _) rfl tf_34_2 (.inl rfl) (fun _ => rfl) rfl) _) ?_
          refine AOps.step0 rfl rfl (ms_store_box (ds := [.own 12 (G2 3), .own 9081 (G2 7), .own 9082 (G2 11)]) rfl tz_32 (.inl rfl) rfl (.inl rfl) rfl rfl rfl rfl) ?_
          refine AOps.nil ?_
          refine hK18 _ ?_
          refine AW.exit ?_
          exact wK9 _ _ ((by exact Weak.cv ⟨.inl (.inl rfl), .inl (.inl rfl), .inl (.inl rfl), .inl (.inl rfl), .inl (.inl rfl), .inl (.inl rfl), trivial⟩ ⟨.inl rfl, .inl rfl, .inl rfl, .inl rfl, .inl rfl, .inl rfl, .inl rfl, trivial⟩ (Nat.le_refl _))) (J2 _ _ (vec [(G2 3), (G2 7), (G2 11), n2]) (Option.some.inj h18).symm)
        · have h15 := ite_f hc3 h14
          refine AW.skip ?_
          refine hK16 _ ?_
          refine AW.seq_w fun K19 hK19 wK19 => ?_
          refine ob1k h15 fun x8 ex8 h19 => ?_
          refine ob1k h19 fun l6 el6 h20 => ?_
          refine ob1k h20 fun x9 ex9 h21 => ?_
          refine ob1k h21 fun l7 el7 h22 => ?_
          refine AW.regionP 16 [⟨some 135, (fun _ => .ptr 5 (n0 + 4) 0 0), none, []⟩, ⟨some 136, (fun _ => .own 12 (i15 0)), none, []⟩, ⟨some 137, (fun _ => .r (.int .i64 last1)), none, []⟩, ⟨some 138, (fun G3 => .own 138 (G3 3)), some (138, (fun G3 => some (.arr (G3 3) 113 3 (([] : List GElem).map GElem.row)))), [3]⟩, ⟨some 139, (fun _ => .ptr 5 (n0 + 4) 0 0), none, []⟩, ⟨some 140, (fun _ => .own 12 (i15 0)), none, []⟩, ⟨some 141, (fun _ => .r (.int .i64 last1)), none, []⟩, ⟨some 142, (fun _ => .ptr 12 (i15 0) last1.toNat 0), none, []⟩, ⟨some 143, (fun _ => .r (.sl (x8.map GElem.row))), none, []⟩, ⟨some 144, (fun G3 => .own 138 (G3 9)), some (138, (fun G3 => some (.arr (G3 9) 113 3 (l6.map GElem.row)))), [9]⟩, ⟨some 145, (fun _ => .ptr 3 (n0 + 1) 0 0), none, []⟩, ⟨some 146, (fun _ => .r (.sl (b1.Adds.map (rSl GElem.row)))), none, []⟩, ⟨some 147, (fun _ => .r (.int .i64 at8)), none, []⟩, ⟨some 148, (fun _ => .rop ((rSl GElem.row) x9) 0), none, []⟩, ⟨some 149, (fun _ => .r (.sl (x9.map GElem.row))), none, []⟩, ⟨some 150, (fun G3 => .own 138 (G3 15)), some (138, (fun G3 => some (.arr (G3 15) 113 3 (l7.map GElem.row)))), [15]⟩] hmix (by kernel_rfl) (by exact ⟨fun _ _ h => ⟨rfl, fun _ _ e => by cases e⟩, fun _ _ h => ⟨rfl, fun _ _ e => by cases e⟩, fun _ _ h => ⟨rfl, fun _ _ e => by cases e⟩, fun _ _ h => ⟨by simp only [h 3 rfl], fun _ _ e => by cases e; simp only [h 3 rfl]⟩, fun _ _ h => ⟨rfl, fun _ _ e => by cases e⟩, fun _ _ h => ⟨rfl, fun _ _ e => by cases e⟩, fun _ _ h => ⟨rfl, fun _ _ e => by cases e⟩, fun _ _ h => ⟨rfl, fun _ _ e => by cases e⟩, fun _ _ h => ⟨rfl, fun _ _ e => by cases e⟩, fun _ _ h => ⟨by simp only [h 9 rfl], fun _ _ e => by cases e; simp only [h 9 rfl]⟩, fun _ _ h => ⟨rfl, fun _ _ e => by cases e⟩, fun _ _ h => ⟨rfl, fun _ _ e => by cases e⟩, fun _ _ h => ⟨rfl, fun _ _ e => by cases e⟩, fun _ _ h => ⟨rfl, fun _ _ e => by cases e⟩, fun _ _ h => ⟨rfl, fun _ _ e => by cases e⟩, fun _ _ h => ⟨by simp only [h 15 rfl], fun _ _ e => by cases e; simp only [h 15 rfl]⟩, trivial⟩) rfl (by exact ⟨Ob.quiet (n1 := fun n => n) rfl rfl (by intro d h; cases h; rfl) rfl (fun _ => [(5, .ptr 5 (n0 + 4) 0 0)]) (fun _ => [(5, some (.box (n0 + 4) 34 [.own 12 (i15 0), .own 9081 (i15 1), .own 9082 (i15 2)]))]) (fun D G3 hr => ⟨inE_base rfl rfl, trivial⟩) (fun D G3 hr => ⟨inH_base rfl rfl, trivial⟩) (fun _ _ => rfl) (fun G3 e h' n => OpQ.spec (v := .ptr 5 (n0 + 4) 0 0) (sp_fieldAddr_own (ob := .box _ _ _) rfl tf_34_0 (.inl rfl) (fun _ => rfl) rfl) _),
              Ob.quiet (n1 := fun n => n) rfl rfl (by intro d h; cases h; rfl) rfl (fun _ => [(135, .ptr 5 (n0 + 4) 0 0)]) (fun _ => [(5, some (.box (n0 + 4) 34 [.own 12 (i15 0), .own 9081 (i15 1), .own 9082 (i15 2)]))]) (fun D G3 hr => ⟨inE_op hr 0 rfl rfl (by kernel_rfl) rfl rfl, trivial⟩) (fun D G3 hr => ⟨inH_base rfl rfl, trivial⟩) (fun _ _ => rfl) (fun G3 e h' n => OpQ.spec (v := .own 12 (i15 0)) (ms_load_box (a := .own 12 (i15 0)) rfl ts_30 (.inl rfl) rfl rfl) _),
              Ob.quiet (n1 := fun n => n) rfl rfl (by intro d h; cases h; rfl) rfl (fun _ => [(11, .r (.int .i64 last1))]) (fun _ => []) (fun D G3 hr => ⟨inE_base rfl rfl, trivial⟩) (fun D G3 hr => trivial) (fun _ _ => rfl) (fun G3 e h' n => OpQ.spec (v := .r (.int .i64 last1)) (sp_move rfl (.inl rfl)) _),
              Ob.make (n1 := fun n => n + 1) rfl rfl (by intro d h; cases h; rfl) rfl (fun _ => []) (fun _ => []) (fun D G3 hr => trivial) (fun D G3 hr => trivial) (fun G3 e h' n => ms_lit 138 rfl tg_39 (f := GElem.row) (l := ([] : List GElem)) trivial rfl (fun _ => rfl) rfl),
              Ob.quiet (n1 := fun n => n) rfl rfl (by intro d h; cases h; rfl) rfl (fun _ => [(5, .ptr 5 (n0 + 4) 0 0)]) (fun _ => [(5, some (.box (n0 + 4) 34 [.own 12 (i15 0), .own 9081 (i15 1), .own 9082 (i15 2)]))]) (fun D G3 hr => ⟨inE_base rfl rfl, trivial⟩) (fun D G3 hr => ⟨inH_base rfl rfl, trivial⟩) (fun _ _ => rfl) (fun G3 e h' n => OpQ.spec (v := .ptr 5 (n0 + 4) 0 0) (sp_fieldAddr_own (ob := .box _ _ _) rfl tf_34_0 (.inl rfl) (fun _ => rfl) rfl) _),
              Ob.quiet (n1 := fun n => n) rfl rfl (by intro d h; cases h; rfl) rfl (fun _ => [(139, .ptr 5 (n0 + 4) 0 0)]) (fun _ => [(5, some (.box (n0 + 4) 34 [.own 12 (i15 0), .own 9081 (i15 1), .own 9082 (i15 2)]))]) (fun D G3 hr => ⟨inE_op hr 4 rfl rfl (by kernel_rfl) rfl rfl, trivial⟩) (fun D G3 hr => ⟨inH_base rfl rfl, trivial⟩) (fun _ _ => rfl) (fun G3 e h' n => OpQ.spec (v := .own 12 (i15 0)) (ms_load_box (a := .own 12 (i15 0)) rfl ts_30 (.inl rfl) rfl rfl) _),
              Ob.quiet (n1 := fun n => n) rfl rfl (by intro d h; cases h; rfl) rfl (fun _ => [(11, .r (.int .i64 last1))]) (fun _ => []) (fun D G3 hr => ⟨inE_base rfl rfl, trivial⟩) (fun D G3 hr => trivial) (fun _ _ => rfl) (fun G3 e h' n => OpQ.spec (v := .r (.int .i64 last1)) (sp_move rfl (.inl rfl)) _),
              Ob.quiet (n1 := fun n => n) rfl rfl (by intro d h; cases h; rfl) rfl (fun _ => [(140, .own 12 (i15 0)), (141, .r (.int .i64 last1))]) (fun _ => [(12, some (.arr (i15 0) 39 1 (out9.Adds.map (rSl GElem.row))))]) (fun D G3 hr => ⟨inE_op hr 5 rfl rfl (by kernel_rfl) rfl rfl, inE_op hr 6 rfl rfl (by kernel_rfl) rfl rfl, trivial⟩) (fun D G3 hr => ⟨inH_base rfl rfl, trivial⟩) (fun _ _ => rfl) (fun G3 e h' n => OpQ.spec (v := .ptr 12 (i15 0) last1.toNat 0) (ms_idx_own rfl tg_30.slice (.inl rfl) rfl (.inl rfl) (fun _ => ex8)) _),
              Ob.quiet (n1 := fun n => n) rfl rfl (by intro d h; cases h; rfl) rfl (fun _ => [(142, .ptr 12 (i15 0) last1.toNat 0)]) (fun _ => [(12, some (.arr (i15 0) 39 1 (out9.Adds.map (rSl GElem.row))))]) (fun D G3 hr => ⟨inE_op hr 7 rfl rfl (by kernel_rfl) rfl rfl, trivial⟩) (fun D G3 hr => ⟨inH_base rfl rfl, trivial⟩) (fun _ _ => rfl) (fun G3 e h' n => OpQ.spec (v := .r (.sl (x8.map GElem.row))) (ms_load_own (d := .sl (x8.map GElem.row)) rfl ts_39 (.inl rfl) (fun _ => rfl) (fun _ => ex8) rfl) _),
              Ob.make (n1 := fun n => n + 1) rfl rfl (by intro d h; cases h; rfl) rfl (fun G3 => [(138, .own 138 (G3 3)), (143, .r (.sl (x8.map GElem.row)))]) (fun G3 => [(138, some (.arr (G3 3) 113 3 (([] : List GElem).map GElem.row)))]) (fun D G3 hr => ⟨inE_op hr 3 rfl rfl (by kernel_rfl) rfl rfl, inE_op hr 8 rfl rfl (by kernel_rfl) rfl rfl, trivial⟩) (fun D G3 hr => ⟨inH_op hr 3 rfl rfl (by kernel_rfl) (by kernel_rfl) rfl, trivial⟩) (fun G3 e h' n => ms_app rfl tg_39 (.inl rfl) rfl (.inl ⟨(.inl rfl), fun _ => rfl⟩) el6),
              Ob.quiet (n1 := fun n => n) rfl rfl (by intro d h; cases h; rfl) rfl (fun _ => [(3, .ptr 3 (n0 + 1) 0 0)]) (fun _ => [(3, some (.box (n0 + 1) 34 [.r (.sl (b1.Adds.map (rSl GElem.row))), .r (.sl (b1.Cuts.map rBool)), .r (.sl (b1.Attrs.map (rSl GAttr.row)))]))]) (fun D G3 hr => ⟨inE_base rfl rfl, trivial⟩) (fun D G3 hr => ⟨inH_base rfl rfl, trivial⟩) (fun _ _ => rfl) (fun G3 e h' n => OpQ.spec (v := .ptr 3 (n0 + 1) 0 0) (sp_fieldAddr_own (ob := .box _ _ _) rfl tf_34_0 (.inl rfl) (fun _ => rfl) rfl) _),
              Ob.quiet (n1 := fun n => n) rfl rfl (by intro d h; cases h; rfl) rfl (fun _ => [(145, .ptr 3 (n0 + 1) 0 0)]) (fun _ => [(3, some (.box (n0 + 1) 34 [.r (.sl (b1.Adds.map (rSl GElem.row))), .r (.sl (b1.Cuts.map rBool)), .r (.sl (b1.Attrs.map (rSl GAttr.row)))]))]) (fun D G3 hr => ⟨inE_op hr 10 rfl rfl (by kernel_rfl) rfl rfl, trivial⟩) (fun D G3 hr => ⟨inH_base rfl rfl, trivial⟩) (fun _ _ => rfl) (fun G3 e h' n => OpQ.spec (v := .r (.sl (b1.Adds.map (rSl GElem.row)))) (ms_load_box (a := .r (.sl (b1.Adds.map (rSl GElem.row)))) rfl ts_30 (.inl rfl) rfl rfl) _),
              Ob.quiet (n1 := fun n => n) rfl rfl (by intro d h; cases h; rfl) rfl (fun _ => [(6, .r (.int .i64 at8))]) (fun _ => []) (fun D G3 hr => ⟨inE_base rfl rfl, trivial⟩) (fun D G3 hr => trivial) (fun _ _ => rfl) (fun G3 e h' n => OpQ.spec (v := .r (.int .i64 at8)) (sp_move rfl (.inl rfl)) _),
              Ob.quiet (n1 := fun n => n) rfl rfl (by intro d h; cases h; rfl) rfl (fun _ => [(146, .r (.sl (b1.Adds.map (rSl GElem.row)))), (147, .r (.int .i64 at8))]) (fun _ => []) (fun D G3 hr => ⟨inE_op hr 11 rfl rfl (by kernel_rfl) rfl rfl, inE_op hr 12 rfl rfl (by kernel_rfl) rfl rfl, trivial⟩) (fun D G3 hr => trivial) (fun _ _ => rfl) (fun G3 e h' n => OpQ.spec (v := .rop ((rSl GElem.row) x9) 0) (ms_idx rfl tg_30.slice (.inl rfl) (.inl rfl) (fun _ => rfl) (fun _ => ex9)) _),
              Ob.quiet (n1 := fun n => n) rfl rfl (by intro d h; cases h; rfl) rfl (fun _ => [(148, .rop ((rSl GElem.row) x9) 0)]) (fun _ => []) (fun D G3 hr => ⟨inE_op hr 13 rfl rfl (by kernel_rfl) rfl rfl, trivial⟩) (fun D G3 hr => trivial) (fun _ _ => rfl) (fun G3 e h' n => OpQ.spec (v := .r (.sl (x9.map GElem.row))) (ms_load (d := .sl (x9.map GElem.row)) rfl ts_39 (.inl rfl) rfl) _),
              Ob.make (n1 := fun n => n + 1) rfl rfl (by intro d h; cases h; rfl) rfl (fun G3 => [(144, .own 138 (G3 9)), (149, .r (.sl (x9.map GElem.row)))]) (fun G3 => [(138, some (.arr (G3 9) 113 3 (l6.map GElem.row)))]) (fun D G3 hr => ⟨inE_op hr 9 rfl rfl (by kernel_rfl) rfl rfl, inE_op hr 14 rfl rfl (by kernel_rfl) rfl rfl, trivial⟩) (fun D G3 hr => ⟨inH_op hr 9 rfl rfl (by kernel_rfl) (by kernel_rfl) rfl, trivial⟩) (fun G3 e h' n => ms_app rfl tg_39 (.inl rfl) rfl (.inl ⟨(.inl rfl), fun _ => rfl⟩) el7),
              trivial⟩) fun G3 n3 => ?_
          refine AOps.weak (s' := ⟨[(2, .ptr 2 n0 0 0), (3, .ptr 3 (n0 + 1) 0 0), (4, .ptr 4 (n0 + 2) 0 0), (5, .ptr 5 (n0 + 4) 0 0), (6, .r (.int .i64 at8)), (7, .r (.int .i64 i4)), (11, .r (.int .i64 last1)), (115, .ptr 2 n0 0 1), (116, .r (.sl (a1.Cuts.map rBool))), (117, .r (.int .i64 i4)), (118, .rop (rBool x7) 0), (119, .r (.bool x7)), (135, .ptr 5 (n0 + 4) 0 0), (136, .own 12 (i15 0)), (137, .r (.int .i64 last1)), (139, .ptr 5 (n0 + 4) 0 0), (140, .own 12 (i15 0)), (141, .r (.int .i64 last1)), (142, .ptr 12 (i15 0) last1.toNat 0), (143, .r (.sl (x8.map GElem.row))), (145, .ptr 3 (n0 + 1) 0 0), (146, .r (.sl (b1.Adds.map (rSl GElem.row)))), (147, .r (.int .i64 at8)), (148, .rop ((rSl GElem.row) x9) 0), (149, .r (.sl (x9.map GElem.row))), (150, .own 138 (G3 15))], [(2, some (.box n0 34 [.r (.sl (a1.Adds.map (rSl GElem.row))), .r (.sl (a1.Cuts.map rBool)), .r (.sl (a1.Attrs.map (rSl GAttr.row)))])), (3, some (.box (n0 + 1) 34 [.r (.sl (b1.Adds.map (rSl GElem.row))), .r (.sl (b1.Cuts.map rBool)), .r (.sl (b1.Attrs.map (rSl GAttr.row)))])), (4, some (.box (n0 + 2) 34 [.cst (.slice none 0 0), .cst (.slice none 0 0), .cst (.slice none 0 0)])), (5, some (.box (n0 + 4) 34 [.own 12 (i15 0), .own 9081 (i15 1), .own 9082 (i15 2)])), (12, some (.arr (i15 0) 39 1 (out9.Adds.map (rSl GElem.row)))), (138, some (.arr (G3 15) 113 3 (l7.map GElem.row))), (9081, some (.arr (i15 1) 4 1 (out9.Cuts.map rBool))), (9082, some (.arr (i15 2) 47 1 (out9.Attrs.map (rSl GAttr.row))))], n3, 186⟩) (by exact Weak.cv ⟨.inl (.inl rfl), .inl (.inl rfl), .inl (.inl rfl), .inl (.inl rfl), .inl (.inl rfl), .inl (.inl rfl), .inl (.inl rfl), .inl (.inl rfl), .inl (.inl rfl), .inl (.inl rfl), .inl (.inl rfl), .inl (.inl rfl), .inl (.inl rfl), .inl (.inl rfl), .inl (.inl rfl), .inl (.inl rfl), .inl (.inl rfl), .inl (.inl rfl), .inl (.inl rfl), .inl (.inl rfl), .inl (.inl rfl), .inl (.inl rfl), .inl (.inl rfl), .inl (.inl rfl), .inl (.inl rfl), .inl (.inl rfl), trivial⟩ ⟨.inl rfl, .inl rfl, .inl rfl, .inl rfl, .inl rfl, .inl rfl, .inl rfl, .inl rfl, trivial⟩ (Nat.le_refl _)) ?_
          refine AOps.step rfl rfl rfl (OpQ.spec (ms_idx_own rfl tg_30.slice (.inl rfl) rfl (.inl rfl) (fun _ => ex8)) _) ?_
          refine AOps.step0 rfl rfl (ms_store_own rfl tz_39 (.inl rfl) rfl ex8 (.inl rfl)) ?_
          refine AOps.nil ?_
          refine hK19 _ ?_
          refine AW.seq_w fun K20 hK20 wK20 => ?_
          refine AW.weak (s' := ⟨[(2, .ptr 2 n0 0 0), (3, .ptr 3 (n0 + 1) 0 0), (4, .ptr 4 (n0 + 2) 0 0), (5, .ptr 5 (n0 + 4) 0 0), (6, .r (.int .i64 at8)), (7, .r (.int .i64 i4))], [(2, some (.box n0 34 [.r (.sl (a1.Adds.map (rSl GElem.row))), .r (.sl (a1.Cuts.map rBool)), .r (.sl (a1.Attrs.map (rSl GAttr.row)))])), (3, some (.box (n0 + 1) 34 [.r (.sl (b1.Adds.map (rSl GElem.row))), .r (.sl (b1.Cuts.map rBool)), .r (.sl (b1.Attrs.map (rSl GAttr.row)))])), (4, some (.box (n0 + 2) 34 [.cst (.slice none 0 0), .cst (.slice none 0 0), .cst (.slice none 0 0)])), (5, some (.box (n0 + 4) 34 [.own 12 (i15 0), .own 9081 (i15 1), .own 9082 (i15 2)])), (12, some (.hot (i15 0) 39 (out9.Adds.map (rSl GElem.row)) last1.toNat 138 (G3 15))), (138, some (.arr (G3 15) 113 3 (l7.map GElem.row))), (9081, some (.arr (i15 1) 4 1 (out9.Cuts.map rBool))), (9082, some (.arr (i15 2) 47 1 (out9.Attrs.map (rSl GAttr.row))))], n3, 186⟩) (by exact Weak.cv ⟨.inl (.inl rfl), .inl (.inl rfl), .inl (.inl rfl), .inl (.inl rfl), .inl (.inl rfl), .inl (.inl rfl), trivial⟩ ⟨.inl rfl, .inl rfl, .inl rfl, .inl rfl, .inl rfl, .inl rfl, .inl rfl, .inl rfl, trivial⟩ (Nat.le_refl _)) ?_
          refine AW.region ?_
          refine AOps.step rfl rfl rfl (OpQ.spec (sp_fieldAddr_own (ob := .box _ _ _) rfl tf_34_0 (.inl rfl) (fun _ => rfl) rfl) _) ?_
          refine AOps.step rfl rfl rfl (OpQ.spec (ms_load_box (a := .own 12 (i15 0)) rfl ts_30 (.inl rfl) rfl rfl) _) ?_
          refine AOps.step rfl rfl rfl (ms_lit 154 rfl tg_30 (f := (rSl GElem.row)) (l := ([[]] : List (List GElem))) ⟨rfl, ⟨_, (.inl rfl), rfl⟩, trivial⟩ rfl (fun _ => rfl) rfl) ?_
          refine AOps.weak (by exact Weak.frz (e' := [(2, .ptr 2 n0 0 0), (3, .ptr 3 (n0 + 1) 0 0), (4, .ptr 4 (n0 + 2) 0 0), (5, .ptr 5 (n0 + 4) 0 0), (6, .r (.int .i64 at8)), (7, .r (.int .i64 i4)), (152, .ptr 5 (n0 + 4) 0 0), (153, .own 12 (i15 0)), (154, .own 154 n3)]) (h' := [(2, some (.box n0 34 [.r (.sl (a1.Adds.map (rSl GElem.row))), .r (.sl (a1.Cuts.map rBool)), .r (.sl (a1.Attrs.map (rSl GAttr.row)))])), (3, some (.box (n0 + 1) 34 [.r (.sl (b1.Adds.map (rSl GElem.row))), .r (.sl (b1.Cuts.map rBool)), .r (.sl (b1.Attrs.map (rSl GAttr.row)))])), (4, some (.box (n0 + 2) 34 [.cst (.slice none 0 0), .cst (.slice none 0 0), .cst (.slice none 0 0)])), (5, some (.box (n0 + 4) 34 [.own 12 (i15 0), .own 9081 (i15 1), .own 9082 (i15 2)])), (12, some (.arr (i15 0) 39 1 ((out9.Adds.set last1.toNat l7).map (rSl GElem.row)))), (154, some (.arr n3 39 1 ([[]].map (rSl GElem.row)))), (9081, some (.arr (i15 1) 4 1 (out9.Cuts.map rBool))), (9082, some (.arr (i15 2) 47 1 (out9.Attrs.map (rSl GAttr.row))))]) 138 rfl ⟨.inl (.inl rfl), .inl (.inl rfl), .inl (.inl rfl), .inl (.inl rfl), .inl (.inl rfl), .inl (.inl rfl), .inl (.inl rfl), .inl (.inl rfl), .inl (.inl rfl), trivial⟩ ⟨rfl, .inl rfl, rfl, .inl rfl, rfl, .inl rfl, rfl, .inl rfl, rfl, .inr (.inr (.inr ⟨_, _, _, _, _, rfl, rfl, List.map_set⟩)), rfl, .inl rfl, rfl, .inl rfl, rfl, .inl rfl, trivial⟩) ?_
          refine ob1k h22 fun l8 el8 h23 => ?_
          refine AOps.step rfl rfl rfl (ms_app rfl tg_30 (.inl rfl) rfl (.inr (.inl ⟨_, _, (.inl rfl), rfl⟩)) el8) ?_
          refine AOps.step rfl rfl rfl (OpQ.spec (sp_fieldAddr_own (ob := .box _ _ _) rfl tf_34_0 (.inl rfl) (fun _ => rfl) rfl) _) ?_
          refine AOps.step0 rfl rfl (ms_store_box (ds := [.own 12 (n3 + 1), .own 9081 (i15 1), .own 9082 (i15 2)]) rfl tz_30 (.inl rfl) rfl (.inl rfl) rfl rfl rfl rfl) ?_
          refine AOps.nil ?_
          refine hK20 _ ?_
          refine AW.seq_w fun K21 hK21 wK21 => ?_
          refine AW.regionF' [] [0, 1, 2, 3, 4, 5, 6] [7] 8 hmix (by kernel_rfl) rfl rfl rfl rfl rfl ?_
          refine AFl.nil ?_
          refine AF.step rfl rfl rfl (sp_fieldAddr_own (ob := .box _ _ _) rfl tf_34_1 (.inl rfl) (fun _ => rfl) rfl) ?_
          refine AF.step rfl rfl rfl (ms_load_box (a := .own 9081 (i15 1)) rfl ts_31 (.inl rfl) rfl rfl) ?_
          refine AF.step rfl rfl rfl (sp_fieldAddr_own (ob := .box _ _ _) rfl tf_34_1 (.inl rfl) (fun _ => rfl) rfl) ?_
          refine AF.step rfl rfl rfl (ms_load_box (a := .r (.sl (b1.Cuts.map rBool))) rfl ts_31 (.inl rfl) rfl rfl) ?_
          refine AF.step rfl rfl rfl (sp_move rfl (.inl rfl)) ?_
          refine ob1k h23 fun x10 ex10 h24 => ?_
          refine AF.step rfl rfl rfl (ms_idx rfl tg_31.slice (.inl rfl) (.inl rfl) (fun _ => rfl) (fun _ => ex10)) ?_
          refine AF.step rfl rfl rfl (ms_load (d := .bool x10) rfl ts_4 (.inl rfl) rfl) ?_
          refine AF.nil ?_
          refine AA.step rfl rfl rfl (msA_lit 164 rfl tg_31 (f := rBool) (l := ([x10] : List Bool)) ⟨rfl, ⟨_, (.inl rfl), rfl⟩, trivial⟩ rfl (fun _ => rfl) rfl) ?_
          refine AA.nil ?_
          refine ob1k h24 fun l9 el9 h25 => ?_
          refine AOps.step rfl rfl rfl (ms_app rfl tg_31 (.inl rfl) rfl (.inr (.inl ⟨_, _, (.inl rfl), rfl⟩)) el9) ?_
          refine AOps.step rfl rfl rfl (OpQ.spec (sp_fieldAddr_own (ob := .box _ _ _) rfl tf_34_1 (.inl rfl) (fun _ => rfl) rfl) _) ?_
          refine AOps.step0 rfl rfl (ms_store_box (ds := [.own 12 (n3 + 1), .own 9081 (n3 + 3), .own 9082 (i15 2)]) rfl tz_31 (.inl rfl) rfl (.inl rfl) rfl rfl rfl rfl) ?_
          refine AOps.nil ?_
          refine hK21 _ ?_
          refine AW.seq_w fun K22 hK22 wK22 => ?_
          refine AW.weak (s' := ⟨[(2, .ptr 2 n0 0 0), (3, .ptr 3 (n0 + 1) 0 0), (4, .ptr 4 (n0 + 2) 0 0), (5, .ptr 5 (n0 + 4) 0 0), (6, .r (.int .i64 at8)), (7, .r (.int .i64 i4))], [(2, some (.box n0 34 [.r (.sl (a1.Adds.map (rSl GElem.row))), .r (.sl (a1.Cuts.map rBool)), .r (.sl (a1.Attrs.map (rSl GAttr.row)))])), (3, some (.box (n0 + 1) 34 [.r (.sl (b1.Adds.map (rSl GElem.row))), .r (.sl (b1.Cuts.map rBool)), .r (.sl (b1.Attrs.map (rSl GAttr.row)))])), (4, some (.box (n0 + 2) 34 [.cst (.slice none 0 0), .cst (.slice none 0 0), .cst (.slice none 0 0)])), (5, some (.box (n0 + 4) 34 [.own 12 (n3 + 1), .own 9081 (n3 + 3), .own 9082 (i15 2)])), (12, some (.arr (n3 + 1) 39 1 (l8.map (rSl GElem.row)))), (9081, some (.arr (n3 + 3) 4 1 (l9.map rBool))), (9082, some (.arr (i15 2) 47 1 (out9.Attrs.map (rSl GAttr.row))))], (n3 + 4), 186⟩) (by exact Weak.cv ⟨.inl (.inl rfl), .inl (.inl rfl), .inl (.inl rfl), .inl (.inl rfl), .inl (.inl rfl), .inl (.inl rfl), trivial⟩ ⟨.inl rfl, .inl rfl, .inl rfl, .inl rfl, .inl rfl, .inl rfl, .inl rfl, trivial⟩ (Nat.le_refl _)) ?_
          refine ob1k h25 fun x11 ex11 h26 => ?_
          refine ob1k h26 fun x12 ex12 h27 => ?_
          refine ob1k h27 fun r1 er1 h28 => ?_
          refine AW.regionP 14 [⟨some 167, (fun _ => .ptr 5 (n0 + 4) 0 2), none, []⟩, ⟨some 168, (fun _ => .own 9082 (i15 2)), none, []⟩, ⟨some 169, (fun _ => .ptr 2 n0 0 2), none, []⟩, ⟨some 170, (fun _ => .r (.sl (a1.Attrs.map (rSl GAttr.row)))), none, []⟩, ⟨some 171, (fun _ => .r (.int .i64 i4)), none, []⟩, ⟨some 172, (fun _ => .rop ((rSl GAttr.row) x11) 0), none, []⟩, ⟨some 173, (fun _ => .r (.sl (x11.map GAttr.row))), none, []⟩, ⟨some 174, (fun _ => .ptr 3 (n0 + 1) 0 2), none, []⟩, ⟨some 175, (fun _ => .r (.sl (b1.Attrs.map (rSl GAttr.row)))), none, []⟩, ⟨some 176, (fun _ => .r (.int .i64 at8)), none, []⟩, ⟨some 177, (fun _ => .rop ((rSl GAttr.row) x12) 0), none, []⟩, ⟨some 178, (fun _ => .r (.sl (x12.map GAttr.row))), none, []⟩, ⟨some 179, (fun _ => .r (.sl (r1.map GAttr.row))), none, []⟩, ⟨some 180, (fun G4 => .own 180 (G4 13)), some (180, (fun G4 => some (.arr (G4 13) 47 1 ([r1].map (rSl GAttr.row))))), [13]⟩] hmix (by kernel_rfl) (by exact ⟨fun _ _ h => ⟨rfl, fun _ _ e => by cases e⟩, fun _ _ h => ⟨rfl, fun _ _ e => by cases e⟩, fun _ _ h => ⟨rfl, fun _ _ e => by cases e⟩, fun _ _ h => ⟨rfl, fun _ _ e => by cases e⟩, fun _ _ h => ⟨rfl, fun _ _ e => by cases e⟩, fun _ _ h => ⟨rfl, fun _ _ e => by cases e⟩, fun _ _ h => ⟨rfl, fun _ _ e => by cases e⟩, fun _ _ h => ⟨rfl, fun _ _ e => by cases e⟩, fun _ _ h => ⟨rfl, fun _ _ e => by cases e⟩, fun _ _ h => ⟨rfl, fun _ _ e => by cases e⟩, fun _ _ h => ⟨rfl, fun _ _ e => by cases e⟩, fun _ _ h => ⟨rfl, fun _ _ e => by cases e⟩, fun _ _ h => ⟨rfl, fun _ _ e => by cases e⟩, fun _ _ h => ⟨by simp only [h 13 rfl], fun _ _ e => by cases e; simp only [h 13 rfl]⟩, trivial⟩) rfl (by exact ⟨Ob.quiet (n1 := fun n => n) rfl rfl (by intro d h; cases h; rfl) rfl (fun _ => [(5, .ptr 5 (n0 + 4) 0 0)]) (fun _ => [(5, some (.box (n0 + 4) 34 [.own 12 (n3 + 1), .own 9081 (n3 + 3), .own 9082 (i15 2)]))]) (fun D G4 hr => ⟨inE_base rfl rfl, trivial⟩) (fun D G4 hr => ⟨inH_base rfl rfl, trivial⟩) (fun _ _ => rfl) (fun G4 e h' n => OpQ.spec (v := .ptr 5 (n0 + 4) 0 2) (sp_fieldAddr_own (ob := .box _ _ _) rfl tf_34_2 (.inl rfl) (fun _ => rfl) rfl) _),
              Ob.quiet (n1 := fun n => n) rfl rfl (by intro d h; cases h; rfl) rfl (fun _ => [(167, .ptr 5 (n0 + 4) 0 2)]) (fun _ => [(5, some (.box (n0 + 4) 34 [.own 12 (n3 + 1), .own 9081 (n3 + 3), .own 9082 (i15 2)]))]) (fun D G4 hr => ⟨inE_op hr 0 rfl rfl (by kernel_rfl) rfl rfl, trivial⟩) (fun D G4 hr => ⟨inH_base rfl rfl, trivial⟩) (fun _ _ => rfl) (fun G4 e h' n => OpQ.spec (v := .own 9082 (i15 2)) (ms_load_box (a := .own 9082 (i15 2)) rfl ts_32 (.inl rfl) rfl rfl) _),
              Ob.quiet (n1 := fun n => n) rfl rfl (by intro d h; cases h; rfl) rfl (fun _ => [(2, .ptr 2 n0 0 0)]) (fun _ => [(2, some (.box n0 34 [.r (.sl (a1.Adds.map (rSl GElem.row))), .r (.sl (a1.Cuts.map rBool)), .r (.sl (a1.Attrs.map (rSl GAttr.row)))]))]) (fun D G4 hr => ⟨inE_base rfl rfl, trivial⟩) (fun D G4 hr => ⟨inH_base rfl rfl, trivial⟩) (fun _ _ => rfl) (fun G4 e h' n => OpQ.spec (v := .ptr 2 n0 0 2) (sp_fieldAddr_own (ob := .box _ _ _) rfl tf_34_2 (.inl rfl) (fun _ => rfl) rfl) _),
              Ob.quiet (n1 := fun n => n) rfl rfl (by intro d h; cases h; rfl) rfl (fun _ => [(169, .ptr 2 n0 0 2)]) (fun _ => [(2, some (.box n0 34 [.r (.sl (a1.Adds.map (rSl GElem.row))), .r (.sl (a1.Cuts.map rBool)), .r (.sl (a1.Attrs.map (rSl GAttr.row)))]))]) (fun D G4 hr => ⟨inE_op hr 2 rfl rfl (by kernel_rfl) rfl rfl, trivial⟩) (fun D G4 hr => ⟨inH_base rfl rfl, trivial⟩) (fun _ _ => rfl) (fun G4 e h' n => OpQ.spec (v := .r (.sl (a1.Attrs.map (rSl GAttr.row)))) (ms_load_box (a := .r (.sl (a1.Attrs.map (rSl GAttr.row)))) rfl ts_32 (.inl rfl) rfl rfl) _),
              Ob.quiet (n1 := fun n => n) rfl rfl (by intro d h; cases h; rfl) rfl (fun _ => [(7, .r (.int .i64 i4))]) (fun _ => []) (fun D G4 hr => ⟨inE_base rfl rfl, trivial⟩) (fun D G4 hr => trivial) (fun _ _ => rfl) (fun G4 e h' n => OpQ.spec (v := .r (.int .i64 i4)) (sp_move rfl (.inl rfl)) _),
              Ob.quiet (n1 := fun n => n) rfl rfl (by intro d h; cases h; rfl) rfl (fun _ => [(170, .r (.sl (a1.Attrs.map (rSl GAttr.row)))), (171, .r (.int .i64 i4))]) (fun _ => []) (fun D G4 hr => ⟨inE_op hr 3 rfl rfl (by kernel_rfl) rfl rfl, inE_op hr 4 rfl rfl (by kernel_rfl) rfl rfl, trivial⟩) (fun D G4 hr => trivial) (fun _ _ => rfl) (fun G4 e h' n => OpQ.spec (v := .rop ((rSl GAttr.row) x11) 0) (ms_idx rfl tg_32.slice (.inl rfl) (.inl rfl) (fun _ => rfl) (fun _ => ex11)) _),
              Ob.quiet (n1 := fun n => n) rfl rfl (by intro d h; cases h; rfl) rfl (fun _ => [(172, .rop ((rSl GAttr.row) x11) 0)]) (fun _ => []) (fun D G4 hr => ⟨inE_op hr 5 rfl rfl (by kernel_rfl) rfl rfl, trivial⟩) (fun D G4 hr => trivial) (fun _ _ => rfl) (fun G4 e h' n => OpQ.spec (v := .r (.sl (x11.map GAttr.row))) (ms_load (d := .sl (x11.map GAttr.row)) rfl ts_47 (.inl rfl) rfl) _),
              Ob.quiet (n1 := fun n => n) rfl rfl (by intro d h; cases h; rfl) rfl (fun _ => [(3, .ptr 3 (n0 + 1) 0 0)]) (fun _ => [(3, some (.box (n0 + 1) 34 [.r (.sl (b1.Adds.map (rSl GElem.row))), .r (.sl (b1.Cuts.map rBool)), .r (.sl (b1.Attrs.map (rSl GAttr.row)))]))]) (fun D G4 hr => ⟨inE_base rfl rfl, trivial⟩) (fun D G4 hr => ⟨inH_base rfl rfl, trivial⟩) (fun _ _ => rfl) (fun G4 e h' n => OpQ.spec (v := .ptr 3 (n0 + 1) 0 2) (sp_fieldAddr_own (ob := .box _ _ _) rfl tf_34_2 (.inl rfl) (fun _ => rfl) rfl) _),
              Ob.quiet (n1 := fun n => n) rfl rfl (by intro d h; cases h; rfl) rfl (fun _ => [(174, .ptr 3 (n0 + 1) 0 2)]) (fun _ => [(3, some (.box (n0 + 1) 34 [.r (.sl (b1.Adds.map (rSl GElem.row))), .r (.sl (b1.Cuts.map rBool)), .r (.sl (b1.Attrs.map (rSl GAttr.row)))]))]) (fun D G4 hr => ⟨inE_op hr 7 rfl rfl (by kernel_rfl) rfl rfl, trivial⟩) (fun D G4 hr => ⟨inH_base rfl rfl, trivial⟩) (fun _ _ => rfl) (fun G4 e h' n => OpQ.spec (v := .r (.sl (b1.Attrs.map (rSl GAttr.row)))) (ms_load_box (a := .r (.sl (b1.Attrs.map (rSl GAttr.row)))) rfl ts_32 (.inl rfl) rfl rfl) _),
              Ob.quiet (n1 := fun n => n) rfl rfl (by intro d h; cases h; rfl) rfl (fun _ => [(6, .r (.int .i64 at8))]) (fun _ => []) (fun D G4 hr => ⟨inE_base rfl rfl, trivial⟩) (fun D G4 hr => trivial) (fun _ _ => rfl) (fun G4 e h' n => OpQ.spec (v := .r (.int .i64 at8)) (sp_move rfl (.inl rfl)) _),
              Ob.quiet (n1 := fun n => n) rfl rfl (by intro d h; cases h; rfl) rfl (fun _ => [(175, .r (.sl (b1.Attrs.map (rSl GAttr.row)))), (176, .r (.int .i64 at8))]) (fun _ => []) (fun D G4 hr => ⟨inE_op hr 8 rfl rfl (by kernel_rfl) rfl rfl, inE_op hr 9 rfl rfl (by kernel_rfl) rfl rfl, trivial⟩) (fun D G4 hr => trivial) (fun _ _ => rfl) (fun G4 e h' n => OpQ.spec (v := .rop ((rSl GAttr.row) x12) 0) (ms_idx rfl tg_32.slice (.inl rfl) (.inl rfl) (fun _ => rfl) (fun _ => ex12)) _),
              Ob.quiet (n1 := fun n => n) rfl rfl (by intro d h; cases h; rfl) rfl (fun _ => [(177, .rop ((rSl GAttr.row) x12) 0)]) (fun _ => []) (fun D G4 hr => ⟨inE_op hr 10 rfl rfl (by kernel_rfl) rfl rfl, trivial⟩) (fun D G4 hr => trivial) (fun _ _ => rfl) (fun G4 e h' n => OpQ.spec (v := .r (.sl (x12.map GAttr.row))) (ms_load (d := .sl (x12.map GAttr.row)) rfl ts_47 (.inl rfl) rfl) _),
              Ob.quiet (n1 := fun n => n) rfl rfl (by intro d h; cases h; rfl) rfl (fun _ => [(173, .r (.sl (x11.map GAttr.row))), (178, .r (.sl (x12.map GAttr.row)))]) (fun _ => []) (fun D G4 hr => ⟨inE_op hr 6 rfl rfl (by kernel_rfl) rfl rfl, inE_op hr 11 rfl rfl (by kernel_rfl) rfl rfl, trivial⟩) (fun D G4 hr => trivial) (fun _ _ => rfl) (fun G4 e h' n => sp_callS (r := .r (.sl (r1.map GAttr.row))) (caps := []) (bs := [.r (.sl (x11.map GAttr.row)), .r (.sl (x12.map GAttr.row))]) rfl (.inl rfl) rfl ⟨.inl ⟨(.inl rfl), rfl⟩, .inl ⟨(.inl rfl), rfl⟩, trivial⟩ (fun _ => w_ref_Joined (er1))),
              Ob.make (n1 := fun n => n + 1) rfl rfl (by intro d h; cases h; rfl) rfl (fun _ => [(179, .r (.sl (r1.map GAttr.row)))]) (fun _ => []) (fun D G4 hr => ⟨inE_op hr 12 rfl rfl (by kernel_rfl) rfl rfl, trivial⟩) (fun D G4 hr => trivial) (fun G4 e h' n => ms_lit 180 rfl tg_32 (f := (rSl GAttr.row)) (l := ([r1] : List (List GAttr))) ⟨rfl, ⟨_, (.inl rfl), rfl⟩, trivial⟩ rfl (fun _ => rfl) rfl),
              trivial⟩) fun G4 n4 => ?_
          refine AOps.weak (s' := ⟨[(2, .ptr 2 n0 0 0), (3, .ptr 3 (n0 + 1) 0 0), (4, .ptr 4 (n0 + 2) 0 0), (5, .ptr 5 (n0 + 4) 0 0), (6, .r (.int .i64 at8)), (7, .r (.int .i64 i4)), (167, .ptr 5 (n0 + 4) 0 2), (168, .own 9082 (i15 2)), (169, .ptr 2 n0 0 2), (170, .r (.sl (a1.Attrs.map (rSl GAttr.row)))), (171, .r (.int .i64 i4)), (172, .rop ((rSl GAttr.row) x11) 0), (173, .r (.sl (x11.map GAttr.row))), (174, .ptr 3 (n0 + 1) 0 2), (175, .r (.sl (b1.Attrs.map (rSl GAttr.row)))), (176, .r (.int .i64 at8)), (177, .rop ((rSl GAttr.row) x12) 0), (178, .r (.sl (x12.map GAttr.row))), (179, .r (.sl (r1.map GAttr.row))), (180, .own 180 (G4 13))], [(2, some (.box n0 34 [.r (.sl (a1.Adds.map (rSl GElem.row))), .r (.sl (a1.Cuts.map rBool)), .r (.sl (a1.Attrs.map (rSl GAttr.row)))])), (3, some (.box (n0 + 1) 34 [.r (.sl (b1.Adds.map (rSl GElem.row))), .r (.sl (b1.Cuts.map rBool)), .r (.sl (b1.Attrs.map (rSl GAttr.row)))])), (4, some (.box (n0 + 2) 34 [.cst (.slice none 0 0), .cst (.slice none 0 0), .cst (.slice none 0 0)])), (5, some (.box (n0 + 4) 34 [.own 12 (n3 + 1), .own 9081 (n3 + 3), .own 9082 (i15 2)])), (12, some (.arr (n3 + 1) 39 1 (l8.map (rSl GElem.row)))), (180, some (.arr (G4 13) 47 1 ([r1].map (rSl GAttr.row)))), (9081, some (.arr (n3 + 3) 4 1 (l9.map rBool))), (9082, some (.arr (i15 2) 47 1 (out9.Attrs.map (rSl GAttr.row))))], n4, 186⟩) (by exact Weak.cv ⟨.inl (.inl rfl), .inl (.inl rfl), .inl (.inl rfl), .inl (.inl rfl), .inl (.inl rfl), .inl (.inl rfl), .inl (.inl rfl), .inl (.inl rfl), .inl (.inl rfl), .inl (.inl rfl), .inl (.inl rfl), .inl (.inl rfl), .inl (.inl rfl), .inl (.inl rfl), .inl (.inl rfl), .inl (.inl rfl), .inl (.inl rfl), .inl (.inl rfl), .inl (.inl rfl), .inl (.inl rfl), trivial⟩ ⟨.inl rfl, .inl rfl, .inl rfl, .inl rfl, .inl rfl, .inl rfl, .inl rfl, .inl rfl, trivial⟩ (Nat.le_refl _)) ?_
          refine ob1k h28 fun l10 el10 h29 => ?_
          refine AOps.step rfl rfl rfl (ms_app rfl tg_32 (.inl rfl) rfl (.inr (.inl ⟨_, _, (.inl rfl), rfl⟩)) el10) ?_
          refine AOps.step rfl rfl rfl (OpQ.spec (sp_fieldAddr_own (ob := .box _ _ _) rfl tf_34_2 (.inl rfl) (fun _ => rfl) rfl) _) ?_
          refine AOps.step0 rfl rfl (ms_store_box (ds := [.own 12 (n3 + 1), .own 9081 (n3 + 3), .own 9082 n4]) rfl tz_32 (.inl rfl) rfl (.inl rfl) rfl rfl rfl rfl) ?_
          refine AOps.nil ?_
          refine hK22 _ ?_
          refine AW.weak (s' := ⟨[(2, .ptr 2 n0 0 0), (3, .ptr 3 (n0 + 1) 0 0), (4, .ptr 4 (n0 + 2) 0 0), (5, .ptr 5 (n0 + 4) 0 0), (6, .r (.int .i64 at8)), (7, .r (.int .i64 i4))], [(2, some (.box n0 34 [.r (.sl (a1.Adds.map (rSl GElem.row))), .r (.sl (a1.Cuts.map rBool)), .r (.sl (a1.Attrs.map (rSl GAttr.row)))])), (3, some (.box (n0 + 1) 34 [.r (.sl (b1.Adds.map (rSl GElem.row))), .r (.sl (b1.Cuts.map rBool)), .r (.sl (b1.Attrs.map (rSl GAttr.row)))])), (4, some (.box (n0 + 2) 34 [.cst (.slice none 0 0), .cst (.slice none 0 0), .cst (.slice none 0 0)])), (5, some (.box (n0 + 4) 34 [.own 12 (n3 + 1), .own 9081 (n3 + 3), .own 9082 n4])), (12, some (.arr (n3 + 1) 39 1 (l8.map (rSl GElem.row)))), (9081, some (.arr (n3 + 3) 4 1 (l9.map rBool))), (9082, some (.arr n4 47 1 (l10.map (rSl GAttr.row))))], (n4 + 1), 186⟩) (by exact Weak.cv ⟨.inl (.inl rfl), .inl (.inl rfl), .inl (.inl rfl), .inl (.inl rfl), .inl (.inl rfl), .inl (.inl rfl), trivial⟩ ⟨.inl rfl, .inl rfl, .inl rfl, .inl rfl, .inl rfl, .inl rfl, .inl rfl, trivial⟩ (Nat.le_refl _)) ?_
          refine AW.region ?_
          refine AOps.step rfl rfl rfl (OpQ.spec (sp_move rfl (.inl rfl)) _) ?_
          refine ob1k h29 fun at9 eat9 h30 => ?_
          refine AOps.step rfl rfl rfl (OpQ.spec (ms_add rfl (.inl rfl) (.inl rfl) (fun _ => eat9)) _) ?_
          refine AOps.step rfl rfl rfl (OpQ.spec (sp_assign rfl (.inl rfl)) _) ?_
          refine AOps.nil ?_
          exact wK9 _ _ ((by exact Weak.cv ⟨.inl (.inl rfl), .inl (.inl rfl), .inl (.inl rfl), .inl (.inl rfl), .inl (.inl rfl), .inl (.inl rfl), trivial⟩ ⟨.inl rfl, .inl rfl, .inl rfl, .inl rfl, .inl rfl, .inl rfl, .inl rfl, trivial⟩ (Nat.le_refl _))) (J2 _ _ (vec [(n3 + 1), (n3 + 3), n4, (n4 + 1)]) (Option.some.inj h30).symm)
    refine AW.iter3 (fun (at6 : Int) (x3 : Int) (out7 : Ref_Act) i13 => ⟨[(2, .ptr 2 n0 0 0), (3, .ptr 3 (n0 + 1) 0 0), (4, .ptr 4 (n0 + 2) 0 0), (5, .ptr 5 (n0 + 4) 0 0), (6, .r (.int .i64 at6)), (7, .r (.int .i64 i4)), (26, .r (.int .i64 (x1.length : Int))), (27, .r (.int .i64 x3))], [(2, some (.box n0 34 [.r (.sl (a1.Adds.map (rSl GElem.row))), .r (.sl (a1.Cuts.map rBool)), .r (.sl (a1.Attrs.map (rSl GAttr.row)))])), (3, some (.box (n0 + 1) 34 [.r (.sl (b1.Adds.map (rSl GElem.row))), .r (.sl (b1.Cuts.map rBool)), .r (.sl (b1.Attrs.map (rSl GAttr.row)))])), (4, some (.box (n0 + 2) 34 [.cst (.slice none 0 0), .cst (.slice none 0 0), .cst (.slice none 0 0)])), (5, some (.box (n0 + 4) 34 [.own 12 (i13 0), .own 9081 (i13 1), .own 9082 (i13 2)])), (12, some (.arr (i13 0) 39 1 (out7.Adds.map (rSl GElem.row)))), (9081, some (.arr (i13 1) 4 1 (out7.Cuts.map rBool))), (9082, some (.arr (i13 2) 47 1 (out7.Attrs.map (rSl GAttr.row))))], (i13 3), 186⟩) (vec [(i5 0), (i5 1), (i5 2), (i5 3)]) hit2 ((by exact Weak.cv ⟨.inl (.inl rfl), .inl (.inl rfl), .inl (.inl rfl), .inl (.inl rfl), .inl (.inl rfl), .inl (.inl rfl), .inl (.inl rfl), .inl (.inl rfl), trivial⟩ ⟨.inl rfl, .inl rfl, .inl rfl, .inl rfl, .inl rfl, .inl rfl, .inl rfl, trivial⟩ (Nat.le_refl _))) ?_
    intro at6 x3 out7 i13 v2 hv2 hx2
    have h31 : ref_Both_L2 b1 x1 at6 x3 out7 = some v2 := hv2; unfold ref_Both_L2 at h31
    refine AW.seq_w fun K23 hK23 wK23 => ?_
    refine AW.region ?_
    refine AOps.step rfl rfl rfl (OpQ.spec (sp_lss rfl (.inl rfl) (.inl rfl)) _) ?_
    refine AOps.nil ?_
    refine hK23 _ ?_
    refine AW.seq_w fun K24 hK24 wK24 => ?_
    refine AW.cond rfl (fun hc4 => ?_) (fun hc4 => ?_)
    · have h32 := ite_t hc4 h31
      refine AW.skip ?_
      refine hK24 _ ?_
      refine AW.seq_w fun K25 hK25 wK25 => ?_
      refine AW.block ?_
      refine AW.seq_w fun K26 hK26 wK26 => ?_
      refine AW.region ?_
      refine AOps.step rfl rfl rfl (OpQ.spec (sp_move rfl (.inl rfl)) _) ?_
      refine AOps.step rfl rfl rfl (OpQ.spec (sp_assign rfl (.inl rfl)) _) ?_
      refine AOps.nil ?_
      refine hK26 _ ?_
      refine AW.seq_w fun K27 hK27 wK27 => ?_
      refine AW.region ?_
      refine AOps.step rfl rfl rfl (OpQ.spec (sp_fieldAddr_own (ob := .box _ _ _) rfl tf_34_0 (.inl rfl) (fun _ => rfl) rfl) _) ?_
      refine AOps.step rfl rfl rfl (OpQ.spec (ms_load_box (a := .own 12 (i13 0)) rfl ts_30 (.inl rfl) rfl rfl) _) ?_
      refine AOps.step rfl rfl rfl (OpQ.spec (ms_len_own rfl tg_30.slice (.inl rfl) rfl) _) ?_
      refine ob1k h32 fun last2 elast2 h33 => ?_
      refine AOps.step rfl rfl rfl (OpQ.spec (ms_sub rfl (.inl rfl) (.inl rfl) (fun _ => elast2)) _) ?_
      refine AOps.step rfl rfl rfl (OpQ.spec (sp_assign rfl (.inl rfl)) _) ?_
      refine AOps.nil ?_
      refine hK27 _ ?_
      refine AW.seq_w fun K28 hK28 wK28 => ?_
      refine ob1k h33 fun x13 ex13 h34 => ?_
      refine ob1k h34 fun l11 el11 h35 => ?_
      refine ob1k h35 fun x14 ex14 h36 => ?_
      refine ob1k h36 fun l12 el12 h37 => ?_
      refine AW.regionP 16 [⟨some 34, (fun _ => .ptr 5 (n0 + 4) 0 0), none, []⟩, ⟨some 35, (fun _ => .own 12 (i13 0)), none, []⟩, ⟨some 36, (fun _ => .r (.int .i64 last2)), none, []⟩, ⟨some 37, (fun G5 => .own 37 (G5 3)), some (37, (fun G5 => some (.arr (G5 3) 113 3 (([] : List GElem).map GElem.row)))), [3]⟩, ⟨some 38, (fun _ => .ptr 5 (n0 + 4) 0 0), none, []⟩, ⟨some 39, (fun _ => .own 12 (i13 0)), none, []⟩, ⟨some 40, (fun _ => .r (.int .i64 last2)), none, []⟩, ⟨some 41, (fun _ => .ptr 12 (i13 0) last2.toNat 0), none, []⟩, ⟨some 42, (fun _ => .r (.sl (x13.map GElem.row))), none, []⟩, ⟨some 43, (fun G5 => .own 37 (G5 9)), some (37, (fun G5 => some (.arr (G5 9) 113 3 (l11.map GElem.row)))), [9]⟩, ⟨some 44, (fun _ => .ptr 3 (n0 + 1) 0 0), none, []⟩, ⟨some 45, (fun _ => .r (.sl (b1.Adds.map (rSl GElem.row)))), none, []⟩, ⟨some 46, (fun _ => .r (.int .i64 at6)), none, []⟩, ⟨some 47, (fun _ => .rop ((rSl GElem.row) x14) 0), none, []⟩, ⟨some 48, (fun _ => .r (.sl (x14.map GElem.row))), none, []⟩, ⟨some 49, (fun G5 => .own 37 (G5 15)), some (37, (fun G5 => some (.arr (G5 15) 113 3 (l12.map GElem.row)))), [15]⟩] hmix (by kernel_rfl) (by exact ⟨fun _ _ h => ⟨rfl, fun _ _ e => by cases e⟩, fun _ _ h => ⟨rfl, fun _ _ e => by cases e⟩, fun _ _ h => ⟨rfl, fun _ _ e => by cases e⟩, fun _ _ h => ⟨by simp only [h 3 rfl], fun _ _ e => by cases e; simp only [h 3 rfl]⟩, fun _ _ h => ⟨rfl, fun _ _ e => by cases e⟩, fun _ _ h => ⟨rfl, fun _ _ e => by cases e⟩, fun _ _ h => ⟨rfl, fun _ _ e => by cases e⟩, fun _ _ h => ⟨rfl, fun _ _ e => by cases e⟩, fun _ _ h => ⟨rfl, fun _ _ e => by cases e⟩, fun _ _ h => ⟨by simp only [h 9 rfl], fun _ _ e => by cases e; simp only [h 9 rfl]⟩, fun _ _ h => ⟨rfl, fun _ _ e => by cases e⟩, fun _ _ h => ⟨rfl, fun _ _ e => by cases e⟩, fun _ _ h => ⟨rfl, fun _ _ e => by cases e⟩, fun _ _ h => ⟨rfl, fun _ _ e => by cases e⟩, fun _ _ h => ⟨rfl, fun _ _ e => by cases e⟩, fun _ _ h => ⟨by simp only [h 15 rfl], fun _ _ e => by cases e; simp only [h 15 rfl]⟩, trivial⟩) rfl (by exact ⟨Ob.quiet (n1 := fun n => n) rfl rfl (by intro d h; cases h; rfl) rfl (fun _ => [(5, .ptr 5 (n0 + 4) 0 0)]) (fun _ => [(5, some (.box (n0 + 4) 34 [.own 12 (i13 0), .own 9081 (i13 1), .own 9082 (i13 2)]))]) (fun D G5 hr => ⟨inE_base rfl rfl, trivial⟩) (fun D G5 hr => ⟨inH_base rfl rfl, trivial⟩) (fun _ _ => rfl) (fun G5 e h' n => OpQ.spec (v := .ptr 5 (n0 + 4) 0 0) (sp_fieldAddr_own (ob := .box _ _ _) rfl tf_34_0 (.inl rfl) (fun _ => rfl) rfl) _),
          Ob.quiet (n1 := fun n => n) rfl rfl (by intro d h; cases h; rfl) rfl (fun _ => [(34, .ptr 5 (n0 + 4) 0 0)]) (fun _ => [(5, some (.box (n0 + 4) 34 [.own 12 (i13 0), .own 9081 (i13 1), .own 9082 (i13 2)]))]) (fun D G5 hr => ⟨inE_op hr 0 rfl rfl (by kernel_rfl) rfl rfl, trivial⟩) (fun D G5 hr => ⟨inH_base rfl rfl, trivial⟩) (fun _ _ => rfl) (fun G5 e h' n => OpQ.spec (v := .own 12 (i13 0)) (ms_load_box (a := .own 12 (i13 0)) rfl ts_30 (.inl rfl) rfl rfl) _),
          Ob.quiet (n1 := fun n => n) rfl rfl (by intro d h; cases h; rfl) rfl (fun _ => [(9, .r (.int .i64 last2))]) (fun _ => []) (fun D G5 hr => ⟨inE_base rfl rfl, trivial⟩) (fun D G5 hr => trivial) (fun _ _ => rfl) (fun G5 e h' n => OpQ.spec (v := .r (.int .i64 last2)) (sp_move rfl (.inl rfl)) _),
          Ob.make (n1 := fun n => n + 1) rfl rfl (by intro d h; cases h; rfl) rfl (fun _ => []) (fun _ => []) (fun D G5 hr => trivial) (fun D G5 hr => trivial) (fun G5 e h' n => ms_lit 37 rfl tg_39 (f := GElem.row) (l := ([] : List GElem)) trivial rfl (fun _ => rfl) rfl),
          Ob.quiet (n1 := fun n => n) rfl rfl (by intro d h; cases h; rfl) rfl (fun _ => [(5, .ptr 5 (n0 + 4) 0 0)]) (fun _ => [(5, some (.box (n0 + 4) 34 [.own 12 (i13 0), .own 9081 (i13 1), .own 9082 (i13 2)]))]) (fun D G5 hr => ⟨inE_base rfl rfl, trivial⟩) (fun D G5 hr => ⟨inH_base rfl rfl, trivial⟩) (fun _ _ => rfl) (fun G5 e h' n => OpQ.spec (v := .ptr 5 (n0 + 4) 0 0) (sp_fieldAddr_own (ob := .box _ _ _) rfl tf_34_0 (.inl rfl) (fun _ => rfl) rfl) _),
          Ob.quiet (n1 := fun n => n) rfl rfl (by intro d h; cases h; rfl) rfl (fun _ => [(38, .ptr 5 (n0 + 4) 0 0)]) (fun _ => [(5, some (.box (n0 + 4) 34 [.own 12 (i13 0), .own 9081 (i13 1), .own 9082 (i13 2)]))]) (fun D G5 hr => ⟨inE_op hr 4 rfl rfl (by kernel_rfl) rfl rfl, trivial⟩) (fun D G5 hr => ⟨inH_base rfl rfl, trivial⟩) (fun _ _ => rfl) (fun G5 e h' n => OpQ.spec (v := .own 12 (i13 0)) (ms_load_box (a := .own 12 (i13 0)) rfl ts_30 (.inl rfl) rfl rfl) _),
          Ob.quiet (n1 := fun n => n) rfl rfl (by intro d h; cases h; rfl) rfl (fun _ => [(9, .r (.int .i64 last2))]) (fun _ => []) (fun D G5 hr => ⟨inE_base rfl rfl, trivial⟩) (fun D G5 hr => trivial) (fun _ _ => rfl) (fun G5 e h' n => OpQ.spec (v := .r (.int .i64 last2)) (sp_move rfl (.inl rfl)) _),
          Ob.quiet (n1 := fun n => n) rfl rfl (by intro d h; cases h; rfl) rfl (fun _ => [(39, .own 12 (i13 0)), (40, .r (.int .i64 last2))]) (fun _ => [(12, some (.arr (i13 0) 39 1 (out7.Adds.map (rSl GElem.row))))]) (fun D G5 hr => ⟨inE_op hr 5 rfl rfl (by kernel_rfl) rfl rfl, inE_op hr 6 rfl rfl (by kernel_rfl) rfl rfl, trivial⟩) (fun D G5 hr => ⟨inH_base rfl rfl, trivial⟩) (fun _ _ => rfl) (fun G5 e h' n => OpQ.spec (v := .ptr 12 (i13 0) last2.toNat 0) (ms_idx_own rfl tg_30.slice (.inl rfl) rfl (.inl rfl) (fun _ => ex13)) _),
          Ob.quiet (n1 := fun n => n) rfl rfl (by intro d h; cases h; rfl) rfl (fun _ => [(41, .ptr 12 (i13 0) last2.toNat 0)]) (fun _ => [(12, some (.arr (i13 0) 39 1 (out7.Adds.map (rSl GElem.row))))]) (fun D G5 hr => ⟨inE_op hr 7 rfl rfl (by kernel_rfl) rfl rfl, trivial⟩) (fun D G5 hr => ⟨inH_base rfl rfl, trivial⟩) (fun _ _ => rfl) (fun G5 e h' n => OpQ.spec (v := .r (.sl (x13.map GElem.row))) (ms_load_own (d := .sl (x13.map GElem.row)) rfl ts_39 (.inl rfl) (fun _ => rfl) (fun _ => ex13) rfl) _),
          Ob.make (n1 := fun n => n + 1) rfl rfl (by intro d h; cases h; rfl) rfl (fun G5 => [(37, .own 37 (G5 3)), (42, .r (.sl (x13.map GElem.row)))]) (fun G5 => [(37, some (.arr (G5 3) 113 3 (([] : List GElem).map GElem.row)))]) (fun D G5 hr => ⟨inE_op hr 3 rfl rfl (by kernel_rfl) rfl rfl, inE_op hr 8 rfl rfl (by kernel_rfl) rfl rfl, trivial⟩) (fun D G5 hr => ⟨inH_op hr 3 rfl rfl (by kernel_rfl) (by kernel_rfl) rfl, trivial⟩) (fun G5 e h' n => ms_app rfl tg_39 (.inl rfl) rfl (.inl ⟨(.inl rfl), fun _ => rfl⟩) el11),
          Ob.quiet (n1 := fun n => n) rfl rfl (by intro d h; cases h; rfl) rfl (fun _ => [(3, .ptr 3 (n0 + 1) 0 0)]) (fun _ => [(3, some (.box (n0 + 1) 34 [.r (.sl (b1.Adds.map (rSl GElem.row))), .r (.sl (b1.Cuts.map rBool)), .r (.sl (b1.Attrs.map (rSl GAttr.row)))]))]) (fun D G5 hr => ⟨inE_base rfl rfl, trivial⟩) (fun D G5 hr => ⟨inH_base rfl rfl, trivial⟩) (fun _ _ => rfl) (fun G5 e h' n => OpQ.spec (v := .ptr 3 (n0 + 1) 0 0) (sp_fieldAddr_own (ob := .box _ _ _) rfl tf_34_0 (.inl rfl) (fun _ => rfl) rfl) _),
          Ob.quiet (n1 := fun n => n) rfl rfl (by intro d h; cases h; rfl) rfl (fun _ => [(44, .ptr 3 (n0 + 1) 0 0)]) (fun _ => [(3, some (.box (n0 + 1) 34 [.r (.sl (b1.Adds.map (rSl GElem.row))), .r (.sl (b1.Cuts.map rBool)), .r (.sl (b1.Attrs.map (rSl GAttr.row)))]))]) (fun D G5 hr => ⟨inE_op hr 10 rfl rfl (by kernel_rfl) rfl rfl, trivial⟩) (fun D G5 hr => ⟨inH_base rfl rfl, trivial⟩) (fun _ _ => rfl) (fun G5 e h' n => OpQ.spec (v := .r (.sl (b1.Adds.map (rSl GElem.row)))) (ms_load_box (a := .r (.sl (b1.Adds.map (rSl GElem.row)))) rfl ts_30 (.inl rfl) rfl rfl) _),
          Ob.quiet (n1 := fun n => n) rfl rfl (by intro d h; cases h; rfl) rfl (fun _ => [(6, .r (.int .i64 at6))]) (fun _ => []) (fun D G5 hr => ⟨inE_base rfl rfl, trivial⟩) (fun D G5 hr => trivial) (fun _ _ => rfl) (fun G5 e h' n => OpQ.spec (v := .r (.int .i64 at6)) (sp_move rfl (.inl rfl)) _),
          Ob.quiet (n1 := fun n => n) rfl rfl (by intro d h; cases h; rfl) rfl (fun _ => [(45, .r (.sl (b1.Adds.map (rSl GElem.row)))), (46, .r (.int .i64 at6))]) (fun _ => []) (fun D G5 hr => ⟨inE_op hr 11 rfl rfl (by kernel_rfl) rfl rfl, inE_op hr 12 rfl rfl (by kernel_rfl) rfl rfl, trivial⟩) (fun D G5 hr => trivial) (fun _ _ => rfl) (fun G5 e h' n => OpQ.spec (v := .rop ((rSl GElem.row) x14) 0) (ms_idx rfl tg_30.slice (.inl rfl) (.inl rfl) (fun _ => rfl) (fun _ => ex14)) _),
          Ob.quiet (n1 := fun n => n) rfl rfl (by intro d h; cases h; rfl) rfl (fun _ => [(47, .rop ((rSl GElem.row) x14) 0)]) (fun _ => []) (fun D G5 hr => ⟨inE_op hr 13 rfl rfl (by kernel_rfl) rfl rfl, trivial⟩) (fun D G5 hr => trivial) (fun _ _ => rfl) (fun G5 e h' n => OpQ.spec (v := .r (.sl (x14.map GElem.row))) (ms_load (d := .sl (x14.map GElem.row)) rfl ts_39 (.inl rfl) rfl) _),
          Ob.make (n1 := fun n => n + 1) rfl rfl (by intro d h; cases h; rfl) rfl (fun G5 => [(43, .own 37 (G5 9)), (48, .r (.sl (x14.map GElem.row)))]) (fun G5 => [(37, some (.arr (G5 9) 113 3 (l11.map GElem.row)))]) (fun D G5 hr => ⟨inE_op hr 9 rfl rfl (by kernel_rfl) rfl rfl, inE_op hr 14 rfl rfl (by kernel_rfl) rfl rfl, trivial⟩) (fun D G5 hr => ⟨inH_op hr 9 rfl rfl (by kernel_rfl) (by kernel_rfl) rfl, trivial⟩) (fun G5 e h' n => ms_app rfl tg_39 (.inl rfl) rfl (.inl ⟨(.inl rfl), fun _ => rfl⟩) el12),
          trivial⟩) fun G5 n5 => ?_
      refine AOps.weak (s' := ⟨[(2, .ptr 2 n0 0 0), (3, .ptr 3 (n0 + 1) 0 0), (4, .ptr 4 (n0 + 2) 0 0), (5, .ptr 5 (n0 + 4) 0 0), (6, .r (.int .i64 at6)), (7, .r (.int .i64 i4)), (8, .r (.int .i64 x3)), (9, .r (.int .i64 last2)), (26, .r (.int .i64 (x1.length : Int))), (27, .r (.int .i64 x3)), (28, .r (.bool (decide (x3 < (x1.length : Int))))), (29, .r (.int .i64 x3)), (30, .ptr 5 (n0 + 4) 0 0), (31, .own 12 (i13 0)), (32, .r (.int .i64 (out7.Adds.length : Int))), (33, .r (.int .i64 last2)), (34, .ptr 5 (n0 + 4) 0 0), (35, .own 12 (i13 0)), (36, .r (.int .i64 last2)), (38, .ptr 5 (n0 + 4) 0 0), (39, .own 12 (i13 0)), (40, .r (.int .i64 last2)), (41, .ptr 12 (i13 0) last2.toNat 0), (42, .r (.sl (x13.map GElem.row))), (44, .ptr 3 (n0 + 1) 0 0), (45, .r (.sl (b1.Adds.map (rSl GElem.row)))), (46, .r (.int .i64 at6)), (47, .rop ((rSl GElem.row) x14) 0), (48, .r (.sl (x14.map GElem.row))), (49, .own 37 (G5 15))], [(2, some (.box n0 34 [.r (.sl (a1.Adds.map (rSl GElem.row))), .r (.sl (a1.Cuts.map rBool)), .r (.sl (a1.Attrs.map (rSl GAttr.row)))])), (3, some (.box (n0 + 1) 34 [.r (.sl (b1.Adds.map (rSl GElem.row))), .r (.sl (b1.Cuts.map rBool)), .r (.sl (b1.Attrs.map (rSl GAttr.row)))])), (4, some (.box (n0 + 2) 34 [.cst (.slice none 0 0), .cst (.slice none 0 0), .cst (.slice none 0 0)])), (5, some (.box (n0 + 4) 34 [.own 12 (i13 0), .own 9081 (i13 1), .own 9082 (i13 2)])), (12, some (.arr (i13 0) 39 1 (out7.Adds.map (rSl GElem.row)))), (37, some (.arr (G5 15) 113 3 (l12.map GElem.row))), (9081, some (.arr (i13 1) 4 1 (out7.Cuts.map rBool))), (9082, some (.arr (i13 2) 47 1 (out7.Attrs.map (rSl GAttr.row))))], n5, 186⟩) (by exact Weak.cv ⟨.inl (.inl rfl), .inl (.inl rfl), .inl (.inl rfl), .inl (.inl rfl), .inl (.inl rfl), .inl (.inl rfl), .inl (.inl rfl), .inl (.inl rfl), .inl (.inl rfl), .inl (.inl rfl), .inl (.inl rfl), .inl (.inl rfl), .inl (.inl rfl), .inl (.inl rfl), .inl (.inl rfl), .inl (.inl rfl), .inl (.inl rfl), .inl (.inl rfl), .inl (.inl rfl), .inl (.inl rfl), .inl (.inl rfl), .inl (.inl rfl), .inl (.inl rfl), .inl (.inl rfl), .inl (.inl rfl), .inl (.inl rfl), .inl (.inl rfl), .inl (.inl rfl), .inl (.inl rfl), .inl (.inl rfl), trivial⟩ ⟨.inl rfl, .inl rfl, .inl rfl, .inl rfl, .inl rfl, .inl rfl, .inl rfl, .inl rfl, trivial⟩ (Nat.le_refl _)) ?_
      refine AOps.step rfl rfl rfl (OpQ.spec (ms_idx_own rfl tg_30.slice (.inl rfl) rfl (.inl rfl) (fun _ => ex13)) _) ?_
      refine AOps.step0 rfl rfl (ms_store_own rfl tz_39 (.inl rfl) rfl ex13 (.inl rfl)) ?_
      refine AOps.nil ?_
      refine hK28 _ ?_
      refine AW.seq_w fun K29 hK29 wK29 => ?_
      refine AW.seq_w fun K30 hK30 wK30 => ?_
      refine AW.weak (s' := ⟨[(2, .ptr 2 n0 0 0), (3, .ptr 3 (n0 + 1) 0 0), (4, .ptr 4 (n0 + 2) 0 0), (5, .ptr 5 (n0 + 4) 0 0), (6, .r (.int .i64 at6)), (7, .r (.int .i64 i4)), (8, .r (.int .i64 x3)), (9, .r (.int .i64 last2)), (26, .r (.int .i64 (x1.length : Int))), (27, .r (.int .i64 x3))], [(2, some (.box n0 34 [.r (.sl (a1.Adds.map (rSl GElem.row))), .r (.sl (a1.Cuts.map rBool)), .r (.sl (a1.Attrs.map (rSl GAttr.row)))])), (3, some (.box (n0 + 1) 34 [.r (.sl (b1.Adds.map (rSl GElem.row))), .r (.sl (b1.Cuts.map rBool)), .r (.sl (b1.Attrs.map (rSl GAttr.row)))])), (4, some (.box (n0 + 2) 34 [.cst (.slice none 0 0), .cst (.slice none 0 0), .cst (.slice none 0 0)])), (5, some (.box (n0 + 4) 34 [.own 12 (i13 0), .own 9081 (i13 1), .own 9082 (i13 2)])), (12, some (.hot (i13 0) 39 (out7.Adds.map (rSl GElem.row)) last2.toNat 37 (G5 15))), (37, some (.arr (G5 15) 113 3 (l12.map GElem.row))), (9081, some (.arr (i13 1) 4 1 (out7.Cuts.map rBool))), (9082, some (.arr (i13 2) 47 1 (out7.Attrs.map (rSl GAttr.row))))], n5, 186⟩) (by exact Weak.cv ⟨.inl (.inl rfl), .inl (.inl rfl), .inl (.inl rfl), .inl (.inl rfl), .inl (.inl rfl), .inl (.inl rfl), .inl (.inl rfl), .inl (.inl rfl), .inl (.inl rfl), .inl (.inl rfl), trivial⟩ ⟨.inl rfl, .inl rfl, .inl rfl, .inl rfl, .inl rfl, .inl rfl, .inl rfl, .inl rfl, trivial⟩ (Nat.le_refl _)) ?_
      refine AW.region ?_
      refine AOps.step rfl rfl rfl (OpQ.spec (sp_fieldAddr_own (ob := .box _ _ _) rfl tf_34_1 (.inl rfl) (fun _ => rfl) rfl) _) ?_
      refine AOps.step rfl rfl rfl (OpQ.spec (ms_load_box (a := .r (.sl (b1.Cuts.map rBool))) rfl ts_31 (.inl rfl) rfl rfl) _) ?_
      refine AOps.step rfl rfl rfl (OpQ.spec (sp_move rfl (.inl rfl)) _) ?_
      refine ob1k h37 fun x15 ex15 h38 => ?_
      refine AOps.step rfl rfl rfl (OpQ.spec (ms_idx rfl tg_31.slice (.inl rfl) (.inl rfl) (fun _ => rfl) (fun _ => ex15)) _) ?_
      refine AOps.step rfl rfl rfl (OpQ.spec (ms_load (d := .bool x15) rfl ts_4 (.inl rfl) rfl) _) ?_
      refine AOps.step rfl rfl rfl (OpQ.spec (sp_not rfl (.inl rfl)) _) ?_
      refine AOps.nil ?_
      refine hK30 _ ?_
      refine jb1k h38 fun p2 hp2 hk4 => ?_
      have J4 : ∀ (out10 : Ref_Act) (i16 : Nat → Nat), p2 = out10 → K29 ⟨[(2, .ptr 2 n0 0 0), (3, .ptr 3 (n0 + 1) 0 0), (4, .ptr 4 (n0 + 2) 0 0), (5, .ptr 5 (n0 + 4) 0 0), (6, .r (.int .i64 at6)), (7, .r (.int .i64 i4)), (26, .r (.int .i64 (x1.length : Int))), (27, .r (.int .i64 x3))], [(2, some (.box n0 34 [.r (.sl (a1.Adds.map (rSl GElem.row))), .r (.sl (a1.Cuts.map rBool)), .r (.sl (a1.Attrs.map (rSl GAttr.row)))])), (3, some (.box (n0 + 1) 34 [.r (.sl (b1.Adds.map (rSl GElem.row))), .r (.sl (b1.Cuts.map rBool)), .r (.sl (b1.Attrs.map (rSl GAttr.row)))])), (4, some (.box (n0 + 2) 34 [.cst (.slice none 0 0), .cst (.slice none 0 0), .cst (.slice none 0 0)])), (5, some (.box (n0 + 4) 34 [.own 12 (i16 0), .own 9081 (i16 1), .own 9082 (i16 2)])), (12, some (.arr (i16 0) 39 1 (out10.Adds.map (rSl GElem.row)))), (9081, some (.arr (i16 1) 4 1 (out10.Cuts.map rBool))), (9082, some (.arr (i16 2) 47 1 (out10.Attrs.map (rSl GAttr.row))))], (i16 3), 186⟩ := by
        intro out10 i16 e
        have h39 := hk4 _ e
        refine hK29 _ ?_
        refine AW.region ?_
        refine AOps.step rfl rfl rfl (OpQ.spec (sp_move rfl (.inl rfl)) _) ?_
        refine ob1k h39 fun at10 eat10 h40 => ?_
        refine AOps.step rfl rfl rfl (OpQ.spec (ms_add rfl (.inl rfl) (.inl rfl) (fun _ => eat10)) _) ?_
        refine AOps.step rfl rfl rfl (OpQ.spec (sp_assign rfl (.inl rfl)) _) ?_
        refine AOps.nil ?_
        refine hK25 _ ?_
        refine AW.region ?_
        refine ob1k h40 fun x16 ex16 h41 => ?_
        refine AOps.step rfl rfl rfl (OpQ.spec (ms_add rfl (.inl rfl) (.inl rfl) (fun _ => ex16)) _) ?_
        refine AOps.step rfl rfl rfl (OpQ.spec (sp_move rfl (.inl rfl)) _) ?_
        refine AOps.nil ?_
        exact NextQ3.mk h41 (vec [(i16 0), (i16 1), (i16 2), (i16 3)]) ((by exact Weak.cv ⟨.inl (.inl rfl), .inl (.inl rfl), .inl (.inl rfl), .inl (.inl rfl), .inl (.inl rfl), .inl (.inl rfl), .inl (.inl rfl), .inl (.inl rfl), trivial⟩ ⟨.inl rfl, .inl rfl, .inl rfl, .inl rfl, .inl rfl, .inl rfl, .inl rfl, trivial⟩ (Nat.le_refl _)))
      refine AW.cond rfl (fun hc5 => ?_) (fun hc5 => ?_)
      · have h42 := ite_t hc5 hp2
        refine AW.seq_w fun K31 hK31 wK31 => ?_
        refine AW.region ?_
        refine AOps.step rfl rfl rfl (OpQ.spec (sp_fieldAddr_own (ob := .box _ _ _) rfl tf_34_0 (.inl rfl) (fun _ => rfl) rfl) _) ?_
        refine AOps.step rfl rfl rfl (OpQ.spec (ms_load_box (a := .r (.sl (a1.Adds.map (rSl GElem.row)))) rfl ts_30 (.inl rfl) rfl rfl) _) ?_
        refine AOps.step rfl rfl rfl (OpQ.spec (sp_move rfl (.inl rfl)) _) ?_
        refine AOps.step rfl rfl rfl (OpQ.spec (ms_idx rfl tg_30.slice (.inl rfl) (.inl rfl) (fun _ => rfl) (fun _ => ex1)) _) ?_
        refine AOps.step rfl rfl rfl (OpQ.spec (ms_load (d := .sl (x1.map GElem.row)) rfl ts_39 (.inl rfl) rfl) _) ?_
        refine AOps.step rfl rfl rfl (OpQ.spec (sp_move rfl (.inl rfl)) _) ?_
        refine ob1k h42 fun x17 ex17 h43 => ?_
        refine AOps.step rfl rfl rfl (OpQ.spec (ms_idx rfl tg_39.slice (.inl rfl) (.inl rfl) (fun _ => rfl) (fun _ => ex17)) _) ?_
        refine AOps.step rfl rfl rfl (OpQ.spec (ms_loadA (cs := [.r (.int .i64 x17.Char), .r (.int .i64 x17.Ref), .r (.sl (x17.Attrs.map GAttr.row))]) rfl ta_113 (.inl rfl) rfl rfl) _) ?_
        refine AOps.step rfl rfl rfl (ms_alloc (cs := [.r (.int .i64 0), .r (.int .i64 0), .cst (.slice none 0 0)]) 10 rfl t0_113 rfl rfl) ?_
        refine AOps.step0 rfl rfl (ms_store_box (ds := [.r (.int .i64 x17.Char), .r (.int .i64 x17.Ref), .r (.sl (x17.Attrs.map GAttr.row))]) rfl tz_113 (.inl rfl) rfl (.inl rfl) rfl rfl rfl rfl) ?_
        refine AOps.nil ?_
        refine hK31 _ ?_
        refine AW.seq_w fun K32 hK32 wK32 => ?_
        refine AW.weak (s' := ⟨[(2, .ptr 2 n0 0 0), (3, .ptr 3 (n0 + 1) 0 0), (4, .ptr 4 (n0 + 2) 0 0), (5, .ptr 5 (n0 + 4) 0 0), (6, .r (.int .i64 at6)), (7, .r (.int .i64 i4)), (9, .r (.int .i64 last2)), (10, .ptr 10 n5 0 0), (26, .r (.int .i64 (x1.length : Int))), (27, .r (.int .i64 x3))], [(2, some (.box n0 34 [.r (.sl (a1.Adds.map (rSl GElem.row))), .r (.sl (a1.Cuts.map rBool)), .r (.sl (a1.Attrs.map (rSl GAttr.row)))])), (3, some (.box (n0 + 1) 34 [.r (.sl (b1.Adds.map (rSl GElem.row))), .r (.sl (b1.Cuts.map rBool)), .r (.sl (b1.Attrs.map (rSl GAttr.row)))])), (4, some (.box (n0 + 2) 34 [.cst (.slice none 0 0), .cst (.slice none 0 0), .cst (.slice none 0 0)])), (5, some (.box (n0 + 4) 34 [.own 12 (i13 0), .own 9081 (i13 1), .own 9082 (i13 2)])), (10, some (.box n5 113 [.r (.int .i64 x17.Char), .r (.int .i64 x17.Ref), .r (.sl (x17.Attrs.map GAttr.row))])), (12, some (.hot (i13 0) 39 (out7.Adds.map (rSl GElem.row)) last2.toNat 37 (G5 15))), (37, some (.arr (G5 15) 113 3 (l12.map GElem.row))), (9081, some (.arr (i13 1) 4 1 (out7.Cuts.map rBool))), (9082, some (.arr (i13 2) 47 1 (out7.Attrs.map (rSl GAttr.row))))], (n5 + 1), 186⟩) (by exact Weak.cv ⟨.inl (.inl rfl), .inl (.inl rfl), .inl (.inl rfl), .inl (.inl rfl), .inl (.inl rfl), .inl (.inl rfl), .inl (.inl rfl), .inl (.inl rfl), .inl (.inl rfl), .inl (.inl rfl), trivial⟩ ⟨.inl rfl, .inl rfl, .inl rfl, .inl rfl, .inl rfl, .inl rfl, .inl rfl, .inl rfl, .inl rfl, trivial⟩ (Nat.le_refl _)) ?_
        refine AW.regionT 7 hmix (by kernel_rfl) rfl rfl ?_
        refine AT.step rfl rfl rfl (sp_fieldAddr_own (ob := .box _ _ _) rfl tf_113_2 (.inl rfl) (fun _ => rfl) rfl) ?_
        refine AT.step rfl rfl rfl (ms_load_box (a := .r (.sl (x17.Attrs.map GAttr.row))) rfl ts_47 (.inl rfl) rfl rfl) ?_
        refine AT.step rfl rfl rfl (sp_fieldAddr_own (ob := .box _ _ _) rfl tf_34_2 (.inl rfl) (fun _ => rfl) rfl) ?_
        refine AT.step rfl rfl rfl (ms_load_box (a := .r (.sl (b1.Attrs.map (rSl GAttr.row)))) rfl ts_32 (.inl rfl) rfl rfl) ?_
        refine AT.step rfl rfl rfl (sp_move rfl (.inl rfl)) ?_
        refine ob1k h43 fun x18 ex18 h44 => ?_
        refine AT.step rfl rfl rfl (ms_idx rfl tg_32.slice (.inl rfl) (.inl rfl) (fun _ => rfl) (fun _ => ex18)) ?_
        refine AT.step rfl rfl rfl (ms_load (d := .sl (x18.map GAttr.row)) rfl ts_47 (.inl rfl) rfl) ?_
        refine AT.nil ?_
        refine ob1k h44 fun r2 er2 h45 => ?_
        refine AOps.step rfl rfl rfl (sp_callS (r := .r (.sl (r2.map GAttr.row))) (caps := []) (bs := [.r (.sl (x17.Attrs.map GAttr.row)), .r (.sl (x18.map GAttr.row))]) rfl (.inl rfl) rfl ⟨.inl ⟨(.inl rfl), rfl⟩, .inl ⟨(.inl rfl), rfl⟩, trivial⟩ (fun _ => w_ref_Changed (er2))) ?_
        refine AOps.step rfl rfl rfl (OpQ.spec (sp_fieldAddr_own (ob := .box _ _ _) rfl tf_113_2 (.inl rfl) (fun _ => rfl) rfl) _) ?_
        refine AOps.step0 rfl rfl (ms_store_box (ds := [.r (.int .i64 x17.Char), .r (.int .i64 x17.Ref), .r (.sl (r2.map GAttr.row))]) rfl tz_47 (.inl rfl) rfl (.inl rfl) rfl rfl rfl rfl) ?_
        refine AOps.nil ?_
        refine hK32 _ ?_
        refine AW.weak (s' := ⟨[(2, .ptr 2 n0 0 0), (3, .ptr 3 (n0 + 1) 0 0), (4, .ptr 4 (n0 + 2) 0 0), (5, .ptr 5 (n0 + 4) 0 0), (6, .r (.int .i64 at6)), (7, .r (.int .i64 i4)), (9, .r (.int .i64 last2)), (10, .ptr 10 n5 0 0), (26, .r (.int .i64 (x1.length : Int))), (27, .r (.int .i64 x3))], [(2, some (.box n0 34 [.r (.sl (a1.Adds.map (rSl GElem.row))), .r (.sl (a1.Cuts.map rBool)), .r (.sl (a1.Attrs.map (rSl GAttr.row)))])), (3, some (.box (n0 + 1) 34 [.r (.sl (b1.Adds.map (rSl GElem.row))), .r (.sl (b1.Cuts.map rBool)), .r (.sl (b1.Attrs.map (rSl GAttr.row)))])), (4, some (.box (n0 + 2) 34 [.cst (.slice none 0 0), .cst (.slice none 0 0), .cst (.slice none 0 0)])), (5, some (.box (n0 + 4) 34 [.own 12 (i13 0), .own 9081 (i13 1), .own 9082 (i13 2)])), (10, some (.box n5 113 [.r (.int .i64 x17.Char), .r (.int .i64 x17.Ref), .r (.sl (r2.map GAttr.row))])), (12, some (.hot (i13 0) 39 (out7.Adds.map (rSl GElem.row)) last2.toNat 37 (G5 15))), (37, some (.arr (G5 15) 113 3 (l12.map GElem.row))), (9081, some (.arr (i13 1) 4 1 (out7.Cuts.map rBool))), (9082, some (.arr (i13 2) 47 1 (out7.Attrs.map (rSl GAttr.row))))], (n5 + 1), 186⟩) (by exact Weak.cv ⟨.inl (.inl rfl), .inl (.inl rfl), .inl (.inl rfl), .inl (.inl rfl), .inl (.inl rfl), .inl (.inl rfl), .inl (.inl rfl), .inl (.inl rfl), .inl (.inl rfl), .inl (.inl rfl), trivial⟩ ⟨.inl rfl, .inl rfl, .inl rfl, .inl rfl, .inl rfl, .inl rfl, .inl rfl, .inl rfl, .inl rfl, trivial⟩ (Nat.le_refl _)) ?_
        refine ob1k h45 fun l13 el13 h46 => ?_
        refine AW.regionP 11 [⟨some 74, (fun _ => .ptr 5 (n0 + 4) 0 0), none, []⟩, ⟨some 75, (fun _ => .own 12 (i13 0)), none, []⟩, ⟨some 76, (fun _ => .r (.int .i64 last2)), none, []⟩, ⟨some 77, (fun _ => .ptr 5 (n0 + 4) 0 0), none, []⟩, ⟨some 78, (fun _ => .own 12 (i13 0)), none, []⟩, ⟨some 79, (fun _ => .r (.int .i64 last2)), none, []⟩, ⟨some 80, (fun _ => .ptr 12 (i13 0) last2.toNat 0), none, []⟩, ⟨some 81, (fun _ => .own 37 (G5 15)), none, []⟩, ⟨some 82, (fun _ => .agg [.r (.int .i64 x17.Char), .r (.int .i64 x17.Ref), .r (.sl (r2.map GAttr.row))]), none, []⟩, ⟨some 83, (fun G6 => .own 83 (G6 9)), some (83, (fun G6 => some (.arr (G6 9) 113 3 ([(GElem.mk x17.Char x17.Ref r2)].map GElem.row)))), [9]⟩, ⟨some 84, (fun G6 => .own 37 (G6 10)), some (37, (fun G6 => some (.arr (G6 10) 113 3 (l13.map GElem.row)))), [10]⟩] hmix (by kernel_rfl) (by exact ⟨fun _ _ h => ⟨rfl, fun _ _ e => by cases e⟩, fun _ _ h => ⟨rfl, fun _ _ e => by cases e⟩, fun _ _ h => ⟨rfl, fun _ _ e => by cases e⟩, fun _ _ h => ⟨rfl, fun _ _ e => by cases e⟩, fun _ _ h => ⟨rfl, fun _ _ e => by cases e⟩, fun _ _ h => ⟨rfl, fun _ _ e => by cases e⟩, fun _ _ h => ⟨rfl, fun _ _ e => by cases e⟩, fun _ _ h => ⟨rfl, fun _ _ e => by cases e⟩, fun _ _ h => ⟨rfl, fun _ _ e => by cases e⟩, fun _ _ h => ⟨by simp only [h 9 rfl], fun _ _ e => by cases e; simp only [h 9 rfl]⟩, fun _ _ h => ⟨by simp only [h 10 rfl], fun _ _ e => by cases e; simp only [h 10 rfl]⟩, trivial⟩) rfl (by exact ⟨Ob.quiet (n1 := fun n => n) rfl rfl (by intro d h; cases h; rfl) rfl (fun _ => [(5, .ptr 5 (n0 + 4) 0 0)]) (fun _ => [(5, some (.box (n0 + 4) 34 [.own 12 (i13 0), .own 9081 (i13 1), .own 9082 (i13 2)]))]) (fun D G6 hr => ⟨inE_base rfl rfl, trivial⟩) (fun D G6 hr => ⟨inH_base rfl rfl, trivial⟩) (fun _ _ => rfl) (fun G6 e h' n => OpQ.spec (v := .ptr 5 (n0 + 4) 0 0) (sp_fieldAddr_own (ob := .box _ _ _) rfl tf_34_0 (.inl rfl) (fun _ => rfl) rfl) _),
            Ob.quiet (n1 := fun n => n) rfl rfl (by intro d h; cases h; rfl) rfl (fun _ => [(74, .ptr 5 (n0 + 4) 0 0)]) (fun _ => [(5, some (.box (n0 + 4) 34 [.own 12 (i13 0), .own 9081 (i13 1), .own 9082 (i13 2)]))]) (fun D G6 hr => ⟨inE_op hr 0 rfl rfl (by kernel_rfl) rfl rfl, trivial⟩) (fun D G6 hr => ⟨inH_base rfl rfl, trivial⟩) (fun _ _ => rfl) (fun G6 e h' n => OpQ.spec (v := .own 12 (i13 0)) (ms_load_box (a := .own 12 (i13 0)) rfl ts_30 (.inl rfl) rfl rfl) _),
            Ob.quiet (n1 := fun n => n) rfl rfl (by intro d h; cases h; rfl) rfl (fun _ => [(9, .r (.int .i64 last2))]) (fun _ => []) (fun D G6 hr => ⟨inE_base rfl rfl, trivial⟩) (fun D G6 hr => trivial) (fun _ _ => rfl) (fun G6 e h' n => OpQ.spec (v := .r (.int .i64 last2)) (sp_move rfl (.inl rfl)) _),
            Ob.quiet (n1 := fun n => n) rfl rfl (by intro d h; cases h; rfl) rfl (fun _ => [(5, .ptr 5 (n0 + 4) 0 0)]) (fun _ => [(5, some (.box (n0 + 4) 34 [.own 12 (i13 0), .own 9081 (i13 1), .own 9082 (i13 2)]))]) (fun D G6 hr => ⟨inE_base rfl rfl, trivial⟩) (fun D G6 hr => ⟨inH_base rfl rfl, trivial⟩) (fun _ _ => rfl) (fun G6 e h' n => OpQ.spec (v := .ptr 5 (n0 + 4) 0 0) (sp_fieldAddr_own (ob := .box _ _ _) rfl tf_34_0 (.inl rfl) (fun _ => rfl) rfl) _),
            Ob.quiet (n1 := fun n => n) rfl rfl (by intro d h; cases h; rfl) rfl (fun _ => [(77, .ptr 5 (n0 + 4) 0 0)]) (fun _ => [(5, some (.box (n0 + 4) 34 [.own 12 (i13 0), .own 9081 (i13 1), .own 9082 (i13 2)]))]) (fun D G6 hr => ⟨inE_op hr 3 rfl rfl (by kernel_rfl) rfl rfl, trivial⟩) (fun D G6 hr => ⟨inH_base rfl rfl, trivial⟩) (fun _ _ => rfl) (fun G6 e h' n => OpQ.spec (v := .own 12 (i13 0)) (ms_load_box (a := .own 12 (i13 0)) rfl ts_30 (.inl rfl) rfl rfl) _),
            Ob.quiet (n1 := fun n => n) rfl rfl (by intro d h; cases h; rfl) rfl (fun _ => [(9, .r (.int .i64 last2))]) (fun _ => []) (fun D G6 hr => ⟨inE_base rfl rfl, trivial⟩) (fun D G6 hr => trivial) (fun _ _ => rfl) (fun G6 e h' n => OpQ.spec (v := .r (.int .i64 last2)) (sp_move rfl (.inl rfl)) _),
            Ob.quiet (n1 := fun n => n) rfl rfl (by intro d h; cases h; rfl) rfl (fun _ => [(78, .own 12 (i13 0)), (79, .r (.int .i64 last2))]) (fun _ => [(12, some (.hot (i13 0) 39 (out7.Adds.map (rSl GElem.row)) last2.toNat 37 (G5 15)))]) (fun D G6 hr => ⟨inE_op hr 4 rfl rfl (by kernel_rfl) rfl rfl, inE_op hr 5 rfl rfl (by kernel_rfl) rfl rfl, trivial⟩) (fun D G6 hr => ⟨inH_base rfl rfl, trivial⟩) (fun _ _ => rfl) (fun G6 e h' n => OpQ.spec (v := .ptr 12 (i13 0) last2.toNat 0) (ms_idx_hot rfl tg_30.slice (.inl rfl) rfl (.inl rfl) (fun _ => ex13)) _),
            Ob.quiet (n1 := fun n => n) rfl rfl (by intro d h; cases h; rfl) rfl (fun _ => [(80, .ptr 12 (i13 0) last2.toNat 0)]) (fun _ => [(12, some (.hot (i13 0) 39 (out7.Adds.map (rSl GElem.row)) last2.toNat 37 (G5 15)))]) (fun D G6 hr => ⟨inE_op hr 6 rfl rfl (by kernel_rfl) rfl rfl, trivial⟩) (fun D G6 hr => ⟨inH_base rfl rfl, trivial⟩) (fun _ _ => rfl) (fun G6 e h' n => OpQ.spec (v := .own 37 (G5 15)) (ms_load_hot rfl ts_39 (.inl rfl) (fun _ => rfl)) _),
            Ob.quiet (n1 := fun n => n) rfl rfl (by intro d h; cases h; rfl) rfl (fun _ => [(10, .ptr 10 n5 0 0)]) (fun _ => [(10, some (.box n5 113 [.r (.int .i64 x17.Char), .r (.int .i64 x17.Ref), .r (.sl (r2.map GAttr.row))]))]) (fun D G6 hr => ⟨inE_base rfl rfl, trivial⟩) (fun D G6 hr => ⟨inH_base rfl rfl, trivial⟩) (fun _ _ => rfl) (fun G6 e h' n => OpQ.spec (v := .agg [.r (.int .i64 x17.Char), .r (.int .i64 x17.Ref), .r (.sl (r2.map GAttr.row))]) (ms_loadA_box rfl ta_113 (.inl rfl) rfl rfl) _),
            Ob.make (n1 := fun n => n + 1) rfl rfl (by intro d h; cases h; rfl) rfl (fun _ => [(82, .agg [.r (.int .i64 x17.Char), .r (.int .i64 x17.Ref), .r (.sl (r2.map GAttr.row))])]) (fun _ => []) (fun D G6 hr => ⟨inE_op hr 8 rfl rfl (by kernel_rfl) rfl rfl, trivial⟩) (fun D G6 hr => trivial) (fun G6 e h' n => ms_lit 83 rfl tg_39 (f := GElem.row) (l := ([(GElem.mk x17.Char x17.Ref r2)] : List GElem)) ⟨rfl, ⟨_, (.inl rfl), rfl⟩, trivial⟩ rfl (fun _ => rfl) rfl),
            Ob.make (n1 := fun n => n + 1) rfl rfl (by intro d h; cases h; rfl) rfl (fun G6 => [(81, .own 37 (G5 15)), (83, .own 83 (G6 9))]) (fun G6 => [(37, some (.arr (G5 15) 113 3 (l12.map GElem.row))), (83, some (.arr (G6 9) 113 3 ([(GElem.mk x17.Char x17.Ref r2)].map GElem.row)))]) (fun D G6 hr => ⟨inE_op hr 7 rfl rfl (by kernel_rfl) rfl rfl, inE_op hr 9 rfl rfl (by kernel_rfl) rfl rfl, trivial⟩) (fun D G6 hr => ⟨inH_baseL hr (by kernel_rfl) rfl, inH_op hr 9 rfl rfl (by kernel_rfl) (by kernel_rfl) rfl, trivial⟩) (fun G6 e h' n => ms_app rfl tg_39 (.inl rfl) rfl (.inr (.inl ⟨_, _, (.inl rfl), rfl⟩)) el13),
            trivial⟩) fun G6 n6 => ?_
        refine AOps.weak (s' := ⟨[(2, .ptr 2 n0 0 0), (3, .ptr 3 (n0 + 1) 0 0), (4, .ptr 4 (n0 + 2) 0 0), (5, .ptr 5 (n0 + 4) 0 0), (6, .r (.int .i64 at6)), (7, .r (.int .i64 i4)), (9, .r (.int .i64 last2)), (10, .ptr 10 n5 0 0), (26, .r (.int .i64 (x1.length : Int))), (27, .r (.int .i64 x3)), (74, .ptr 5 (n0 + 4) 0 0), (75, .own 12 (i13 0)), (76, .r (.int .i64 last2)), (77, .ptr 5 (n0 + 4) 0 0), (78, .own 12 (i13 0)), (79, .r (.int .i64 last2)), (80, .ptr 12 (i13 0) last2.toNat 0), (82, .agg [.r (.int .i64 x17.Char), .r (.int .i64 x17.Ref), .r (.sl (r2.map GAttr.row))]), (83, .own 83 (G6 9)), (84, .own 37 (G6 10))], [(2, some (.box n0 34 [.r (.sl (a1.Adds.map (rSl GElem.row))), .r (.sl (a1.Cuts.map rBool)), .r (.sl (a1.Attrs.map (rSl GAttr.row)))])), (3, some (.box (n0 + 1) 34 [.r (.sl (b1.Adds.map (rSl GElem.row))), .r (.sl (b1.Cuts.map rBool)), .r (.sl (b1.Attrs.map (rSl GAttr.row)))])), (4, some (.box (n0 + 2) 34 [.cst (.slice none 0 0), .cst (.slice none 0 0), .cst (.slice none 0 0)])), (5, some (.box (n0 + 4) 34 [.own 12 (i13 0), .own 9081 (i13 1), .own 9082 (i13 2)])), (10, some (.box n5 113 [.r (.int .i64 x17.Char), .r (.int .i64 x17.Ref), .r (.sl (r2.map GAttr.row))])), (12, some (.hot (i13 0) 39 (out7.Adds.map (rSl GElem.row)) last2.toNat 37 (G5 15))), (37, some (.arr (G6 10) 113 3 (l13.map GElem.row))), (83, some (.arr (G6 9) 113 3 ([(GElem.mk x17.Char x17.Ref r2)].map GElem.row))), (9081, some (.arr (i13 1) 4 1 (out7.Cuts.map rBool))), (9082, some (.arr (i13 2) 47 1 (out7.Attrs.map (rSl GAttr.row))))], n6, 186⟩) (by exact Weak.cv ⟨.inl (.inl rfl), .inl (.inl rfl), .inl (.inl rfl), .inl (.inl rfl), .inl (.inl rfl), .inl (.inl rfl), .inl (.inl rfl), .inl (.inl rfl), .inl (.inl rfl), .inl (.inl rfl), .inl (.inl rfl), .inl (.inl rfl), .inl (.inl rfl), .inl (.inl rfl), .inl (.inl rfl), .inl (.inl rfl), .inl (.inl rfl), .inl (.inl rfl), .inl (.inl rfl), .inl (.inl rfl), trivial⟩ ⟨.inl rfl, .inl rfl, .inl rfl, .inl rfl, .inl rfl, .inl rfl, .inl rfl, .inl rfl, .inl rfl, .inl rfl, trivial⟩ (Nat.le_refl _)) ?_
        refine AOps.step rfl rfl rfl (OpQ.spec (ms_idx_hot rfl tg_30.slice (.inl rfl) rfl (.inl rfl) (fun _ => ex13)) _) ?_
        refine AOps.step0 rfl rfl (ms_store_hot rfl tz_39 (.inl rfl) rfl ex13 (.inl rfl)) ?_
        refine AOps.nil ?_
        exact wK29 _ _ (Weak.trans (by exact Weak.frz (e' := [(2, .ptr 2 n0 0 0), (3, .ptr 3 (n0 + 1) 0 0), (4, .ptr 4 (n0 + 2) 0 0), (5, .ptr 5 (n0 + 4) 0 0), (6, .r (.int .i64 at6)), (7, .r (.int .i64 i4)), (9, .r (.int .i64 last2)), (10, .ptr 10 n5 0 0), (26, .r (.int .i64 (x1.length : Int))), (27, .r (.int .i64 x3)), (74, .ptr 5 (n0 + 4) 0 0), (75, .own 12 (i13 0)), (76, .r (.int .i64 last2)), (77, .ptr 5 (n0 + 4) 0 0), (78, .own 12 (i13 0)), (79, .r (.int .i64 last2)), (80, .ptr 12 (i13 0) last2.toNat 0), (82, .agg [.r (.int .i64 x17.Char), .r (.int .i64 x17.Ref), .r (.sl (r2.map GAttr.row))]), (83, .own 83 (G6 9)), (84, .r (.sl (l13.map GElem.row))), (85, .ptr 12 (i13 0) last2.toNat 0)]) (h' := [(2, some (.box n0 34 [.r (.sl (a1.Adds.map (rSl GElem.row))), .r (.sl (a1.Cuts.map rBool)), .r (.sl (a1.Attrs.map (rSl GAttr.row)))])), (3, some (.box (n0 + 1) 34 [.r (.sl (b1.Adds.map (rSl GElem.row))), .r (.sl (b1.Cuts.map rBool)), .r (.sl (b1.Attrs.map (rSl GAttr.row)))])), (4, some (.box (n0 + 2) 34 [.cst (.slice none 0 0), .cst (.slice none 0 0), .cst (.slice none 0 0)])), (5, some (.box (n0 + 4) 34 [.own 12 (i13 0), .own 9081 (i13 1), .own 9082 (i13 2)])), (10, some (.box n5 113 [.r (.int .i64 x17.Char), .r (.int .i64 x17.Ref), .r (.sl (r2.map GAttr.row))])), (12, some (.arr (i13 0) 39 1 ((out7.Adds.set last2.toNat l13).map (rSl GElem.row)))), (83, some (.arr (G6 9) 113 3 ([(GElem.mk x17.Char x17.Ref r2)].map GElem.row))), (9081, some (.arr (i13 1) 4 1 (out7.Cuts.map rBool))), (9082, some (.arr (i13 2) 47 1 (out7.Attrs.map (rSl GAttr.row))))]) 37 rfl ⟨.inl (.inl rfl), .inl (.inl rfl), .inl (.inl rfl), .inl (.inl rfl), .inl (.inl rfl), .inl (.inl rfl), .inl (.inl rfl), .inl (.inl rfl), .inl (.inl rfl), .inl (.inl rfl), .inl (.inl rfl), .inl (.inl rfl), .inl (.inl rfl), .inl (.inl rfl), .inl (.inl rfl), .inl (.inl rfl), .inl (.inl rfl), .inl (.inl rfl), .inl (.inl rfl), .inl (.inr (.inr ⟨rfl, rfl⟩)), .inl (.inl rfl), trivial⟩ ⟨rfl, .inl rfl, rfl, .inl rfl, rfl, .inl rfl, rfl, .inl rfl, rfl, .inl rfl, rfl, .inr (.inr (.inr ⟨_, _, _, _, _, rfl, rfl, List.map_set⟩)), rfl, .inl rfl, rfl, .inl rfl, rfl, .inl rfl, trivial⟩) (by exact Weak.cv ⟨.inl (.inl rfl), .inl (.inl rfl), .inl (.inl rfl), .inl (.inl rfl), .inl (.inl rfl), .inl (.inl rfl), .inl (.inl rfl), .inl (.inl rfl), trivial⟩ ⟨.inl rfl, .inl rfl, .inl rfl, .inl rfl, .inl rfl, .inl rfl, .inl rfl, trivial⟩ (Nat.le_refl _))) (J4 _ (vec [(i13 0), (i13 1), (i13 2), n6]) (Option.some.inj h46).symm)
      · have h42 := ite_f hc5 hp2
        refine AW.skip ?_
        exact wK29 _ _ (Weak.trans (by exact Weak.frz (e' := [(2, .ptr 2 n0 0 0), (3, .ptr 3 (n0 + 1) 0 0), (4, .ptr 4 (n0 + 2) 0 0), (5, .ptr 5 (n0 + 4) 0 0), (6, .r (.int .i64 at6)), (7, .r (.int .i64 i4)), (8, .r (.int .i64 x3)), (9, .r (.int .i64 last2)), (26, .r (.int .i64 (x1.length : Int))), (27, .r (.int .i64 x3)), (51, .ptr 3 (n0 + 1) 0 1), (52, .r (.sl (b1.Cuts.map rBool))), (53, .r (.int .i64 at6)), (54, .rop (rBool x15) 0), (55, .r (.bool x15)), (56, .r (.bool (!x15)))]) (h' := [(2, some (.box n0 34 [.r (.sl (a1.Adds.map (rSl GElem.row))), .r (.sl (a1.Cuts.map rBool)), .r (.sl (a1.Attrs.map (rSl GAttr.row)))])), (3, some (.box (n0 + 1) 34 [.r (.sl (b1.Adds.map (rSl GElem.row))), .r (.sl (b1.Cuts.map rBool)), .r (.sl (b1.Attrs.map (rSl GAttr.row)))])), (4, some (.box (n0 + 2) 34 [.cst (.slice none 0 0), .cst (.slice none 0 0), .cst (.slice none 0 0)])), (5, some (.box (n0 + 4) 34 [.own 12 (i13 0), .own 9081 (i13 1), .own 9082 (i13 2)])), (12, some (.arr (i13 0) 39 1 ((out7.Adds.set last2.toNat l12).map (rSl GElem.row)))), (9081, some (.arr (i13 1) 4 1 (out7.Cuts.map rBool))), (9082, some (.arr (i13 2) 47 1 (out7.Attrs.map (rSl GAttr.row))))]) 37 rfl ⟨.inl (.inl rfl), .inl (.inl rfl), .inl (.inl rfl), .inl (.inl rfl), .inl (.inl rfl), .inl (.inl rfl), .inl (.inl rfl), .inl (.inl rfl), .inl (.inl rfl), .inl (.inl rfl), .inl (.inl rfl), .inl (.inl rfl), .inl (.inl rfl), .inl (.inl rfl), .inl (.inl rfl), .inl (.inl rfl), trivial⟩ ⟨rfl, .inl rfl, rfl, .inl rfl, rfl, .inl rfl, rfl, .inl rfl, rfl, .inr (.inr (.inr ⟨_, _, _, _, _, rfl, rfl, List.map_set⟩)), rfl, .inl rfl, rfl, .inl rfl, trivial⟩) (by exact Weak.cv ⟨.inl (.inl rfl), .inl (.inl rfl), .inl (.inl rfl), .inl (.inl rfl), .inl (.inl rfl), .inl (.inl rfl), .inl (.inl rfl), .inl (.inl rfl), trivial⟩ ⟨.inl rfl, .inl rfl, .inl rfl, .inl rfl, .inl rfl, .inl rfl, .inl rfl, trivial⟩ (Nat.le_refl _))) (J4 _ (vec [(i13 0), (i13 1), (i13 2), n5]) (Option.some.inj h42).symm)
    · have h32 := ite_f hc4 h31
      refine AW.exit ?_
      exact wK10 _ _ ((by exact Weak.cv ⟨.inl (.inl rfl), .inl (.inl rfl), .inl (.inl rfl), .inl (.inl rfl), .inl (.inl rfl), .inl (.inl rfl), trivial⟩ ⟨.inl rfl, .inl rfl, .inl rfl, .inl rfl, .inl rfl, .inl rfl, .inl rfl, trivial⟩ (Nat.le_refl _))) (J3 _ _ (vec [(i13 0), (i13 1), (i13 2), (i13 3)]) (hx2 _ (Option.some.inj h32).symm))
  · have h3 := ite_f hc1 h2
    refine AW.exit ?_
    exact wK4 _ _ ((by exact Weak.cv ⟨.inl (.inl rfl), .inl (.inl rfl), trivial⟩ ⟨.inl rfl, .inl rfl, .inl rfl, .inl rfl, .inl rfl, trivial⟩ (Nat.le_refl _))) (J1 _ (vec [(i5 0), (i5 1), (i5 2), (i5 3)]) (hx1 _ (Option.some.inj h3).symm))
set_option maxHeartbeats 4000000 in
set_option maxRecDepth 20000 in
theorem w_law_AxisJoinMatches {a1 : List GAxisStep} {b1 : List GAxisStep} {r : Bool} (h : law_AxisJoinMatches a1 b1 = some r) : ARO Try.prog 3 [.r (.sl (a1.map GAxisStep.row)), .r (.sl (b1.map GAxisStep.row))] (.r (.bool r)) := by
  unfold law_AxisJoinMatches at h
  refine ARO.mkF Try.func3 rfl rfl Try.ntmps3 rfl (Nat.le_of_ble_eq_true rfl) fun n0 => ?_
  refine AW.seq_w fun K1 hK1 wK1 => ?_
  refine AW.region ?_
  refine AOps.step rfl rfl rfl (OpQ.spec (sp_assign rfl (.inl rfl)) _) ?_
  refine AOps.nil ?_
  refine hK1 _ ?_
  refine AW.seq_w fun K2 hK2 wK2 => ?_
  refine AW.seq_w fun K3 hK3 wK3 => ?_
  refine AW.region ?_
  refine ob1k h fun r1 er1 h1 => ?_
  refine AOps.step rfl rfl rfl (sp_call (r := .r (.bool r1)) (caps := []) (bs := []) rfl (.inl rfl) rfl trivial (fun _ => w_law_axes (er1)) rfl) ?_
  refine AOps.step rfl rfl rfl (OpQ.spec (sp_not rfl (.inl rfl)) _) ?_
  refine AOps.nil ?_
  refine hK3 _ ?_
  refine AW.cond rfl (fun hc1 => ?_) (fun hc1 => ?_)
  · have h2 := ite_t hc1 h1
    refine AW.seq_w fun K4 hK4 wK4 => ?_
    refine AW.region ?_
    refine AOps.step rfl rfl rfl (OpQ.spec (sp_assign rfl (.inl rfl)) _) ?_
    refine AOps.nil ?_
    refine hK4 _ ?_
    refine AW.ret ?_
    exact retf1 (P := Try.prog) (fun (r : Bool) => .r (.bool r)) h2 (.inl rfl) (.t (.d rfl))
  · have h2 := ite_f hc1 h1
    refine AW.skip ?_
    refine hK2 _ ?_
    refine AW.seq_w fun K5 hK5 wK5 => ?_
    refine AW.region ?_
    refine AOps.step rfl rfl rfl (OpQ.spec (sp_move rfl (.inl rfl)) _) ?_
    refine AOps.step rfl rfl rfl (OpQ.spec (sp_move rfl (.inl rfl)) _) ?_
    refine ob2k h2 fun r2 r3 er2 h3 => ?_
    refine AOps.step rfl rfl rfl (sp_callS (r := .tup [.r (.sl (r2.map GAxisStep.row)), .r (.int .i64 r3)]) (caps := []) (bs := [.r (.sl (a1.map GAxisStep.row)), .r (.sl (b1.map GAxisStep.row))]) rfl (.inl rfl) rfl ⟨.inl ⟨(.inl rfl), rfl⟩, .inl ⟨(.inl rfl), rfl⟩, trivial⟩ (fun _ => w_axis_Join (er2))) ?_
    refine AOps.step rfl rfl rfl (OpQ.spec (sp_move rfl (.inl rfl)) _) ?_
    refine AOps.step rfl rfl rfl (OpQ.spec (sp_extract (a := .r (.sl (r2.map GAxisStep.row))) rfl (.inl rfl) rfl) _) ?_
    refine AOps.step rfl rfl rfl (OpQ.spec (sp_extract (a := .r (.int .i64 r3)) rfl (.inl rfl) rfl) _) ?_
    refine AOps.step rfl rfl rfl (OpQ.spec (sp_assign rfl (.inl rfl)) _) ?_
    refine AOps.step rfl rfl rfl (OpQ.spec (sp_assign rfl (.inl rfl)) _) ?_
    refine AOps.nil ?_
    refine hK5 _ ?_
    refine AW.seq_w fun K6 hK6 wK6 => ?_
    refine AW.weak (s' := ⟨[(0, .r (.sl (a1.map GAxisStep.row))), (1, .r (.sl (b1.map GAxisStep.row))), (5, .r (.sl (r2.map GAxisStep.row))), (6, .r (.int .i64 r3))], [], n0, 103⟩) (by exact Weak.cv ⟨.inl (.inl rfl), .inl (.inl rfl), .inl (.inl rfl), .inl (.inl rfl), trivial⟩ trivial (Nat.le_refl _)) ?_
    refine AW.region ?_
    refine AOps.step rfl rfl rfl (OpQ.spec (sp_move rfl (.inl rfl)) _) ?_
    refine ob2k h3 fun r4 r5 er4 h4 => ?_
    refine AOps.step rfl rfl rfl (sp_callS (r := .tup [.r (.sl (r4.map GAxisStep.row)), .r (.int .i64 r5)]) (caps := []) (bs := [.r (.sl (a1.map GAxisStep.row))]) rfl (.inl rfl) rfl ⟨.inl ⟨(.inl rfl), rfl⟩, trivial⟩ (fun _ => w_axis_Undo (er4))) ?_
    refine AOps.step rfl rfl rfl (OpQ.spec (sp_move rfl (.inl rfl)) _) ?_
    refine AOps.step rfl rfl rfl (OpQ.spec (sp_extract (a := .r (.sl (r4.map GAxisStep.row))) rfl (.inl rfl) rfl) _) ?_
    refine AOps.step rfl rfl rfl (OpQ.spec (sp_extract (a := .r (.int .i64 r5)) rfl (.inl rfl) rfl) _) ?_
    refine AOps.step rfl rfl rfl (OpQ.spec (sp_assign rfl (.inl rfl)) _) ?_
    refine AOps.step rfl rfl rfl (OpQ.spec (sp_assign rfl (.inl rfl)) _) ?_
    refine AOps.nil ?_
    refine hK6 _ ?_
    refine AW.seq_w fun K7 hK7 wK7 => ?_
    refine AW.region ?_
    refine AOps.step rfl rfl rfl (OpQ.spec (sp_move rfl (.inl rfl)) _) ?_
    refine ob1k h4 fun f1 ef1 h5 => ?_
    refine AOps.step rfl rfl rfl (sp_call (r := .r (.int .i64 f1)) (caps := []) (bs := [.r (.sl (a1.map GAxisStep.row))]) rfl (.inl rfl) rfl ⟨⟨_, (.inl rfl), .d rfl⟩, trivial⟩ (fun _ => w_ref_AxisError (ef1)) rfl) ?_
    refine AOps.step rfl rfl rfl (OpQ.spec (sp_assign rfl (.inl rfl)) _) ?_
    refine AOps.nil ?_
    refine hK7 _ ?_
    refine AW.seq_w fun K8 hK8 wK8 => ?_
    refine AW.seq_w fun K9 hK9 wK9 => ?_
    refine AW.region ?_
    refine AOps.step rfl rfl rfl (OpQ.spec (sp_move rfl (.inl rfl)) _) ?_
    refine AOps.step rfl rfl rfl (OpQ.spec (sp_move rfl (.inl rfl)) _) ?_
    refine AOps.step rfl rfl rfl (OpQ.spec (sp_neq rfl (.inl rfl) (.inl rfl)) _) ?_
    refine AOps.nil ?_
    refine hK9 _ ?_
    refine AW.cond rfl (fun hc2 => ?_) (fun hc2 => ?_)
    · have h6 := ite_t hc2 h5
      refine AW.seq_w fun K10 hK10 wK10 => ?_
      refine AW.weak (s' := ⟨[], [], n0, 103⟩) (by exact Weak.cv trivial trivial (Nat.le_refl _)) ?_
      refine AW.region ?_
      refine AOps.step rfl rfl rfl (OpQ.spec (sp_assign rfl (.inl rfl)) _) ?_
      refine AOps.nil ?_
      refine hK10 _ ?_
      refine AW.ret ?_
      exact retf1 (P := Try.prog) (fun (r : Bool) => .r (.bool r)) h6 (.inl rfl) (.t (.d rfl))
    · have h6 := ite_f hc2 h5
      refine AW.skip ?_
      refine hK8 _ ?_
      refine AW.seq_w fun K11 hK11 wK11 => ?_
      refine AW.seq_w fun K12 hK12 wK12 => ?_
      refine AW.weak (s' := ⟨[(0, .r (.sl (a1.map GAxisStep.row))), (1, .r (.sl (b1.map GAxisStep.row))), (5, .r (.sl (r2.map GAxisStep.row))), (6, .r (.int .i64 r3)), (7, .r (.sl (r4.map GAxisStep.row))), (9, .r (.int .i64 f1))], [], n0, 103⟩) (by exact Weak.cv ⟨.inl (.inl rfl), .inl (.inl rfl), .inl (.inl rfl), .inl (.inl rfl), .inl (.inl rfl), .inl (.inl rfl), trivial⟩ trivial (Nat.le_refl _)) ?_
      refine AW.region ?_
      refine AOps.step rfl rfl rfl (OpQ.spec (sp_move rfl (.inl rfl)) _) ?_
      refine AOps.step rfl rfl rfl (OpQ.spec (sp_eql rfl (.inl rfl) (.inl rfl)) _) ?_
      refine AOps.nil ?_
      refine hK12 _ ?_
      refine jb1k h6 fun p1 hp1 hk1 => ?_
      have J1 : ∀ (f2 : Int) (i1 : Nat → Nat), p1 = f2 → K11 ⟨[(0, .r (.sl (a1.map GAxisStep.row))), (1, .r (.sl (b1.map GAxisStep.row))), (5, .r (.sl (r2.map GAxisStep.row))), (6, .r (.int .i64 r3)), (7, .r (.sl (r4.map GAxisStep.row))), (9, .r (.int .i64 f2))], [], (i1 0), 103⟩ := by
        intro f2 i1 e
        have h7 := hk1 _ e
        refine hK11 _ ?_
        refine AW.seq_w fun K13 hK13 wK13 => ?_
        refine AW.seq_w fun K14 hK14 wK14 => ?_
        refine AW.region ?_
        refine AOps.step rfl rfl rfl (OpQ.spec (sp_move rfl (.inl rfl)) _) ?_
        refine AOps.step rfl rfl rfl (OpQ.spec (sp_neq rfl (.inl rfl) (.inl rfl)) _) ?_
        refine AOps.nil ?_
        refine hK14 _ ?_
        refine AW.cond rfl (fun hc3 => ?_) (fun hc3 => ?_)
        · have h8 := ite_t hc3 h7
          refine AW.seq_w fun K15 hK15 wK15 => ?_
          refine AW.region ?_
          refine AOps.step rfl rfl rfl (OpQ.spec (sp_move rfl (.inl rfl)) _) ?_
          refine AOps.step rfl rfl rfl (OpQ.spec (sp_move rfl (.inl rfl)) _) ?_
          refine AOps.step rfl rfl rfl (OpQ.spec (sp_eql rfl (.inl rfl) (.inl rfl)) _) ?_
          refine AOps.step rfl rfl rfl (OpQ.spec (sp_move rfl (.inl rfl)) _) ?_
          refine AOps.stepW (.one rfl rfl rfl) rfl rfl (OpQ.spec (sp_move rfl (.inl rfl)) _) ?_
          refine AOps.stepW (.one rfl rfl rfl) rfl rfl (OpQ.spec (ms_len rfl tg_22.slice (.inr ⟨_, (by exact id), rfl⟩)) _) ?_
          refine AOps.stepW (.one rfl rfl rfl) rfl rfl (OpQ.spec (sp_eql rfl (.inr ⟨_, (by exact id), rfl⟩) (.inl rfl)) _) ?_
          refine AOps.step rfl rfl rfl (OpQ.spec (sp_and rfl (.inl rfl) (.inr ⟨_, (by exact id), rfl⟩)) _) ?_
          refine AOps.step rfl rfl rfl (OpQ.spec (sp_assign rfl (.inl rfl)) _) ?_
          refine AOps.nil ?_
          refine hK15 _ ?_
          refine AW.ret ?_
          exact retf1 (P := Try.prog) (fun (r : Bool) => .r (.bool r)) h8 (.inl rfl) (.t (.d rfl))
        · have h8 := ite_f hc3 h7
          refine AW.skip ?_
          refine hK13 _ ?_
          refine AW.seq_w fun K16 hK16 wK16 => ?_
          refine AW.seq_w fun K17 hK17 wK17 => ?_
          refine AW.region ?_
          refine AOps.step rfl rfl rfl (OpQ.spec (sp_move rfl (.inl rfl)) _) ?_
          refine ob1k h8 fun r6 er6 h9 => ?_
          refine AOps.step rfl rfl rfl (sp_call (r := .r (.bool r6)) (caps := []) (bs := [.r (.sl (a1.map GAxisStep.row))]) rfl (.inl rfl) rfl ⟨⟨_, (.inl rfl), .d rfl⟩, trivial⟩ (fun _ => w_law_few (er6)) rfl) ?_
          refine AOps.step rfl rfl rfl (OpQ.spec (sp_not rfl (.inl rfl)) _) ?_
          refine AOps.step rfl rfl rfl (OpQ.spec (sp_move rfl (.inl rfl)) _) ?_
          refine AOps.stepW (.one rfl rfl rfl) rfl rfl (OpQ.spec (sp_move rfl (.inl rfl)) _) ?_
          refine ob1k h9 fun r7 er7 h10 => ?_
          refine AOps.stepW (.one rfl rfl rfl) rfl rfl (sp_call (r := .r (.bool r7)) (caps := []) (bs := [.r (.sl (b1.map GAxisStep.row))]) rfl (.inl rfl) rfl ⟨⟨_, (.inr ⟨_, (by exact id), rfl⟩), .d rfl⟩, trivial⟩ (fun hg => w_law_few (gdt er7 hg)) rfl) ?_
          refine AOps.stepW (.one rfl rfl rfl) rfl rfl (OpQ.spec (sp_not rfl (.inr ⟨_, (by exact id), rfl⟩)) _) ?_
          refine AOps.step rfl rfl rfl (OpQ.spec (sp_or rfl (.inl rfl) (.inr ⟨_, (by exact id), rfl⟩)) _) ?_
          refine AOps.nil ?_
          refine hK17 _ ?_
          refine AW.cond rfl (fun hc4 => ?_) (fun hc4 => ?_)
          · have h11 := ite_t hc4 h10
            refine AW.seq_w fun K18 hK18 wK18 => ?_
            refine AW.weak (s' := ⟨[(5, .r (.sl (r2.map GAxisStep.row))), (6, .r (.int .i64 r3))], [], (i1 0), 103⟩) (by exact Weak.cv ⟨.inl (.inl rfl), .inl (.inl rfl), trivial⟩ trivial (Nat.le_refl _)) ?_
            refine AW.region ?_
            refine AOps.step rfl rfl rfl (OpQ.spec (sp_move rfl (.inl rfl)) _) ?_
            refine AOps.step rfl rfl rfl (OpQ.spec (sp_eql rfl (.inl rfl) (.inl rfl)) _) ?_
            refine AOps.step rfl rfl rfl (OpQ.spec (sp_move rfl (.inl rfl)) _) ?_
            refine AOps.stepW (.one rfl rfl rfl) rfl rfl (OpQ.spec (sp_move rfl (.inl rfl)) _) ?_
            refine AOps.stepW (.one rfl rfl rfl) rfl rfl (OpQ.spec (ms_len rfl tg_22.slice (.inr ⟨_, (by exact id), rfl⟩)) _) ?_
            refine AOps.stepW (.one rfl rfl rfl) rfl rfl (OpQ.spec (sp_eql rfl (.inr ⟨_, (by exact id), rfl⟩) (.inl rfl)) _) ?_
            refine AOps.step rfl rfl rfl (OpQ.spec (sp_or rfl (.inl rfl) (.inr ⟨_, (by exact id), rfl⟩)) _) ?_
            refine AOps.step rfl rfl rfl (OpQ.spec (sp_assign rfl (.inl rfl)) _) ?_
            refine AOps.nil ?_
            refine hK18 _ ?_
            refine AW.ret ?_
            exact retf1 (P := Try.prog) (fun (r : Bool) => .r (.bool r)) h11 (.inl rfl) (.t (.d rfl))
          · have h11 := ite_f hc4 h10
            refine AW.skip ?_
            refine hK16 _ ?_
            refine AW.seq_w fun K19 hK19 wK19 => ?_
            refine AW.weak (s' := ⟨[(0, .r (.sl (a1.map GAxisStep.row))), (1, .r (.sl (b1.map GAxisStep.row))), (5, .r (.sl (r2.map GAxisStep.row))), (6, .r (.int .i64 r3)), (7, .r (.sl (r4.map GAxisStep.row)))], [], (i1 0), 103⟩) (by exact Weak.cv ⟨.inl (.inl rfl), .inl (.inl rfl), .inl (.inl rfl), .inl (.inl rfl), .inl (.inl rfl), trivial⟩ trivial (Nat.le_refl _)) ?_
            refine AW.region ?_
            refine AOps.step rfl rfl rfl (OpQ.spec (sp_move rfl (.inl rfl)) _) ?_
            refine ob1k h11 fun r8 er8 h12 => ?_
            refine AOps.step rfl rfl rfl (sp_callS (r := .agg [.r (.sl (r8.Adds.map (rSl GElem.row))), .r (.sl (r8.Cuts.map rBool)), .r (.sl (r8.Attrs.map (rSl GAttr.row)))]) (caps := []) (bs := [.r (.sl (a1.map GAxisStep.row))]) rfl (.inl rfl) rfl ⟨.inl ⟨(.inl rfl), rfl⟩, trivial⟩ (fun _ => w_law_act (er8))) ?_
            refine AOps.step rfl rfl rfl (OpQ.spec (sp_move rfl (.inl rfl)) _) ?_
            refine ob1k h12 fun r9 er9 h13 => ?_
            refine AOps.step rfl rfl rfl (sp_callS (r := .agg [.r (.sl (r9.Adds.map (rSl GElem.row))), .r (.sl (r9.Cuts.map rBool)), .r (.sl (r9.Attrs.map (rSl GAttr.row)))]) (caps := []) (bs := [.r (.sl (b1.map GAxisStep.row))]) rfl (.inl rfl) rfl ⟨.inl ⟨(.inl rfl), rfl⟩, trivial⟩ (fun _ => w_law_act (er9))) ?_
            refine AOps.step rfl rfl rfl (ms_alloc (cs := [.cst (.slice none 0 0), .cst (.slice none 0 0), .cst (.slice none 0 0)]) 10 rfl t0_34 rfl rfl) ?_
            refine AOps.step rfl rfl rfl (ms_alloc (cs := [.cst (.slice none 0 0), .cst (.slice none 0 0), .cst (.slice none 0 0)]) 11 rfl t0_34 rfl rfl) ?_
            refine AOps.step0 rfl rfl (ms_store_box (ds := [.r (.sl (r8.Adds.map (rSl GElem.row))), .r (.sl (r8.Cuts.map rBool)), .r (.sl (r8.Attrs.map (rSl GAttr.row)))]) rfl tz_34 (.inl rfl) rfl (.inl rfl) rfl rfl rfl rfl) ?_
            refine AOps.step0 rfl rfl (ms_store_box (ds := [.r (.sl (r9.Adds.map (rSl GElem.row))), .r (.sl (r9.Cuts.map rBool)), .r (.sl (r9.Attrs.map (rSl GAttr.row)))]) rfl tz_34 (.inl rfl) rfl (.inl rfl) rfl rfl rfl rfl) ?_
            refine AOps.nil ?_
            refine hK19 _ ?_
            refine AW.seq_w fun K20 hK20 wK20 => ?_
            refine AW.seq_w fun K21 hK21 wK21 => ?_
            refine ob1k h13 fun l1 el1 h14 => ?_
            refine ob1k h14 fun r10 er10 h15 => ?_
            refine ob1k h15 fun r11 er11 h16 => ?_
            refine AW.regionP 8 [⟨some 64, (fun _ => .r (.sl (r4.map GAxisStep.row))), none, []⟩, ⟨some 65, (fun _ => .ptr 10 (i1 0) 0 1), none, []⟩, ⟨some 66, (fun _ => .r (.sl (r8.Cuts.map rBool))), none, []⟩, ⟨some 67, (fun _ => .r (.int .i64 (r8.Cuts.length : Int))), none, []⟩, ⟨some 68, (fun _ => .r (.sl (l1.map GElem.row))), some (68, (fun _ => none)), []⟩, ⟨some 69, (fun _ => .agg [.r (.sl (r8.Adds.map (rSl GElem.row))), .r (.sl (r8.Cuts.map rBool)), .r (.sl (r8.Attrs.map (rSl GAttr.row)))]), none, []⟩, ⟨some 70, (fun _ => .agg [.r (.sl (r10.Adds.map (rSl GElem.row))), .r (.sl (r10.Cuts.map rBool)), .r (.sl (r10.Attrs.map (rSl GAttr.row)))]), none, []⟩, ⟨some 71, (fun _ => .r (.sl (r11.map GAxisStep.row))), none, []⟩] hmix (by kernel_rfl) (by exact ⟨fun _ _ h => ⟨rfl, fun _ _ e => by cases e⟩, fun _ _ h => ⟨rfl, fun _ _ e => by cases e⟩, fun _ _ h => ⟨rfl, fun _ _ e => by cases e⟩, fun _ _ h => ⟨rfl, fun _ _ e => by cases e⟩, fun _ _ h => ⟨rfl, fun _ _ e => by cases e; rfl⟩, fun _ _ h => ⟨rfl, fun _ _ e => by cases e⟩, fun _ _ h => ⟨rfl, fun _ _ e => by cases e⟩, fun _ _ h => ⟨rfl, fun _ _ e => by cases e⟩, trivial⟩) rfl (by exact ⟨Ob.quiet (n1 := fun n => n) rfl rfl (by intro d h; cases h; rfl) rfl (fun _ => [(7, .r (.sl (r4.map GAxisStep.row)))]) (fun _ => []) (fun D G1 hr => ⟨inE_base rfl rfl, trivial⟩) (fun D G1 hr => trivial) (fun _ _ => rfl) (fun G1 e h' n => OpQ.spec (v := .r (.sl (r4.map GAxisStep.row))) (sp_move rfl (.inl rfl)) _),
                Ob.quiet (n1 := fun n => n) rfl rfl (by intro d h; cases h; rfl) rfl (fun _ => [(10, .ptr 10 (i1 0) 0 0)]) (fun _ => [(10, some (.box (i1 0) 34 [.r (.sl (r8.Adds.map (rSl GElem.row))), .r (.sl (r8.Cuts.map rBool)), .r (.sl (r8.Attrs.map (rSl GAttr.row)))]))]) (fun D G1 hr => ⟨inE_base rfl rfl, trivial⟩) (fun D G1 hr => ⟨inH_base rfl rfl, trivial⟩) (fun _ _ => rfl) (fun G1 e h' n => OpQ.spec (v := .ptr 10 (i1 0) 0 1) (sp_fieldAddr_own (ob := .box _ _ _) rfl tf_34_1 (.inl rfl) (fun _ => rfl) rfl) _),
                Ob.quiet (n1 := fun n => n) rfl rfl (by intro d h; cases h; rfl) rfl (fun _ => [(65, .ptr 10 (i1 0) 0 1)]) (fun _ => [(10, some (.box (i1 0) 34 [.r (.sl (r8.Adds.map (rSl GElem.row))), .r (.sl (r8.Cuts.map rBool)), .r (.sl (r8.Attrs.map (rSl GAttr.row)))]))]) (fun D G1 hr => ⟨inE_op hr 1 rfl rfl (by kernel_rfl) rfl rfl, trivial⟩) (fun D G1 hr => ⟨inH_base rfl rfl, trivial⟩) (fun _ _ => rfl) (fun G1 e h' n => OpQ.spec (v := .r (.sl (r8.Cuts.map rBool))) (ms_load_box (a := .r (.sl (r8.Cuts.map rBool))) rfl ts_31 (.inl rfl) rfl rfl) _),
                Ob.quiet (n1 := fun n => n) rfl rfl (by intro d h; cases h; rfl) rfl (fun _ => [(66, .r (.sl (r8.Cuts.map rBool)))]) (fun _ => []) (fun D G1 hr => ⟨inE_op hr 2 rfl rfl (by kernel_rfl) rfl rfl, trivial⟩) (fun D G1 hr => trivial) (fun _ _ => rfl) (fun G1 e h' n => OpQ.spec (v := .r (.int .i64 (r8.Cuts.length : Int))) (ms_len rfl tg_31.slice (.inl rfl)) _),
                Ob.makeN rfl rfl (by intro d h; cases h; rfl) rfl (fun _ => [(67, .r (.int .i64 (r8.Cuts.length : Int)))]) (fun _ => []) (fun D G1 hr => ⟨inE_op hr 3 rfl rfl (by kernel_rfl) rfl rfl, trivial⟩) (fun D G1 hr => trivial) (fun G1 e h' n => (OpSpec.toN (ms_mk 68 rfl tg_39 (f := GElem.row) (z0 := (GElem.mk 0 0 [])) tr_113 (.inl rfl) (.inl rfl) el1)).frz),
                Ob.quiet (n1 := fun n => n) rfl rfl (by intro d h; cases h; rfl) rfl (fun _ => [(10, .ptr 10 (i1 0) 0 0)]) (fun _ => [(10, some (.box (i1 0) 34 [.r (.sl (r8.Adds.map (rSl GElem.row))), .r (.sl (r8.Cuts.map rBool)), .r (.sl (r8.Attrs.map (rSl GAttr.row)))]))]) (fun D G1 hr => ⟨inE_base rfl rfl, trivial⟩) (fun D G1 hr => ⟨inH_base rfl rfl, trivial⟩) (fun _ _ => rfl) (fun G1 e h' n => OpQ.spec (v := .agg [.r (.sl (r8.Adds.map (rSl GElem.row))), .r (.sl (r8.Cuts.map rBool)), .r (.sl (r8.Attrs.map (rSl GAttr.row)))]) (ms_loadA_box rfl ta_34 (.inl rfl) rfl rfl) _),
                Ob.quiet (n1 := fun n => n) rfl rfl (by intro d h; cases h; rfl) rfl (fun _ => [(68, .r (.sl (l1.map GElem.row))), (69, .agg [.r (.sl (r8.Adds.map (rSl GElem.row))), .r (.sl (r8.Cuts.map rBool)), .r (.sl (r8.Attrs.map (rSl GAttr.row)))])]) (fun _ => []) (fun D G1 hr => ⟨inE_op hr 4 rfl rfl (by kernel_rfl) rfl rfl, inE_op hr 5 rfl rfl (by kernel_rfl) rfl rfl, trivial⟩) (fun D G1 hr => trivial) (fun _ _ => rfl) (fun G1 e h' n => sp_callS (r := .agg [.r (.sl (r10.Adds.map (rSl GElem.row))), .r (.sl (r10.Cuts.map rBool)), .r (.sl (r10.Attrs.map (rSl GAttr.row)))]) (caps := []) (bs := [.r (.sl (l1.map GElem.row)), .agg [.r (.sl (r8.Adds.map (rSl GElem.row))), .r (.sl (r8.Cuts.map rBool)), .r (.sl (r8.Attrs.map (rSl GAttr.row)))]]) rfl (.inl rfl) rfl ⟨.inl ⟨(.inl rfl), rfl⟩, .inl ⟨(.inl rfl), rfl⟩, trivial⟩ (fun _ => w_ref_Back (er10))),
                Ob.quiet (n1 := fun n => n) rfl rfl (by intro d h; cases h; rfl) rfl (fun _ => [(70, .agg [.r (.sl (r10.Adds.map (rSl GElem.row))), .r (.sl (r10.Cuts.map rBool)), .r (.sl (r10.Attrs.map (rSl GAttr.row)))])]) (fun _ => []) (fun D G1 hr => ⟨inE_op hr 6 rfl rfl (by kernel_rfl) rfl rfl, trivial⟩) (fun D G1 hr => trivial) (fun _ _ => rfl) (fun G1 e h' n => sp_callS (r := .r (.sl (r11.map GAxisStep.row))) (caps := []) (bs := [.agg [.r (.sl (r10.Adds.map (rSl GElem.row))), .r (.sl (r10.Cuts.map rBool)), .r (.sl (r10.Attrs.map (rSl GAttr.row)))]]) rfl (.inl rfl) rfl ⟨.inl ⟨(.inl rfl), rfl⟩, trivial⟩ (fun _ => w_law_steps (er11))),
                trivial⟩) fun G1 n1 => ?_
            refine AOps.weak (s' := ⟨[(0, .r (.sl (a1.map GAxisStep.row))), (1, .r (.sl (b1.map GAxisStep.row))), (5, .r (.sl (r2.map GAxisStep.row))), (6, .r (.int .i64 r3)), (7, .r (.sl (r4.map GAxisStep.row))), (10, .ptr 10 (i1 0) 0 0), (11, .ptr 11 ((i1 0) + 1) 0 0), (60, .r (.sl (a1.map GAxisStep.row))), (61, .agg [.r (.sl (r8.Adds.map (rSl GElem.row))), .r (.sl (r8.Cuts.map rBool)), .r (.sl (r8.Attrs.map (rSl GAttr.row)))]), (62, .r (.sl (b1.map GAxisStep.row))), (63, .agg [.r (.sl (r9.Adds.map (rSl GElem.row))), .r (.sl (r9.Cuts.map rBool)), .r (.sl (r9.Attrs.map (rSl GAttr.row)))]), (64, .r (.sl (r4.map GAxisStep.row))), (65, .ptr 10 (i1 0) 0 1), (66, .r (.sl (r8.Cuts.map rBool))), (67, .r (.int .i64 (r8.Cuts.length : Int))), (68, .r (.sl (l1.map GElem.row))), (69, .agg [.r (.sl (r8.Adds.map (rSl GElem.row))), .r (.sl (r8.Cuts.map rBool)), .r (.sl (r8.Attrs.map (rSl GAttr.row)))]), (70, .agg [.r (.sl (r10.Adds.map (rSl GElem.row))), .r (.sl (r10.Cuts.map rBool)), .r (.sl (r10.Attrs.map (rSl GAttr.row)))]), (71, .r (.sl (r11.map GAxisStep.row)))], [(10, some (.box (i1 0) 34 [.r (.sl (r8.Adds.map (rSl GElem.row))), .r (.sl (r8.Cuts.map rBool)), .r (.sl (r8.Attrs.map (rSl GAttr.row)))])), (11, some (.box ((i1 0) + 1) 34 [.r (.sl (r9.Adds.map (rSl GElem.row))), .r (.sl (r9.Cuts.map rBool)), .r (.sl (r9.Attrs.map (rSl GAttr.row)))]))], n1, 103⟩) (by exact Weak.cv ⟨.inl (.inl rfl), .inl (.inl rfl), .inl (.inl rfl), .inl (.inl rfl), .inl (.inl rfl), .inl (.inl rfl), .inl (.inl rfl), .inl (.inl rfl), .inl (.inl rfl), .inl (.inl rfl), .inl (.inl rfl), .inl (.inl rfl), .inl (.inl rfl), .inl (.inl rfl), .inl (.inl rfl), .inl (.inl rfl), .inl (.inl rfl), .inl (.inl rfl), .inl (.inl rfl), trivial⟩ ⟨.inl rfl, .inl rfl, trivial⟩ (Nat.le_refl _)) ?_
            refine ob1k h16 fun r12 er12 h17 => ?_
            refine AOps.step rfl rfl rfl (sp_call (r := .r (.bool r12)) (caps := []) (bs := [.r (.sl (r4.map GAxisStep.row)), .r (.sl (r11.map GAxisStep.row))]) rfl (.inl rfl) rfl ⟨⟨_, (.inl rfl), .d rfl⟩, ⟨_, (.inl rfl), .d rfl⟩, trivial⟩ (fun _ => w_ref_SameSteps (er12)) rfl) ?_
            refine AOps.step rfl rfl rfl (OpQ.spec (sp_not rfl (.inl rfl)) _) ?_
            refine AOps.nil ?_
            refine hK21 _ ?_
            refine AW.cond rfl (fun hc5 => ?_) (fun hc5 => ?_)
            · have h18 := ite_t hc5 h17
              refine AW.seq_w fun K22 hK22 wK22 => ?_
              refine AW.weak (s' := ⟨[], [], n1, 103⟩) (by exact Weak.cv trivial trivial (Nat.le_refl _)) ?_
              refine AW.region ?_
              refine AOps.step rfl rfl rfl (OpQ.spec (sp_assign rfl (.inl rfl)) _) ?_
              refine AOps.nil ?_
              refine hK22 _ ?_
              refine AW.ret ?_
              exact retf1 (P := Try.prog) (fun (r : Bool) => .r (.bool r)) h18 (.inl rfl) (.t (.d rfl))
            · have h18 := ite_f hc5 h17
              refine AW.skip ?_
              refine hK20 _ ?_
              refine AW.seq_w fun K23 hK23 wK23 => ?_
              refine AW.seq_w fun K24 hK24 wK24 => ?_
              refine AW.weak (s' := ⟨[(5, .r (.sl (r2.map GAxisStep.row))), (6, .r (.int .i64 r3)), (10, .ptr 10 (i1 0) 0 0), (11, .ptr 11 ((i1 0) + 1) 0 0)], [(10, some (.box (i1 0) 34 [.r (.sl (r8.Adds.map (rSl GElem.row))), .r (.sl (r8.Cuts.map rBool)), .r (.sl (r8.Attrs.map (rSl GAttr.row)))])), (11, some (.box ((i1 0) + 1) 34 [.r (.sl (r9.Adds.map (rSl GElem.row))), .r (.sl (r9.Cuts.map rBool)), .r (.sl (r9.Attrs.map (rSl GAttr.row)))]))], n1, 103⟩) (by exact Weak.cv ⟨.inl (.inl rfl), .inl (.inl rfl), .inl (.inl rfl), .inl (.inl rfl), trivial⟩ ⟨.inl rfl, .inl rfl, trivial⟩ (Nat.le_refl _)) ?_
              refine AW.regionP 5 [⟨some 74, (fun _ => .ptr 10 (i1 0) 0 1), none, []⟩, ⟨some 75, (fun _ => .r (.sl (r8.Cuts.map rBool))), none, []⟩, ⟨some 76, (fun _ => .r (.int .i64 (r8.Cuts.length : Int))), none, []⟩, ⟨some 77, (fun G2 => .own 77 (G2 3)), some (77, (fun G2 => some (.arr (G2 3) 113 3 (l1.map GElem.row)))), [3]⟩, ⟨some 78, (fun _ => .agg [.r (.sl (r8.Adds.map (rSl GElem.row))), .r (.sl (r8.Cuts.map rBool)), .r (.sl (r8.Attrs.map (rSl GAttr.row)))]), none, []⟩] hmix (by kernel_rfl) (by exact ⟨fun _ _ h => ⟨rfl, fun _ _ e => by cases e⟩, fun _ _ h => ⟨rfl, fun _ _ e => by cases e⟩, fun _ _ h => ⟨rfl, fun _ _ e => by cases e⟩, fun _ _ h => ⟨by simp only [h 3 rfl], fun _ _ e => by cases e; simp only [h 3 rfl]⟩, fun _ _ h => ⟨rfl, fun _ _ e => by cases e⟩, trivial⟩) rfl (by exact ⟨Ob.quiet (n1 := fun n => n) rfl rfl (by intro d h; cases h; rfl) rfl (fun _ => [(10, .ptr 10 (i1 0) 0 0)]) (fun _ => [(10, some (.box (i1 0) 34 [.r (.sl (r8.Adds.map (rSl GElem.row))), .r (.sl (r8.Cuts.map rBool)), .r (.sl (r8.Attrs.map (rSl GAttr.row)))]))]) (fun D G2 hr => ⟨inE_base rfl rfl, trivial⟩) (fun D G2 hr => ⟨inH_base rfl rfl, trivial⟩) (fun _ _ => rfl) (fun G2 e h' n => OpQ.spec (v := .ptr 10 (i1 0) 0 1) (sp_fieldAddr_own (ob := .box _ _ _) rfl tf_34_1 (.inl rfl) (fun _ => rfl) rfl) _),
                  Ob.quiet (n1 := fun n => n) rfl rfl (by intro d h; cases h; rfl) rfl (fun _ => [(74, .ptr 10 (i1 0) 0 1)]) (fun _ => [(10, some (.box (i1 0) 34 [.r (.sl (r8.Adds.map (rSl GElem.row))), .r (.sl (r8.Cuts.map rBool)), .r (.sl (r8.Attrs.map (rSl GAttr.row)))]))]) (fun D G2 hr => ⟨inE_op hr 0 rfl rfl (by kernel_rfl) rfl rfl, trivial⟩) (fun D G2 hr => ⟨inH_base rfl rfl, trivial⟩) (fun _ _ => rfl) (fun G2 e h' n => OpQ.spec (v := .r (.sl (r8.Cuts.map rBool))) (ms_load_box (a := .r (.sl (r8.Cuts.map rBool))) rfl ts_31 (.inl rfl) rfl rfl) _),
                  Ob.quiet (n1 := fun n => n) rfl rfl (by intro d h; cases h; rfl) rfl (fun _ => [(75, .r (.sl (r8.Cuts.map rBool)))]) (fun _ => []) (fun D G2 hr => ⟨inE_op hr 1 rfl rfl (by kernel_rfl) rfl rfl, trivial⟩) (fun D G2 hr => trivial) (fun _ _ => rfl) (fun G2 e h' n => OpQ.spec (v := .r (.int .i64 (r8.Cuts.length : Int))) (ms_len rfl tg_31.slice (.inl rfl)) _),
                  Ob.make (n1 := fun n => n + 1) rfl rfl (by intro d h; cases h; rfl) rfl (fun _ => [(76, .r (.int .i64 (r8.Cuts.length : Int)))]) (fun _ => []) (fun D G2 hr => ⟨inE_op hr 2 rfl rfl (by kernel_rfl) rfl rfl, trivial⟩) (fun D G2 hr => trivial) (fun G2 e h' n => ms_mk 77 rfl tg_39 (f := GElem.row) (z0 := (GElem.mk 0 0 [])) tr_113 (.inl rfl) (.inl rfl) el1),
                  Ob.quiet (n1 := fun n => n) rfl rfl (by intro d h; cases h; rfl) rfl (fun _ => [(10, .ptr 10 (i1 0) 0 0)]) (fun _ => [(10, some (.box (i1 0) 34 [.r (.sl (r8.Adds.map (rSl GElem.row))), .r (.sl (r8.Cuts.map rBool)), .r (.sl (r8.Attrs.map (rSl GAttr.row)))]))]) (fun D G2 hr => ⟨inE_base rfl rfl, trivial⟩) (fun D G2 hr => ⟨inH_base rfl rfl, trivial⟩) (fun _ _ => rfl) (fun G2 e h' n => OpQ.spec (v := .agg [.r (.sl (r8.Adds.map (rSl GElem.row))), .r (.sl (r8.Cuts.map rBool)), .r (.sl (r8.Attrs.map (rSl GAttr.row)))]) (ms_loadA_box rfl ta_34 (.inl rfl) rfl rfl) _),
                  trivial⟩) fun G2 n2 => ?_
              refine AOps.weak (s' := ⟨[(5, .r (.sl (r2.map GAxisStep.row))), (6, .r (.int .i64 r3)), (10, .ptr 10 (i1 0) 0 0), (11, .ptr 11 ((i1 0) + 1) 0 0), (74, .ptr 10 (i1 0) 0 1), (75, .r (.sl (r8.Cuts.map rBool))), (76, .r (.int .i64 (r8.Cuts.length : Int))), (77, .own 77 (G2 3)), (78, .agg [.r (.sl (r8.Adds.map (rSl GElem.row))), .r (.sl (r8.Cuts.map rBool)), .r (.sl (r8.Attrs.map (rSl GAttr.row)))])], [(10, some (.box (i1 0) 34 [.r (.sl (r8.Adds.map (rSl GElem.row))), .r (.sl (r8.Cuts.map rBool)), .r (.sl (r8.Attrs.map (rSl GAttr.row)))])), (11, some (.box ((i1 0) + 1) 34 [.r (.sl (r9.Adds.map (rSl GElem.row))), .r (.sl (r9.Cuts.map rBool)), .r (.sl (r9.Attrs.map (rSl GAttr.row)))])), (77, some (.arr (G2 3) 113 3 (l1.map GElem.row)))], n2, 103⟩) (by exact Weak.cv ⟨.inl (.inl rfl), .inl (.inl rfl), .inl (.inl rfl), .inl (.inl rfl), .inl (.inl rfl), .inl (.inl rfl), .inl (.inl rfl), .inl (.inl rfl), .inl (.inl rfl), trivial⟩ ⟨.inl rfl, .inl rfl, .inl rfl, trivial⟩ (Nat.le_refl _)) ?_
              refine AOps.weak (by exact Weak.frz (e' := [(5, .r (.sl (r2.map GAxisStep.row))), (6, .r (.int .i64 r3)), (10, .ptr 10 (i1 0) 0 0), (11, .ptr 11 ((i1 0) + 1) 0 0), (74, .ptr 10 (i1 0) 0 1), (75, .r (.sl (r8.Cuts.map rBool))), (76, .r (.int .i64 (r8.Cuts.length : Int))), (77, .r (.sl (l1.map GElem.row))), (78, .agg [.r (.sl (r8.Adds.map (rSl GElem.row))), .r (.sl (r8.Cuts.map rBool)), .r (.sl (r8.Attrs.map (rSl GAttr.row)))])]) (h' := [(10, some (.box (i1 0) 34 [.r (.sl (r8.Adds.map (rSl GElem.row))), .r (.sl (r8.Cuts.map rBool)), .r (.sl (r8.Attrs.map (rSl GAttr.row)))])), (11, some (.box ((i1 0) + 1) 34 [.r (.sl (r9.Adds.map (rSl GElem.row))), .r (.sl (r9.Cuts.map rBool)), .r (.sl (r9.Attrs.map (rSl GAttr.row)))]))]) 77 rfl ⟨.inl (.inl rfl), .inl (.inl rfl), .inl (.inl rfl), .inl (.inl rfl), .inl (.inl rfl), .inl (.inl rfl), .inl (.inl rfl), .inl (.inr (.inr ⟨rfl, rfl⟩)), .inl (.inl rfl), trivial⟩ ⟨rfl, .inl rfl, rfl, .inl rfl, trivial⟩) ?_
              refine ob1k h18 fun r13 er13 h19 => ?_
              refine AOps.step rfl rfl rfl (sp_callS (r := .r (.sl (r13.map GElem.row))) (caps := []) (bs := [.r (.sl (l1.map GElem.row)), .agg [.r (.sl (r8.Adds.map (rSl GElem.row))), .r (.sl (r8.Cuts.map rBool)), .r (.sl (r8.Attrs.map (rSl GAttr.row)))]]) rfl (.inl rfl) rfl ⟨.inl ⟨(.inl rfl), rfl⟩, .inl ⟨(.inl rfl), rfl⟩, trivial⟩ (fun _ => w_ref_Done (er13))) ?_
              refine AOps.step rfl rfl rfl (OpQ.spec (ms_len rfl tg_39.slice (.inl rfl)) _) ?_
              refine AOps.step rfl rfl rfl (OpQ.spec (sp_assign rfl (.inl rfl)) _) ?_
              refine AOps.nil ?_
              refine hK24 _ ?_
              refine AW.seq_w fun K25 hK25 wK25 => ?_
              refine AW.region ?_
              refine AOps.step rfl rfl rfl (OpQ.spec (sp_move rfl (.inl rfl)) _) ?_
              refine AOps.step rfl rfl rfl (OpQ.spec (sp_fieldAddr_own (ob := .box _ _ _) rfl tf_34_1 (.inl rfl) (fun _ => rfl) rfl) _) ?_
              refine AOps.step rfl rfl rfl (OpQ.spec (ms_load_box (a := .r (.sl (r9.Cuts.map rBool))) rfl ts_31 (.inl rfl) rfl rfl) _) ?_
              refine AOps.step rfl rfl rfl (OpQ.spec (ms_len rfl tg_31.slice (.inl rfl)) _) ?_
              refine AOps.step rfl rfl rfl (OpQ.spec (sp_neq rfl (.inl rfl) (.inl rfl)) _) ?_
              refine AOps.nil ?_
              refine hK25 _ ?_
              refine AW.cond rfl (fun hc6 => ?_) (fun hc6 => ?_)
              · have h20 := ite_t hc6 h19
                refine AW.seq_w fun K26 hK26 wK26 => ?_
                refine AW.weak (s' := ⟨[(5, .r (.sl (r2.map GAxisStep.row))), (6, .r (.int .i64 r3))], [], n2, 103⟩) (by exact Weak.cv ⟨.inl (.inl rfl), .inl (.inl rfl), trivial⟩ trivial (Nat.le_refl _)) ?_
                refine AW.region ?_
                refine AOps.step rfl rfl rfl (OpQ.spec (sp_move rfl (.inl rfl)) _) ?_
                refine AOps.step rfl rfl rfl (OpQ.spec (sp_eql rfl (.inl rfl) (.inl rfl)) _) ?_
                refine AOps.step rfl rfl rfl (OpQ.spec (sp_move rfl (.inl rfl)) _) ?_
                refine AOps.stepW (.one rfl rfl rfl) rfl rfl (OpQ.spec (sp_move rfl (.inl rfl)) _) ?_
                refine AOps.stepW (.one rfl rfl rfl) rfl rfl (OpQ.spec (ms_len rfl tg_22.slice (.inr ⟨_, (by exact id), rfl⟩)) _) ?_
                refine AOps.stepW (.one rfl rfl rfl) rfl rfl (OpQ.spec (sp_eql rfl (.inr ⟨_, (by exact id), rfl⟩) (.inl rfl)) _) ?_
                refine AOps.step rfl rfl rfl (OpQ.spec (sp_and rfl (.inl rfl) (.inr ⟨_, (by exact id), rfl⟩)) _) ?_
                refine AOps.step rfl rfl rfl (OpQ.spec (sp_assign rfl (.inl rfl)) _) ?_
                refine AOps.nil ?_
                refine hK26 _ ?_
                refine AW.ret ?_
                exact retf1 (P := Try.prog) (fun (r : Bool) => .r (.bool r)) h20 (.inl rfl) (.t (.d rfl))
              · have h20 := ite_f hc6 h19
                refine AW.skip ?_
                refine hK23 _ ?_
                refine AW.seq_w fun K27 hK27 wK27 => ?_
                refine AW.weak (s' := ⟨[(5, .r (.sl (r2.map GAxisStep.row))), (6, .r (.int .i64 r3)), (10, .ptr 10 (i1 0) 0 0), (11, .ptr 11 ((i1 0) + 1) 0 0)], [(10, some (.box (i1 0) 34 [.r (.sl (r8.Adds.map (rSl GElem.row))), .r (.sl (r8.Cuts.map rBool)), .r (.sl (r8.Attrs.map (rSl GAttr.row)))])), (11, some (.box ((i1 0) + 1) 34 [.r (.sl (r9.Adds.map (rSl GElem.row))), .r (.sl (r9.Cuts.map rBool)), .r (.sl (r9.Attrs.map (rSl GAttr.row)))]))], n2, 103⟩) (by exact Weak.cv ⟨.inl (.inl rfl), .inl (.inl rfl), .inl (.inl rfl), .inl (.inl rfl), trivial⟩ ⟨.inl rfl, .inl rfl, trivial⟩ (Nat.le_refl _)) ?_
                refine AW.region ?_
                refine AOps.step rfl rfl rfl (OpQ.spec (sp_move rfl (.inl rfl)) _) ?_
                refine AOps.step rfl rfl rfl (OpQ.spec (sp_eql rfl (.inl rfl) (.inl rfl)) _) ?_
                refine AOps.step rfl rfl rfl (OpQ.spec (sp_move rfl (.inl rfl)) _) ?_
                refine AOps.stepW (.one rfl rfl rfl) rfl rfl (OpQ.spec (sp_move rfl (.inl rfl)) _) ?_
                refine AOps.stepW (.one rfl rfl rfl) rfl rfl (OpQ.spec (ms_loadA_box rfl ta_34 (.inl rfl) rfl rfl) _) ?_
                refine AOps.stepW (.one rfl rfl rfl) rfl rfl (OpQ.spec (ms_loadA_box rfl ta_34 (.inl rfl) rfl rfl) _) ?_
                refine jb1k h20 fun p2 hp2 hk2 => ?_
                have J2 : ∀ (x1 : Bool) (i2 : Nat → Nat), p2 = x1 → K27 ⟨[(4, .r (.bool x1))], [], (i2 0), 103⟩ := by
                  intro x1 i2 e
                  have h21 := hk2 _ e
                  refine hK27 _ ?_
                  refine AW.ret ?_
                  exact retf1 (P := Try.prog) (fun (r : Bool) => .r (.bool r)) h21 (.inl rfl) (.t (.d rfl))
                refine AOps.split ((decide (r3 = 0)) == true) (fun hg1 => ?_) (fun hg1 => ?_)
                · have h22 := ite_t hg1 hp2
                  refine AOps.weak (by exact Weak.unw2 (e' := [(5, .r (.sl (r2.map GAxisStep.row))), (6, .r (.int .i64 r3)), (10, .ptr 10 (i1 0) 0 0), (11, .ptr 11 ((i1 0) + 1) 0 0), (93, .r (.int .i64 r3)), (94, .r (.bool (decide (r3 = 0)))), (95, .r (.bool (decide (r3 = 0)))), (96, .r (.sl (r2.map GAxisStep.row))), (97, .agg [.r (.sl (r8.Adds.map (rSl GElem.row))), .r (.sl (r8.Cuts.map rBool)), .r (.sl (r8.Attrs.map (rSl GAttr.row)))]), (98, .agg [.r (.sl (r9.Adds.map (rSl GElem.row))), .r (.sl (r9.Cuts.map rBool)), .r (.sl (r9.Attrs.map (rSl GAttr.row)))])]) hg1 ⟨.inl rfl, .inl rfl, .inl rfl, .inl rfl, .inl rfl, .inl rfl, .inl rfl, .inr (.inl rfl), .inr (.inl rfl), .inr (.inl rfl), trivial⟩) ?_
                  refine ob1k h22 fun r14 er14 h23 => ?_
                  refine AOps.stepGT (.one rfl rfl rfl) hg1 rfl rfl (sp_callS (r := .agg [.r (.sl (r14.Adds.map (rSl GElem.row))), .r (.sl (r14.Cuts.map rBool)), .r (.sl (r14.Attrs.map (rSl GAttr.row)))]) (caps := []) (bs := [.agg [.r (.sl (r8.Adds.map (rSl GElem.row))), .r (.sl (r8.Cuts.map rBool)), .r (.sl (r8.Attrs.map (rSl GAttr.row)))], .agg [.r (.sl (r9.Adds.map (rSl GElem.row))), .r (.sl (r9.Cuts.map rBool)), .r (.sl (r9.Attrs.map (rSl GAttr.row)))]]) rfl (.inl rfl) rfl ⟨.inl ⟨(.inl rfl), rfl⟩, .inl ⟨(.inl rfl), rfl⟩, trivial⟩ (fun _ => w_ref_Both (er14))) ?_
                  refine ob1k h23 fun r15 er15 h24 => ?_
                  refine AOps.stepGT (.one rfl rfl rfl) hg1 rfl rfl (sp_callS (r := .r (.sl (r15.map GAxisStep.row))) (caps := []) (bs := [.agg [.r (.sl (r14.Adds.map (rSl GElem.row))), .r (.sl (r14.Cuts.map rBool)), .r (.sl (r14.Attrs.map (rSl GAttr.row)))]]) rfl (.inl rfl) rfl ⟨.inl ⟨(.inl rfl), rfl⟩, trivial⟩ (fun _ => w_law_steps (er15))) ?_
                  refine ob1k h24 fun r16 er16 h25 => ?_
                  refine AOps.stepGT (.one rfl rfl rfl) hg1 rfl rfl (sp_call (r := .r (.bool r16)) (caps := []) (bs := [.r (.sl (r2.map GAxisStep.row)), .r (.sl (r15.map GAxisStep.row))]) rfl (.inl rfl) rfl ⟨⟨_, (.inl rfl), .d rfl⟩, ⟨_, (.inl rfl), .d rfl⟩, trivial⟩ (fun _ => w_ref_SameSteps (er16)) rfl) ?_
                  refine AOps.step rfl rfl rfl (OpQ.spec (sp_and rfl (.inl rfl) (.inl rfl)) _) ?_
                  refine AOps.step rfl rfl rfl (OpQ.spec (sp_assign rfl (.inl rfl)) _) ?_
                  refine AOps.nil ?_
                  exact wK27 _ _ ((by exact Weak.cv ⟨.inl (.inl rfl), trivial⟩ trivial (Nat.le_refl _))) (J2 _ (vec [n2]) (Option.some.inj h25).symm)
                · have h22 := ite_f hg1 hp2
                  refine AOps.stepGF2 (.one rfl rfl rfl) hg1 rfl rfl ?_
                  refine AOps.stepGF2 (.one rfl rfl rfl) hg1 rfl rfl ?_
                  refine AOps.stepGF2 (.one rfl rfl rfl) hg1 rfl rfl ?_
                  refine AOps.step rfl rfl rfl (OpQ.spec (sp_and rfl (.inl rfl) (.inr ⟨_, (by exact id), rfl⟩)) _) ?_
                  refine AOps.step rfl rfl rfl (OpQ.spec (sp_assign rfl (.inl rfl)) _) ?_
                  refine AOps.nil ?_
                  exact wK27 _ _ ((by exact Weak.cv ⟨.inl (.inl rfl), trivial⟩ trivial (Nat.le_refl _))) (J2 _ (vec [n2]) (Option.some.inj h22).symm)
      refine AW.cond rfl (fun hc7 => ?_) (fun hc7 => ?_)
      · have h26 := ite_t hc7 hp1
        refine AW.region ?_
        refine AOps.step rfl rfl rfl (OpQ.spec (sp_move rfl (.inl rfl)) _) ?_
        refine ob1k h26 fun f3 ef3 h27 => ?_
        refine AOps.step rfl rfl rfl (sp_call (r := .r (.int .i64 f3)) (caps := []) (bs := [.r (.sl (b1.map GAxisStep.row))]) rfl (.inl rfl) rfl ⟨⟨_, (.inl rfl), .d rfl⟩, trivial⟩ (fun _ => w_ref_AxisError (ef3)) rfl) ?_
        refine AOps.step rfl rfl rfl (OpQ.spec (sp_assign rfl (.inl rfl)) _) ?_
        refine AOps.nil ?_
        exact wK11 _ _ ((by exact Weak.cv ⟨.inl (.inl rfl), .inl (.inl rfl), .inl (.inl rfl), .inl (.inl rfl), .inl (.inl rfl), .inl (.inl rfl), trivial⟩ trivial (Nat.le_refl _))) (J1 _ (vec [n0]) (Option.some.inj h27).symm)
      · have h26 := ite_f hc7 hp1
        refine AW.skip ?_
        exact wK11 _ _ ((by exact Weak.cv ⟨.inl (.inl rfl), .inl (.inl rfl), .inl (.inl rfl), .inl (.inl rfl), .inl (.inl rfl), .inl (.inl rfl), trivial⟩ trivial (Nat.le_refl _))) (J1 _ (vec [n0]) (Option.some.inj h26).symm)
end Go.Proofs.Ytdeglnbioiicaaa.Al
