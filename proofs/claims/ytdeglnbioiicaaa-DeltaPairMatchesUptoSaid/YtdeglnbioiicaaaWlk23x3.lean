/- Walks, as printed. -/
import Derived.Test.YtdeglnbioiicaaaWlk23x2
import Derived.Test.YtdeglnbioiicaaaProg
set_option linter.unusedVariables false
namespace Go.Proofs.Ytdeglnbioiicaaa.Al
open Go.Proofs
set_option maxHeartbeats 4000000 in
set_option maxRecDepth 20000 in
theorem w_ref_Behind {a1 : Ref_Act} {b1 : Ref_Act} {first1 : Bool} {r : Ref_Act} (h : ref_Behind a1 b1 first1 = some r) : ARO Try.prog 47 [.agg [.r (.sl (a1.Adds.map (rSl GElem.row))), .r (.sl (a1.Cuts.map rBool)), .r (.sl (a1.Attrs.map (rSl GAttr.row)))], .agg [.r (.sl (b1.Adds.map (rSl GElem.row))), .r (.sl (b1.Cuts.map rBool)), .r (.sl (b1.Attrs.map (rSl GAttr.row)))], .r (.bool first1)] (.agg [.r (.sl (r.Adds.map (rSl GElem.row))), .r (.sl (r.Cuts.map rBool)), .r (.sl (r.Attrs.map (rSl GAttr.row)))]) := by
  unfold ref_Behind at h
  refine ARO.mkF Try.func47 rfl rfl Try.ntmps47 rfl (Nat.le_of_ble_eq_true rfl) fun n0 => ?_
  refine AW.seq_w fun K1 hK1 wK1 => ?_
  refine AW.region ?_
  refine AOps.step rfl rfl rfl (ms_box (cs := [.r (.sl (a1.Adds.map (rSl GElem.row))), .r (.sl (a1.Cuts.map rBool)), .r (.sl (a1.Attrs.map (rSl GAttr.row)))]) 3 rfl (.inl rfl) rfl rfl) ?_
  refine AOps.step rfl rfl rfl (ms_box (cs := [.r (.sl (b1.Adds.map (rSl GElem.row))), .r (.sl (b1.Cuts.map rBool)), .r (.sl (b1.Attrs.map (rSl GAttr.row)))]) 4 rfl (.inl rfl) rfl rfl) ?_
  refine AOps.step rfl rfl rfl (ms_alloc (cs := [.cst (.slice none 0 0), .cst (.slice none 0 0), .cst (.slice none 0 0)]) 6 rfl t0_34 rfl rfl) ?_
  refine AOps.nil ?_
  refine hK1 _ ?_
  refine AW.seq_w fun K2 hK2 wK2 => ?_
  refine AW.region ?_
  refine AOps.step rfl rfl rfl (ms_lit 11 rfl tg_30 (f := (rSl GElem.row)) (l := ([[]] : List (List GElem))) ⟨rfl, ⟨_, (.inl rfl), rfl⟩, trivial⟩ rfl (fun _ => rfl) rfl) ?_
  refine AOps.step rfl rfl rfl (OpQ.spec (sp_build rfl tb_34 (q := [(0, _)]) (by exact ⟨rfl, rfl, rfl, (.inl rfl), trivial⟩) (cs := [.own 11 (n0 + 3), .cst (.slice none 0 0), .cst (.slice none 0 0)]) (by rfl)) _) ?_
  refine AOps.step rfl rfl rfl (ms_alloc (cs := [.cst (.slice none 0 0), .cst (.slice none 0 0), .cst (.slice none 0 0)]) 7 rfl t0_34 rfl rfl) ?_
  refine AOps.step0 rfl rfl (ms_store_box (ds := [.own 11 (n0 + 3), .cst (.slice none 0 0), .cst (.slice none 0 0)]) rfl tz_34 (.inl rfl) rfl (.inl rfl) rfl rfl rfl rfl) ?_
  refine AOps.nil ?_
  refine hK2 _ ?_
  refine AW.seq_w fun K3 hK3 wK3 => ?_
  refine AW.seq_w fun K4 hK4 wK4 => ?_
  refine AW.region ?_
  refine AOps.step rfl rfl rfl (OpQ.spec (sp_assign rfl (.inl rfl)) _) ?_
  refine AOps.nil ?_
  refine hK4 _ ?_
  refine AW.block ?_
  refine jb1k h fun o1 hit1 hk1 => ?_
  have J1 : ∀ (out4 : Ref_Act) (i8 : Nat → Nat), o1 = out4 → K3 ⟨[(6, .ptr 6 (n0 + 2) 0 0), (7, .ptr 7 (n0 + 4) 0 0)], [(6, some (.box (n0 + 2) 34 [.cst (.slice none 0 0), .cst (.slice none 0 0), .cst (.slice none 0 0)])), (7, some (.box (n0 + 4) 34 [.own 11 (i8 0), .own 57 (i8 1), .own 61 (i8 2)])), (11, some (.arr (i8 0) 39 1 (out4.Adds.map (rSl GElem.row)))), (57, some (.arr (i8 1) 4 1 (out4.Cuts.map rBool))), (61, some (.arr (i8 2) 47 1 (out4.Attrs.map (rSl GAttr.row))))], (i8 3), 136⟩ := by
    intro out4 i8 e
    have h1 := hk1 _ e
    refine hK3 _ ?_
    refine AW.seq_w fun K5 hK5 wK5 => ?_
    refine AW.region ?_
    refine AOps.step rfl rfl rfl (OpQ.spec (ms_loadA_box rfl ta_34 (.inl rfl) rfl rfl) _) ?_
    refine AOps.step0 rfl rfl (ms_store_box (ds := [.own 11 (i8 0), .own 57 (i8 1), .own 61 (i8 2)]) rfl tz_34 (.inl rfl) rfl (.inl rfl) rfl rfl rfl rfl) ?_
    refine AOps.nil ?_
    refine hK5 _ ?_
    refine AW.ret ?_
    exact retf1 (P := Try.prog) (fun (r : Ref_Act) => .agg [.r (.sl (r.Adds.map (rSl GElem.row))), .r (.sl (r.Cuts.map rBool)), .r (.sl (r.Attrs.map (rSl GAttr.row)))]) h1 (.inl rfl) (.a ta_34 rfl rfl rfl (.agg ⟨.own rfl, .own rfl, .own rfl, trivial⟩))
  refine AW.iter2 (fun (i4 : Int) (out2 : Ref_Act) i5 => ⟨[(2, .r (.bool first1)), (3, .ptr 3 n0 0 0), (4, .ptr 4 (n0 + 1) 0 0), (6, .ptr 6 (n0 + 2) 0 0), (7, .ptr 7 (n0 + 4) 0 0), (8, .r (.int .i64 i4))], [(3, some (.box n0 34 [.r (.sl (a1.Adds.map (rSl GElem.row))), .r (.sl (a1.Cuts.map rBool)), .r (.sl (a1.Attrs.map (rSl GAttr.row)))])), (4, some (.box (n0 + 1) 34 [.r (.sl (b1.Adds.map (rSl GElem.row))), .r (.sl (b1.Cuts.map rBool)), .r (.sl (b1.Attrs.map (rSl GAttr.row)))])), (6, some (.box (n0 + 2) 34 [.cst (.slice none 0 0), .cst (.slice none 0 0), .cst (.slice none 0 0)])), (7, some (.box (n0 + 4) 34 [.own 11 (i5 0), .own 57 (i5 1), .own 61 (i5 2)])), (11, some (.arr (i5 0) 39 1 (out2.Adds.map (rSl GElem.row)))), (57, some (.arr (i5 1) 4 1 (out2.Cuts.map rBool))), (61, some (.arr (i5 2) 47 1 (out2.Attrs.map (rSl GAttr.row))))], (i5 3), 136⟩) (vec [(n0 + 3), (n0 + 5), (n0 + 6), (n0 + 7)]) hit1 (Weak.trans (Weak.trans (Weak.adoptBox 7 1 57 4 1 (by decide) rfl rfl (by decide)) (by exact Weak.cv (e' := [(0, .agg [.r (.sl (a1.Adds.map (rSl GElem.row))), .r (.sl (a1.Cuts.map rBool)), .r (.sl (a1.Attrs.map (rSl GAttr.row)))]), (1, .agg [.r (.sl (b1.Adds.map (rSl GElem.row))), .r (.sl (b1.Cuts.map rBool)), .r (.sl (b1.Attrs.map (rSl GAttr.row)))]), (2, .r (.bool first1)), (3, .ptr 3 n0 0 0), (4, .ptr 4 (n0 + 1) 0 0), (6, .ptr 6 (n0 + 2) 0 0), (7, .ptr 7 (n0 + 4) 0 0), (8, .r (.int .i64 0)), (11, .own 11 (n0 + 3)), (12, .agg [.own 11 (n0 + 3), .cst (.slice none 0 0), .cst (.slice none 0 0)])]) (h' := [(3, some (.box n0 34 [.r (.sl (a1.Adds.map (rSl GElem.row))), .r (.sl (a1.Cuts.map rBool)), .r (.sl (a1.Attrs.map (rSl GAttr.row)))])), (4, some (.box (n0 + 1) 34 [.r (.sl (b1.Adds.map (rSl GElem.row))), .r (.sl (b1.Cuts.map rBool)), .r (.sl (b1.Attrs.map (rSl GAttr.row)))])), (6, some (.box (n0 + 2) 34 [.cst (.slice none 0 0), .cst (.slice none 0 0), .cst (.slice none 0 0)])), (7, some (.box (n0 + 4) 34 [.own 11 (n0 + 3), .own 57 (n0 + 5), .cst (.slice none 0 0)])), (11, some (.arr (n0 + 3) 39 1 ([[]].map (rSl GElem.row)))), (57, some (.arr (n0 + 5) 4 1 (([] : List Bool).map rBool)))]) ⟨.inl (.inl rfl), .inl (.inl rfl), .inl (.inl rfl), .inl (.inl rfl), .inl (.inl rfl), .inl (.inl rfl), .inl (.inl rfl), .inl (.inl rfl), .inl (.inl rfl), .inl (.inl rfl), trivial⟩ ⟨.inl rfl, .inl rfl, .inl rfl, .inl rfl, .inl rfl, .inl rfl, trivial⟩ (Nat.le_refl _))) (Weak.trans (Weak.trans (Weak.adoptBox 7 2 61 47 1 (by decide) rfl rfl (by decide)) (by exact Weak.cv (e' := [(0, .agg [.r (.sl (a1.Adds.map (rSl GElem.row))), .r (.sl (a1.Cuts.map rBool)), .r (.sl (a1.Attrs.map (rSl GAttr.row)))]), (1, .agg [.r (.sl (b1.Adds.map (rSl GElem.row))), .r (.sl (b1.Cuts.map rBool)), .r (.sl (b1.Attrs.map (rSl GAttr.row)))]), (2, .r (.bool first1)), (3, .ptr 3 n0 0 0), (4, .ptr 4 (n0 + 1) 0 0), (6, .ptr 6 (n0 + 2) 0 0), (7, .ptr 7 (n0 + 4) 0 0), (8, .r (.int .i64 0)), (11, .own 11 (n0 + 3)), (12, .agg [.own 11 (n0 + 3), .cst (.slice none 0 0), .cst (.slice none 0 0)])]) (h' := [(3, some (.box n0 34 [.r (.sl (a1.Adds.map (rSl GElem.row))), .r (.sl (a1.Cuts.map rBool)), .r (.sl (a1.Attrs.map (rSl GAttr.row)))])), (4, some (.box (n0 + 1) 34 [.r (.sl (b1.Adds.map (rSl GElem.row))), .r (.sl (b1.Cuts.map rBool)), .r (.sl (b1.Attrs.map (rSl GAttr.row)))])), (6, some (.box (n0 + 2) 34 [.cst (.slice none 0 0), .cst (.slice none 0 0), .cst (.slice none 0 0)])), (7, some (.box (n0 + 4) 34 [.own 11 (n0 + 3), .own 57 (n0 + 5), .own 61 (n0 + 6)])), (11, some (.arr (n0 + 3) 39 1 ([[]].map (rSl GElem.row)))), (57, some (.arr (n0 + 5) 4 1 (([] : List Bool).map rBool))), (61, some (.arr (n0 + 6) 47 1 (([] : List (List GAttr)).map (rSl GAttr.row))))]) ⟨.inl (.inl rfl), .inl (.inl rfl), .inl (.inl rfl), .inl (.inl rfl), .inl (.inl rfl), .inl (.inl rfl), .inl (.inl rfl), .inl (.inl rfl), .inl (.inl rfl), .inl (.inl rfl), trivial⟩ ⟨.inl rfl, .inl rfl, .inl rfl, .inl rfl, .inl rfl, .inl rfl, .inl rfl, trivial⟩ (Nat.le_refl _))) (by exact Weak.cv ⟨.inl (.inl rfl), .inl (.inl rfl), .inl (.inl rfl), .inl (.inl rfl), .inl (.inl rfl), .inl (.inl rfl), trivial⟩ ⟨.inl rfl, .inl rfl, .inl rfl, .inl rfl, .inl rfl, .inl rfl, .inl rfl, trivial⟩ (Nat.le_refl _)))) ?_
  intro i4 out2 i5 v1 hv1 hx1
  have h2 : ref_Behind_L1 a1 b1 first1 i4 out2 = some v1 := hv1; unfold ref_Behind_L1 at h2
  refine AW.seq_w fun K6 hK6 wK6 => ?_
  refine AW.seq_w fun K7 hK7 wK7 => ?_
  refine AW.region ?_
  refine AOps.step rfl rfl rfl (OpQ.spec (sp_move rfl (.inl rfl)) _) ?_
  refine AOps.step rfl rfl rfl (OpQ.spec (sp_fieldAddr_own (ob := .box _ _ _) rfl tf_34_1 (.inl rfl) (fun _ => rfl) rfl) _) ?_
  refine AOps.step rfl rfl rfl (OpQ.spec (ms_load_box (a := .r (.sl (a1.Cuts.map rBool))) rfl ts_31 (.inl rfl) rfl rfl) _) ?_
  refine AOps.step rfl rfl rfl (OpQ.spec (ms_len rfl tg_31.slice (.inl rfl)) _) ?_
  refine AOps.step rfl rfl rfl (OpQ.spec (sp_leq rfl (.inl rfl) (.inl rfl)) _) ?_
  refine AOps.nil ?_
  refine hK7 _ ?_
  refine AW.cond rfl (fun hc1 => ?_) (fun hc1 => ?_)
  · have h3 := ite_t hc1 h2
    refine AW.skip ?_
    refine hK6 _ ?_
    refine AW.seq_w fun K8 hK8 wK8 => ?_
    refine AW.block ?_
    refine jb1k h3 fun p1 hp1 hk2 => ?_
    have J2 : ∀ (out5 : Ref_Act) (i9 : Nat → Nat), p1 = out5 → K8 ⟨[(2, .r (.bool first1)), (3, .ptr 3 n0 0 0), (4, .ptr 4 (n0 + 1) 0 0), (6, .ptr 6 (n0 + 2) 0 0), (7, .ptr 7 (n0 + 4) 0 0), (8, .r (.int .i64 i4))], [(3, some (.box n0 34 [.r (.sl (a1.Adds.map (rSl GElem.row))), .r (.sl (a1.Cuts.map rBool)), .r (.sl (a1.Attrs.map (rSl GAttr.row)))])), (4, some (.box (n0 + 1) 34 [.r (.sl (b1.Adds.map (rSl GElem.row))), .r (.sl (b1.Cuts.map rBool)), .r (.sl (b1.Attrs.map (rSl GAttr.row)))])), (6, some (.box (n0 + 2) 34 [.cst (.slice none 0 0), .cst (.slice none 0 0), .cst (.slice none 0 0)])), (7, some (.box (n0 + 4) 34 [.own 11 (i9 0), .own 57 (i9 1), .own 61 (i9 2)])), (11, some (.arr (i9 0) 39 1 (out5.Adds.map (rSl GElem.row)))), (57, some (.arr (i9 1) 4 1 (out5.Cuts.map rBool))), (61, some (.arr (i9 2) 47 1 (out5.Attrs.map (rSl GAttr.row))))], (i9 3), 136⟩ := by
      intro out5 i9 e
      have h4 := hk2 _ e
      refine hK8 _ ?_
      refine AW.region ?_
      refine AOps.step rfl rfl rfl (OpQ.spec (sp_move rfl (.inl rfl)) _) ?_
      refine ob1k h4 fun i10 ei10 h5 => ?_
      refine AOps.step rfl rfl rfl (OpQ.spec (ms_add rfl (.inl rfl) (.inl rfl) (fun _ => ei10)) _) ?_
      refine AOps.step rfl rfl rfl (OpQ.spec (sp_assign rfl (.inl rfl)) _) ?_
      refine AOps.nil ?_
      exact NextQ2.mk h5 (vec [(i9 0), (i9 1), (i9 2), (i9 3)]) ((by exact Weak.cv ⟨.inl (.inl rfl), .inl (.inl rfl), .inl (.inl rfl), .inl (.inl rfl), .inl (.inl rfl), .inl (.inl rfl), trivial⟩ ⟨.inl rfl, .inl rfl, .inl rfl, .inl rfl, .inl rfl, .inl rfl, .inl rfl, trivial⟩ (Nat.le_refl _)))
    refine AW.seq_w fun K9 hK9 wK9 => ?_
    refine AW.region ?_
    refine AOps.step rfl rfl rfl (OpQ.spec (sp_fieldAddr_own (ob := .box _ _ _) rfl tf_34_0 (.inl rfl) (fun _ => rfl) rfl) _) ?_
    refine AOps.step rfl rfl rfl (OpQ.spec (ms_load_box (a := .own 11 (i5 0)) rfl ts_30 (.inl rfl) rfl rfl) _) ?_
    refine AOps.step rfl rfl rfl (OpQ.spec (ms_len_own rfl tg_30.slice (.inl rfl) rfl) _) ?_
    refine ob1k hp1 fun k1 ek1 h6 => ?_
    refine AOps.step rfl rfl rfl (OpQ.spec (ms_sub rfl (.inl rfl) (.inl rfl) (fun _ => ek1)) _) ?_
    refine AOps.step rfl rfl rfl (OpQ.spec (sp_assign rfl (.inl rfl)) _) ?_
    refine AOps.nil ?_
    refine hK9 _ ?_
    refine AW.seq_w fun K10 hK10 wK10 => ?_
    refine AW.seq_w fun K11 hK11 wK11 => ?_
    refine AW.weak (s' := ⟨[(2, .r (.bool first1)), (3, .ptr 3 n0 0 0), (4, .ptr 4 (n0 + 1) 0 0), (6, .ptr 6 (n0 + 2) 0 0), (7, .ptr 7 (n0 + 4) 0 0), (8, .r (.int .i64 i4)), (9, .r (.int .i64 k1))], [(3, some (.box n0 34 [.r (.sl (a1.Adds.map (rSl GElem.row))), .r (.sl (a1.Cuts.map rBool)), .r (.sl (a1.Attrs.map (rSl GAttr.row)))])), (4, some (.box (n0 + 1) 34 [.r (.sl (b1.Adds.map (rSl GElem.row))), .r (.sl (b1.Cuts.map rBool)), .r (.sl (b1.Attrs.map (rSl GAttr.row)))])), (6, some (.box (n0 + 2) 34 [.cst (.slice none 0 0), .cst (.slice none 0 0), .cst (.slice none 0 0)])), (7, some (.box (n0 + 4) 34 [.own 11 (i5 0), .own 57 (i5 1), .own 61 (i5 2)])), (11, some (.arr (i5 0) 39 1 (out2.Adds.map (rSl GElem.row)))), (57, some (.arr (i5 1) 4 1 (out2.Cuts.map rBool))), (61, some (.arr (i5 2) 47 1 (out2.Attrs.map (rSl GAttr.row))))], (i5 3), 136⟩) (by exact Weak.cv ⟨.inl (.inl rfl), .inl (.inl rfl), .inl (.inl rfl), .inl (.inl rfl), .inl (.inl rfl), .inl (.inl rfl), .inl (.inl rfl), trivial⟩ ⟨.inl rfl, .inl rfl, .inl rfl, .inl rfl, .inl rfl, .inl rfl, .inl rfl, trivial⟩ (Nat.le_refl _)) ?_
    refine AW.region ?_
    refine AOps.step rfl rfl rfl (OpQ.spec (sp_move rfl (.inl rfl)) _) ?_
    refine AOps.nil ?_
    refine hK11 _ ?_
    refine jb1k h6 fun p2 hp2 hk3 => ?_
    have J3 : ∀ (out6 : Ref_Act) (i11 : Nat → Nat), p2 = out6 → K10 ⟨[(2, .r (.bool first1)), (3, .ptr 3 n0 0 0), (4, .ptr 4 (n0 + 1) 0 0), (6, .ptr 6 (n0 + 2) 0 0), (7, .ptr 7 (n0 + 4) 0 0), (8, .r (.int .i64 i4))], [(3, some (.box n0 34 [.r (.sl (a1.Adds.map (rSl GElem.row))), .r (.sl (a1.Cuts.map rBool)), .r (.sl (a1.Attrs.map (rSl GAttr.row)))])), (4, some (.box (n0 + 1) 34 [.r (.sl (b1.Adds.map (rSl GElem.row))), .r (.sl (b1.Cuts.map rBool)), .r (.sl (b1.Attrs.map (rSl GAttr.row)))])), (6, some (.box (n0 + 2) 34 [.cst (.slice none 0 0), .cst (.slice none 0 0), .cst (.slice none 0 0)])), (7, some (.box (n0 + 4) 34 [.own 11 (i11 0), .own 57 (i11 1), .own 61 (i11 2)])), (11, some (.arr (i11 0) 39 1 (out6.Adds.map (rSl GElem.row)))), (57, some (.arr (i11 1) 4 1 (out6.Cuts.map rBool))), (61, some (.arr (i11 2) 47 1 (out6.Attrs.map (rSl GAttr.row))))], (i11 3), 136⟩ := by
      intro out6 i11 e
      have h7 := hk3 _ e
      refine hK10 _ ?_
      refine AW.seq_w fun K12 hK12 wK12 => ?_
      refine AW.seq_w fun K13 hK13 wK13 => ?_
      refine AW.region ?_
      refine AOps.step rfl rfl rfl (OpQ.spec (sp_fieldAddr_own (ob := .box _ _ _) rfl tf_34_0 (.inl rfl) (fun _ => rfl) rfl) _) ?_
      refine AOps.step rfl rfl rfl (OpQ.spec (ms_load_box (a := .r (.sl (b1.Adds.map (rSl GElem.row)))) rfl ts_30 (.inl rfl) rfl rfl) _) ?_
      refine AOps.step rfl rfl rfl (OpQ.spec (sp_move rfl (.inl rfl)) _) ?_
      refine ob1k h7 fun x1 ex1 h8 => ?_
      refine AOps.step rfl rfl rfl (OpQ.spec (ms_idx rfl tg_30.slice (.inl rfl) (.inl rfl) (fun _ => rfl) (fun _ => ex1)) _) ?_
      refine AOps.step rfl rfl rfl (OpQ.spec (ms_load (d := .sl (x1.map GElem.row)) rfl ts_39 (.inl rfl) rfl) _) ?_
      refine AOps.step rfl rfl rfl (OpQ.spec (ms_len rfl tg_39.slice (.inl rfl)) _) ?_
      refine AOps.step rfl rfl rfl (OpQ.spec (sp_move rfl (.inl rfl)) _) ?_
      refine AOps.nil ?_
      refine hK13 _ ?_
      refine AW.block ?_
      refine jb1k h8 fun o2 hit2 hk4 => ?_
      have J4 : ∀ (out10 : Ref_Act) (i16 : Nat → Nat), o2 = out10 → K12 ⟨[(2, .r (.bool first1)), (3, .ptr 3 n0 0 0), (4, .ptr 4 (n0 + 1) 0 0), (6, .ptr 6 (n0 + 2) 0 0), (7, .ptr 7 (n0 + 4) 0 0), (8, .r (.int .i64 i4))], [(3, some (.box n0 34 [.r (.sl (a1.Adds.map (rSl GElem.row))), .r (.sl (a1.Cuts.map rBool)), .r (.sl (a1.Attrs.map (rSl GAttr.row)))])), (4, some (.box (n0 + 1) 34 [.r (.sl (b1.Adds.map (rSl GElem.row))), .r (.sl (b1.Cuts.map rBool)), .r (.sl (b1.Attrs.map (rSl GAttr.row)))])), (6, some (.box (n0 + 2) 34 [.cst (.slice none 0 0), .cst (.slice none 0 0), .cst (.slice none 0 0)])), (7, some (.box (n0 + 4) 34 [.own 11 (i16 0), .own 57 (i16 1), .own 61 (i16 2)])), (11, some (.arr (i16 0) 39 1 (out10.Adds.map (rSl GElem.row)))), (57, some (.arr (i16 1) 4 1 (out10.Cuts.map rBool))), (61, some (.arr (i16 2) 47 1 (out10.Attrs.map (rSl GAttr.row))))], (i16 3), 136⟩ := by
        intro out10 i16 e
        have h9 := hk4 _ e
        refine hK12 _ ?_
        refine AW.seq_w fun K14 hK14 wK14 => ?_
        refine AW.region ?_
        refine AOps.step rfl rfl rfl (OpQ.spec (sp_fieldAddr_own (ob := .box _ _ _) rfl tf_34_0 (.inl rfl) (fun _ => rfl) rfl) _) ?_
        refine AOps.step rfl rfl rfl (OpQ.spec (ms_load_box (a := .own 11 (i16 0)) rfl ts_30 (.inl rfl) rfl rfl) _) ?_
        refine AOps.step rfl rfl rfl (OpQ.spec (ms_len_own rfl tg_30.slice (.inl rfl) rfl) _) ?_
        refine ob1k h9 fun k2 ek2 h10 => ?_
        refine AOps.step rfl rfl rfl (OpQ.spec (ms_sub rfl (.inl rfl) (.inl rfl) (fun _ => ek2)) _) ?_
        refine AOps.step rfl rfl rfl (OpQ.spec (sp_assign rfl (.inl rfl)) _) ?_
        refine AOps.nil ?_
        refine hK14 _ ?_
        refine AW.seq_w fun K15 hK15 wK15 => ?_
        refine AW.seq_w fun K16 hK16 wK16 => ?_
        refine AW.region ?_
        refine AOps.step rfl rfl rfl (OpQ.spec (sp_move rfl (.inl rfl)) _) ?_
        refine AOps.step rfl rfl rfl (OpQ.spec (sp_not rfl (.inl rfl)) _) ?_
        refine AOps.nil ?_
        refine hK16 _ ?_
        refine jb1k h10 fun p3 hp3 hk5 => ?_
        have J5 : ∀ (out11 : Ref_Act) (i17 : Nat → Nat), p3 = out11 → K15 ⟨[(2, .r (.bool first1)), (3, .ptr 3 n0 0 0), (4, .ptr 4 (n0 + 1) 0 0), (6, .ptr 6 (n0 + 2) 0 0), (7, .ptr 7 (n0 + 4) 0 0), (8, .r (.int .i64 i4))], [(3, some (.box n0 34 [.r (.sl (a1.Adds.map (rSl GElem.row))), .r (.sl (a1.Cuts.map rBool)), .r (.sl (a1.Attrs.map (rSl GAttr.row)))])), (4, some (.box (n0 + 1) 34 [.r (.sl (b1.Adds.map (rSl GElem.row))), .r (.sl (b1.Cuts.map rBool)), .r (.sl (b1.Attrs.map (rSl GAttr.row)))])), (6, some (.box (n0 + 2) 34 [.cst (.slice none 0 0), .cst (.slice none 0 0), .cst (.slice none 0 0)])), (7, some (.box (n0 + 4) 34 [.own 11 (i17 0), .own 57 (i17 1), .own 61 (i17 2)])), (11, some (.arr (i17 0) 39 1 (out11.Adds.map (rSl GElem.row)))), (57, some (.arr (i17 1) 4 1 (out11.Cuts.map rBool))), (61, some (.arr (i17 2) 47 1 (out11.Attrs.map (rSl GAttr.row))))], (i17 3), 136⟩ := by
          intro out11 i17 e
          have h11 := hk5 _ e
          refine hK15 _ ?_
          refine AW.seq_w fun K17 hK17 wK17 => ?_
          refine AW.seq_w fun K18 hK18 wK18 => ?_
          refine AW.region ?_
          refine AOps.step rfl rfl rfl (OpQ.spec (sp_move rfl (.inl rfl)) _) ?_
          refine AOps.step rfl rfl rfl (OpQ.spec (sp_fieldAddr_own (ob := .box _ _ _) rfl tf_34_1 (.inl rfl) (fun _ => rfl) rfl) _) ?_
          refine AOps.step rfl rfl rfl (OpQ.spec (ms_load_box (a := .r (.sl (a1.Cuts.map rBool))) rfl ts_31 (.inl rfl) rfl rfl) _) ?_
          refine AOps.step rfl rfl rfl (OpQ.spec (ms_len rfl tg_31.slice (.inl rfl)) _) ?_
          refine AOps.step rfl rfl rfl (OpQ.spec (sp_eql rfl (.inl rfl) (.inl rfl)) _) ?_
          refine AOps.step rfl rfl rfl (OpQ.spec (sp_move rfl (.inl rfl)) _) ?_
          refine AOps.stepW (.one rfl rfl rfl) rfl rfl (OpQ.spec (sp_fieldAddr_own (ob := .box _ _ _) rfl tf_34_1 (.inl rfl) (fun _ => rfl) rfl) _) ?_
          refine AOps.stepW (.one rfl rfl rfl) rfl rfl (OpQ.spec (ms_load_box (a := .r (.sl (b1.Cuts.map rBool))) rfl ts_31 (.inr ⟨_, (by exact id), rfl⟩) rfl rfl) _) ?_
          refine AOps.stepW (.one rfl rfl rfl) rfl rfl (OpQ.spec (sp_move rfl (.inl rfl)) _) ?_
          refine ob1k h11 fun x5 ex5 h12 => ?_
          refine AOps.stepW (.one rfl rfl rfl) rfl rfl (OpQ.spec (ms_idx rfl tg_31.slice (.inr ⟨_, (by exact id), rfl⟩) (.inr ⟨_, (by exact id), rfl⟩) (fun _ => rfl) (gdt ex5)) _) ?_
          refine AOps.stepW (.one rfl rfl rfl) rfl rfl (OpQ.spec (ms_load (d := .bool x5) rfl ts_4 (.inr ⟨_, (by exact id), rfl⟩) rfl) _) ?_
          refine AOps.step rfl rfl rfl (OpQ.spec (sp_or rfl (.inl rfl) (.inr ⟨_, (by exact id), rfl⟩)) _) ?_
          refine AOps.nil ?_
          refine hK18 _ ?_
          refine AW.cond rfl (fun hc2 => ?_) (fun hc2 => ?_)
          · have h13 := ite_t hc2 h12
            refine AW.exit ?_
            exact wK8 _ _ ((by exact Weak.cv ⟨.inl (.inl rfl), .inl (.inl rfl), .inl (.inl rfl), .inl (.inl rfl), .inl (.inl rfl), .inl (.inl rfl), trivial⟩ ⟨.inl rfl, .inl rfl, .inl rfl, .inl rfl, .inl rfl, .inl rfl, .inl rfl, trivial⟩ (Nat.le_refl _))) (J2 _ (vec [(i17 0), (i17 1), (i17 2), (i17 3)]) (Option.some.inj h13).symm)
          · have h13 := ite_f hc2 h12
            refine AW.skip ?_
            refine hK17 _ ?_
            refine AW.seq_w fun K19 hK19 wK19 => ?_
            refine AW.region ?_
            refine AOps.step rfl rfl rfl (OpQ.spec (sp_fieldAddr_own (ob := .box _ _ _) rfl tf_34_2 (.inl rfl) (fun _ => rfl) rfl) _) ?_
            refine AOps.step rfl rfl rfl (OpQ.spec (ms_load_box (a := .r (.sl (a1.Attrs.map (rSl GAttr.row)))) rfl ts_32 (.inl rfl) rfl rfl) _) ?_
            refine AOps.step rfl rfl rfl (OpQ.spec (sp_move rfl (.inl rfl)) _) ?_
            refine ob1k h13 fun x6 ex6 h14 => ?_
            refine AOps.step rfl rfl rfl (OpQ.spec (ms_idx rfl tg_32.slice (.inl rfl) (.inl rfl) (fun _ => rfl) (fun _ => ex6)) _) ?_
            refine AOps.step rfl rfl rfl (OpQ.spec (ms_load (d := .sl (x6.map GAttr.row)) rfl ts_47 (.inl rfl) rfl) _) ?_
            refine AOps.step rfl rfl rfl (OpQ.spec (sp_assign rfl (.inl rfl)) _) ?_
            refine AOps.nil ?_
            refine hK19 _ ?_
            refine AW.seq_w fun K20 hK20 wK20 => ?_
            refine AW.seq_w fun K21 hK21 wK21 => ?_
            refine AW.weak (s' := ⟨[(2, .r (.bool first1)), (3, .ptr 3 n0 0 0), (4, .ptr 4 (n0 + 1) 0 0), (6, .ptr 6 (n0 + 2) 0 0), (7, .ptr 7 (n0 + 4) 0 0), (8, .r (.int .i64 i4)), (10, .r (.sl (x6.map GAttr.row)))], [(3, some (.box n0 34 [.r (.sl (a1.Adds.map (rSl GElem.row))), .r (.sl (a1.Cuts.map rBool)), .r (.sl (a1.Attrs.map (rSl GAttr.row)))])), (4, some (.box (n0 + 1) 34 [.r (.sl (b1.Adds.map (rSl GElem.row))), .r (.sl (b1.Cuts.map rBool)), .r (.sl (b1.Attrs.map (rSl GAttr.row)))])), (6, some (.box (n0 + 2) 34 [.cst (.slice none 0 0), .cst (.slice none 0 0), .cst (.slice none 0 0)])), (7, some (.box (n0 + 4) 34 [.own 11 (i17 0), .own 57 (i17 1), .own 61 (i17 2)])), (11, some (.arr (i17 0) 39 1 (out11.Adds.map (rSl GElem.row)))), (57, some (.arr (i17 1) 4 1 (out11.Cuts.map rBool))), (61, some (.arr (i17 2) 47 1 (out11.Attrs.map (rSl GAttr.row))))], (i17 3), 136⟩) (by exact Weak.cv ⟨.inl (.inl rfl), .inl (.inl rfl), .inl (.inl rfl), .inl (.inl rfl), .inl (.inl rfl), .inl (.inl rfl), .inl (.inl rfl), trivial⟩ ⟨.inl rfl, .inl rfl, .inl rfl, .inl rfl, .inl rfl, .inl rfl, .inl rfl, trivial⟩ (Nat.le_refl _)) ?_
            refine AW.region ?_
            refine AOps.step rfl rfl rfl (OpQ.spec (sp_move rfl (.inl rfl)) _) ?_
            refine AOps.nil ?_
            refine hK21 _ ?_
            refine jb1k h14 fun p4 hp4 hk6 => ?_
            have J6 : ∀ (attrs1 : List GAttr) (i18 : Nat → Nat), p4 = attrs1 → K20 ⟨[(2, .r (.bool first1)), (3, .ptr 3 n0 0 0), (4, .ptr 4 (n0 + 1) 0 0), (6, .ptr 6 (n0 + 2) 0 0), (7, .ptr 7 (n0 + 4) 0 0), (8, .r (.int .i64 i4)), (10, .r (.sl (attrs1.map GAttr.row)))], [(3, some (.box n0 34 [.r (.sl (a1.Adds.map (rSl GElem.row))), .r (.sl (a1.Cuts.map rBool)), .r (.sl (a1.Attrs.map (rSl GAttr.row)))])), (4, some (.box (n0 + 1) 34 [.r (.sl (b1.Adds.map (rSl GElem.row))), .r (.sl (b1.Cuts.map rBool)), .r (.sl (b1.Attrs.map (rSl GAttr.row)))])), (6, some (.box (n0 + 2) 34 [.cst (.slice none 0 0), .cst (.slice none 0 0), .cst (.slice none 0 0)])), (7, some (.box (n0 + 4) 34 [.own 11 (i17 0), .own 57 (i17 1), .own 61 (i17 2)])), (11, some (.arr (i17 0) 39 1 (out11.Adds.map (rSl GElem.row)))), (57, some (.arr (i17 1) 4 1 (out11.Cuts.map rBool))), (61, some (.arr (i17 2) 47 1 (out11.Attrs.map (rSl GAttr.row))))], (i18 0), 136⟩ := by
              intro attrs1 i18 e
              have h15 := hk6 _ e
              refine hK20 _ ?_
              refine ob1k h15 fun l1 el1 h16 => ?_
              refine ob1k h16 fun x7 ex7 h17 => ?_
              refine ob1k h17 fun l2 el2 h18 => ?_
              refine ob1k h18 fun l3 el3 h19 => ?_
              refine AW.regionP 19 [⟨some 114, (fun _ => .ptr 7 (n0 + 4) 0 0), none, []⟩, ⟨some 115, (fun _ => .own 11 (i17 0)), none, []⟩, ⟨some 116, (fun G1 => .own 116 (G1 2)), some (116, (fun G1 => some (.arr (G1 2) 39 1 ([[]].map (rSl GElem.row))))), [2]⟩, ⟨some 117, (fun G1 => .own 11 (G1 3)), some (11, (fun G1 => some (.arr (G1 3) 39 1 (l1.map (rSl GElem.row))))), [3]⟩, ⟨some 118, (fun _ => .ptr 7 (n0 + 4) 0 1), none, []⟩, ⟨some 119, (fun _ => .own 57 (i17 1)), none, []⟩, ⟨some 120, (fun _ => .ptr 3 n0 0 1), none, []⟩, ⟨some 121, (fun _ => .r (.sl (a1.Cuts.map rBool))), none, []⟩, ⟨some 122, (fun _ => .r (.int .i64 i4)), none, []⟩, ⟨some 123, (fun _ => .rop (rBool x7) 0), none, []⟩, ⟨some 124, (fun _ => .r (.bool x7)), none, []⟩, ⟨some 125, (fun G1 => .own 125 (G1 11)), some (125, (fun G1 => some (.arr (G1 11) 4 1 ([x7].map rBool)))), [11]⟩, ⟨some 126, (fun G1 => .own 57 (G1 12)), some (57, (fun G1 => some (.arr (G1 12) 4 1 (l2.map rBool)))), [12]⟩, ⟨some 127, (fun _ => .ptr 7 (n0 + 4) 0 2), none, []⟩, ⟨some 128, (fun _ => .own 61 (i17 2)), none, []⟩, ⟨some 129, (fun _ => .r (.sl (attrs1.map GAttr.row))), none, []⟩, ⟨some 130, (fun G1 => .own 130 (G1 16)), some (130, (fun G1 => some (.arr (G1 16) 47 1 ([attrs1].map (rSl GAttr.row))))), [16]⟩, ⟨some 131, (fun G1 => .own 61 (G1 17)), some (61, (fun G1 => some (.arr (G1 17) 47 1 (l3.map (rSl GAttr.row))))), [17]⟩, ⟨some 132, (fun _ => .ptr 7 (n0 + 4) 0 0), none, []⟩] hmix (by kernel_rfl) (by exact ⟨fun _ _ h => ⟨rfl, fun _ _ e => by cases e⟩, fun _ _ h => ⟨rfl, fun _ _ e => by cases e⟩, fun _ _ h => ⟨by simp only [h 2 rfl], fun _ _ e => by cases e; simp only [h 2 rfl]⟩, fun _ _ h => ⟨by simp only [h 3 rfl], fun _ _ e => by cases e; simp only [h 3 rfl]⟩, fun _ _ h => ⟨rfl, fun _ _ e => by cases e⟩, fun _ _ h => ⟨rfl, fun _ _ e => by cases e⟩, fun _ _ h => ⟨rfl, fun _ _ e => by cases e⟩, fun _ _ h => ⟨rfl, fun _ _ e => by cases e⟩, fun _ _ h => ⟨rfl, fun _ _ e => by cases e⟩, fun _ _ h => ⟨rfl, fun _ _ e => by cases e⟩, fun _ _ h => ⟨rfl, fun _ _ e => by cases e⟩, fun _ _ h => ⟨by simp only [h 11 rfl], fun _ _ e => by cases e; simp only [h 11 rfl]⟩, fun _ _ h => ⟨by simp only [h 12 rfl], fun _ _ e => by cases e; simp only [h 12 rfl]⟩, fun _ _ h => ⟨rfl, fun _ _ e => by cases e⟩, fun _ _ h => ⟨rfl, fun _ _ e => by cases e⟩, fun _ _ h => ⟨rfl, fun _ _ e => by cases e⟩, fun _ _ h => ⟨by simp only [h 16 rfl], fun _ _ e => by cases e; simp only [h 16 rfl]⟩, fun _ _ h => ⟨by simp only [h 17 rfl], fun _ _ e => by cases e; simp only [h 17 rfl]⟩, fun _ _ h => ⟨rfl, fun _ _ e => by cases e⟩, trivial⟩) rfl (by exact ⟨Ob.quiet (n1 := fun n => n) rfl rfl (by intro d h; cases h; rfl) rfl (fun _ => [(7, .ptr 7 (n0 + 4) 0 0)]) (fun _ => [(7, some (.box (n0 + 4) 34 [.own 11 (i17 0), .own 57 (i17 1), .own 61 (i17 2)]))]) (fun D G1 hr => ⟨inE_base rfl rfl, trivial⟩) (fun D G1 hr => ⟨inH_base rfl rfl, trivial⟩) (fun _ _ => rfl) (fun G1 e h' n => OpQ.spec (v := .ptr 7 (n0 + 4) 0 0) (sp_fieldAddr_own (ob := .box _ _ _) rfl tf_34_0 (.inl rfl) (fun _ => rfl) rfl) _),
                  Ob.quiet (n1 := fun n => n) rfl rfl (by intro d h; cases h; rfl) rfl (fun _ => [(114, .ptr 7 (n0 + 4) 0 0)]) (fun _ => [(7, some (.box (n0 + 4) 34 [.own 11 (i17 0), .own 57 (i17 1), .own 61 (i17 2)]))]) (fun D G1 hr => ⟨inE_op hr 0 rfl rfl (by kernel_rfl) rfl rfl, trivial⟩) (fun D G1 hr => ⟨inH_base rfl rfl, trivial⟩) (fun _ _ => rfl) (fun G1 e h' n => OpQ.spec (v := .own 11 (i17 0)) (ms_load_box (a := .own 11 (i17 0)) rfl ts_30 (.inl rfl) rfl rfl) _),
                  Ob.make (n1 := fun n => n + 1) rfl rfl (by intro d h; cases h; rfl) rfl (fun _ => []) (fun _ => []) (fun D G1 hr => trivial) (fun D G1 hr => trivial) (fun G1 e h' n => ms_lit 116 rfl tg_30 (f := (rSl GElem.row)) (l := ([[]] : List (List GElem))) ⟨rfl, ⟨_, (.inl rfl), rfl⟩, trivial⟩ rfl (fun _ => rfl) rfl),
                  Ob.make (n1 := fun n => n + 1) rfl rfl (by intro d h; cases h; rfl) rfl (fun G1 => [(115, .own 11 (i17 0)), (116, .own 116 (G1 2))]) (fun G1 => [(11, some (.arr (i17 0) 39 1 (out11.Adds.map (rSl GElem.row)))), (116, some (.arr (G1 2) 39 1 ([[]].map (rSl GElem.row))))]) (fun D G1 hr => ⟨inE_op hr 1 rfl rfl (by kernel_rfl) rfl rfl, inE_op hr 2 rfl rfl (by kernel_rfl) rfl rfl, trivial⟩) (fun D G1 hr => ⟨inH_baseL hr (by kernel_rfl) rfl, inH_op hr 2 rfl rfl (by kernel_rfl) (by kernel_rfl) rfl, trivial⟩) (fun G1 e h' n => ms_app rfl tg_30 (.inl rfl) rfl (.inr (.inl ⟨_, _, (.inl rfl), rfl⟩)) el1),
                  Ob.quiet (n1 := fun n => n) rfl rfl (by intro d h; cases h; rfl) rfl (fun _ => [(7, .ptr 7 (n0 + 4) 0 0)]) (fun _ => [(7, some (.box (n0 + 4) 34 [.own 11 (i17 0), .own 57 (i17 1), .own 61 (i17 2)]))]) (fun D G1 hr => ⟨inE_base rfl rfl, trivial⟩) (fun D G1 hr => ⟨inH_base rfl rfl, trivial⟩) (fun _ _ => rfl) (fun G1 e h' n => OpQ.spec (v := .ptr 7 (n0 + 4) 0 1) (sp_fieldAddr_own (ob := .box _ _ _) rfl tf_34_1 (.inl rfl) (fun _ => rfl) rfl) _),
                  Ob.quiet (n1 := fun n => n) rfl rfl (by intro d h; cases h; rfl) rfl (fun _ => [(118, .ptr 7 (n0 + 4) 0 1)]) (fun _ => [(7, some (.box (n0 + 4) 34 [.own 11 (i17 0), .own 57 (i17 1), .own 61 (i17 2)]))]) (fun D G1 hr => ⟨inE_op hr 4 rfl rfl (by kernel_rfl) rfl rfl, trivial⟩) (fun D G1 hr => ⟨inH_base rfl rfl, trivial⟩) (fun _ _ => rfl) (fun G1 e h' n => OpQ.spec (v := .own 57 (i17 1)) (ms_load_box (a := .own 57 (i17 1)) rfl ts_31 (.inl rfl) rfl rfl) _),
                  Ob.quiet (n1 := fun n => n) rfl rfl (by intro d h; cases h; rfl) rfl (fun _ => [(3, .ptr 3 n0 0 0)]) (fun _ => [(3, some (.box n0 34 [.r (.sl (a1.Adds.map (rSl GElem.row))), .r (.sl (a1.Cuts.map rBool)), .r (.sl (a1.Attrs.map (rSl GAttr.row)))]))]) (fun D G1 hr => ⟨inE_base rfl rfl, trivial⟩) (fun D G1 hr => ⟨inH_base rfl rfl, trivial⟩) (fun _ _ => rfl) (fun G1 e h' n => OpQ.spec (v := .ptr 3 n0 0 1) (sp_fieldAddr_own (ob := .box _ _ _) rfl tf_34_1 (.inl rfl) (fun _ => rfl) rfl) _),
                  Ob.quiet (n1 := fun n => n) rfl rfl (by intro d h; cases h; rfl) rfl (fun _ => [(120, .ptr 3 n0 0 1)]) (fun _ => [(3, some (.box n0 34 [.r (.sl (a1.Adds.map (rSl GElem.row))), .r (.sl (a1.Cuts.map rBool)), .r (.sl (a1.Attrs.map (rSl GAttr.row)))]))]) (fun D G1 hr => ⟨inE_op hr 6 rfl rfl (by kernel_rfl) rfl rfl, trivial⟩) (fun D G1 hr => ⟨inH_base rfl rfl, trivial⟩) (fun _ _ => rfl) (fun G1 e h' n => OpQ.spec (v := .r (.sl (a1.Cuts.map rBool))) (ms_load_box (a := .r (.sl (a1.Cuts.map rBool))) rfl ts_31 (.inl rfl) rfl rfl) _),
                  Ob.quiet (n1 := fun n => n) rfl rfl (by intro d h; cases h; rfl) rfl (fun _ => [(8, .r (.int .i64 i4))]) (fun _ => []) (fun D G1 hr => ⟨inE_base rfl rfl, trivial⟩) (fun D G1 hr => trivial) (fun _ _ => rfl) (fun G1 e h' n => OpQ.spec (v := .r (.int .i64 i4)) (sp_move rfl (.inl rfl)) _),
                  Ob.quiet (n1 := fun n => n) rfl rfl (by intro d h; cases h; rfl) rfl (fun _ => [(121, .r (.sl (a1.Cuts.map rBool))), (122, .r (.int .i64 i4))]) (fun _ => []) (fun D G1 hr => ⟨inE_op hr 7 rfl rfl (by kernel_rfl) rfl rfl, inE_op hr 8 rfl rfl (by kernel_rfl) rfl rfl, trivial⟩) (fun D G1 hr => trivial) (fun _ _ => rfl) (fun G1 e h' n => OpQ.spec (v := .rop (rBool x7) 0) (ms_idx rfl tg_31.slice (.inl rfl) (.inl rfl) (fun _ => rfl) (fun _ => ex7)) _),
                  Ob.quiet (n1 := fun n => n) rfl rfl (by intro d h; cases h; rfl) rfl (fun _ => [(123, .rop (rBool x7) 0)]) (fun _ => []) (fun D G1 hr => ⟨inE_op hr 9 rfl rfl (by kernel_rfl) rfl rfl, trivial⟩) (fun D G1 hr => trivial) (fun _ _ => rfl) (fun G1 e h' n => OpQ.spec (v := .r (.bool x7)) (ms_load (d := .bool x7) rfl ts_4 (.inl rfl) rfl) _),
                  Ob.make (n1 := fun n => n + 1) rfl rfl (by intro d h; cases h; rfl) rfl (fun _ => [(124, .r (.bool x7))]) (fun _ => []) (fun D G1 hr => ⟨inE_op hr 10 rfl rfl (by kernel_rfl) rfl rfl, trivial⟩) (fun D G1 hr => trivial) (fun G1 e h' n => ms_lit 125 rfl tg_31 (f := rBool) (l := ([x7] : List Bool)) ⟨rfl, ⟨_, (.inl rfl), rfl⟩, trivial⟩ rfl (fun _ => rfl) rfl),
                  Ob.make (n1 := fun n => n + 1) rfl rfl (by intro d h; cases h; rfl) rfl (fun G1 => [(119, .own 57 (i17 1)), (125, .own 125 (G1 11))]) (fun G1 => [(57, some (.arr (i17 1) 4 1 (out11.Cuts.map rBool))), (125, some (.arr (G1 11) 4 1 ([x7].map rBool)))]) (fun D G1 hr => ⟨inE_op hr 5 rfl rfl (by kernel_rfl) rfl rfl, inE_op hr 11 rfl rfl (by kernel_rfl) rfl rfl, trivial⟩) (fun D G1 hr => ⟨inH_baseL hr (by kernel_rfl) rfl, inH_op hr 11 rfl rfl (by kernel_rfl) (by kernel_rfl) rfl, trivial⟩) (fun G1 e h' n => ms_app rfl tg_31 (.inl rfl) rfl (.inr (.inl ⟨_, _, (.inl rfl), rfl⟩)) el2),
                  Ob.quiet (n1 := fun n => n) rfl rfl (by intro d h; cases h; rfl) rfl (fun _ => [(7, .ptr 7 (n0 + 4) 0 0)]) (fun _ => [(7, some (.box (n0 + 4) 34 [.own 11 (i17 0), .own 57 (i17 1), .own 61 (i17 2)]))]) (fun D G1 hr => ⟨inE_base rfl rfl, trivial⟩) (fun D G1 hr => ⟨inH_base rfl rfl, trivial⟩) (fun _ _ => rfl) (fun G1 e h' n => OpQ.spec (v := .ptr 7 (n0 + 4) 0 2) (sp_fieldAddr_own (ob := .box _ _ _) rfl tf_34_2 (.inl rfl) (fun _ => rfl) rfl) _),
                  Ob.quiet (n1 := fun n => n) rfl rfl (by intro d h; cases h; rfl) rfl (fun _ => [(127, .ptr 7 (n0 + 4) 0 2)]) (fun _ => [(7, some (.box (n0 + 4) 34 [.own 11 (i17 0), .own 57 (i17 1), .own 61 (i17 2)]))]) (fun D G1 hr => ⟨inE_op hr 13 rfl rfl (by kernel_rfl) rfl rfl, trivial⟩) (fun D G1 hr => ⟨inH_base rfl rfl, trivial⟩) (fun _ _ => rfl) (fun G1 e h' n => OpQ.spec (v := .own 61 (i17 2)) (ms_load_box (a := .own 61 (i17 2)) rfl ts_32 (.inl rfl) rfl rfl) _),
                  Ob.quiet (n1 := fun n => n) rfl rfl (by intro d h; cases h; rfl) rfl (fun _ => [(10, .r (.sl (attrs1.map GAttr.row)))]) (fun _ => []) (fun D G1 hr => ⟨inE_base rfl rfl, trivial⟩) (fun D G1 hr => trivial) (fun _ _ => rfl) (fun G1 e h' n => OpQ.spec (v := .r (.sl (attrs1.map GAttr.row))) (sp_move rfl (.inl rfl)) _),
                  Ob.make (n1 := fun n => n + 1) rfl rfl (by intro d h; cases h; rfl) rfl (fun _ => [(129, .r (.sl (attrs1.map GAttr.row)))]) (fun _ => []) (fun D G1 hr => ⟨inE_op hr 15 rfl rfl (by kernel_rfl) rfl rfl, trivial⟩) (fun D G1 hr => trivial) (fun G1 e h' n => ms_lit 130 rfl tg_32 (f := (rSl GAttr.row)) (l := ([attrs1] : List (List GAttr))) ⟨rfl, ⟨_, (.inl rfl), rfl⟩, trivial⟩ rfl (fun _ => rfl) rfl),
                  Ob.make (n1 := fun n => n + 1) rfl rfl (by intro d h; cases h; rfl) rfl (fun G1 => [(128, .own 61 (i17 2)), (130, .own 130 (G1 16))]) (fun G1 => [(61, some (.arr (i17 2) 47 1 (out11.Attrs.map (rSl GAttr.row)))), (130, some (.arr (G1 16) 47 1 ([attrs1].map (rSl GAttr.row))))]) (fun D G1 hr => ⟨inE_op hr 14 rfl rfl (by kernel_rfl) rfl rfl, inE_op hr 16 rfl rfl (by kernel_rfl) rfl rfl, trivial⟩) (fun D G1 hr => ⟨inH_baseL hr (by kernel_rfl) rfl, inH_op hr 16 rfl rfl (by kernel_rfl) (by kernel_rfl) rfl, trivial⟩) (fun G1 e h' n => ms_app rfl tg_32 (.inl rfl) rfl (.inr (.inl ⟨_, _, (.inl rfl), rfl⟩)) el3),
                  Ob.quiet (n1 := fun n => n) rfl rfl (by intro d h; cases h; rfl) rfl (fun _ => [(7, .ptr 7 (n0 + 4) 0 0)]) (fun _ => [(7, some (.box (n0 + 4) 34 [.own 11 (i17 0), .own 57 (i17 1), .own 61 (i17 2)]))]) (fun D G1 hr => ⟨inE_base rfl rfl, trivial⟩) (fun D G1 hr => ⟨inH_base rfl rfl, trivial⟩) (fun _ _ => rfl) (fun G1 e h' n => OpQ.spec (v := .ptr 7 (n0 + 4) 0 0) (sp_fieldAddr_own (ob := .box _ _ _) rfl tf_34_0 (.inl rfl) (fun _ => rfl) rfl) _),
                  trivial⟩) fun G1 n1 => ?_
              refine AOps.weak (s' := ⟨[(2, .r (.bool first1)), (3, .ptr 3 n0 0 0), (4, .ptr 4 (n0 + 1) 0 0), (6, .ptr 6 (n0 + 2) 0 0), (7, .ptr 7 (n0 + 4) 0 0), (8, .r (.int .i64 i4)), (10, .r (.sl (attrs1.map GAttr.row))), (114, .ptr 7 (n0 + 4) 0 0), (116, .own 116 (G1 2)), (117, .own 11 (G1 3)), (118, .ptr 7 (n0 + 4) 0 1), (120, .ptr 3 n0 0 1), (121, .r (.sl (a1.Cuts.map rBool))), (122, .r (.int .i64 i4)), (123, .rop (rBool x7) 0), (124, .r (.bool x7)), (125, .own 125 (G1 11)), (126, .own 57 (G1 12)), (127, .ptr 7 (n0 + 4) 0 2), (129, .r (.sl (attrs1.map GAttr.row))), (130, .own 130 (G1 16)), (131, .own 61 (G1 17)), (132, .ptr 7 (n0 + 4) 0 0)], [(3, some (.box n0 34 [.r (.sl (a1.Adds.map (rSl GElem.row))), .r (.sl (a1.Cuts.map rBool)), .r (.sl (a1.Attrs.map (rSl GAttr.row)))])), (4, some (.box (n0 + 1) 34 [.r (.sl (b1.Adds.map (rSl GElem.row))), .r (.sl (b1.Cuts.map rBool)), .r (.sl (b1.Attrs.map (rSl GAttr.row)))])), (6, some (.box (n0 + 2) 34 [.cst (.slice none 0 0), .cst (.slice none 0 0), .cst (.slice none 0 0)])), (7, some (.box (n0 + 4) 34 [.own 11 (i17 0), .own 57 (i17 1), .own 61 (i17 2)])), (11, some (.arr (G1 3) 39 1 (l1.map (rSl GElem.row)))), (57, some (.arr (G1 12) 4 1 (l2.map rBool))), (61, some (.arr (G1 17) 47 1 (l3.map (rSl GAttr.row)))), (116, some (.arr (G1 2) 39 1 ([[]].map (rSl GElem.row)))), (125, some (.arr (G1 11) 4 1 ([x7].map rBool))), (130, some (.arr (G1 16) 47 1 ([attrs1].map (rSl GAttr.row))))], n1, 136⟩) (by exact Weak.cv ⟨.inl (.inl rfl), .inl (.inl rfl), .inl (.inl rfl), .inl (.inl rfl), .inl (.inl rfl), .inl (.inl rfl), .inl (.inl rfl), .inl (.inl rfl), .inl (.inl rfl), .inl (.inl rfl), .inl (.inl rfl), .inl (.inl rfl), .inl (.inl rfl), .inl (.inl rfl), .inl (.inl rfl), .inl (.inl rfl), .inl (.inl rfl), .inl (.inl rfl), .inl (.inl rfl), .inl (.inl rfl), .inl (.inl rfl), .inl (.inl rfl), .inl (.inl rfl), trivial⟩ ⟨.inl rfl, .inl rfl, .inl rfl, .inl rfl, .inl rfl, .inl rfl, .inl rfl, .inl rfl, .inl rfl, .inl rfl, trivial⟩ (Nat.le_refl _)) ?_
              refine AOps.step0 rfl rfl (ms_store_box (ds := [.own 11 (G1 3), .own 57 (i17 1), .own 61 (i17 2)]) rfl tz_30 (.inl rfl) rfl (.inl rfl) rfl rfl rfl rfl) ?_
              refine AOps.step rfl rfl rfl (OpQ.spec (sp_fieldAddr_own (ob := .box _ _ _) rfl tf_34_1 (.inl rfl) (fun _ => rfl) rfl) _) ?_
              refine AOps.step0 rfl rfl (ms_store_box (ds := [.own 11 (G1 3), .own 57 (G1 12), .own 61 (i17 2)]) rfl tz_31 (.inl rfl) rfl (.inl rfl) rfl rfl rfl rfl) ?_
              refine AOps.step rfl rfl rfl (OpQ.spec (sp_fieldAddr_own (ob := .box _ _ _) rfl tf_34_2 (.inl rfl) (fun _ => rfl) rfl) _) ?_
              refine AOps.step0 rfl rfl (ms_store_box (ds := [.own 11 (G1 3), .own 57 (G1 12), .own 61 (G1 17)]) rfl tz_32 (.inl rfl) rfl (.inl rfl) rfl rfl rfl rfl) ?_
              refine AOps.nil ?_
              exact wK8 _ _ ((by exact Weak.cv ⟨.inl (.inl rfl), .inl (.inl rfl), .inl (.inl rfl), .inl (.inl rfl), .inl (.inl rfl), .inl (.inl rfl), trivial⟩ ⟨.inl rfl, .inl rfl, .inl rfl, .inl rfl, .inl rfl, .inl rfl, .inl rfl, trivial⟩ (Nat.le_refl _))) (J2 _ (vec [(G1 3), (G1 12), (G1 17), n1]) (Option.some.inj h19).symm)
            refine AW.cond rfl (fun hc3 => ?_) (fun hc3 => ?_)
            · have h20 := ite_t hc3 hp4
              refine AW.region ?_
              refine AOps.step rfl rfl rfl (OpQ.spec (sp_move rfl (.inl rfl)) _) ?_
              refine AOps.step rfl rfl rfl (OpQ.spec (sp_fieldAddr_own (ob := .box _ _ _) rfl tf_34_2 (.inl rfl) (fun _ => rfl) rfl) _) ?_
              refine AOps.step rfl rfl rfl (OpQ.spec (ms_load_box (a := .r (.sl (b1.Attrs.map (rSl GAttr.row)))) rfl ts_32 (.inl rfl) rfl rfl) _) ?_
              refine AOps.step rfl rfl rfl (OpQ.spec (sp_move rfl (.inl rfl)) _) ?_
              refine ob1k h20 fun x8 ex8 h21 => ?_
              refine AOps.step rfl rfl rfl (OpQ.spec (ms_idx rfl tg_32.slice (.inl rfl) (.inl rfl) (fun _ => rfl) (fun _ => ex8)) _) ?_
              refine AOps.step rfl rfl rfl (OpQ.spec (ms_load (d := .sl (x8.map GAttr.row)) rfl ts_47 (.inl rfl) rfl) _) ?_
              refine ob1k h21 fun attrs2 eattrs2 h22 => ?_
              refine AOps.step rfl rfl rfl (sp_callS (r := .r (.sl (attrs2.map GAttr.row))) (caps := []) (bs := [.r (.sl (x6.map GAttr.row)), .r (.sl (x8.map GAttr.row))]) rfl (.inl rfl) rfl ⟨.inl ⟨(.inl rfl), rfl⟩, .inl ⟨(.inl rfl), rfl⟩, trivial⟩ (fun _ => w_ref_Lacking (eattrs2))) ?_
              refine AOps.step rfl rfl rfl (OpQ.spec (sp_assign rfl (.inl rfl)) _) ?_
              refine AOps.nil ?_
              exact wK20 _ _ ((by exact Weak.cv ⟨.inl (.inl rfl), .inl (.inl rfl), .inl (.inl rfl), .inl (.inl rfl), .inl (.inl rfl), .inl (.inl rfl), .inl (.inl rfl), trivial⟩ ⟨.inl rfl, .inl rfl, .inl rfl, .inl rfl, .inl rfl, .inl rfl, .inl rfl, trivial⟩ (Nat.le_refl _))) (J6 _ (vec [(i17 3)]) (Option.some.inj h22).symm)
            · have h20 := ite_f hc3 hp4
              refine AW.skip ?_
              exact wK20 _ _ ((by exact Weak.cv ⟨.inl (.inl rfl), .inl (.inl rfl), .inl (.inl rfl), .inl (.inl rfl), .inl (.inl rfl), .inl (.inl rfl), .inl (.inl rfl), trivial⟩ ⟨.inl rfl, .inl rfl, .inl rfl, .inl rfl, .inl rfl, .inl rfl, .inl rfl, trivial⟩ (Nat.le_refl _))) (J6 _ (vec [(i17 3)]) (Option.some.inj h20).symm)
        refine AW.cond rfl (fun hc4 => ?_) (fun hc4 => ?_)
        · have h23 := ite_t hc4 hp3
          refine ob1k h23 fun x9 ex9 h24 => ?_
          refine ob1k h24 fun l4 el4 h25 => ?_
          refine ob1k h25 fun x10 ex10 h26 => ?_
          refine ob1k h26 fun l5 el5 h27 => ?_
          refine AW.regionP 16 [⟨some 72, (fun _ => .ptr 7 (n0 + 4) 0 0), none, []⟩, ⟨some 73, (fun _ => .own 11 (i16 0)), none, []⟩, ⟨some 74, (fun _ => .r (.int .i64 k2)), none, []⟩, ⟨some 75, (fun G2 => .own 75 (G2 3)), some (75, (fun G2 => some (.arr (G2 3) 113 3 (([] : List GElem).map GElem.row)))), [3]⟩, ⟨some 76, (fun _ => .ptr 7 (n0 + 4) 0 0), none, []⟩, ⟨some 77, (fun _ => .own 11 (i16 0)), none, []⟩, ⟨some 78, (fun _ => .r (.int .i64 k2)), none, []⟩, ⟨some 79, (fun _ => .ptr 11 (i16 0) k2.toNat 0), none, []⟩, ⟨some 80, (fun _ => .r (.sl (x9.map GElem.row))), none, []⟩, ⟨some 81, (fun G2 => .own 75 (G2 9)), some (75, (fun G2 => some (.arr (G2 9) 113 3 (l4.map GElem.row)))), [9]⟩, ⟨some 82, (fun _ => .ptr 3 n0 0 0), none, []⟩, ⟨some 83, (fun _ => .r (.sl (a1.Adds.map (rSl GElem.row)))), none, []⟩, ⟨some 84, (fun _ => .r (.int .i64 i4)), none, []⟩, ⟨some 85, (fun _ => .rop ((rSl GElem.row) x10) 0), none, []⟩, ⟨some 86, (fun _ => .r (.sl (x10.map GElem.row))), none, []⟩, ⟨some 87, (fun G2 => .own 75 (G2 15)), some (75, (fun G2 => some (.arr (G2 15) 113 3 (l5.map GElem.row)))), [15]⟩] hmix (by kernel_rfl) (by exact ⟨fun _ _ h => ⟨rfl, fun _ _ e => by cases e⟩, fun _ _ h => ⟨rfl, fun _ _ e => by cases e⟩, fun _ _ h => ⟨rfl, fun _ _ e => by cases e⟩, fun _ _ h => ⟨by simp only [h 3 rfl], fun _ _ e => by cases e; simp only [h 3 rfl]⟩, fun _ _ h => ⟨rfl, fun _ _ e => by cases e⟩, fun _ _ h => ⟨rfl, fun _ _ e => by cases e⟩, fun _ _ h => ⟨rfl, fun _ _ e => by cases e⟩, fun _ _ h => ⟨rfl, fun _ _ e => by cases e⟩, fun _ _ h => ⟨rfl, fun _ _ e => by cases e⟩, fun _ _ h => ⟨by simp only [h 9 rfl], fun _ _ e => by cases e; simp only [h 9 rfl]⟩, fun _ _ h => ⟨rfl, fun _ _ e => by cases e⟩, fun _ _ h => ⟨rfl, fun _ _ e => by cases e⟩, fun _ _ h => ⟨rfl, fun _ _ e => by cases e⟩, fun _ _ h => ⟨rfl, fun _ _ e => by cases e⟩, fun _ _ h => ⟨rfl, fun _ _ e => by cases e⟩, fun _ _ h => ⟨by simp only [h 15 rfl], fun _ _ e => by cases e; simp only [h 15 rfl]⟩, trivial⟩) rfl (by exact ⟨Ob.quiet (n1 := fun n => n) rfl rfl (by intro d h; cases h; rfl) rfl (fun _ => [(7, .ptr 7 (n0 + 4) 0 0)]) (fun _ => [(7, some (.box (n0 + 4) 34 [.own 11 (i16 0), .own 57 (i16 1), .own 61 (i16 2)]))]) (fun D G2 hr => ⟨inE_base rfl rfl, trivial⟩) (fun D G2 hr => ⟨inH_base rfl rfl, trivial⟩) (fun _ _ => rfl) (fun G2 e h' n => OpQ.spec (v := .ptr 7 (n0 + 4) 0 0) (sp_fieldAddr_own (ob := .box _ _ _) rfl tf_34_0 (.inl rfl) (fun _ => rfl) rfl) _),
              Ob.quiet (n1 := fun n => n) rfl rfl (by intro d h; cases h; rfl) rfl (fun _ => [(72, .ptr 7 (n0 + 4) 0 0)]) (fun _ => [(7, some (.box (n0 + 4) 34 [.own 11 (i16 0), .own 57 (i16 1), .own 61 (i16 2)]))]) (fun D G2 hr => ⟨inE_op hr 0 rfl rfl (by kernel_rfl) rfl rfl, trivial⟩) (fun D G2 hr => ⟨inH_base rfl rfl, trivial⟩) (fun _ _ => rfl) (fun G2 e h' n => OpQ.spec (v := .own 11 (i16 0)) (ms_load_box (a := .own 11 (i16 0)) rfl ts_30 (.inl rfl) rfl rfl) _),
              Ob.quiet (n1 := fun n => n) rfl rfl (by intro d h; cases h; rfl) rfl (fun _ => [(9, .r (.int .i64 k2))]) (fun _ => []) (fun D G2 hr => ⟨inE_base rfl rfl, trivial⟩) (fun D G2 hr => trivial) (fun _ _ => rfl) (fun G2 e h' n => OpQ.spec (v := .r (.int .i64 k2)) (sp_move rfl (.inl rfl)) _),
              Ob.make (n1 := fun n => n + 1) rfl rfl (by intro d h; cases h; rfl) rfl (fun _ => []) (fun _ => []) (fun D G2 hr => trivial) (fun D G2 hr => trivial) (fun G2 e h' n => ms_lit 75 rfl tg_39 (f := GElem.row) (l := ([] : List GElem)) trivial rfl (fun _ => rfl) rfl),
              Ob.quiet (n1 := fun n => n) rfl rfl (by intro d h; cases h; rfl) rfl (fun _ => [(7, .ptr 7 (n0 + 4) 0 0)]) (fun _ => [(7, some (.box (n0 + 4) 34 [.own 11 (i16 0), .own 57 (i16 1), .own 61 (i16 2)]))]) (fun D G2 hr => ⟨inE_base rfl rfl, trivial⟩) (fun D G2 hr => ⟨inH_base rfl rfl, trivial⟩) (fun _ _ => rfl) (fun G2 e h' n => OpQ.spec (v := .ptr 7 (n0 + 4) 0 0) (sp_fieldAddr_own (ob := .box _ _ _) rfl tf_34_0 (.inl rfl) (fun _ => rfl) rfl) _),
              Ob.quiet (n1 := fun n => n) rfl rfl (by intro d h; cases h; rfl) rfl (fun _ => [(76, .ptr 7 (n0 + 4) 0 0)]) (fun _ => [(7, some (.box (n0 + 4) 34 [.own 11 (i16 0), .own 57 (i16 1), .own 61 (i16 2)]))]) (fun D G2 hr => ⟨inE_op hr 4 rfl rfl (by kernel_rfl) rfl rfl, trivial⟩) (fun D G2 hr => ⟨inH_base rfl rfl, trivial⟩) (fun _ _ => rfl) (fun G2 e h' n => OpQ.spec (v := .own 11 (i16 0)) (ms_load_box (a := .own 11 (i16 0)) rfl ts_30 (.inl rfl) rfl rfl) _),
              Ob.quiet (n1 := fun n => n) rfl rfl (by intro d h; cases h; rfl) rfl (fun _ => [(9, .r (.int .i64 k2))]) (fun _ => []) (fun D G2 hr => ⟨inE_base rfl rfl, trivial⟩) (fun D G2 hr => trivial) (fun _ _ => rfl) (fun G2 e h' n => OpQ.spec (v := .r (.int .i64 k2)) (sp_move rfl (.inl rfl)) _),
              Ob.quiet (n1 := fun n => n) rfl rfl (by intro d h; cases h; rfl) rfl (fun _ => [(77, .own 11 (i16 0)), (78, .r (.int .i64 k2))]) (fun _ => [(11, some (.arr (i16 0) 39 1 (out10.Adds.map (rSl GElem.row))))]) (fun D G2 hr => ⟨inE_op hr 5 rfl rfl (by kernel_rfl) rfl rfl, inE_op hr 6 rfl rfl (by kernel_rfl) rfl rfl, trivial⟩) (fun D G2 hr => ⟨inH_base rfl rfl, trivial⟩) (fun _ _ => rfl) (fun G2 e h' n => OpQ.spec (v := .ptr 11 (i16 0) k2.toNat 0) (ms_idx_own rfl tg_30.slice (.inl rfl) rfl (.inl rfl) (fun _ => ex9)) _),
              Ob.quiet (n1 := fun n => n) rfl rfl (by intro d h; cases h; rfl) rfl (fun _ => [(79, .ptr 11 (i16 0) k2.toNat 0)]) (fun _ => [(11, some (.arr (i16 0) 39 1 (out10.Adds.map (rSl GElem.row))))]) (fun D G2 hr => ⟨inE_op hr 7 rfl rfl (by kernel_rfl) rfl rfl, trivial⟩) (fun D G2 hr => ⟨inH_base rfl rfl, trivial⟩) (fun _ _ => rfl) (fun G2 e h' n => OpQ.spec (v := .r (.sl (x9.map GElem.row))) (ms_load_own (d := .sl (x9.map GElem.row)) rfl ts_39 (.inl rfl) (fun _ => rfl) (fun _ => ex9) rfl) _),
              Ob.make (n1 := fun n => n + 1) rfl rfl (by intro d h; cases h; rfl) rfl (fun G2 => [(75, .own 75 (G2 3)), (80, .r (.sl (x9.map GElem.row)))]) (fun G2 => [(75, some (.arr (G2 3) 113 3 (([] : List GElem).map GElem.row)))]) (fun D G2 hr => ⟨inE_op hr 3 rfl rfl (by kernel_rfl) rfl rfl, inE_op hr 8 rfl rfl (by kernel_rfl) rfl rfl, trivial⟩) (fun D G2 hr => ⟨inH_op hr 3 rfl rfl (by kernel_rfl) (by kernel_rfl) rfl, trivial⟩) (fun G2 e h' n => ms_app rfl tg_39 (.inl rfl) rfl (.inl ⟨(.inl rfl), fun _ => rfl⟩) el4),
              Ob.quiet (n1 := fun n => n) rfl rfl (by intro d h; cases h; rfl) rfl (fun _ => [(3, .ptr 3 n0 0 0)]) (fun _ => [(3, some (.box n0 34 [.r (.sl (a1.Adds.map (rSl GElem.row))), .r (.sl (a1.Cuts.map rBool)), .r (.sl (a1.Attrs.map (rSl GAttr.row)))]))]) (fun D G2 hr => ⟨inE_base rfl rfl, trivial⟩) (fun D G2 hr => ⟨inH_base rfl rfl, trivial⟩) (fun _ _ => rfl) (fun G2 e h' n => OpQ.spec (v := .ptr 3 n0 0 0) (sp_fieldAddr_own (ob := .box _ _ _) rfl tf_34_0 (.inl rfl) (fun _ => rfl) rfl) _),
              Ob.quiet (n1 := fun n => n) rfl rfl (by intro d h; cases h; rfl) rfl (fun _ => [(82, .ptr 3 n0 0 0)]) (fun _ => [(3, some (.box n0 34 [.r (.sl (a1.Adds.map (rSl GElem.row))), .r (.sl (a1.Cuts.map rBool)), .r (.sl (a1.Attrs.map (rSl GAttr.row)))]))]) (fun D G2 hr => ⟨inE_op hr 10 rfl rfl (by kernel_rfl) rfl rfl, trivial⟩) (fun D G2 hr => ⟨inH_base rfl rfl, trivial⟩) (fun _ _ => rfl) (fun G2 e h' n => OpQ.spec (v := .r (.sl (a1.Adds.map (rSl GElem.row)))) (ms_load_box (a := .r (.sl (a1.Adds.map (rSl GElem.row)))) rfl ts_30 (.inl rfl) rfl rfl) _),
              Ob.quiet (n1 := fun n => n) rfl rfl (by intro d h; cases h; rfl) rfl (fun _ => [(8, .r (.int .i64 i4))]) (fun _ => []) (fun D G2 hr => ⟨inE_base rfl rfl, trivial⟩) (fun D G2 hr => trivial) (fun _ _ => rfl) (fun G2 e h' n => OpQ.spec (v := .r (.int .i64 i4)) (sp_move rfl (.inl rfl)) _),
              Ob.quiet (n1 := fun n => n) rfl rfl (by intro d h; cases h; rfl) rfl (fun _ => [(83, .r (.sl (a1.Adds.map (rSl GElem.row)))), (84, .r (.int .i64 i4))]) (fun _ => []) (fun D G2 hr => ⟨inE_op hr 11 rfl rfl (by kernel_rfl) rfl rfl, inE_op hr 12 rfl rfl (by kernel_rfl) rfl rfl, trivial⟩) (fun D G2 hr => trivial) (fun _ _ => rfl) (fun G2 e h' n => OpQ.spec (v := .rop ((rSl GElem.row) x10) 0) (ms_idx rfl tg_30.slice (.inl rfl) (.inl rfl) (fun _ => rfl) (fun _ => ex10)) _),
              Ob.quiet (n1 := fun n => n) rfl rfl (by intro d h; cases h; rfl) rfl (fun _ => [(85, .rop ((rSl GElem.row) x10) 0)]) (fun _ => []) (fun D G2 hr => ⟨inE_op hr 13 rfl rfl (by kernel_rfl) rfl rfl, trivial⟩) (fun D G2 hr => trivial) (fun _ _ => rfl) (fun G2 e h' n => OpQ.spec (v := .r (.sl (x10.map GElem.row))) (ms_load (d := .sl (x10.map GElem.row)) rfl ts_39 (.inl rfl) rfl) _),
              Ob.make (n1 := fun n => n + 1) rfl rfl (by intro d h; cases h; rfl) rfl (fun G2 => [(81, .own 75 (G2 9)), (86, .r (.sl (x10.map GElem.row)))]) (fun G2 => [(75, some (.arr (G2 9) 113 3 (l4.map GElem.row)))]) (fun D G2 hr => ⟨inE_op hr 9 rfl rfl (by kernel_rfl) rfl rfl, inE_op hr 14 rfl rfl (by kernel_rfl) rfl rfl, trivial⟩) (fun D G2 hr => ⟨inH_op hr 9 rfl rfl (by kernel_rfl) (by kernel_rfl) rfl, trivial⟩) (fun G2 e h' n => ms_app rfl tg_39 (.inl rfl) rfl (.inl ⟨(.inl rfl), fun _ => rfl⟩) el5),
              trivial⟩) fun G2 n2 => ?_
          refine AOps.weak (s' := ⟨[(2, .r (.bool first1)), (3, .ptr 3 n0 0 0), (4, .ptr 4 (n0 + 1) 0 0), (6, .ptr 6 (n0 + 2) 0 0), (7, .ptr 7 (n0 + 4) 0 0), (8, .r (.int .i64 i4)), (9, .r (.int .i64 k2)), (66, .ptr 7 (n0 + 4) 0 0), (67, .own 11 (i16 0)), (68, .r (.int .i64 (out10.Adds.length : Int))), (69, .r (.int .i64 k2)), (70, .r (.bool first1)), (71, .r (.bool (!first1))), (72, .ptr 7 (n0 + 4) 0 0), (73, .own 11 (i16 0)), (74, .r (.int .i64 k2)), (76, .ptr 7 (n0 + 4) 0 0), (77, .own 11 (i16 0)), (78, .r (.int .i64 k2)), (79, .ptr 11 (i16 0) k2.toNat 0), (80, .r (.sl (x9.map GElem.row))), (82, .ptr 3 n0 0 0), (83, .r (.sl (a1.Adds.map (rSl GElem.row)))), (84, .r (.int .i64 i4)), (85, .rop ((rSl GElem.row) x10) 0), (86, .r (.sl (x10.map GElem.row))), (87, .own 75 (G2 15))], [(3, some (.box n0 34 [.r (.sl (a1.Adds.map (rSl GElem.row))), .r (.sl (a1.Cuts.map rBool)), .r (.sl (a1.Attrs.map (rSl GAttr.row)))])), (4, some (.box (n0 + 1) 34 [.r (.sl (b1.Adds.map (rSl GElem.row))), .r (.sl (b1.Cuts.map rBool)), .r (.sl (b1.Attrs.map (rSl GAttr.row)))])), (6, some (.box (n0 + 2) 34 [.cst (.slice none 0 0), .cst (.slice none 0 0), .cst (.slice none 0 0)])), (7, some (.box (n0 + 4) 34 [.own 11 (i16 0), .own 57 (i16 1), .own 61 (i16 2)])), (11, some (.arr (i16 0) 39 1 (out10.Adds.map (rSl GElem.row)))), (57, some (.arr (i16 1) 4 1 (out10.Cuts.map rBool))), (61, some (.arr (i16 2) 47 1 (out10.Attrs.map (rSl GAttr.row)))), (75, some (.arr (G2 15) 113 3 (l5.map GElem.row)))], n2, 136⟩) (by exact Weak.cv ⟨.inl (.inl rfl), .inl (.inl rfl), .inl (.inl rfl), .inl (.inl rfl), .inl (.inl rfl), .inl (.inl rfl), .inl (.inl rfl), .inl (.inl rfl), .inl (.inl rfl), .inl (.inl rfl), .inl (.inl rfl), .inl (.inl rfl), .inl (.inl rfl), .inl (.inl rfl), .inl (.inl rfl), .inl (.inl rfl), .inl (.inl rfl), .inl (.inl rfl), .inl (.inl rfl), .inl (.inl rfl), .inl (.inl rfl), .inl (.inl rfl), .inl (.inl rfl), .inl (.inl rfl), .inl (.inl rfl), .inl (.inl rfl), .inl (.inl rfl), trivial⟩ ⟨.inl rfl, .inl rfl, .inl rfl, .inl rfl, .inl rfl, .inl rfl, .inl rfl, .inl rfl, trivial⟩ (Nat.le_refl _)) ?_
          refine AOps.step rfl rfl rfl (OpQ.spec (ms_idx_own rfl tg_30.slice (.inl rfl) rfl (.inl rfl) (fun _ => ex9)) _) ?_
          refine AOps.weak (by exact Weak.frz (e' := [(2, .r (.bool first1)), (3, .ptr 3 n0 0 0), (4, .ptr 4 (n0 + 1) 0 0), (6, .ptr 6 (n0 + 2) 0 0), (7, .ptr 7 (n0 + 4) 0 0), (8, .r (.int .i64 i4)), (9, .r (.int .i64 k2)), (66, .ptr 7 (n0 + 4) 0 0), (67, .own 11 (i16 0)), (68, .r (.int .i64 (out10.Adds.length : Int))), (69, .r (.int .i64 k2)), (70, .r (.bool first1)), (71, .r (.bool (!first1))), (72, .ptr 7 (n0 + 4) 0 0), (73, .own 11 (i16 0)), (74, .r (.int .i64 k2)), (76, .ptr 7 (n0 + 4) 0 0), (77, .own 11 (i16 0)), (78, .r (.int .i64 k2)), (79, .ptr 11 (i16 0) k2.toNat 0), (80, .r (.sl (x9.map GElem.row))), (82, .ptr 3 n0 0 0), (83, .r (.sl (a1.Adds.map (rSl GElem.row)))), (84, .r (.int .i64 i4)), (85, .rop ((rSl GElem.row) x10) 0), (86, .r (.sl (x10.map GElem.row))), (87, .r (.sl (l5.map GElem.row))), (88, .ptr 11 (i16 0) k2.toNat 0)]) (h' := [(3, some (.box n0 34 [.r (.sl (a1.Adds.map (rSl GElem.row))), .r (.sl (a1.Cuts.map rBool)), .r (.sl (a1.Attrs.map (rSl GAttr.row)))])), (4, some (.box (n0 + 1) 34 [.r (.sl (b1.Adds.map (rSl GElem.row))), .r (.sl (b1.Cuts.map rBool)), .r (.sl (b1.Attrs.map (rSl GAttr.row)))])), (6, some (.box (n0 + 2) 34 [.cst (.slice none 0 0), .cst (.slice none 0 0), .cst (.slice none 0 0)])), (7, some (.box (n0 + 4) 34 [.own 11 (i16 0), .own 57 (i16 1), .own 61 (i16 2)])), (11, some (.arr (i16 0) 39 1 (out10.Adds.map (rSl GElem.row)))), (57, some (.arr (i16 1) 4 1 (out10.Cuts.map rBool))), (61, some (.arr (i16 2) 47 1 (out10.Attrs.map (rSl GAttr.row))))]) 75 rfl ⟨.inl (.inl rfl), .inl (.inl rfl), .inl (.inl rfl), .inl (.inl rfl), .inl (.inl rfl), .inl (.inl rfl), .inl (.inl rfl), .inl (.inl rfl), .inl (.inl rfl), .inl (.inl rfl), .inl (.inl rfl), .inl (.inl rfl), .inl (.inl rfl), .inl (.inl rfl), .inl (.inl rfl), .inl (.inl rfl), .inl (.inl rfl), .inl (.inl rfl), .inl (.inl rfl), .inl (.inl rfl), .inl (.inl rfl), .inl (.inl rfl), .inl (.inl rfl), .inl (.inl rfl), .inl (.inl rfl), .inl (.inl rfl), .inl (.inr (.inr ⟨rfl, rfl⟩)), .inl (.inl rfl), trivial⟩ ⟨rfl, .inl rfl, rfl, .inl rfl, rfl, .inl rfl, rfl, .inl rfl, rfl, .inl rfl, rfl, .inl rfl, rfl, .inl rfl, trivial⟩) ?_
          refine AOps.step0 rfl rfl (ms_store (v := l5) rfl tz_39 (.inl rfl) rfl ex9 (.inl rfl) rfl rfl rfl rfl) ?_
          refine AOps.nil ?_
          exact wK15 _ _ ((by exact Weak.cv ⟨.inl (.inl rfl), .inl (.inl rfl), .inl (.inl rfl), .inl (.inl rfl), .inl (.inl rfl), .inl (.inl rfl), trivial⟩ ⟨.inl rfl, .inl rfl, .inl rfl, .inl rfl, .inl rfl, .inl rfl, .inl rfl, trivial⟩ (Nat.le_refl _))) (J5 _ (vec [(i16 0), (i16 1), (i16 2), n2]) (Option.some.inj h27).symm)
        · have h23 := ite_f hc4 hp3
          refine AW.skip ?_
          exact wK15 _ _ ((by exact Weak.cv ⟨.inl (.inl rfl), .inl (.inl rfl), .inl (.inl rfl), .inl (.inl rfl), .inl (.inl rfl), .inl (.inl rfl), trivial⟩ ⟨.inl rfl, .inl rfl, .inl rfl, .inl rfl, .inl rfl, .inl rfl, .inl rfl, trivial⟩ (Nat.le_refl _))) (J5 _ (vec [(i16 0), (i16 1), (i16 2), (i16 3)]) (Option.some.inj h23).symm)
      refine AW.iter2 (fun (x3 : Int) (out8 : Ref_Act) i14 => ⟨[(2, .r (.bool first1)), (3, .ptr 3 n0 0 0), (4, .ptr 4 (n0 + 1) 0 0), (6, .ptr 6 (n0 + 2) 0 0), (7, .ptr 7 (n0 + 4) 0 0), (8, .r (.int .i64 i4)), (47, .r (.int .i64 (x1.length : Int))), (48, .r (.int .i64 x3))], [(3, some (.box n0 34 [.r (.sl (a1.Adds.map (rSl GElem.row))), .r (.sl (a1.Cuts.map rBool)), .r (.sl (a1.Attrs.map (rSl GAttr.row)))])), (4, some (.box (n0 + 1) 34 [.r (.sl (b1.Adds.map (rSl GElem.row))), .r (.sl (b1.Cuts.map rBool)), .r (.sl (b1.Attrs.map (rSl GAttr.row)))])), (6, some (.box (n0 + 2) 34 [.cst (.slice none 0 0), .cst (.slice none 0 0), .cst (.slice none 0 0)])), (7, some (.box (n0 + 4) 34 [.own 11 (i14 0), .own 57 (i14 1), .own 61 (i14 2)])), (11, some (.arr (i14 0) 39 1 (out8.Adds.map (rSl GElem.row)))), (57, some (.arr (i14 1) 4 1 (out8.Cuts.map rBool))), (61, some (.arr (i14 2) 47 1 (out8.Attrs.map (rSl GAttr.row))))], (i14 3), 136⟩) (vec [(i11 0), (i11 1), (i11 2), (i11 3)]) hit2 ((by exact Weak.cv ⟨.inl (.inl rfl), .inl (.inl rfl), .inl (.inl rfl), .inl (.inl rfl), .inl (.inl rfl), .inl (.inl rfl), .inl (.inl rfl), .inl (.inl rfl), trivial⟩ ⟨.inl rfl, .inl rfl, .inl rfl, .inl rfl, .inl rfl, .inl rfl, .inl rfl, trivial⟩ (Nat.le_refl _))) ?_
      intro x3 out8 i14 v2 hv2 hx2
      have h28 : ref_Behind_L2 x1 x3 out8 = some v2 := hv2; unfold ref_Behind_L2 at h28
      refine AW.seq_w fun K22 hK22 wK22 => ?_
      refine AW.region ?_
      refine AOps.step rfl rfl rfl (OpQ.spec (sp_lss rfl (.inl rfl) (.inl rfl)) _) ?_
      refine AOps.nil ?_
      refine hK22 _ ?_
      refine AW.seq_w fun K23 hK23 wK23 => ?_
      refine AW.cond rfl (fun hc5 => ?_) (fun hc5 => ?_)
      · have h29 := ite_t hc5 h28
        refine AW.skip ?_
        refine hK23 _ ?_
        refine AW.seq_w fun K24 hK24 wK24 => ?_
        refine AW.block ?_
        refine ob1k h29 fun l6 el6 h30 => ?_
        refine ob1k h30 fun l7 el7 h31 => ?_
        refine ob1k h31 fun l8 el8 h32 => ?_
        refine AW.regionP 13 [⟨some 50, (fun _ => .ptr 7 (n0 + 4) 0 0), none, []⟩, ⟨some 51, (fun _ => .own 11 (i14 0)), none, []⟩, ⟨some 52, (fun G3 => .own 52 (G3 2)), some (52, (fun G3 => some (.arr (G3 2) 39 1 ([[]].map (rSl GElem.row))))), [2]⟩, ⟨some 53, (fun G3 => .own 11 (G3 3)), some (11, (fun G3 => some (.arr (G3 3) 39 1 (l6.map (rSl GElem.row))))), [3]⟩, ⟨some 54, (fun _ => .ptr 7 (n0 + 4) 0 1), none, []⟩, ⟨some 55, (fun _ => .own 57 (i14 1)), none, []⟩, ⟨some 56, (fun G3 => .own 56 (G3 6)), some (56, (fun G3 => some (.arr (G3 6) 4 1 ([false].map rBool)))), [6]⟩, ⟨some 57, (fun G3 => .own 57 (G3 7)), some (57, (fun G3 => some (.arr (G3 7) 4 1 (l7.map rBool)))), [7]⟩, ⟨some 58, (fun _ => .ptr 7 (n0 + 4) 0 2), none, []⟩, ⟨some 59, (fun _ => .own 61 (i14 2)), none, []⟩, ⟨some 60, (fun G3 => .own 60 (G3 10)), some (60, (fun G3 => some (.arr (G3 10) 47 1 ([[]].map (rSl GAttr.row))))), [10]⟩, ⟨some 61, (fun G3 => .own 61 (G3 11)), some (61, (fun G3 => some (.arr (G3 11) 47 1 (l8.map (rSl GAttr.row))))), [11]⟩, ⟨some 62, (fun _ => .ptr 7 (n0 + 4) 0 0), none, []⟩] hmix (by kernel_rfl) (by exact ⟨fun _ _ h => ⟨rfl, fun _ _ e => by cases e⟩, fun _ _ h => ⟨rfl, fun _ _ e => by cases e⟩, fun _ _ h => ⟨by simp only [h 2 rfl], fun _ _ e => by cases e; simp only [h 2 rfl]⟩, fun _ _ h => ⟨by simp only [h 3 rfl], fun _ _ e => by cases e; simp only [h 3 rfl]⟩, fun _ _ h => ⟨rfl, fun _ _ e => by cases e⟩, fun _ _ h => ⟨rfl, fun _ _ e => by cases e⟩, fun _ _ h => ⟨by simp only [h 6 rfl], fun _ _ e => by cases e; simp only [h 6 rfl]⟩, fun _ _ h => ⟨by simp only [h 7 rfl], fun _ _ e => by cases e; simp only [h 7 rfl]⟩, fun _ _ h => ⟨rfl, fun _ _ e => by cases e⟩, fun _ _ h => ⟨rfl, fun _ _ e => by cases e⟩, fun _ _ h => ⟨by simp only [h 10 rfl], fun _ _ e => by cases e; simp only [h 10 rfl]⟩, fun _ _ h => ⟨by simp only [h 11 rfl], fun _ _ e => by cases e; simp only [h 11 rfl]⟩, fun _ _ h => ⟨rfl, fun _ _ e => by cases e⟩, trivial⟩) rfl (by exact ⟨Ob.quiet (n1 := fun n => n) rfl rfl (by intro d h; cases h; rfl) rfl (fun _ => [(7, .ptr 7 (n0 + 4) 0 0)]) (fun _ => [(7, some (.box (n0 + 4) 34 [.own 11 (i14 0), .own 57 (i14 1), .own 61 (i14 2)]))]) (fun D G3 hr => ⟨inE_base rfl rfl, trivial⟩) (fun D G3 hr => ⟨inH_base rfl rfl, trivial⟩) (fun _ _ => rfl) (fun G3 e h' n => OpQ.spec (v := .ptr 7 (n0 + 4) 0 0) (sp_fieldAddr_own (ob := .box _ _ _) rfl tf_34_0 (.inl rfl) (fun _ => rfl) rfl) _),
            Ob.quiet (n1 := fun n => n) rfl rfl (by intro d h; cases h; rfl) rfl (fun _ => [(50, .ptr 7 (n0 + 4) 0 0)]) (fun _ => [(7, some (.box (n0 + 4) 34 [.own 11 (i14 0), .own 57 (i14 1), .own 61 (i14 2)]))]) (fun D G3 hr => ⟨inE_op hr 0 rfl rfl (by kernel_rfl) rfl rfl, trivial⟩) (fun D G3 hr => ⟨inH_base rfl rfl, trivial⟩) (fun _ _ => rfl) (fun G3 e h' n => OpQ.spec (v := .own 11 (i14 0)) (ms_load_box (a := .own 11 (i14 0)) rfl ts_30 (.inl rfl) rfl rfl) _),
            Ob.make (n1 := fun n => n + 1) rfl rfl (by intro d h; cases h; rfl) rfl (fun _ => []) (fun _ => []) (fun D G3 hr => trivial) (fun D G3 hr => trivial) (fun G3 e h' n => ms_lit 52 rfl tg_30 (f := (rSl GElem.row)) (l := ([[]] : List (List GElem))) ⟨rfl, ⟨_, (.inl rfl), rfl⟩, trivial⟩ rfl (fun _ => rfl) rfl),
            Ob.make (n1 := fun n => n + 1) rfl rfl (by intro d h; cases h; rfl) rfl (fun G3 => [(51, .own 11 (i14 0)), (52, .own 52 (G3 2))]) (fun G3 => [(11, some (.arr (i14 0) 39 1 (out8.Adds.map (rSl GElem.row)))), (52, some (.arr (G3 2) 39 1 ([[]].map (rSl GElem.row))))]) (fun D G3 hr => ⟨inE_op hr 1 rfl rfl (by kernel_rfl) rfl rfl, inE_op hr 2 rfl rfl (by kernel_rfl) rfl rfl, trivial⟩) (fun D G3 hr => ⟨inH_baseL hr (by kernel_rfl) rfl, inH_op hr 2 rfl rfl (by kernel_rfl) (by kernel_rfl) rfl, trivial⟩) (fun G3 e h' n => ms_app rfl tg_30 (.inl rfl) rfl (.inr (.inl ⟨_, _, (.inl rfl), rfl⟩)) el6),
            Ob.quiet (n1 := fun n => n) rfl rfl (by intro d h; cases h; rfl) rfl (fun _ => [(7, .ptr 7 (n0 + 4) 0 0)]) (fun _ => [(7, some (.box (n0 + 4) 34 [.own 11 (i14 0), .own 57 (i14 1), .own 61 (i14 2)]))]) (fun D G3 hr => ⟨inE_base rfl rfl, trivial⟩) (fun D G3 hr => ⟨inH_base rfl rfl, trivial⟩) (fun _ _ => rfl) (fun G3 e h' n => OpQ.spec (v := .ptr 7 (n0 + 4) 0 1) (sp_fieldAddr_own (ob := .box _ _ _) rfl tf_34_1 (.inl rfl) (fun _ => rfl) rfl) _),
            Ob.quiet (n1 := fun n => n) rfl rfl (by intro d h; cases h; rfl) rfl (fun _ => [(54, .ptr 7 (n0 + 4) 0 1)]) (fun _ => [(7, some (.box (n0 + 4) 34 [.own 11 (i14 0), .own 57 (i14 1), .own 61 (i14 2)]))]) (fun D G3 hr => ⟨inE_op hr 4 rfl rfl (by kernel_rfl) rfl rfl, trivial⟩) (fun D G3 hr => ⟨inH_base rfl rfl, trivial⟩) (fun _ _ => rfl) (fun G3 e h' n => OpQ.spec (v := .own 57 (i14 1)) (ms_load_box (a := .own 57 (i14 1)) rfl ts_31 (.inl rfl) rfl rfl) _),
            Ob.make (n1 := fun n => n + 1) rfl rfl (by intro d h; cases h; rfl) rfl (fun _ => []) (fun _ => []) (fun D G3 hr => trivial) (fun D G3 hr => trivial) (fun G3 e h' n => ms_lit 56 rfl tg_31 (f := rBool) (l := ([false] : List Bool)) ⟨rfl, ⟨_, (.inl rfl), rfl⟩, trivial⟩ rfl (fun _ => rfl) rfl),
            Ob.make (n1 := fun n => n + 1) rfl rfl (by intro d h; cases h; rfl) rfl (fun G3 => [(55, .own 57 (i14 1)), (56, .own 56 (G3 6))]) (fun G3 => [(56, some (.arr (G3 6) 4 1 ([false].map rBool))), (57, some (.arr (i14 1) 4 1 (out8.Cuts.map rBool)))]) (fun D G3 hr => ⟨inE_op hr 5 rfl rfl (by kernel_rfl) rfl rfl, inE_op hr 6 rfl rfl (by kernel_rfl) rfl rfl, trivial⟩) (fun D G3 hr => ⟨inH_op hr 6 rfl rfl (by kernel_rfl) (by kernel_rfl) rfl, inH_baseL hr (by kernel_rfl) rfl, trivial⟩) (fun G3 e h' n => ms_app rfl tg_31 (.inl rfl) rfl (.inr (.inl ⟨_, _, (.inl rfl), rfl⟩)) el7),
            Ob.quiet (n1 := fun n => n) rfl rfl (by intro d h; cases h; rfl) rfl (fun _ => [(7, .ptr 7 (n0 + 4) 0 0)]) (fun _ => [(7, some (.box (n0 + 4) 34 [.own 11 (i14 0), .own 57 (i14 1), .own 61 (i14 2)]))]) (fun D G3 hr => ⟨inE_base rfl rfl, trivial⟩) (fun D G3 hr => ⟨inH_base rfl rfl, trivial⟩) (fun _ _ => rfl) (fun G3 e h' n => OpQ.spec (v := .ptr 7 (n0 + 4) 0 2) (sp_fieldAddr_own (ob := .box _ _ _) rfl tf_34_2 (.inl rfl) (fun _ => rfl) rfl) _),
            Ob.quiet (n1 := fun n => n) rfl rfl (by intro d h; cases h; rfl) rfl (fun _ => [(58, .ptr 7 (n0 + 4) 0 2)]) (fun _ => [(7, some (.box (n0 + 4) 34 [.own 11 (i14 0), .own 57 (i14 1), .own 61 (i14 2)]))]) (fun D G3 hr => ⟨inE_op hr 8 rfl rfl (by kernel_rfl) rfl rfl, trivial⟩) (fun D G3 hr => ⟨inH_base rfl rfl, trivial⟩) (fun _ _ => rfl) (fun G3 e h' n => OpQ.spec (v := .own 61 (i14 2)) (ms_load_box (a := .own 61 (i14 2)) rfl ts_32 (.inl rfl) rfl rfl) _),
            Ob.make (n1 := fun n => n + 1) rfl rfl (by intro d h; cases h; rfl) rfl (fun _ => []) (fun _ => []) (fun D G3 hr => trivial) (fun D G3 hr => trivial) (fun G3 e h' n => ms_lit 60 rfl tg_32 (f := (rSl GAttr.row)) (l := ([[]] : List (List GAttr))) ⟨rfl, ⟨_, (.inl rfl), rfl⟩, trivial⟩ rfl (fun _ => rfl) rfl),
            Ob.make (n1 := fun n => n + 1) rfl rfl (by intro d h; cases h; rfl) rfl (fun G3 => [(59, .own 61 (i14 2)), (60, .own 60 (G3 10))]) (fun G3 => [(60, some (.arr (G3 10) 47 1 ([[]].map (rSl GAttr.row)))), (61, some (.arr (i14 2) 47 1 (out8.Attrs.map (rSl GAttr.row))))]) (fun D G3 hr => ⟨inE_op hr 9 rfl rfl (by kernel_rfl) rfl rfl, inE_op hr 10 rfl rfl (by kernel_rfl) rfl rfl, trivial⟩) (fun D G3 hr => ⟨inH_op hr 10 rfl rfl (by kernel_rfl) (by kernel_rfl) rfl, inH_baseL hr (by kernel_rfl) rfl, trivial⟩) (fun G3 e h' n => ms_app rfl tg_32 (.inl rfl) rfl (.inr (.inl ⟨_, _, (.inl rfl), rfl⟩)) el8),
            Ob.quiet (n1 := fun n => n) rfl rfl (by intro d h; cases h; rfl) rfl (fun _ => [(7, .ptr 7 (n0 + 4) 0 0)]) (fun _ => [(7, some (.box (n0 + 4) 34 [.own 11 (i14 0), .own 57 (i14 1), .own 61 (i14 2)]))]) (fun D G3 hr => ⟨inE_base rfl rfl, trivial⟩) (fun D G3 hr => ⟨inH_base rfl rfl, trivial⟩) (fun _ _ => rfl) (fun G3 e h' n => OpQ.spec (v := .ptr 7 (n0 + 4) 0 0) (sp_fieldAddr_own (ob := .box _ _ _) rfl tf_34_0 (.inl rfl) (fun _ => rfl) rfl) _),
            trivial⟩) fun G3 n3 => ?_
        refine AOps.weak (s' := ⟨[(2, .r (.bool first1)), (3, .ptr 3 n0 0 0), (4, .ptr 4 (n0 + 1) 0 0), (6, .ptr 6 (n0 + 2) 0 0), (7, .ptr 7 (n0 + 4) 0 0), (8, .r (.int .i64 i4)), (47, .r (.int .i64 (x1.length : Int))), (48, .r (.int .i64 x3)), (49, .r (.bool (decide (x3 < (x1.length : Int))))), (50, .ptr 7 (n0 + 4) 0 0), (52, .own 52 (G3 2)), (53, .own 11 (G3 3)), (54, .ptr 7 (n0 + 4) 0 1), (56, .own 56 (G3 6)), (57, .own 57 (G3 7)), (58, .ptr 7 (n0 + 4) 0 2), (60, .own 60 (G3 10)), (61, .own 61 (G3 11)), (62, .ptr 7 (n0 + 4) 0 0)], [(3, some (.box n0 34 [.r (.sl (a1.Adds.map (rSl GElem.row))), .r (.sl (a1.Cuts.map rBool)), .r (.sl (a1.Attrs.map (rSl GAttr.row)))])), (4, some (.box (n0 + 1) 34 [.r (.sl (b1.Adds.map (rSl GElem.row))), .r (.sl (b1.Cuts.map rBool)), .r (.sl (b1.Attrs.map (rSl GAttr.row)))])), (6, some (.box (n0 + 2) 34 [.cst (.slice none 0 0), .cst (.slice none 0 0), .cst (.slice none 0 0)])), (7, some (.box (n0 + 4) 34 [.own 11 (i14 0), .own 57 (i14 1), .own 61 (i14 2)])), (11, some (.arr (G3 3) 39 1 (l6.map (rSl GElem.row)))), (52, some (.arr (G3 2) 39 1 ([[]].map (rSl GElem.row)))), (56, some (.arr (G3 6) 4 1 ([false].map rBool))), (57, some (.arr (G3 7) 4 1 (l7.map rBool))), (60, some (.arr (G3 10) 47 1 ([[]].map (rSl GAttr.row)))), (61, some (.arr (G3 11) 47 1 (l8.map (rSl GAttr.row))))], n3, 136⟩) (by exact Weak.cv ⟨.inl (.inl rfl), .inl (.inl rfl), .inl (.inl rfl), .inl (.inl rfl), .inl (.inl rfl), .inl (.inl rfl), .inl (.inl rfl), .inl (.inl rfl), .inl (.inl rfl), .inl (.inl rfl), .inl (.inl rfl), .inl (.inl rfl), .inl (.inl rfl), .inl (.inl rfl), .inl (.inl rfl), .inl (.inl rfl), .inl (.inl rfl), .inl (.inl rfl), .inl (.inl rfl), trivial⟩ ⟨.inl rfl, .inl rfl, .inl rfl, .inl rfl, .inl rfl, .inl rfl, .inl rfl, .inl rfl, .inl rfl, .inl rfl, trivial⟩ (Nat.le_refl _)) ?_
        refine AOps.step0 rfl rfl (ms_store_box (ds := [.own 11 (G3 3), .own 57 (i14 1), .own 61 (i14 2)]) rfl tz_30 (.inl rfl) rfl (.inl rfl) rfl rfl rfl rfl) ?_
        refine AOps.step rfl rfl rfl (OpQ.spec (sp_fieldAddr_own (ob := .box _ _ _) rfl tf_34_1 (.inl rfl) (fun _ => rfl) rfl) _) ?_
        refine AOps.step0 rfl rfl (ms_store_box (ds := [.own 11 (G3 3), .own 57 (G3 7), .own 61 (i14 2)]) rfl tz_31 (.inl rfl) rfl (.inl rfl) rfl rfl rfl rfl) ?_
        refine AOps.step rfl rfl rfl (OpQ.spec (sp_fieldAddr_own (ob := .box _ _ _) rfl tf_34_2 (.inl rfl) (fun _ => rfl) rfl) _) ?_
        refine AOps.step0 rfl rfl (ms_store_box (ds := [.own 11 (G3 3), .own 57 (G3 7), .own 61 (G3 11)]) rfl tz_32 (.inl rfl) rfl (.inl rfl) rfl rfl rfl rfl) ?_
        refine AOps.nil ?_
        refine hK24 _ ?_
        refine AW.weak (s' := ⟨[(2, .r (.bool first1)), (3, .ptr 3 n0 0 0), (4, .ptr 4 (n0 + 1) 0 0), (6, .ptr 6 (n0 + 2) 0 0), (7, .ptr 7 (n0 + 4) 0 0), (8, .r (.int .i64 i4)), (47, .r (.int .i64 (x1.length : Int))), (48, .r (.int .i64 x3))], [(3, some (.box n0 34 [.r (.sl (a1.Adds.map (rSl GElem.row))), .r (.sl (a1.Cuts.map rBool)), .r (.sl (a1.Attrs.map (rSl GAttr.row)))])), (4, some (.box (n0 + 1) 34 [.r (.sl (b1.Adds.map (rSl GElem.row))), .r (.sl (b1.Cuts.map rBool)), .r (.sl (b1.Attrs.map (rSl GAttr.row)))])), (6, some (.box (n0 + 2) 34 [.cst (.slice none 0 0), .cst (.slice none 0 0), .cst (.slice none 0 0)])), (7, some (.box (n0 + 4) 34 [.own 11 (G3 3), .own 57 (G3 7), .own 61 (G3 11)])), (11, some (.arr (G3 3) 39 1 (l6.map (rSl GElem.row)))), (57, some (.arr (G3 7) 4 1 (l7.map rBool))), (61, some (.arr (G3 11) 47 1 (l8.map (rSl GAttr.row))))], n3, 136⟩) (by exact Weak.cv ⟨.inl (.inl rfl), .inl (.inl rfl), .inl (.inl rfl), .inl (.inl rfl), .inl (.inl rfl), .inl (.inl rfl), .inl (.inl rfl), .inl (.inl rfl), trivial⟩ ⟨.inl rfl, .inl rfl, .inl rfl, .inl rfl, .inl rfl, .inl rfl, .inl rfl, trivial⟩ (Nat.le_refl _)) ?_
        refine AW.region ?_
        refine ob1k h32 fun x11 ex11 h33 => ?_
        refine AOps.step rfl rfl rfl (OpQ.spec (ms_add rfl (.inl rfl) (.inl rfl) (fun _ => ex11)) _) ?_
        refine AOps.step rfl rfl rfl (OpQ.spec (sp_move rfl (.inl rfl)) _) ?_
        refine AOps.nil ?_
        exact NextQ2.mk h33 (vec [(G3 3), (G3 7), (G3 11), n3]) ((by exact Weak.cv ⟨.inl (.inl rfl), .inl (.inl rfl), .inl (.inl rfl), .inl (.inl rfl), .inl (.inl rfl), .inl (.inl rfl), .inl (.inl rfl), .inl (.inl rfl), trivial⟩ ⟨.inl rfl, .inl rfl, .inl rfl, .inl rfl, .inl rfl, .inl rfl, .inl rfl, trivial⟩ (Nat.le_refl _)))
      · have h29 := ite_f hc5 h28
        refine AW.exit ?_
        exact wK12 _ _ ((by exact Weak.cv ⟨.inl (.inl rfl), .inl (.inl rfl), .inl (.inl rfl), .inl (.inl rfl), .inl (.inl rfl), .inl (.inl rfl), trivial⟩ ⟨.inl rfl, .inl rfl, .inl rfl, .inl rfl, .inl rfl, .inl rfl, .inl rfl, trivial⟩ (Nat.le_refl _))) (J4 _ (vec [(i14 0), (i14 1), (i14 2), (i14 3)]) (hx2 _ (Option.some.inj h29).symm))
    refine AW.cond rfl (fun hc6 => ?_) (fun hc6 => ?_)
    · have h34 := ite_t hc6 hp2
      refine ob1k h34 fun x12 ex12 h35 => ?_
      refine ob1k h35 fun l9 el9 h36 => ?_
      refine ob1k h36 fun x13 ex13 h37 => ?_
      refine ob1k h37 fun l10 el10 h38 => ?_
      refine AW.regionP 16 [⟨some 25, (fun _ => .ptr 7 (n0 + 4) 0 0), none, []⟩, ⟨some 26, (fun _ => .own 11 (i5 0)), none, []⟩, ⟨some 27, (fun _ => .r (.int .i64 k1)), none, []⟩, ⟨some 28, (fun G4 => .own 28 (G4 3)), some (28, (fun G4 => some (.arr (G4 3) 113 3 (([] : List GElem).map GElem.row)))), [3]⟩, ⟨some 29, (fun _ => .ptr 7 (n0 + 4) 0 0), none, []⟩, ⟨some 30, (fun _ => .own 11 (i5 0)), none, []⟩, ⟨some 31, (fun _ => .r (.int .i64 k1)), none, []⟩, ⟨some 32, (fun _ => .ptr 11 (i5 0) k1.toNat 0), none, []⟩, ⟨some 33, (fun _ => .r (.sl (x12.map GElem.row))), none, []⟩, ⟨some 34, (fun G4 => .own 28 (G4 9)), some (28, (fun G4 => some (.arr (G4 9) 113 3 (l9.map GElem.row)))), [9]⟩, ⟨some 35, (fun _ => .ptr 3 n0 0 0), none, []⟩, ⟨some 36, (fun _ => .r (.sl (a1.Adds.map (rSl GElem.row)))), none, []⟩, ⟨some 37, (fun _ => .r (.int .i64 i4)), none, []⟩, ⟨some 38, (fun _ => .rop ((rSl GElem.row) x13) 0), none, []⟩, ⟨some 39, (fun _ => .r (.sl (x13.map GElem.row))), none, []⟩, ⟨some 40, (fun G4 => .own 28 (G4 15)), some (28, (fun G4 => some (.arr (G4 15) 113 3 (l10.map GElem.row)))), [15]⟩] hmix (by kernel_rfl) (by exact ⟨fun _ _ h => ⟨rfl, fun _ _ e => by cases e⟩, fun _ _ h => ⟨rfl, fun _ _ e => by cases e⟩, fun _ _ h => ⟨rfl, fun _ _ e => by cases e⟩, fun _ _ h => ⟨by simp only [h 3 rfl], fun _ _ e => by cases e; simp only [h 3 rfl]⟩, fun _ _ h => ⟨rfl, fun _ _ e => by cases e⟩, fun _ _ h => ⟨rfl, fun _ _ e => by cases e⟩, fun _ _ h => ⟨rfl, fun _ _ e => by cases e⟩, fun _ _ h => ⟨rfl, fun _ _ e => by cases e⟩, fun _ _ h => ⟨rfl, fun _ _ e => by cases e⟩, fun _ _ h => ⟨by simp only [h 9 rfl], fun _ _ e => by cases e; simp only [h 9 rfl]⟩, fun _ _ h => ⟨rfl, fun _ _ e => by cases e⟩, fun _ _ h => ⟨rfl, fun _ _ e => by cases e⟩, fun _ _ h => ⟨rfl, fun _ _ e => by cases e⟩, fun _ _ h => ⟨rfl, fun _ _ e => by cases e⟩, fun _ _ h => ⟨rfl, fun _ _ e => by cases e⟩, fun _ _ h => ⟨by simp only [h 15 rfl], fun _ _ e => by cases e; simp only [h 15 rfl]⟩, trivial⟩) rfl (by exact ⟨Ob.quiet (n1 := fun n => n) rfl rfl (by intro d h; cases h; rfl) rfl (fun _ => [(7, .ptr 7 (n0 + 4) 0 0)]) (fun _ => [(7, some (.box (n0 + 4) 34 [.own 11 (i5 0), .own 57 (i5 1), .own 61 (i5 2)]))]) (fun D G4 hr => ⟨inE_base rfl rfl, trivial⟩) (fun D G4 hr => ⟨inH_base rfl rfl, trivial⟩) (fun _ _ => rfl) (fun G4 e h' n => OpQ.spec (v := .ptr 7 (n0 + 4) 0 0) (sp_fieldAddr_own (ob := .box _ _ _) rfl tf_34_0 (.inl rfl) (fun _ => rfl) rfl) _),
          Ob.quiet (n1 := fun n => n) rfl rfl (by intro d h; cases h; rfl) rfl (fun _ => [(25, .ptr 7 (n0 + 4) 0 0)]) (fun _ => [(7, some (.box (n0 + 4) 34 [.own 11 (i5 0), .own 57 (i5 1), .own 61 (i5 2)]))]) (fun D G4 hr => ⟨inE_op hr 0 rfl rfl (by kernel_rfl) rfl rfl, trivial⟩) (fun D G4 hr => ⟨inH_base rfl rfl, trivial⟩) (fun _ _ => rfl) (fun G4 e h' n => OpQ.spec (v := .own 11 (i5 0)) (ms_load_box (a := .own 11 (i5 0)) rfl ts_30 (.inl rfl) rfl rfl) _),
          Ob.quiet (n1 := fun n => n) rfl rfl (by intro d h; cases h; rfl) rfl (fun _ => [(9, .r (.int .i64 k1))]) (fun _ => []) (fun D G4 hr => ⟨inE_base rfl rfl, trivial⟩) (fun D G4 hr => trivial) (fun _ _ => rfl) (fun G4 e h' n => OpQ.spec (v := .r (.int .i64 k1)) (sp_move rfl (.inl rfl)) _),
          Ob.make (n1 := fun n => n + 1) rfl rfl (by intro d h; cases h; rfl) rfl (fun _ => []) (fun _ => []) (fun D G4 hr => trivial) (fun D G4 hr => trivial) (fun G4 e h' n => ms_lit 28 rfl tg_39 (f := GElem.row) (l := ([] : List GElem)) trivial rfl (fun _ => rfl) rfl),
          Ob.quiet (n1 := fun n => n) rfl rfl (by intro d h; cases h; rfl) rfl (fun _ => [(7, .ptr 7 (n0 + 4) 0 0)]) (fun _ => [(7, some (.box (n0 + 4) 34 [.own 11 (i5 0), .own 57 (i5 1), .own 61 (i5 2)]))]) (fun D G4 hr => ⟨inE_base rfl rfl, trivial⟩) (fun D G4 hr => ⟨inH_base rfl rfl, trivial⟩) (fun _ _ => rfl) (fun G4 e h' n => OpQ.spec (v := .ptr 7 (n0 + 4) 0 0) (sp_fieldAddr_own (ob := .box _ _ _) rfl tf_34_0 (.inl rfl) (fun _ => rfl) rfl) _),
          Ob.quiet (n1 := fun n => n) rfl rfl (by intro d h; cases h; rfl) rfl (fun _ => [(29, .ptr 7 (n0 + 4) 0 0)]) (fun _ => [(7, some (.box (n0 + 4) 34 [.own 11 (i5 0), .own 57 (i5 1), .own 61 (i5 2)]))]) (fun D G4 hr => ⟨inE_op hr 4 rfl rfl (by kernel_rfl) rfl rfl, trivial⟩) (fun D G4 hr => ⟨inH_base rfl rfl, trivial⟩) (fun _ _ => rfl) (fun G4 e h' n => OpQ.spec (v := .own 11 (i5 0)) (ms_load_box (a := .own 11 (i5 0)) rfl ts_30 (.inl rfl) rfl rfl) _),
          Ob.quiet (n1 := fun n => n) rfl rfl (by intro d h; cases h; rfl) rfl (fun _ => [(9, .r (.int .i64 k1))]) (fun _ => []) (fun D G4 hr => ⟨inE_base rfl rfl, trivial⟩) (fun D G4 hr => trivial) (fun _ _ => rfl) (fun G4 e h' n => OpQ.spec (v := .r (.int .i64 k1)) (sp_move rfl (.inl rfl)) _),
          Ob.quiet (n1 := fun n => n) rfl rfl (by intro d h; cases h; rfl) rfl (fun _ => [(30, .own 11 (i5 0)), (31, .r (.int .i64 k1))]) (fun _ => [(11, some (.arr (i5 0) 39 1 (out2.Adds.map (rSl GElem.row))))]) (fun D G4 hr => ⟨inE_op hr 5 rfl rfl (by kernel_rfl) rfl rfl, inE_op hr 6 rfl rfl (by kernel_rfl) rfl rfl, trivial⟩) (fun D G4 hr => ⟨inH_base rfl rfl, trivial⟩) (fun _ _ => rfl) (fun G4 e h' n => OpQ.spec (v := .ptr 11 (i5 0) k1.toNat 0) (ms_idx_own rfl tg_30.slice (.inl rfl) rfl (.inl rfl) (fun _ => ex12)) _),
          Ob.quiet (n1 := fun n => n) rfl rfl (by intro d h; cases h; rfl) rfl (fun _ => [(32, .ptr 11 (i5 0) k1.toNat 0)]) (fun _ => [(11, some (.arr (i5 0) 39 1 (out2.Adds.map (rSl GElem.row))))]) (fun D G4 hr => ⟨inE_op hr 7 rfl rfl (by kernel_rfl) rfl rfl, trivial⟩) (fun D G4 hr => ⟨inH_base rfl rfl, trivial⟩) (fun _ _ => rfl) (fun G4 e h' n => OpQ.spec (v := .r (.sl (x12.map GElem.row))) (ms_load_own (d := .sl (x12.map GElem.row)) rfl ts_39 (.inl rfl) (fun _ => rfl) (fun _ => ex12) rfl) _),
          Ob.make (n1 := fun n => n + 1) rfl rfl (by intro d h; cases h; rfl) rfl (fun G4 => [(28, .own 28 (G4 3)), (33, .r (.sl (x12.map GElem.row)))]) (fun G4 => [(28, some (.arr (G4 3) 113 3 (([] : List GElem).map GElem.row)))]) (fun D G4 hr => ⟨inE_op hr 3 rfl rfl (by kernel_rfl) rfl rfl, inE_op hr 8 rfl rfl (by kernel_rfl) rfl rfl, trivial⟩) (fun D G4 hr => ⟨inH_op hr 3 rfl rfl (by kernel_rfl) (by kernel_rfl) rfl, trivial⟩) (fun G4 e h' n => ms_app rfl tg_39 (.inl rfl) rfl (.inl ⟨(.inl rfl), fun _ => rfl⟩) el9),
          Ob.quiet (n1 := fun n => n) rfl rfl (by intro d h; cases h; rfl) rfl (fun _ => [(3, .ptr 3 n0 0 0)]) (fun _ => [(3, some (.box n0 34 [.r (.sl (a1.Adds.map (rSl GElem.row))), .r (.sl (a1.Cuts.map rBool)), .r (.sl (a1.Attrs.map (rSl GAttr.row)))]))]) (fun D G4 hr => ⟨inE_base rfl rfl, trivial⟩) (fun D G4 hr => ⟨inH_base rfl rfl, trivial⟩) (fun _ _ => rfl) (fun G4 e h' n => OpQ.spec (v := .ptr 3 n0 0 0) (sp_fieldAddr_own (ob := .box _ _ _) rfl tf_34_0 (.inl rfl) (fun _ => rfl) rfl) _),
          Ob.quiet (n1 := fun n => n) rfl rfl (by intro d h; cases h; rfl) rfl (fun _ => [(35, .ptr 3 n0 0 0)]) (fun _ => [(3, some (.box n0 34 [.r (.sl (a1.Adds.map (rSl GElem.row))), .r (.sl (a1.Cuts.map rBool)), .r (.sl (a1.Attrs.map (rSl GAttr.row)))]))]) (fun D G4 hr => ⟨inE_op hr 10 rfl rfl (by kernel_rfl) rfl rfl, trivial⟩) (fun D G4 hr => ⟨inH_base rfl rfl, trivial⟩) (fun _ _ => rfl) (fun G4 e h' n => OpQ.spec (v := .r (.sl (a1.Adds.map (rSl GElem.row)))) (ms_load_box (a := .r (.sl (a1.Adds.map (rSl GElem.row)))) rfl ts_30 (.inl rfl) rfl rfl) _),
          Ob.quiet (n1 := fun n => n) rfl rfl (by intro d h; cases h; rfl) rfl (fun _ => [(8, .r (.int .i64 i4))]) (fun _ => []) (fun D G4 hr => ⟨inE_base rfl rfl, trivial⟩) (fun D G4 hr => trivial) (fun _ _ => rfl) (fun G4 e h' n => OpQ.spec (v := .r (.int .i64 i4)) (sp_move rfl (.inl rfl)) _),
          Ob.quiet (n1 := fun n => n) rfl rfl (by intro d h; cases h; rfl) rfl (fun _ => [(36, .r (.sl (a1.Adds.map (rSl GElem.row)))), (37, .r (.int .i64 i4))]) (fun _ => []) (fun D G4 hr => ⟨inE_op hr 11 rfl rfl (by kernel_rfl) rfl rfl, inE_op hr 12 rfl rfl (by kernel_rfl) rfl rfl, trivial⟩) (fun D G4 hr => trivial) (fun _ _ => rfl) (fun G4 e h' n => OpQ.spec (v := .rop ((rSl GElem.row) x13) 0) (ms_idx rfl tg_30.slice (.inl rfl) (.inl rfl) (fun _ => rfl) (fun _ => ex13)) _),
          Ob.quiet (n1 := fun n => n) rfl rfl (by intro d h; cases h; rfl) rfl (fun _ => [(38, .rop ((rSl GElem.row) x13) 0)]) (fun _ => []) (fun D G4 hr => ⟨inE_op hr 13 rfl rfl (by kernel_rfl) rfl rfl, trivial⟩) (fun D G4 hr => trivial) (fun _ _ => rfl) (fun G4 e h' n => OpQ.spec (v := .r (.sl (x13.map GElem.row))) (ms_load (d := .sl (x13.map GElem.row)) rfl ts_39 (.inl rfl) rfl) _),
          Ob.make (n1 := fun n => n + 1) rfl rfl (by intro d h; cases h; rfl) rfl (fun G4 => [(34, .own 28 (G4 9)), (39, .r (.sl (x13.map GElem.row)))]) (fun G4 => [(28, some (.arr (G4 9) 113 3 (l9.map GElem.row)))]) (fun D G4 hr => ⟨inE_op hr 9 rfl rfl (by kernel_rfl) rfl rfl, inE_op hr 14 rfl rfl (by kernel_rfl) rfl rfl, trivial⟩) (fun D G4 hr => ⟨inH_op hr 9 rfl rfl (by kernel_rfl) (by kernel_rfl) rfl, trivial⟩) (fun G4 e h' n => ms_app rfl tg_39 (.inl rfl) rfl (.inl ⟨(.inl rfl), fun _ => rfl⟩) el10),
          trivial⟩) fun G4 n4 => ?_
      refine AOps.weak (s' := ⟨[(2, .r (.bool first1)), (3, .ptr 3 n0 0 0), (4, .ptr 4 (n0 + 1) 0 0), (6, .ptr 6 (n0 + 2) 0 0), (7, .ptr 7 (n0 + 4) 0 0), (8, .r (.int .i64 i4)), (9, .r (.int .i64 k1)), (24, .r (.bool first1)), (25, .ptr 7 (n0 + 4) 0 0), (26, .own 11 (i5 0)), (27, .r (.int .i64 k1)), (29, .ptr 7 (n0 + 4) 0 0), (30, .own 11 (i5 0)), (31, .r (.int .i64 k1)), (32, .ptr 11 (i5 0) k1.toNat 0), (33, .r (.sl (x12.map GElem.row))), (35, .ptr 3 n0 0 0), (36, .r (.sl (a1.Adds.map (rSl GElem.row)))), (37, .r (.int .i64 i4)), (38, .rop ((rSl GElem.row) x13) 0), (39, .r (.sl (x13.map GElem.row))), (40, .own 28 (G4 15))], [(3, some (.box n0 34 [.r (.sl (a1.Adds.map (rSl GElem.row))), .r (.sl (a1.Cuts.map rBool)), .r (.sl (a1.Attrs.map (rSl GAttr.row)))])), (4, some (.box (n0 + 1) 34 [.r (.sl (b1.Adds.map (rSl GElem.row))), .r (.sl (b1.Cuts.map rBool)), .r (.sl (b1.Attrs.map (rSl GAttr.row)))])), (6, some (.box (n0 + 2) 34 [.cst (.slice none 0 0), .cst (.slice none 0 0), .cst (.slice none 0 0)])), (7, some (.box (n0 + 4) 34 [.own 11 (i5 0), .own 57 (i5 1), .own 61 (i5 2)])), (11, some (.arr (i5 0) 39 1 (out2.Adds.map (rSl GElem.row)))), (28, some (.arr (G4 15) 113 3 (l10.map GElem.row))), (57, some (.arr (i5 1) 4 1 (out2.Cuts.map rBool))), (61, some (.arr (i5 2) 47 1 (out2.Attrs.map (rSl GAttr.row))))], n4, 136⟩) (by exact Weak.cv ⟨.inl (.inl rfl), .inl (.inl rfl), .inl (.inl rfl), .inl (.inl rfl), .inl (.inl rfl), .inl (.inl rfl), .inl (.inl rfl), .inl (.inl rfl), .inl (.inl rfl), .inl (.inl rfl), .inl (.inl rfl), .inl (.inl rfl), .inl (.inl rfl), .inl (.inl rfl), .inl (.inl rfl), .inl (.inl rfl), .inl (.inl rfl), .inl (.inl rfl), .inl (.inl rfl), .inl (.inl rfl), .inl (.inl rfl), .inl (.inl rfl), trivial⟩ ⟨.inl rfl, .inl rfl, .inl rfl, .inl rfl, .inl rfl, .inl rfl, .inl rfl, .inl rfl, trivial⟩ (Nat.le_refl _)) ?_
      refine AOps.step rfl rfl rfl (OpQ.spec (ms_idx_own rfl tg_30.slice (.inl rfl) rfl (.inl rfl) (fun _ => ex12)) _) ?_
      refine AOps.weak (by exact Weak.frz (e' := [(2, .r (.bool first1)), (3, .ptr 3 n0 0 0), (4, .ptr 4 (n0 + 1) 0 0), (6, .ptr 6 (n0 + 2) 0 0), (7, .ptr 7 (n0 + 4) 0 0), (8, .r (.int .i64 i4)), (9, .r (.int .i64 k1)), (24, .r (.bool first1)), (25, .ptr 7 (n0 + 4) 0 0), (26, .own 11 (i5 0)), (27, .r (.int .i64 k1)), (29, .ptr 7 (n0 + 4) 0 0), (30, .own 11 (i5 0)), (31, .r (.int .i64 k1)), (32, .ptr 11 (i5 0) k1.toNat 0), (33, .r (.sl (x12.map GElem.row))), (35, .ptr 3 n0 0 0), (36, .r (.sl (a1.Adds.map (rSl GElem.row)))), (37, .r (.int .i64 i4)), (38, .rop ((rSl GElem.row) x13) 0), (39, .r (.sl (x13.map GElem.row))), (40, .r (.sl (l10.map GElem.row))), (41, .ptr 11 (i5 0) k1.toNat 0)]) (h' := [(3, some (.box n0 34 [.r (.sl (a1.Adds.map (rSl GElem.row))), .r (.sl (a1.Cuts.map rBool)), .r (.sl (a1.Attrs.map (rSl GAttr.row)))])), (4, some (.box (n0 + 1) 34 [.r (.sl (b1.Adds.map (rSl GElem.row))), .r (.sl (b1.Cuts.map rBool)), .r (.sl (b1.Attrs.map (rSl GAttr.row)))])), (6, some (.box (n0 + 2) 34 [.cst (.slice none 0 0), .cst (.slice none 0 0), .cst (.slice none 0 0)])), (7, some (.box (n0 + 4) 34 [.own 11 (i5 0), .own 57 (i5 1), .own 61 (i5 2)])), (11, some (.arr (i5 0) 39 1 (out2.Adds.map (rSl GElem.row)))), (57, some (.arr (i5 1) 4 1 (out2.Cuts.map rBool))), (61, some (.arr (i5 2) 47 1 (out2.Attrs.map (rSl GAttr.row))))]) 28 rfl ⟨.inl (.inl rfl), .inl (.inl rfl), .inl (.inl rfl), .inl (.inl rfl), .inl (.inl rfl), .inl (.inl rfl), .inl (.inl rfl), .inl (.inl rfl), .inl (.inl rfl), .inl (.inl rfl), .inl (.inl rfl), .inl (.inl rfl), .inl (.inl rfl), .inl (.inl rfl), .inl (.inl rfl), .inl (.inl rfl), .inl (.inl rfl), .inl (.inl rfl), .inl (.inl rfl), .inl (.inl rfl), .inl (.inl rfl), .inl (.inr (.inr ⟨rfl, rfl⟩)), .inl (.inl rfl), trivial⟩ ⟨rfl, .inl rfl, rfl, .inl rfl, rfl, .inl rfl, rfl, .inl rfl, rfl, .inl rfl, rfl, .inl rfl, rfl, .inl rfl, trivial⟩) ?_
      refine AOps.step0 rfl rfl (ms_store (v := l10) rfl tz_39 (.inl rfl) rfl ex12 (.inl rfl) rfl rfl rfl rfl) ?_
      refine AOps.nil ?_
      exact wK10 _ _ ((by exact Weak.cv ⟨.inl (.inl rfl), .inl (.inl rfl), .inl (.inl rfl), .inl (.inl rfl), .inl (.inl rfl), .inl (.inl rfl), trivial⟩ ⟨.inl rfl, .inl rfl, .inl rfl, .inl rfl, .inl rfl, .inl rfl, .inl rfl, trivial⟩ (Nat.le_refl _))) (J3 _ (vec [(i5 0), (i5 1), (i5 2), n4]) (Option.some.inj h38).symm)
    · have h34 := ite_f hc6 hp2
      refine AW.skip ?_
      exact wK10 _ _ ((by exact Weak.cv ⟨.inl (.inl rfl), .inl (.inl rfl), .inl (.inl rfl), .inl (.inl rfl), .inl (.inl rfl), .inl (.inl rfl), trivial⟩ ⟨.inl rfl, .inl rfl, .inl rfl, .inl rfl, .inl rfl, .inl rfl, .inl rfl, trivial⟩ (Nat.le_refl _))) (J3 _ (vec [(i5 0), (i5 1), (i5 2), (i5 3)]) (Option.some.inj h34).symm)
  · have h3 := ite_f hc1 h2
    refine AW.exit ?_
    exact wK3 _ _ ((by exact Weak.cv ⟨.inl (.inl rfl), .inl (.inl rfl), trivial⟩ ⟨.inl rfl, .inl rfl, .inl rfl, .inl rfl, .inl rfl, trivial⟩ (Nat.le_refl _))) (J1 _ (vec [(i5 0), (i5 1), (i5 2), (i5 3)]) (hx1 _ (Option.some.inj h3).symm))
set_option maxHeartbeats 4000000 in
set_option maxRecDepth 20000 in
theorem w_ref_DeltaOf {a1 : Ref_Act} {r : (List GStep)} (h : ref_DeltaOf a1 = some r) : ARO Try.prog 32 [.agg [.r (.sl (a1.Adds.map (rSl GElem.row))), .r (.sl (a1.Cuts.map rBool)), .r (.sl (a1.Attrs.map (rSl GAttr.row)))]] (.r (.sl (r.map GStep.row))) := by
  unfold ref_DeltaOf at h
  refine ARO.mkF Try.func32 rfl rfl Try.ntmps32 rfl (Nat.le_of_ble_eq_true rfl) fun n0 => ?_
  refine AW.seq_w fun K1 hK1 wK1 => ?_
  refine AW.region ?_
  refine AOps.step rfl rfl rfl (ms_box (cs := [.r (.sl (a1.Adds.map (rSl GElem.row))), .r (.sl (a1.Cuts.map rBool)), .r (.sl (a1.Attrs.map (rSl GAttr.row)))]) 1 rfl (.inl rfl) rfl rfl) ?_
  refine AOps.step rfl rfl rfl (OpQ.spec (sp_assign rfl (.inl rfl)) _) ?_
  refine AOps.nil ?_
  refine hK1 _ ?_
  refine AW.seq_w fun K2 hK2 wK2 => ?_
  refine AW.region ?_
  refine AOps.step rfl rfl rfl (OpQ.spec (sp_assign rfl (.inl rfl)) _) ?_
  refine AOps.nil ?_
  refine hK2 _ ?_
  refine AW.seq_w fun K3 hK3 wK3 => ?_
  refine AW.region ?_
  refine AOps.step rfl rfl rfl (OpQ.spec (sp_assign rfl (.inl rfl)) _) ?_
  refine AOps.nil ?_
  refine hK3 _ ?_
  refine AW.seq_w fun K4 hK4 wK4 => ?_
  refine AW.region ?_
  refine AOps.step rfl rfl rfl (OpQ.spec (sp_assign rfl (.inl rfl)) _) ?_
  refine AOps.nil ?_
  refine hK4 _ ?_
  refine AW.seq_w fun K5 hK5 wK5 => ?_
  refine AW.seq_w fun K6 hK6 wK6 => ?_
  refine AW.region ?_
  refine AOps.step rfl rfl rfl (OpQ.spec (sp_assign rfl (.inl rfl)) _) ?_
  refine AOps.nil ?_
  refine hK6 _ ?_
  refine AW.block ?_
  refine jb1k h fun o1 hit1 hk1 => ?_
  have J1 : ∀ (out4 : List GStep) (i8 : Nat → Nat), o1 = out4 → K5 ⟨[(3, .own 5003 (i8 0))], [(5003, some (.arr (i8 0) 49 4 (out4.map GStep.row)))], (i8 1), 100⟩ := by
    intro out4 i8 e
    have h1 := hk1 _ e
    refine hK5 _ ?_
    refine AW.seq_w fun K7 hK7 wK7 => ?_
    refine AW.region ?_
    refine AOps.step rfl rfl rfl (OpQ.spec (sp_move rfl (.inl rfl)) _) ?_
    refine AOps.step rfl rfl rfl (OpQ.spec (sp_assign rfl (.inl rfl)) _) ?_
    refine AOps.nil ?_
    refine hK7 _ ?_
    refine AW.ret ?_
    exact retf1 (P := Try.prog) (fun (r : (List GStep)) => .r (.sl (r.map GStep.row))) h1 (.inl rfl) (.t (.one (.own rfl)))
  refine AW.iter4 (fun (cuts2 : Int) (i4 : Int) (out2 : List GStep) (adds2 : List GElem) i5 => ⟨[(1, .ptr 1 n0 0 0), (3, .own 5003 (i5 0)), (4, .own 5004 (i5 1)), (5, .r (.int .i64 cuts2)), (6, .r (.int .i64 i4))], [(1, some (.box n0 34 [.r (.sl (a1.Adds.map (rSl GElem.row))), .r (.sl (a1.Cuts.map rBool)), .r (.sl (a1.Attrs.map (rSl GAttr.row)))])), (5003, some (.arr (i5 0) 49 4 (out2.map GStep.row))), (5004, some (.arr (i5 1) 113 3 (adds2.map GElem.row)))], (i5 2), 100⟩) (vec [(n0 + 1), (n0 + 2), (n0 + 3)]) hit1 (Weak.trans (Weak.trans (Weak.adopt 3 5003 49 4 (by decide) rfl) (by exact Weak.cv (e' := [(0, .agg [.r (.sl (a1.Adds.map (rSl GElem.row))), .r (.sl (a1.Cuts.map rBool)), .r (.sl (a1.Attrs.map (rSl GAttr.row)))]), (1, .ptr 1 n0 0 0), (2, .cst (.slice none 0 0)), (3, .own 5003 (n0 + 1)), (4, .cst (.slice none 0 0)), (5, .r (.int .i64 0)), (6, .r (.int .i64 0))]) (h' := [(1, some (.box n0 34 [.r (.sl (a1.Adds.map (rSl GElem.row))), .r (.sl (a1.Cuts.map rBool)), .r (.sl (a1.Attrs.map (rSl GAttr.row)))])), (5003, some (.arr (n0 + 1) 49 4 (([] : List GStep).map GStep.row)))]) ⟨.inl (.inl rfl), .inl (.inl rfl), .inl (.inl rfl), .inl (.inl rfl), .inl (.inl rfl), .inl (.inl rfl), .inl (.inl rfl), trivial⟩ ⟨.inl rfl, .inl rfl, trivial⟩ (Nat.le_refl _))) (Weak.trans (Weak.trans (Weak.adopt 4 5004 113 3 (by decide) rfl) (by exact Weak.cv (e' := [(0, .agg [.r (.sl (a1.Adds.map (rSl GElem.row))), .r (.sl (a1.Cuts.map rBool)), .r (.sl (a1.Attrs.map (rSl GAttr.row)))]), (1, .ptr 1 n0 0 0), (2, .cst (.slice none 0 0)), (3, .own 5003 (n0 + 1)), (4, .own 5004 (n0 + 2)), (5, .r (.int .i64 0)), (6, .r (.int .i64 0))]) (h' := [(1, some (.box n0 34 [.r (.sl (a1.Adds.map (rSl GElem.row))), .r (.sl (a1.Cuts.map rBool)), .r (.sl (a1.Attrs.map (rSl GAttr.row)))])), (5003, some (.arr (n0 + 1) 49 4 (([] : List GStep).map GStep.row))), (5004, some (.arr (n0 + 2) 113 3 (([] : List GElem).map GElem.row)))]) ⟨.inl (.inl rfl), .inl (.inl rfl), .inl (.inl rfl), .inl (.inl rfl), .inl (.inl rfl), .inl (.inl rfl), .inl (.inl rfl), trivial⟩ ⟨.inl rfl, .inl rfl, .inl rfl, trivial⟩ (Nat.le_refl _))) (by exact Weak.cv ⟨.inl (.inl rfl), .inl (.inl rfl), .inl (.inl rfl), .inl (.inl rfl), .inl (.inl rfl), trivial⟩ ⟨.inl rfl, .inl rfl, .inl rfl, trivial⟩ (Nat.le_refl _)))) ?_
  intro cuts2 i4 out2 adds2 i5 v1 hv1 hx1
  have h2 : ref_DeltaOf_L1 a1 cuts2 i4 out2 adds2 = some v1 := hv1; unfold ref_DeltaOf_L1 at h2
  refine AW.seq_w fun K8 hK8 wK8 => ?_
  refine AW.seq_w fun K9 hK9 wK9 => ?_
  refine AW.region ?_
  refine AOps.step rfl rfl rfl (OpQ.spec (sp_move rfl (.inl rfl)) _) ?_
  refine AOps.step rfl rfl rfl (OpQ.spec (sp_fieldAddr_own (ob := .box _ _ _) rfl tf_34_1 (.inl rfl) (fun _ => rfl) rfl) _) ?_
  refine AOps.step rfl rfl rfl (OpQ.spec (ms_load_box (a := .r (.sl (a1.Cuts.map rBool))) rfl ts_31 (.inl rfl) rfl rfl) _) ?_
  refine AOps.step rfl rfl rfl (OpQ.spec (ms_len rfl tg_31.slice (.inl rfl)) _) ?_
  refine AOps.step rfl rfl rfl (OpQ.spec (sp_leq rfl (.inl rfl) (.inl rfl)) _) ?_
  refine AOps.nil ?_
  refine hK9 _ ?_
  refine AW.cond rfl (fun hc1 => ?_) (fun hc1 => ?_)
  · have h3 := ite_t hc1 h2
    refine AW.skip ?_
    refine hK8 _ ?_
    refine AW.seq_w fun K10 hK10 wK10 => ?_
    refine AW.block ?_
    refine jc3k h3 fun p1 hp1 hk2 he2 => ?_
    have J2 : ∀ (cuts4 : Int) (out5 : List GStep) (adds4 : List GElem) (i9 : Nat → Nat), p1 = .nrm (cuts4, out5, adds4) → K10 ⟨[(1, .ptr 1 n0 0 0), (3, .own 5003 (i9 0)), (4, .own 5004 (i9 1)), (5, .r (.int .i64 cuts4)), (6, .r (.int .i64 i4))], [(1, some (.box n0 34 [.r (.sl (a1.Adds.map (rSl GElem.row))), .r (.sl (a1.Cuts.map rBool)), .r (.sl (a1.Attrs.map (rSl GAttr.row)))])), (5003, some (.arr (i9 0) 49 4 (out5.map GStep.row))), (5004, some (.arr (i9 1) 113 3 (adds4.map GElem.row)))], (i9 2), 100⟩ := by
      intro cuts4 out5 adds4 i9 e
      have h4 := hk2 _ _ _ e
      refine hK10 _ ?_
      refine AW.region ?_
      refine AOps.step rfl rfl rfl (OpQ.spec (sp_move rfl (.inl rfl)) _) ?_
      refine ob1k h4 fun i10 ei10 h5 => ?_
      refine AOps.step rfl rfl rfl (OpQ.spec (ms_add rfl (.inl rfl) (.inl rfl) (fun _ => ei10)) _) ?_
      refine AOps.step rfl rfl rfl (OpQ.spec (sp_assign rfl (.inl rfl)) _) ?_
      refine AOps.nil ?_
      exact NextQ4.mk h5 (vec [(i9 0), (i9 1), (i9 2)]) ((by exact Weak.cv ⟨.inl (.inl rfl), .inl (.inl rfl), .inl (.inl rfl), .inl (.inl rfl), .inl (.inl rfl), trivial⟩ ⟨.inl rfl, .inl rfl, .inl rfl, trivial⟩ (Nat.le_refl _)))
    refine AW.seq_w fun K11 hK11 wK11 => ?_
    refine AW.region ?_
    refine AOps.step rfl rfl rfl (OpQ.spec (sp_move rfl (.inl rfl)) _) ?_
    refine AOps.step rfl rfl rfl (OpQ.spec (sp_fieldAddr_own (ob := .box _ _ _) rfl tf_34_0 (.inl rfl) (fun _ => rfl) rfl) _) ?_
    refine AOps.step rfl rfl rfl (OpQ.spec (ms_load_box (a := .r (.sl (a1.Adds.map (rSl GElem.row)))) rfl ts_30 (.inl rfl) rfl rfl) _) ?_
    refine AOps.step rfl rfl rfl (OpQ.spec (sp_move rfl (.inl rfl)) _) ?_
    refine ob1k hp1 fun x1 ex1 h6 => ?_
    refine AOps.step rfl rfl rfl (OpQ.spec (ms_idx rfl tg_30.slice (.inl rfl) (.inl rfl) (fun _ => rfl) (fun _ => ex1)) _) ?_
    refine AOps.step rfl rfl rfl (OpQ.spec (ms_load (d := .sl (x1.map GElem.row)) rfl ts_39 (.inl rfl) rfl) _) ?_
    refine ob1k h6 fun adds5 eadds5 h7 => ?_
    refine AOps.step rfl rfl rfl (ms_app rfl tg_39 (.inl rfl) rfl (.inl ⟨(.inl rfl), fun _ => rfl⟩) eadds5) ?_
    refine AOps.step rfl rfl rfl (OpQ.spec (sp_assign rfl (.inl rfl)) _) ?_
    refine AOps.nil ?_
    refine hK11 _ ?_
    refine AW.seq_w fun K12 hK12 wK12 => ?_
    refine AW.seq_w fun K13 hK13 wK13 => ?_
    refine AW.weak (s' := ⟨[(1, .ptr 1 n0 0 0), (3, .own 5003 (i5 0)), (4, .own 5004 (i5 2)), (5, .r (.int .i64 cuts2)), (6, .r (.int .i64 i4))], [(1, some (.box n0 34 [.r (.sl (a1.Adds.map (rSl GElem.row))), .r (.sl (a1.Cuts.map rBool)), .r (.sl (a1.Attrs.map (rSl GAttr.row)))])), (5003, some (.arr (i5 0) 49 4 (out2.map GStep.row))), (5004, some (.arr (i5 2) 113 3 (adds5.map GElem.row)))], ((i5 2) + 1), 100⟩) (by exact Weak.cv ⟨.inl (.inl rfl), .inl (.inl rfl), .inl (.inl rfl), .inl (.inl rfl), .inl (.inl rfl), trivial⟩ ⟨.inl rfl, .inl rfl, .inl rfl, trivial⟩ (Nat.le_refl _)) ?_
    refine AW.region ?_
    refine AOps.step rfl rfl rfl (OpQ.spec (sp_move rfl (.inl rfl)) _) ?_
    refine AOps.step rfl rfl rfl (OpQ.spec (sp_fieldAddr_own (ob := .box _ _ _) rfl tf_34_1 (.inl rfl) (fun _ => rfl) rfl) _) ?_
    refine AOps.step rfl rfl rfl (OpQ.spec (ms_load_box (a := .r (.sl (a1.Cuts.map rBool))) rfl ts_31 (.inl rfl) rfl rfl) _) ?_
    refine AOps.step rfl rfl rfl (OpQ.spec (ms_len rfl tg_31.slice (.inl rfl)) _) ?_
    refine AOps.step rfl rfl rfl (OpQ.spec (sp_lss rfl (.inl rfl) (.inl rfl)) _) ?_
    refine AOps.step rfl rfl rfl (OpQ.spec (sp_move rfl (.inl rfl)) _) ?_
    refine AOps.stepW (.one rfl rfl rfl) rfl rfl (OpQ.spec (sp_fieldAddr_own (ob := .box _ _ _) rfl tf_34_1 (.inl rfl) (fun _ => rfl) rfl) _) ?_
    refine AOps.stepW (.one rfl rfl rfl) rfl rfl (OpQ.spec (ms_load_box (a := .r (.sl (a1.Cuts.map rBool))) rfl ts_31 (.inr ⟨_, (by exact id), rfl⟩) rfl rfl) _) ?_
    refine AOps.stepW (.one rfl rfl rfl) rfl rfl (OpQ.spec (sp_move rfl (.inl rfl)) _) ?_
    refine ob1k h7 fun x2 ex2 h8 => ?_
    refine AOps.stepW (.one rfl rfl rfl) rfl rfl (OpQ.spec (ms_idx rfl tg_31.slice (.inr ⟨_, (by exact id), rfl⟩) (.inr ⟨_, (by exact id), rfl⟩) (fun _ => rfl) (gdt ex2)) _) ?_
    refine AOps.stepW (.one rfl rfl rfl) rfl rfl (OpQ.spec (ms_load (d := .bool x2) rfl ts_4 (.inr ⟨_, (by exact id), rfl⟩) rfl) _) ?_
    refine AOps.step rfl rfl rfl (OpQ.spec (sp_and rfl (.inl rfl) (.inr ⟨_, (by exact id), rfl⟩)) _) ?_
    refine AOps.nil ?_
    refine hK13 _ ?_
    refine AW.cond rfl (fun hc2 => ?_) (fun hc2 => ?_)
    · have h9 := ite_t hc2 h8
      refine AW.seq_w fun K14 hK14 wK14 => ?_
      refine AW.region ?_
      refine AOps.step rfl rfl rfl (OpQ.spec (sp_move rfl (.inl rfl)) _) ?_
      refine ob1k h9 fun cuts5 ecuts5 h10 => ?_
      refine AOps.step rfl rfl rfl (OpQ.spec (ms_add rfl (.inl rfl) (.inl rfl) (fun _ => ecuts5)) _) ?_
      refine AOps.step rfl rfl rfl (OpQ.spec (sp_assign rfl (.inl rfl)) _) ?_
      refine AOps.nil ?_
      refine hK14 _ ?_
      refine AW.exit ?_
      exact wK10 _ _ ((by exact Weak.cv ⟨.inl (.inl rfl), .inl (.inl rfl), .inl (.inl rfl), .inl (.inl rfl), .inl (.inl rfl), trivial⟩ ⟨.inl rfl, .inl rfl, .inl rfl, trivial⟩ (Nat.le_refl _))) (J2 _ _ _ (vec [(i5 0), (i5 2), ((i5 2) + 1)]) (Option.some.inj h10).symm)
    · have h9 := ite_f hc2 h8
      refine AW.skip ?_
      refine hK12 _ ?_
      refine AW.seq_w fun K15 hK15 wK15 => ?_
      refine AW.seq_w fun K16 hK16 wK16 => ?_
      refine AW.region ?_
      refine AOps.step rfl rfl rfl (OpQ.spec (sp_move rfl (.inl rfl)) _) ?_
      refine AOps.step rfl rfl rfl (OpQ.spec (ms_len_own rfl tg_39.slice (.inl rfl) rfl) _) ?_
      refine AOps.step rfl rfl rfl (OpQ.spec (sp_gtr rfl (.inl rfl) (.inl rfl)) _) ?_
      refine AOps.nil ?_
      refine hK16 _ ?_
      refine jb1k h9 fun p2 hp2 hk3 => ?_
      have J3 : ∀ (out6 : List GStep) (i11 : Nat → Nat), p2 = out6 → K15 ⟨[(1, .ptr 1 n0 0 0), (3, .own 5003 (i11 0)), (5, .r (.int .i64 cuts2)), (6, .r (.int .i64 i4))], [(1, some (.box n0 34 [.r (.sl (a1.Adds.map (rSl GElem.row))), .r (.sl (a1.Cuts.map rBool)), .r (.sl (a1.Attrs.map (rSl GAttr.row)))])), (5003, some (.arr (i11 0) 49 4 (out6.map GStep.row)))], (i11 1), 100⟩ := by
        intro out6 i11 e
        have h11 := hk3 _ e
        refine hK15 _ ?_
        refine AW.seq_w fun K17 hK17 wK17 => ?_
        refine AW.seq_w fun K18 hK18 wK18 => ?_
        refine AW.region ?_
        refine AOps.step rfl rfl rfl (OpQ.spec (sp_move rfl (.inl rfl)) _) ?_
        refine AOps.step rfl rfl rfl (OpQ.spec (sp_gtr rfl (.inl rfl) (.inl rfl)) _) ?_
        refine AOps.nil ?_
        refine hK18 _ ?_
        refine jb1k h11 fun p3 hp3 hk4 => ?_
        have J4 : ∀ (out7 : List GStep) (i12 : Nat → Nat), p3 = out7 → K17 ⟨[(1, .ptr 1 n0 0 0), (3, .own 5003 (i12 0)), (6, .r (.int .i64 i4))], [(1, some (.box n0 34 [.r (.sl (a1.Adds.map (rSl GElem.row))), .r (.sl (a1.Cuts.map rBool)), .r (.sl (a1.Attrs.map (rSl GAttr.row)))])), (5003, some (.arr (i12 0) 49 4 (out7.map GStep.row)))], (i12 1), 100⟩ := by
          intro out7 i12 e
          have h12 := hk4 _ e
          refine hK17 _ ?_
          refine AW.seq_w fun K19 hK19 wK19 => ?_
          refine AW.region ?_
          refine AOps.step rfl rfl rfl (OpQ.spec (sp_assign rfl (.inl rfl)) _) ?_
          refine AOps.step rfl rfl rfl (OpQ.spec (sp_assign rfl (.inl rfl)) _) ?_
          refine AOps.nil ?_
          refine hK19 _ ?_
          refine AW.seq_w fun K20 hK20 wK20 => ?_
          refine AW.seq_w fun K21 hK21 wK21 => ?_
          refine AW.region ?_
          refine AOps.step rfl rfl rfl (OpQ.spec (sp_move rfl (.inl rfl)) _) ?_
          refine AOps.step rfl rfl rfl (OpQ.spec (sp_fieldAddr_own (ob := .box _ _ _) rfl tf_34_1 (.inl rfl) (fun _ => rfl) rfl) _) ?_
          refine AOps.step rfl rfl rfl (OpQ.spec (ms_load_box (a := .r (.sl (a1.Cuts.map rBool))) rfl ts_31 (.inl rfl) rfl rfl) _) ?_
          refine AOps.step rfl rfl rfl (OpQ.spec (ms_len rfl tg_31.slice (.inl rfl)) _) ?_
          refine AOps.step rfl rfl rfl (OpQ.spec (sp_eql rfl (.inl rfl) (.inl rfl)) _) ?_
          refine AOps.nil ?_
          refine hK21 _ ?_
          refine AW.cond rfl (fun hc3 => ?_) (fun hc3 => ?_)
          · have h13 := ite_t hc3 h12
            refine AW.exit ?_
            exact wK5 _ _ ((by exact Weak.cv ⟨.inl (.inl rfl), trivial⟩ ⟨.inl rfl, trivial⟩ (Nat.le_refl _))) (J1 _ (vec [(i12 0), (i12 1)]) (hx1 _ (Option.some.inj (he2 _ (Option.some.inj h13).symm)).symm))
          · have h13 := ite_f hc3 h12
            refine AW.skip ?_
            refine hK20 _ ?_
            refine AW.seq_w fun K22 hK22 wK22 => ?_
            refine AW.region ?_
            refine AOps.step rfl rfl rfl (OpQ.spec (sp_move rfl (.inl rfl)) _) ?_
            refine AOps.step rfl rfl rfl (OpQ.spec (ms_len_own rfl tg_42.slice (.inl rfl) rfl) _) ?_
            refine ob1k h13 fun k1 ek1 h14 => ?_
            refine AOps.step rfl rfl rfl (OpQ.spec (ms_sub rfl (.inl rfl) (.inl rfl) (fun _ => ek1)) _) ?_
            refine AOps.step rfl rfl rfl (OpQ.spec (sp_assign rfl (.inl rfl)) _) ?_
            refine AOps.nil ?_
            refine hK22 _ ?_
            refine AW.seq_w fun K23 hK23 wK23 => ?_
            refine AW.regionQ hmix (by kernel_rfl) ?_
            refine AQ.step rfl rfl rfl (sp_move rfl (.inl rfl)) ?_
            refine AQ.step rfl rfl rfl (sp_geq rfl (.inl rfl) (.inl rfl)) ?_
            refine AQ.step rfl rfl rfl (sp_move rfl (.inl rfl)) ?_
            refine AQ.stepW (.one rfl rfl rfl) rfl rfl (sp_move rfl (.inl rfl)) ?_
            refine AQ.stepW (.one rfl rfl rfl) rfl rfl (sp_move rfl (.inl rfl)) ?_
            refine ob1k h14 fun x3 ex3 h15 => ?_
            refine AQ.stepW (.one rfl rfl rfl) rfl rfl (ms_idx_own rfl tg_42.slice (.inr ⟨_, (by exact id), rfl⟩) rfl (.inr ⟨_, (by exact id), rfl⟩) (gdt ex3)) ?_
            refine AQ.stepW (.one rfl rfl rfl) rfl rfl (sp_fieldAddr_own (ob := .arr _ _ _ _) rfl tf_49_0 (.inr ⟨_, (by exact id), rfl⟩) (fun _ => rfl) rfl) ?_
            refine AQ.stepW (.one rfl rfl rfl) rfl rfl (ms_load_own (d := .int .i64 x3.Kind) rfl ts_3 (.inr ⟨_, (by exact id), rfl⟩) (fun _ => rfl) (gdt ex3) rfl) ?_
            refine AQ.stepW (.one rfl rfl rfl) rfl rfl (sp_eql rfl (.inr ⟨_, (by exact id), rfl⟩) (.inl rfl)) ?_
            refine AQ.step rfl rfl rfl (sp_and rfl (.inl rfl) (.inr ⟨_, (by exact id), rfl⟩)) ?_
            refine AQ.step rfl rfl rfl (sp_move rfl (.inl rfl)) ?_
            refine AQ.stepW (.one rfl rfl rfl) rfl rfl (sp_move rfl (.inl rfl)) ?_
            refine AQ.stepW (.one rfl rfl rfl) rfl rfl (sp_move rfl (.inl rfl)) ?_
            refine ob1k h15 fun x4 ex4 h16 => ?_
            refine AQ.stepW (.one rfl rfl rfl) rfl rfl (ms_idx_own rfl tg_42.slice (.inr ⟨_, (by exact id), rfl⟩) rfl (.inr ⟨_, (by exact id), rfl⟩) (gdt ex4)) ?_
            refine AQ.stepW (.one rfl rfl rfl) rfl rfl (sp_fieldAddr_own (ob := .arr _ _ _ _) rfl tf_49_2 (.inr ⟨_, (by exact id), rfl⟩) (fun _ => rfl) rfl) ?_
            refine AQ.stepW (.one rfl rfl rfl) rfl rfl (ms_load_own (d := .sl (x4.Attrs.map GAttr.row)) rfl ts_47 (.inr ⟨_, (by exact id), rfl⟩) (fun _ => rfl) (gdt ex4) rfl) ?_
            refine AQ.stepW (.one rfl rfl rfl) rfl rfl (sp_fieldAddr_own (ob := .box _ _ _) rfl tf_34_2 (.inl rfl) (fun _ => rfl) rfl) ?_
            refine AQ.stepW (.one rfl rfl rfl) rfl rfl (ms_load_box (a := .r (.sl (a1.Attrs.map (rSl GAttr.row)))) rfl ts_32 (.inr ⟨_, (by exact id), rfl⟩) rfl rfl) ?_
            refine AQ.stepW (.one rfl rfl rfl) rfl rfl (sp_move rfl (.inl rfl)) ?_
            refine ob1k h16 fun x5 ex5 h17 => ?_
            refine AQ.stepW (.one rfl rfl rfl) rfl rfl (ms_idx rfl tg_32.slice (.inr ⟨_, (by exact id), rfl⟩) (.inr ⟨_, (by exact id), rfl⟩) (fun _ => rfl) (gdt ex5)) ?_
            refine AQ.stepW (.one rfl rfl rfl) rfl rfl (ms_load (d := .sl (x5.map GAttr.row)) rfl ts_47 (.inr ⟨_, (by exact id), rfl⟩) rfl) ?_
            refine ob1k h17 fun r1 er1 h18 => ?_
            refine AQ.stepWC (.one rfl rfl rfl) rfl rfl (r := .r (.bool r1)) (caps := []) (bs := [.r (.sl (x4.Attrs.map GAttr.row)), .r (.sl (x5.map GAttr.row))]) rfl (.inl rfl) rfl ⟨⟨_, (.inr ⟨_, (by exact id), rfl⟩), .d rfl⟩, ⟨_, (.inr ⟨_, (by exact id), rfl⟩), .d rfl⟩, trivial⟩ (fun hg => w_ref_SameAttrs (gdt er1 hg)) rfl ?_
            refine AQ.step rfl rfl rfl (sp_and rfl (.inl rfl) (.inr ⟨_, (by exact id), rfl⟩)) ?_
            refine AQ.nil ?_
            refine hK23 _ ?_
            refine AW.cond rfl (fun hc4 => ?_) (fun hc4 => ?_)
            · have h19 := ite_t hc4 h18
              refine AW.weak (s' := ⟨[(1, .ptr 1 n0 0 0), (3, .own 5003 (i12 0)), (4, .cst (.slice none 0 0)), (5, .r (.int .i64 0)), (6, .r (.int .i64 i4)), (7, .r (.int .i64 k1))], [(1, some (.box n0 34 [.r (.sl (a1.Adds.map (rSl GElem.row))), .r (.sl (a1.Cuts.map rBool)), .r (.sl (a1.Attrs.map (rSl GAttr.row)))])), (5003, some (.arr (i12 0) 49 4 (out7.map GStep.row)))], (i12 1), 100⟩) (by exact Weak.cv ⟨.inl (.inl rfl), .inl (.inl rfl), .inl (.inl rfl), .inl (.inl rfl), .inl (.inl rfl), .inl (.inl rfl), trivial⟩ ⟨.inl rfl, .inl rfl, trivial⟩ (Nat.le_refl _)) ?_
              refine AW.region ?_
              refine AOps.step rfl rfl rfl (OpQ.spec (sp_move rfl (.inl rfl)) _) ?_
              refine AOps.step rfl rfl rfl (OpQ.spec (sp_move rfl (.inl rfl)) _) ?_
              refine ob1k h19 fun x6 ex6 h20 => ?_
              refine AOps.step rfl rfl rfl (OpQ.spec (ms_idx_own rfl tg_42.slice (.inl rfl) rfl (.inl rfl) (fun _ => ex6)) _) ?_
              refine AOps.step rfl rfl rfl (OpQ.spec (sp_fieldAddr_own (ob := .arr _ _ _ _) rfl tf_49_1 (.inl rfl) (fun _ => rfl) rfl) _) ?_
              refine AOps.step rfl rfl rfl (OpQ.spec (ms_load_own (d := .int .i64 x6.N) rfl ts_3 (.inl rfl) (fun _ => rfl) (fun _ => ex6) rfl) _) ?_
              refine ob1k h20 fun x7 ex7 h21 => ?_
              refine AOps.step rfl rfl rfl (OpQ.spec (ms_add rfl (.inl rfl) (.inl rfl) (fun _ => ex7)) _) ?_
              refine AOps.step rfl rfl rfl (OpQ.spec (ms_idx_own rfl tg_42.slice (.inl rfl) rfl (.inl rfl) (fun _ => ex6)) _) ?_
              refine AOps.step rfl rfl rfl (OpQ.spec (sp_fieldAddr_own (ob := .arr _ _ _ _) rfl tf_49_1 (.inl rfl) (fun _ => rfl) rfl) _) ?_
              refine AOps.step0 rfl rfl (ms_store (v := (GStep.mk x6.Kind x7 x6.Attrs x6.Elems)) rfl tz_3 (.inl rfl) rfl ex6 (.inl rfl) rfl rfl rfl rfl) ?_
              refine AOps.nil ?_
              exact wK10 _ _ (Weak.trans (Weak.trans (Weak.adopt 4 5004 113 3 (by decide) rfl) (by exact Weak.cv (e' := [(1, .ptr 1 n0 0 0), (3, .own 5003 (i12 0)), (4, .own 5004 (i12 1)), (5, .r (.int .i64 0)), (6, .r (.int .i64 i4)), (7, .r (.int .i64 k1)), (82, .own 5003 (i12 0)), (83, .r (.int .i64 k1)), (84, .ptr 5003 (i12 0) k1.toNat 0), (85, .ptr 5003 (i12 0) k1.toNat 1), (86, .r (.int .i64 x6.N)), (87, .r (.int .i64 x7)), (88, .ptr 5003 (i12 0) k1.toNat 0), (89, .ptr 5003 (i12 0) k1.toNat 1)]) (h' := [(1, some (.box n0 34 [.r (.sl (a1.Adds.map (rSl GElem.row))), .r (.sl (a1.Cuts.map rBool)), .r (.sl (a1.Attrs.map (rSl GAttr.row)))])), (5003, some (.arr (i12 0) 49 4 ((out7.set k1.toNat (GStep.mk x6.Kind x7 x6.Attrs x6.Elems)).map GStep.row))), (5004, some (.arr (i12 1) 113 3 (([] : List GElem).map GElem.row)))]) ⟨.inl (.inl rfl), .inl (.inl rfl), .inl (.inl rfl), .inl (.inl rfl), .inl (.inl rfl), .inl (.inl rfl), .inl (.inl rfl), .inl (.inl rfl), .inl (.inl rfl), .inl (.inl rfl), .inl (.inl rfl), .inl (.inl rfl), .inl (.inl rfl), .inl (.inl rfl), trivial⟩ ⟨.inl rfl, .inl rfl, .inl rfl, trivial⟩ (Nat.le_refl _))) (by exact Weak.cv ⟨.inl (.inl rfl), .inl (.inl rfl), .inl (.inl rfl), .inl (.inl rfl), .inl (.inl rfl), trivial⟩ ⟨.inl rfl, .inl rfl, .inl rfl, trivial⟩ (Nat.le_refl _))) (J2 _ _ _ (vec [(i12 0), (i12 1), ((i12 1) + 1)]) (Option.some.inj h21).symm)
            · have h19 := ite_f hc4 h18
              refine AW.weak (s' := ⟨[(1, .ptr 1 n0 0 0), (3, .own 5003 (i12 0)), (4, .cst (.slice none 0 0)), (5, .r (.int .i64 0)), (6, .r (.int .i64 i4))], [(1, some (.box n0 34 [.r (.sl (a1.Adds.map (rSl GElem.row))), .r (.sl (a1.Cuts.map rBool)), .r (.sl (a1.Attrs.map (rSl GAttr.row)))])), (5003, some (.arr (i12 0) 49 4 (out7.map GStep.row)))], (i12 1), 100⟩) (by exact Weak.cv ⟨.inl (.inl rfl), .inl (.inl rfl), .inl (.inl rfl), .inl (.inl rfl), .inl (.inl rfl), trivial⟩ ⟨.inl rfl, .inl rfl, trivial⟩ (Nat.le_refl _)) ?_
              refine AW.region ?_
              refine AOps.step rfl rfl rfl (OpQ.spec (sp_move rfl (.inl rfl)) _) ?_
              refine AOps.step rfl rfl rfl (OpQ.spec (sp_fieldAddr_own (ob := .box _ _ _) rfl tf_34_2 (.inl rfl) (fun _ => rfl) rfl) _) ?_
              refine AOps.step rfl rfl rfl (OpQ.spec (ms_load_box (a := .r (.sl (a1.Attrs.map (rSl GAttr.row)))) rfl ts_32 (.inl rfl) rfl rfl) _) ?_
              refine AOps.step rfl rfl rfl (OpQ.spec (sp_move rfl (.inl rfl)) _) ?_
              refine ob1k h19 fun x8 ex8 h22 => ?_
              refine AOps.step rfl rfl rfl (OpQ.spec (ms_idx rfl tg_32.slice (.inl rfl) (.inl rfl) (fun _ => rfl) (fun _ => ex8)) _) ?_
              refine AOps.step rfl rfl rfl (OpQ.spec (ms_load (d := .sl (x8.map GAttr.row)) rfl ts_47 (.inl rfl) rfl) _) ?_
              refine AOps.step rfl rfl rfl (OpQ.spec (sp_build rfl tb_49 (q := [(0, _), (1, _), (2, _)]) (by exact ⟨rfl, rfl, rfl, (.inl rfl), rfl, rfl, rfl, (.inl rfl), rfl, rfl, rfl, (.inl rfl), trivial⟩) (cs := [.r (.int .i64 0), .r (.int .i64 1), .r (.sl (x8.map GAttr.row)), .cst (.slice none 0 0)]) (by rfl)) _) ?_
              refine AOps.step rfl rfl rfl (ms_lit 97 rfl tg_42 (f := GStep.row) (l := ([(GStep.mk 0 1 x8 [])] : List GStep)) ⟨rfl, ⟨_, (.inl rfl), rfl⟩, trivial⟩ rfl (fun _ => rfl) rfl) ?_
              refine ob1k h22 fun out8 eout8 h23 => ?_
              refine AOps.step rfl rfl rfl (ms_app rfl tg_42 (.inl rfl) rfl (.inr (.inl ⟨_, _, (.inl rfl), rfl⟩)) eout8) ?_
              refine AOps.step rfl rfl rfl (OpQ.spec (sp_assign rfl (.inl rfl)) _) ?_
              refine AOps.nil ?_
              exact wK10 _ _ (Weak.trans (Weak.trans (Weak.adopt 4 5004 113 3 (by decide) rfl) (by exact Weak.cv (e' := [(1, .ptr 1 n0 0 0), (3, .own 5003 ((i12 1) + 1)), (4, .own 5004 ((i12 1) + 2)), (5, .r (.int .i64 0)), (6, .r (.int .i64 i4)), (91, .ptr 1 n0 0 2), (92, .r (.sl (a1.Attrs.map (rSl GAttr.row)))), (93, .r (.int .i64 i4)), (94, .rop ((rSl GAttr.row) x8) 0), (95, .r (.sl (x8.map GAttr.row))), (96, .agg [.r (.int .i64 0), .r (.int .i64 1), .r (.sl (x8.map GAttr.row)), .cst (.slice none 0 0)]), (97, .own 97 (i12 1)), (98, .own 5003 ((i12 1) + 1))]) (h' := [(1, some (.box n0 34 [.r (.sl (a1.Adds.map (rSl GElem.row))), .r (.sl (a1.Cuts.map rBool)), .r (.sl (a1.Attrs.map (rSl GAttr.row)))])), (97, some (.arr (i12 1) 49 4 ([(GStep.mk 0 1 x8 [])].map GStep.row))), (5003, some (.arr ((i12 1) + 1) 49 4 (out8.map GStep.row))), (5004, some (.arr ((i12 1) + 2) 113 3 (([] : List GElem).map GElem.row)))]) ⟨.inl (.inl rfl), .inl (.inl rfl), .inl (.inl rfl), .inl (.inl rfl), .inl (.inl rfl), .inl (.inl rfl), .inl (.inl rfl), .inl (.inl rfl), .inl (.inl rfl), .inl (.inl rfl), .inl (.inl rfl), .inl (.inl rfl), .inl (.inl rfl), trivial⟩ ⟨.inl rfl, .inl rfl, .inl rfl, .inl rfl, trivial⟩ (Nat.le_refl _))) (by exact Weak.cv ⟨.inl (.inl rfl), .inl (.inl rfl), .inl (.inl rfl), .inl (.inl rfl), .inl (.inl rfl), trivial⟩ ⟨.inl rfl, .inl rfl, .inl rfl, trivial⟩ (Nat.le_refl _))) (J2 _ _ _ (vec [((i12 1) + 1), ((i12 1) + 2), ((i12 1) + 3)]) (Option.some.inj h23).symm)
        refine AW.cond rfl (fun hc5 => ?_) (fun hc5 => ?_)
        · have h24 := ite_t hc5 hp3
          refine AW.region ?_
          refine AOps.step rfl rfl rfl (OpQ.spec (sp_move rfl (.inl rfl)) _) ?_
          refine AOps.step rfl rfl rfl (OpQ.spec (sp_move rfl (.inl rfl)) _) ?_
          refine AOps.step rfl rfl rfl (OpQ.spec (sp_build rfl tb_49 (q := [(0, _), (1, _)]) (by exact ⟨rfl, rfl, rfl, (.inl rfl), rfl, rfl, rfl, (.inl rfl), trivial⟩) (cs := [.r (.int .i64 2), .r (.int .i64 cuts2), .cst (.slice none 0 0), .cst (.slice none 0 0)]) (by rfl)) _) ?_
          refine AOps.step rfl rfl rfl (ms_lit 49 rfl tg_42 (f := GStep.row) (l := ([(GStep.mk 2 cuts2 [] [])] : List GStep)) ⟨rfl, ⟨_, (.inl rfl), rfl⟩, trivial⟩ rfl (fun _ => rfl) rfl) ?_
          refine ob1k h24 fun out9 eout9 h25 => ?_
          refine AOps.step rfl rfl rfl (ms_app rfl tg_42 (.inl rfl) rfl (.inr (.inl ⟨_, _, (.inl rfl), rfl⟩)) eout9) ?_
          refine AOps.step rfl rfl rfl (OpQ.spec (sp_assign rfl (.inl rfl)) _) ?_
          refine AOps.nil ?_
          exact wK17 _ _ ((by exact Weak.cv ⟨.inl (.inl rfl), .inl (.inl rfl), .inl (.inl rfl), trivial⟩ ⟨.inl rfl, .inl rfl, trivial⟩ (Nat.le_refl _))) (J4 _ (vec [((i11 1) + 1), ((i11 1) + 2)]) (Option.some.inj h25).symm)
        · have h24 := ite_f hc5 hp3
          refine AW.skip ?_
          exact wK17 _ _ ((by exact Weak.cv ⟨.inl (.inl rfl), .inl (.inl rfl), .inl (.inl rfl), trivial⟩ ⟨.inl rfl, .inl rfl, trivial⟩ (Nat.le_refl _))) (J4 _ (vec [(i11 0), (i11 1)]) (Option.some.inj h24).symm)
      refine AW.cond rfl (fun hc6 => ?_) (fun hc6 => ?_)
      · have h26 := ite_t hc6 hp2
        refine AW.weak (s' := ⟨[(1, .ptr 1 n0 0 0), (3, .own 5003 (i5 0)), (4, .own 5004 (i5 2)), (5, .r (.int .i64 cuts2)), (6, .r (.int .i64 i4))], [(1, some (.box n0 34 [.r (.sl (a1.Adds.map (rSl GElem.row))), .r (.sl (a1.Cuts.map rBool)), .r (.sl (a1.Attrs.map (rSl GAttr.row)))])), (5003, some (.arr (i5 0) 49 4 (out2.map GStep.row))), (5004, some (.arr (i5 2) 113 3 (adds5.map GElem.row)))], ((i5 2) + 1), 100⟩) (by exact Weak.cv ⟨.inl (.inl rfl), .inl (.inl rfl), .inl (.inl rfl), .inl (.inl rfl), .inl (.inl rfl), trivial⟩ ⟨.inl rfl, .inl rfl, .inl rfl, trivial⟩ (Nat.le_refl _)) ?_
        refine AW.region ?_
        refine AOps.step rfl rfl rfl (OpQ.spec (sp_move rfl (.inl rfl)) _) ?_
        refine AOps.step rfl rfl rfl (OpQ.spec (sp_move rfl (.inl rfl)) _) ?_
        refine AOps.step rfl rfl rfl (OpQ.spec (sp_build rfl tb_49 (q := [(0, _), (3, _)]) (by exact ⟨rfl, rfl, rfl, (.inl rfl), rfl, rfl, rfl, (.inl rfl), trivial⟩) (cs := [.r (.int .i64 1), .r (.int .i64 0), .cst (.slice none 0 0), .own 5004 (i5 2)]) (by rfl)) _) ?_
        refine AOps.weak (by exact Weak.frz (e' := [(1, .ptr 1 n0 0 0), (3, .own 5003 (i5 0)), (4, .r (.sl (adds5.map GElem.row))), (5, .r (.int .i64 cuts2)), (6, .r (.int .i64 i4)), (39, .own 5003 (i5 0)), (40, .r (.sl (adds5.map GElem.row))), (41, .agg [.r (.int .i64 1), .r (.int .i64 0), .cst (.slice none 0 0), .r (.sl (adds5.map GElem.row))])]) (h' := [(1, some (.box n0 34 [.r (.sl (a1.Adds.map (rSl GElem.row))), .r (.sl (a1.Cuts.map rBool)), .r (.sl (a1.Attrs.map (rSl GAttr.row)))])), (5003, some (.arr (i5 0) 49 4 (out2.map GStep.row)))]) 5004 rfl ⟨.inl (.inl rfl), .inl (.inl rfl), .inl (.inr (.inr ⟨rfl, rfl⟩)), .inl (.inl rfl), .inl (.inl rfl), .inl (.inl rfl), .inl (.inr (.inr ⟨rfl, rfl⟩)), .inr ⟨_, _, rfl, rfl, ⟨.inl rfl, .inl rfl, .inl rfl, .inr (.inr ⟨rfl, rfl⟩), trivial⟩⟩, trivial⟩ ⟨rfl, .inl rfl, rfl, .inl rfl, trivial⟩) ?_
        refine AOps.step rfl rfl rfl (ms_lit 42 rfl tg_42 (f := GStep.row) (l := ([(GStep.mk 1 0 [] adds5)] : List GStep)) ⟨rfl, ⟨_, (.inl rfl), rfl⟩, trivial⟩ rfl (fun _ => rfl) rfl) ?_
        refine ob1k h26 fun out10 eout10 h27 => ?_
        refine AOps.step rfl rfl rfl (ms_app rfl tg_42 (.inl rfl) rfl (.inr (.inl ⟨_, _, (.inl rfl), rfl⟩)) eout10) ?_
        refine AOps.step rfl rfl rfl (OpQ.spec (sp_assign rfl (.inl rfl)) _) ?_
        refine AOps.nil ?_
        exact wK15 _ _ ((by exact Weak.cv ⟨.inl (.inl rfl), .inl (.inl rfl), .inl (.inl rfl), .inl (.inl rfl), trivial⟩ ⟨.inl rfl, .inl rfl, trivial⟩ (Nat.le_refl _))) (J3 _ (vec [((i5 2) + 2), ((i5 2) + 3)]) (Option.some.inj h27).symm)
      · have h26 := ite_f hc6 hp2
        refine AW.skip ?_
        exact wK15 _ _ ((by exact Weak.cv ⟨.inl (.inl rfl), .inl (.inl rfl), .inl (.inl rfl), .inl (.inl rfl), trivial⟩ ⟨.inl rfl, .inl rfl, trivial⟩ (Nat.le_refl _))) (J3 _ (vec [(i5 0), ((i5 2) + 1)]) (Option.some.inj h26).symm)
  · have h3 := ite_f hc1 h2
    refine AW.exit ?_
    exact wK5 _ _ ((by exact Weak.cv ⟨.inl (.inl rfl), trivial⟩ ⟨.inl rfl, trivial⟩ (Nat.le_refl _))) (J1 _ (vec [(i5 0), (i5 2)]) (hx1 _ (Option.some.inj h3).symm))
set_option maxHeartbeats 4000000 in
set_option maxRecDepth 20000 in
theorem w_ref_SameElem {a1 : GElem} {b1 : GElem} {r : Bool} (h : ref_SameElem a1 b1 = some r) : ARO Try.prog 93 [.agg [.r (.int .i64 a1.Char), .r (.int .i64 a1.Ref), .r (.sl (a1.Attrs.map GAttr.row))], .agg [.r (.int .i64 b1.Char), .r (.int .i64 b1.Ref), .r (.sl (b1.Attrs.map GAttr.row))]] (.r (.bool r)) := by
  unfold ref_SameElem at h
  refine ARO.mkF Try.func93 rfl rfl Try.ntmps93 rfl (Nat.le_of_ble_eq_true rfl) fun n0 => ?_
  refine AW.seq_w fun K1 hK1 wK1 => ?_
  refine AW.region ?_
  refine AOps.step rfl rfl rfl (ms_box (cs := [.r (.int .i64 a1.Char), .r (.int .i64 a1.Ref), .r (.sl (a1.Attrs.map GAttr.row))]) 2 rfl (.inl rfl) rfl rfl) ?_
  refine AOps.step rfl rfl rfl (ms_box (cs := [.r (.int .i64 b1.Char), .r (.int .i64 b1.Ref), .r (.sl (b1.Attrs.map GAttr.row))]) 3 rfl (.inl rfl) rfl rfl) ?_
  refine AOps.step rfl rfl rfl (OpQ.spec (sp_assign rfl (.inl rfl)) _) ?_
  refine AOps.nil ?_
  refine hK1 _ ?_
  refine AW.seq_w fun K2 hK2 wK2 => ?_
  refine AW.region ?_
  refine AOps.step rfl rfl rfl (OpQ.spec (sp_fieldAddr_own (ob := .box _ _ _) rfl tf_113_0 (.inl rfl) (fun _ => rfl) rfl) _) ?_
  refine AOps.step rfl rfl rfl (OpQ.spec (ms_load_box (a := .r (.int .i64 a1.Char)) rfl ts_3 (.inl rfl) rfl rfl) _) ?_
  refine AOps.step rfl rfl rfl (OpQ.spec (sp_fieldAddr_own (ob := .box _ _ _) rfl tf_113_0 (.inl rfl) (fun _ => rfl) rfl) _) ?_
  refine AOps.step rfl rfl rfl (OpQ.spec (ms_load_box (a := .r (.int .i64 b1.Char)) rfl ts_3 (.inl rfl) rfl rfl) _) ?_
  refine AOps.step rfl rfl rfl (OpQ.spec (sp_eql rfl (.inl rfl) (.inl rfl)) _) ?_
  refine AOps.step rfl rfl rfl (OpQ.spec (sp_move rfl (.inl rfl)) _) ?_
  refine AOps.stepW (.one rfl rfl rfl) rfl rfl (OpQ.spec (sp_fieldAddr_own (ob := .box _ _ _) rfl tf_113_1 (.inl rfl) (fun _ => rfl) rfl) _) ?_
  refine AOps.stepW (.one rfl rfl rfl) rfl rfl (OpQ.spec (ms_load_box (a := .r (.int .i64 a1.Ref)) rfl ts_3 (.inr ⟨_, (by exact id), rfl⟩) rfl rfl) _) ?_
  refine AOps.stepW (.one rfl rfl rfl) rfl rfl (OpQ.spec (sp_fieldAddr_own (ob := .box _ _ _) rfl tf_113_1 (.inl rfl) (fun _ => rfl) rfl) _) ?_
  refine AOps.stepW (.one rfl rfl rfl) rfl rfl (OpQ.spec (ms_load_box (a := .r (.int .i64 b1.Ref)) rfl ts_3 (.inr ⟨_, (by exact id), rfl⟩) rfl rfl) _) ?_
  refine AOps.stepW (.one rfl rfl rfl) rfl rfl (OpQ.spec (sp_eql rfl (.inr ⟨_, (by exact id), rfl⟩) (.inr ⟨_, (by exact id), rfl⟩)) _) ?_
  refine AOps.step rfl rfl rfl (OpQ.spec (sp_and rfl (.inl rfl) (.inr ⟨_, (by exact id), rfl⟩)) _) ?_
  refine AOps.step rfl rfl rfl (OpQ.spec (sp_move rfl (.inl rfl)) _) ?_
  refine AOps.stepW (.one rfl rfl rfl) rfl rfl (OpQ.spec (sp_fieldAddr_own (ob := .box _ _ _) rfl tf_113_2 (.inl rfl) (fun _ => rfl) rfl) _) ?_
  refine AOps.stepW (.one rfl rfl rfl) rfl rfl (OpQ.spec (ms_load_box (a := .r (.sl (a1.Attrs.map GAttr.row))) rfl ts_47 (.inr ⟨_, (by exact id), rfl⟩) rfl rfl) _) ?_
  refine AOps.stepW (.one rfl rfl rfl) rfl rfl (OpQ.spec (sp_fieldAddr_own (ob := .box _ _ _) rfl tf_113_2 (.inl rfl) (fun _ => rfl) rfl) _) ?_
  refine AOps.stepW (.one rfl rfl rfl) rfl rfl (OpQ.spec (ms_load_box (a := .r (.sl (b1.Attrs.map GAttr.row))) rfl ts_47 (.inr ⟨_, (by exact id), rfl⟩) rfl rfl) _) ?_
  refine ob1k h fun r1 er1 h1 => ?_
  refine AOps.stepW (.one rfl rfl rfl) rfl rfl (sp_call (r := .r (.bool r1)) (caps := []) (bs := [.r (.sl (a1.Attrs.map GAttr.row)), .r (.sl (b1.Attrs.map GAttr.row))]) rfl (.inl rfl) rfl ⟨⟨_, (.inr ⟨_, (by exact id), rfl⟩), .d rfl⟩, ⟨_, (.inr ⟨_, (by exact id), rfl⟩), .d rfl⟩, trivial⟩ (fun hg => w_ref_SameAttrs (gdt er1 hg)) rfl) ?_
  refine AOps.step rfl rfl rfl (OpQ.spec (sp_and rfl (.inl rfl) (.inr ⟨_, (by exact id), rfl⟩)) _) ?_
  refine AOps.step rfl rfl rfl (OpQ.spec (sp_assign rfl (.inl rfl)) _) ?_
  refine AOps.nil ?_
  refine hK2 _ ?_
  refine AW.ret ?_
  exact retf1 (P := Try.prog) (fun (r : Bool) => .r (.bool r)) h1 (.inl rfl) (.t (.d rfl))
set_option maxHeartbeats 4000000 in
set_option maxRecDepth 20000 in
theorem w_ref_SameFlow {a1 : List GElem} {b1 : List GElem} {r : Bool} (h : ref_SameFlow a1 b1 = some r) : ARO Try.prog 37 [.r (.sl (a1.map GElem.row)), .r (.sl (b1.map GElem.row))] (.r (.bool r)) := by
  unfold ref_SameFlow at h
  refine ARO.mkF Try.func37 rfl rfl Try.ntmps37 rfl (Nat.le_of_ble_eq_true rfl) fun n0 => ?_
  refine AW.seq_w fun K1 hK1 wK1 => ?_
  refine AW.region ?_
  refine AOps.step rfl rfl rfl (OpQ.spec (sp_assign rfl (.inl rfl)) _) ?_
  refine AOps.nil ?_
  refine hK1 _ ?_
  refine AW.seq_w fun K2 hK2 wK2 => ?_
  refine AW.seq_w fun K3 hK3 wK3 => ?_
  refine AW.region ?_
  refine AOps.step rfl rfl rfl (OpQ.spec (sp_move rfl (.inl rfl)) _) ?_
  refine AOps.step rfl rfl rfl (OpQ.spec (ms_len rfl tg_39.slice (.inl rfl)) _) ?_
  refine AOps.step rfl rfl rfl (OpQ.spec (sp_move rfl (.inl rfl)) _) ?_
  refine AOps.step rfl rfl rfl (OpQ.spec (ms_len rfl tg_39.slice (.inl rfl)) _) ?_
  refine AOps.step rfl rfl rfl (OpQ.spec (sp_neq rfl (.inl rfl) (.inl rfl)) _) ?_
  refine AOps.nil ?_
  refine hK3 _ ?_
  refine AW.cond rfl (fun hc1 => ?_) (fun hc1 => ?_)
  · have h1 := ite_t hc1 h
    refine AW.seq_w fun K4 hK4 wK4 => ?_
    refine AW.region ?_
    refine AOps.step rfl rfl rfl (OpQ.spec (sp_assign rfl (.inl rfl)) _) ?_
    refine AOps.nil ?_
    refine hK4 _ ?_
    refine AW.ret ?_
    exact retf1 (P := Try.prog) (fun (r : Bool) => .r (.bool r)) h1 (.inl rfl) (.t (.d rfl))
  · have h1 := ite_f hc1 h
    refine AW.skip ?_
    refine hK2 _ ?_
    refine AW.seq_w fun K5 hK5 wK5 => ?_
    refine AW.seq_w fun K6 hK6 wK6 => ?_
    refine AW.region ?_
    refine AOps.step rfl rfl rfl (OpQ.spec (sp_move rfl (.inl rfl)) _) ?_
    refine AOps.step rfl rfl rfl (OpQ.spec (ms_len rfl tg_39.slice (.inl rfl)) _) ?_
    refine AOps.step rfl rfl rfl (OpQ.spec (sp_move rfl (.inl rfl)) _) ?_
    refine AOps.nil ?_
    refine hK6 _ ?_
    refine AW.block ?_
    refine jc1k h1 fun o1 hit1 hk1 he1 => ?_
    have J1 : ∀ (u2 : Unit) (i5 : Nat → Nat), o1 = .nrm u2 → K5 ⟨[], [], (i5 0), 27⟩ := by
      intro u2 i5 e
      have h2 := hk1 _ e
      refine hK5 _ ?_
      refine AW.seq_w fun K7 hK7 wK7 => ?_
      refine AW.region ?_
      refine AOps.step rfl rfl rfl (OpQ.spec (sp_assign rfl (.inl rfl)) _) ?_
      refine AOps.nil ?_
      refine hK7 _ ?_
      refine AW.ret ?_
      exact retf1 (P := Try.prog) (fun (r : Bool) => .r (.bool r)) h2 (.inl rfl) (.t (.d rfl))
    refine AW.iter1 (fun (x2 : Int) i3 => ⟨[(0, .r (.sl (a1.map GElem.row))), (1, .r (.sl (b1.map GElem.row))), (12, .r (.int .i64 (a1.length : Int))), (13, .r (.int .i64 x2))], [], (i3 0), 27⟩) (vec [n0]) hit1 ((by exact Weak.cv ⟨.inl (.inl rfl), .inl (.inl rfl), .inl (.inl rfl), .inl (.inl rfl), trivial⟩ trivial (Nat.le_refl _))) ?_
    intro x2 i3 v1 hv1 hx1
    have h3 : ref_SameFlow_L1 a1 b1 x2 = some v1 := hv1; unfold ref_SameFlow_L1 at h3
    refine AW.seq_w fun K8 hK8 wK8 => ?_
    refine AW.region ?_
    refine AOps.step rfl rfl rfl (OpQ.spec (sp_lss rfl (.inl rfl) (.inl rfl)) _) ?_
    refine AOps.nil ?_
    refine hK8 _ ?_
    refine AW.seq_w fun K9 hK9 wK9 => ?_
    refine AW.cond rfl (fun hc2 => ?_) (fun hc2 => ?_)
    · have h4 := ite_t hc2 h3
      refine AW.skip ?_
      refine hK9 _ ?_
      refine AW.seq_w fun K10 hK10 wK10 => ?_
      refine AW.block ?_
      refine AW.seq_w fun K11 hK11 wK11 => ?_
      refine AW.region ?_
      refine AOps.step rfl rfl rfl (OpQ.spec (sp_move rfl (.inl rfl)) _) ?_
      refine AOps.step rfl rfl rfl (OpQ.spec (sp_assign rfl (.inl rfl)) _) ?_
      refine AOps.nil ?_
      refine hK11 _ ?_
      refine AW.seq_w fun K12 hK12 wK12 => ?_
      refine AW.regionQ hmix (by kernel_rfl) ?_
      refine AQ.step rfl rfl rfl (sp_move rfl (.inl rfl)) ?_
      refine AQ.step rfl rfl rfl (sp_move rfl (.inl rfl)) ?_
      refine ob1k h4 fun x4 ex4 h5 => ?_
      refine AQ.step rfl rfl rfl (ms_idx rfl tg_39.slice (.inl rfl) (.inl rfl) (fun _ => rfl) (fun _ => ex4)) ?_
      refine AQ.step rfl rfl rfl (ms_loadA (cs := [.r (.int .i64 x4.Char), .r (.int .i64 x4.Ref), .r (.sl (x4.Attrs.map GAttr.row))]) rfl ta_113 (.inl rfl) rfl rfl) ?_
      refine AQ.step rfl rfl rfl (sp_move rfl (.inl rfl)) ?_
      refine AQ.step rfl rfl rfl (sp_move rfl (.inl rfl)) ?_
      refine ob1k h5 fun x5 ex5 h6 => ?_
      refine AQ.step rfl rfl rfl (ms_idx rfl tg_39.slice (.inl rfl) (.inl rfl) (fun _ => rfl) (fun _ => ex5)) ?_
      refine AQ.step rfl rfl rfl (ms_loadA (cs := [.r (.int .i64 x5.Char), .r (.int .i64 x5.Ref), .r (.sl (x5.Attrs.map GAttr.row))]) rfl ta_113 (.inl rfl) rfl rfl) ?_
      refine ob1k h6 fun r1 er1 h7 => ?_
      refine AQ.stepC rfl rfl rfl (r := .r (.bool r1)) (caps := []) (bs := [.agg [.r (.int .i64 x4.Char), .r (.int .i64 x4.Ref), .r (.sl (x4.Attrs.map GAttr.row))], .agg [.r (.int .i64 x5.Char), .r (.int .i64 x5.Ref), .r (.sl (x5.Attrs.map GAttr.row))]]) rfl (.inl rfl) rfl ⟨⟨_, (.inl rfl), .g (cs := [.int .i64 x4.Char, .int .i64 x4.Ref, .sl (x4.Attrs.map GAttr.row)]) rfl rfl⟩, ⟨_, (.inl rfl), .g (cs := [.int .i64 x5.Char, .int .i64 x5.Ref, .sl (x5.Attrs.map GAttr.row)]) rfl rfl⟩, trivial⟩ (fun _ => w_ref_SameElem (er1)) rfl ?_
      refine AQ.step rfl rfl rfl (sp_not rfl (.inl rfl)) ?_
      refine AQ.nil ?_
      refine hK12 _ ?_
      refine AW.cond rfl (fun hc3 => ?_) (fun hc3 => ?_)
      · have h8 := ite_t hc3 h7
        refine AW.seq_w fun K13 hK13 wK13 => ?_
        refine AW.weak (s' := ⟨[], [], (i3 0), 27⟩) (by exact Weak.cv trivial trivial (Nat.le_refl _)) ?_
        refine AW.region ?_
        refine AOps.step rfl rfl rfl (OpQ.spec (sp_assign rfl (.inl rfl)) _) ?_
        refine AOps.nil ?_
        refine hK13 _ ?_
        refine AW.ret ?_
        exact retf1 (P := Try.prog) (fun (r : Bool) => .r (.bool r)) (he1 _ (hx1 _ (Option.some.inj h8).symm)) (.inl rfl) (.t (.d rfl))
      · have h8 := ite_f hc3 h7
        refine AW.skip ?_
        refine hK10 _ ?_
        refine AW.weak (s' := ⟨[(0, .r (.sl (a1.map GElem.row))), (1, .r (.sl (b1.map GElem.row))), (12, .r (.int .i64 (a1.length : Int))), (13, .r (.int .i64 x2))], [], (i3 0), 27⟩) (by exact Weak.cv ⟨.inl (.inl rfl), .inl (.inl rfl), .inl (.inl rfl), .inl (.inl rfl), trivial⟩ trivial (Nat.le_refl _)) ?_
        refine AW.region ?_
        refine ob1k h8 fun x6 ex6 h9 => ?_
        refine AOps.step rfl rfl rfl (OpQ.spec (ms_add rfl (.inl rfl) (.inl rfl) (fun _ => ex6)) _) ?_
        refine AOps.step rfl rfl rfl (OpQ.spec (sp_move rfl (.inl rfl)) _) ?_
        refine AOps.nil ?_
        exact NextQ1.mk h9 (vec [(i3 0)]) ((by exact Weak.cv ⟨.inl (.inl rfl), .inl (.inl rfl), .inl (.inl rfl), .inl (.inl rfl), trivial⟩ trivial (Nat.le_refl _)))
    · have h4 := ite_f hc2 h3
      refine AW.exit ?_
      exact wK5 _ _ ((by exact Weak.cv trivial trivial (Nat.le_refl _))) (J1 _ (vec [(i3 0)]) (hx1 _ (Option.some.inj h4).symm))
set_option maxHeartbeats 4000000 in
set_option maxRecDepth 20000 in
theorem w_ref_SameDelta {a1 : List GStep} {b1 : List GStep} {r : Bool} (h : ref_SameDelta a1 b1 = some r) : ARO Try.prog 31 [.r (.sl (a1.map GStep.row)), .r (.sl (b1.map GStep.row))] (.r (.bool r)) := by
  unfold ref_SameDelta at h
  refine ARO.mkF Try.func31 rfl rfl Try.ntmps31 rfl (Nat.le_of_ble_eq_true rfl) fun n0 => ?_
  refine AW.seq_w fun K1 hK1 wK1 => ?_
  refine AW.region ?_
  refine AOps.step rfl rfl rfl (OpQ.spec (sp_assign rfl (.inl rfl)) _) ?_
  refine AOps.nil ?_
  refine hK1 _ ?_
  refine AW.seq_w fun K2 hK2 wK2 => ?_
  refine AW.seq_w fun K3 hK3 wK3 => ?_
  refine AW.region ?_
  refine AOps.step rfl rfl rfl (OpQ.spec (sp_move rfl (.inl rfl)) _) ?_
  refine AOps.step rfl rfl rfl (OpQ.spec (ms_len rfl tg_42.slice (.inl rfl)) _) ?_
  refine AOps.step rfl rfl rfl (OpQ.spec (sp_move rfl (.inl rfl)) _) ?_
  refine AOps.step rfl rfl rfl (OpQ.spec (ms_len rfl tg_42.slice (.inl rfl)) _) ?_
  refine AOps.step rfl rfl rfl (OpQ.spec (sp_neq rfl (.inl rfl) (.inl rfl)) _) ?_
  refine AOps.nil ?_
  refine hK3 _ ?_
  refine AW.cond rfl (fun hc1 => ?_) (fun hc1 => ?_)
  · have h1 := ite_t hc1 h
    refine AW.seq_w fun K4 hK4 wK4 => ?_
    refine AW.region ?_
    refine AOps.step rfl rfl rfl (OpQ.spec (sp_assign rfl (.inl rfl)) _) ?_
    refine AOps.nil ?_
    refine hK4 _ ?_
    refine AW.ret ?_
    exact retf1 (P := Try.prog) (fun (r : Bool) => .r (.bool r)) h1 (.inl rfl) (.t (.d rfl))
  · have h1 := ite_f hc1 h
    refine AW.skip ?_
    refine hK2 _ ?_
    refine AW.seq_w fun K5 hK5 wK5 => ?_
    refine AW.seq_w fun K6 hK6 wK6 => ?_
    refine AW.region ?_
    refine AOps.step rfl rfl rfl (OpQ.spec (sp_move rfl (.inl rfl)) _) ?_
    refine AOps.step rfl rfl rfl (OpQ.spec (ms_len rfl tg_42.slice (.inl rfl)) _) ?_
    refine AOps.step rfl rfl rfl (OpQ.spec (sp_move rfl (.inl rfl)) _) ?_
    refine AOps.nil ?_
    refine hK6 _ ?_
    refine AW.block ?_
    refine jc1k h1 fun o1 hit1 hk1 he1 => ?_
    have J1 : ∀ (u2 : Unit) (i5 : Nat → Nat), o1 = .nrm u2 → K5 ⟨[], [], (i5 0), 69⟩ := by
      intro u2 i5 e
      have h2 := hk1 _ e
      refine hK5 _ ?_
      refine AW.seq_w fun K7 hK7 wK7 => ?_
      refine AW.region ?_
      refine AOps.step rfl rfl rfl (OpQ.spec (sp_assign rfl (.inl rfl)) _) ?_
      refine AOps.nil ?_
      refine hK7 _ ?_
      refine AW.ret ?_
      exact retf1 (P := Try.prog) (fun (r : Bool) => .r (.bool r)) h2 (.inl rfl) (.t (.d rfl))
    refine AW.iter1 (fun (x2 : Int) i3 => ⟨[(0, .r (.sl (a1.map GStep.row))), (1, .r (.sl (b1.map GStep.row))), (12, .r (.int .i64 (a1.length : Int))), (13, .r (.int .i64 x2))], [], (i3 0), 69⟩) (vec [n0]) hit1 ((by exact Weak.cv ⟨.inl (.inl rfl), .inl (.inl rfl), .inl (.inl rfl), .inl (.inl rfl), trivial⟩ trivial (Nat.le_refl _))) ?_
    intro x2 i3 v1 hv1 hx1
    have h3 : ref_SameDelta_L1 a1 b1 x2 = some v1 := hv1; unfold ref_SameDelta_L1 at h3
    refine AW.seq_w fun K8 hK8 wK8 => ?_
    refine AW.region ?_
    refine AOps.step rfl rfl rfl (OpQ.spec (sp_lss rfl (.inl rfl) (.inl rfl)) _) ?_
    refine AOps.nil ?_
    refine hK8 _ ?_
    refine AW.seq_w fun K9 hK9 wK9 => ?_
    refine AW.cond rfl (fun hc2 => ?_) (fun hc2 => ?_)
    · have h4 := ite_t hc2 h3
      refine AW.skip ?_
      refine hK9 _ ?_
      refine AW.seq_w fun K10 hK10 wK10 => ?_
      refine AW.block ?_
      refine AW.seq_w fun K11 hK11 wK11 => ?_
      refine AW.region ?_
      refine AOps.step rfl rfl rfl (OpQ.spec (sp_move rfl (.inl rfl)) _) ?_
      refine AOps.step rfl rfl rfl (OpQ.spec (sp_assign rfl (.inl rfl)) _) ?_
      refine AOps.nil ?_
      refine hK11 _ ?_
      refine AW.seq_w fun K12 hK12 wK12 => ?_
      refine AW.regionQ hmix (by kernel_rfl) ?_
      refine AQ.step rfl rfl rfl (sp_move rfl (.inl rfl)) ?_
      refine AQ.step rfl rfl rfl (sp_move rfl (.inl rfl)) ?_
      refine ob1k h4 fun x4 ex4 h5 => ?_
      refine AQ.step rfl rfl rfl (ms_idx rfl tg_42.slice (.inl rfl) (.inl rfl) (fun _ => rfl) (fun _ => ex4)) ?_
      refine AQ.step rfl rfl rfl (sp_fieldAddr_ro rfl tf_49_0 (.inl rfl)) ?_
      refine AQ.step rfl rfl rfl (ms_load (d := .int .i64 x4.Kind) rfl ts_3 (.inl rfl) rfl) ?_
      refine AQ.step rfl rfl rfl (sp_move rfl (.inl rfl)) ?_
      refine AQ.step rfl rfl rfl (sp_move rfl (.inl rfl)) ?_
      refine ob1k h5 fun x5 ex5 h6 => ?_
      refine AQ.step rfl rfl rfl (ms_idx rfl tg_42.slice (.inl rfl) (.inl rfl) (fun _ => rfl) (fun _ => ex5)) ?_
      refine AQ.step rfl rfl rfl (sp_fieldAddr_ro rfl tf_49_0 (.inl rfl)) ?_
      refine AQ.step rfl rfl rfl (ms_load (d := .int .i64 x5.Kind) rfl ts_3 (.inl rfl) rfl) ?_
      refine AQ.step rfl rfl rfl (sp_neq rfl (.inl rfl) (.inl rfl)) ?_
      refine AQ.step rfl rfl rfl (sp_move rfl (.inl rfl)) ?_
      refine AQ.stepW (.one rfl rfl rfl) rfl rfl (sp_move rfl (.inl rfl)) ?_
      refine AQ.stepW (.one rfl rfl rfl) rfl rfl (sp_move rfl (.inl rfl)) ?_
      refine AQ.stepW (.one rfl rfl rfl) rfl rfl (ms_idx rfl tg_42.slice (.inr ⟨_, (by exact id), rfl⟩) (.inr ⟨_, (by exact id), rfl⟩) (fun _ => rfl) (fun _ => ex4)) ?_
      refine AQ.stepW (.one rfl rfl rfl) rfl rfl (sp_fieldAddr_ro rfl tf_49_1 (.inr ⟨_, (by exact id), rfl⟩)) ?_
      refine AQ.stepW (.one rfl rfl rfl) rfl rfl (ms_load (d := .int .i64 x4.N) rfl ts_3 (.inr ⟨_, (by exact id), rfl⟩) rfl) ?_
      refine AQ.stepW (.one rfl rfl rfl) rfl rfl (sp_move rfl (.inl rfl)) ?_
      refine AQ.stepW (.one rfl rfl rfl) rfl rfl (sp_move rfl (.inl rfl)) ?_
      refine AQ.stepW (.one rfl rfl rfl) rfl rfl (ms_idx rfl tg_42.slice (.inr ⟨_, (by exact id), rfl⟩) (.inr ⟨_, (by exact id), rfl⟩) (fun _ => rfl) (fun _ => ex5)) ?_
      refine AQ.stepW (.one rfl rfl rfl) rfl rfl (sp_fieldAddr_ro rfl tf_49_1 (.inr ⟨_, (by exact id), rfl⟩)) ?_
      refine AQ.stepW (.one rfl rfl rfl) rfl rfl (ms_load (d := .int .i64 x5.N) rfl ts_3 (.inr ⟨_, (by exact id), rfl⟩) rfl) ?_
      refine AQ.stepW (.one rfl rfl rfl) rfl rfl (sp_neq rfl (.inr ⟨_, (by exact id), rfl⟩) (.inr ⟨_, (by exact id), rfl⟩)) ?_
      refine AQ.step rfl rfl rfl (sp_or rfl (.inl rfl) (.inr ⟨_, (by exact id), rfl⟩)) ?_
      refine AQ.step rfl rfl rfl (sp_move rfl (.inl rfl)) ?_
      refine AQ.stepW (.one rfl rfl rfl) rfl rfl (sp_move rfl (.inl rfl)) ?_
      refine AQ.stepW (.one rfl rfl rfl) rfl rfl (sp_move rfl (.inl rfl)) ?_
      refine AQ.stepW (.one rfl rfl rfl) rfl rfl (ms_idx rfl tg_42.slice (.inr ⟨_, (by exact id), rfl⟩) (.inr ⟨_, (by exact id), rfl⟩) (fun _ => rfl) (fun _ => ex4)) ?_
      refine AQ.stepW (.one rfl rfl rfl) rfl rfl (sp_fieldAddr_ro rfl tf_49_2 (.inr ⟨_, (by exact id), rfl⟩)) ?_
      refine AQ.stepW (.one rfl rfl rfl) rfl rfl (ms_load (d := .sl (x4.Attrs.map GAttr.row)) rfl ts_47 (.inr ⟨_, (by exact id), rfl⟩) rfl) ?_
      refine AQ.stepW (.one rfl rfl rfl) rfl rfl (sp_move rfl (.inl rfl)) ?_
      refine AQ.stepW (.one rfl rfl rfl) rfl rfl (sp_move rfl (.inl rfl)) ?_
      refine AQ.stepW (.one rfl rfl rfl) rfl rfl (ms_idx rfl tg_42.slice (.inr ⟨_, (by exact id), rfl⟩) (.inr ⟨_, (by exact id), rfl⟩) (fun _ => rfl) (fun _ => ex5)) ?_
      refine AQ.stepW (.one rfl rfl rfl) rfl rfl (sp_fieldAddr_ro rfl tf_49_2 (.inr ⟨_, (by exact id), rfl⟩)) ?_
      refine AQ.stepW (.one rfl rfl rfl) rfl rfl (ms_load (d := .sl (x5.Attrs.map GAttr.row)) rfl ts_47 (.inr ⟨_, (by exact id), rfl⟩) rfl) ?_
      refine ob1k h6 fun r1 er1 h7 => ?_
      refine AQ.stepWC (.one rfl rfl rfl) rfl rfl (r := .r (.bool r1)) (caps := []) (bs := [.r (.sl (x4.Attrs.map GAttr.row)), .r (.sl (x5.Attrs.map GAttr.row))]) rfl (.inl rfl) rfl ⟨⟨_, (.inr ⟨_, (by exact id), rfl⟩), .d rfl⟩, ⟨_, (.inr ⟨_, (by exact id), rfl⟩), .d rfl⟩, trivial⟩ (fun hg => w_ref_SameAttrs (gdt er1 hg)) rfl ?_
      refine AQ.stepW (.one rfl rfl rfl) rfl rfl (sp_not rfl (.inr ⟨_, (by exact id), rfl⟩)) ?_
      refine AQ.step rfl rfl rfl (sp_or rfl (.inl rfl) (.inr ⟨_, (by exact id), rfl⟩)) ?_
      refine AQ.step rfl rfl rfl (sp_move rfl (.inl rfl)) ?_
      refine AQ.stepW (.one rfl rfl rfl) rfl rfl (sp_move rfl (.inl rfl)) ?_
      refine AQ.stepW (.one rfl rfl rfl) rfl rfl (sp_move rfl (.inl rfl)) ?_
      refine AQ.stepW (.one rfl rfl rfl) rfl rfl (ms_idx rfl tg_42.slice (.inr ⟨_, (by exact id), rfl⟩) (.inr ⟨_, (by exact id), rfl⟩) (fun _ => rfl) (fun _ => ex4)) ?_
      refine AQ.stepW (.one rfl rfl rfl) rfl rfl (sp_fieldAddr_ro rfl tf_49_3 (.inr ⟨_, (by exact id), rfl⟩)) ?_
      refine AQ.stepW (.one rfl rfl rfl) rfl rfl (ms_load (d := .sl (x4.Elems.map GElem.row)) rfl ts_39 (.inr ⟨_, (by exact id), rfl⟩) rfl) ?_
      refine AQ.stepW (.one rfl rfl rfl) rfl rfl (sp_move rfl (.inl rfl)) ?_
      refine AQ.stepW (.one rfl rfl rfl) rfl rfl (sp_move rfl (.inl rfl)) ?_
      refine AQ.stepW (.one rfl rfl rfl) rfl rfl (ms_idx rfl tg_42.slice (.inr ⟨_, (by exact id), rfl⟩) (.inr ⟨_, (by exact id), rfl⟩) (fun _ => rfl) (fun _ => ex5)) ?_
      refine AQ.stepW (.one rfl rfl rfl) rfl rfl (sp_fieldAddr_ro rfl tf_49_3 (.inr ⟨_, (by exact id), rfl⟩)) ?_
      refine AQ.stepW (.one rfl rfl rfl) rfl rfl (ms_load (d := .sl (x5.Elems.map GElem.row)) rfl ts_39 (.inr ⟨_, (by exact id), rfl⟩) rfl) ?_
      refine ob1k h7 fun r2 er2 h8 => ?_
      refine AQ.stepWC (.one rfl rfl rfl) rfl rfl (r := .r (.bool r2)) (caps := []) (bs := [.r (.sl (x4.Elems.map GElem.row)), .r (.sl (x5.Elems.map GElem.row))]) rfl (.inl rfl) rfl ⟨⟨_, (.inr ⟨_, (by exact id), rfl⟩), .d rfl⟩, ⟨_, (.inr ⟨_, (by exact id), rfl⟩), .d rfl⟩, trivial⟩ (fun hg => w_ref_SameFlow (gdt er2 hg)) rfl ?_
      refine AQ.stepW (.one rfl rfl rfl) rfl rfl (sp_not rfl (.inr ⟨_, (by exact id), rfl⟩)) ?_
      refine AQ.step rfl rfl rfl (sp_or rfl (.inl rfl) (.inr ⟨_, (by exact id), rfl⟩)) ?_
      refine AQ.nil ?_
      refine hK12 _ ?_
      refine AW.cond rfl (fun hc3 => ?_) (fun hc3 => ?_)
      · have h9 := ite_t hc3 h8
        refine AW.seq_w fun K13 hK13 wK13 => ?_
        refine AW.weak (s' := ⟨[], [], (i3 0), 69⟩) (by exact Weak.cv trivial trivial (Nat.le_refl _)) ?_
        refine AW.region ?_
        refine AOps.step rfl rfl rfl (OpQ.spec (sp_assign rfl (.inl rfl)) _) ?_
        refine AOps.nil ?_
        refine hK13 _ ?_
        refine AW.ret ?_
        exact retf1 (P := Try.prog) (fun (r : Bool) => .r (.bool r)) (he1 _ (hx1 _ (Option.some.inj h9).symm)) (.inl rfl) (.t (.d rfl))
      · have h9 := ite_f hc3 h8
        refine AW.skip ?_
        refine hK10 _ ?_
        refine AW.weak (s' := ⟨[(0, .r (.sl (a1.map GStep.row))), (1, .r (.sl (b1.map GStep.row))), (12, .r (.int .i64 (a1.length : Int))), (13, .r (.int .i64 x2))], [], (i3 0), 69⟩) (by exact Weak.cv ⟨.inl (.inl rfl), .inl (.inl rfl), .inl (.inl rfl), .inl (.inl rfl), trivial⟩ trivial (Nat.le_refl _)) ?_
        refine AW.region ?_
        refine ob1k h9 fun x6 ex6 h10 => ?_
        refine AOps.step rfl rfl rfl (OpQ.spec (ms_add rfl (.inl rfl) (.inl rfl) (fun _ => ex6)) _) ?_
        refine AOps.step rfl rfl rfl (OpQ.spec (sp_move rfl (.inl rfl)) _) ?_
        refine AOps.nil ?_
        exact NextQ1.mk h10 (vec [(i3 0)]) ((by exact Weak.cv ⟨.inl (.inl rfl), .inl (.inl rfl), .inl (.inl rfl), .inl (.inl rfl), trivial⟩ trivial (Nat.le_refl _)))
    · have h4 := ite_f hc2 h3
      refine AW.exit ?_
      exact wK5 _ _ ((by exact Weak.cv trivial trivial (Nat.le_refl _))) (J1 _ (vec [(i3 0)]) (hx1 _ (Option.some.inj h4).symm))
set_option maxHeartbeats 4000000 in
set_option maxRecDepth 20000 in
theorem w_law_DeltaPairMatches {a1 : List GStep} {b1 : List GStep} {r : Bool} (h : law_DeltaPairMatches a1 b1 = some r) : ARO Try.prog 9 [.r (.sl (a1.map GStep.row)), .r (.sl (b1.map GStep.row))] (.r (.bool r)) := by
  unfold law_DeltaPairMatches at h
  refine ARO.mkF Try.func9 rfl rfl Try.ntmps9 rfl (Nat.le_of_ble_eq_true rfl) fun n0 => ?_
  refine AW.seq_w fun K1 hK1 wK1 => ?_
  refine AW.region ?_
  refine AOps.step rfl rfl rfl (OpQ.spec (sp_assign rfl (.inl rfl)) _) ?_
  refine AOps.nil ?_
  refine hK1 _ ?_
  refine AW.seq_w fun K2 hK2 wK2 => ?_
  refine AW.seq_w fun K3 hK3 wK3 => ?_
  refine AW.region ?_
  refine ob1k h fun r1 er1 h1 => ?_
  refine AOps.step rfl rfl rfl (sp_call (r := .r (.bool r1)) (caps := []) (bs := []) rfl (.inl rfl) rfl trivial (fun _ => w_law_deltas (er1)) rfl) ?_
  refine AOps.step rfl rfl rfl (OpQ.spec (sp_not rfl (.inl rfl)) _) ?_
  refine AOps.nil ?_
  refine hK3 _ ?_
  refine AW.cond rfl (fun hc1 => ?_) (fun hc1 => ?_)
  · have h2 := ite_t hc1 h1
    refine AW.seq_w fun K4 hK4 wK4 => ?_
    refine AW.region ?_
    refine AOps.step rfl rfl rfl (OpQ.spec (sp_assign rfl (.inl rfl)) _) ?_
    refine AOps.nil ?_
    refine hK4 _ ?_
    refine AW.ret ?_
    exact retf1 (P := Try.prog) (fun (r : Bool) => .r (.bool r)) h2 (.inl rfl) (.t (.d rfl))
  · have h2 := ite_f hc1 h1
    refine AW.skip ?_
    refine hK2 _ ?_
    refine AW.seq_w fun K5 hK5 wK5 => ?_
    refine AW.region ?_
    refine AOps.step rfl rfl rfl (OpQ.spec (sp_move rfl (.inl rfl)) _) ?_
    refine AOps.step rfl rfl rfl (OpQ.spec (sp_move rfl (.inl rfl)) _) ?_
    refine ob3k h2 fun r2 r3 r4 er2 h3 => ?_
    refine AOps.step rfl rfl rfl (sp_callS (r := .tup [.r (.sl (r2.map GStep.row)), .r (.sl (r3.map GStep.row)), .r (.int .i64 r4)]) (caps := []) (bs := [.r (.sl (a1.map GStep.row)), .r (.sl (b1.map GStep.row))]) rfl (.inl rfl) rfl ⟨.inl ⟨(.inl rfl), rfl⟩, .inl ⟨(.inl rfl), rfl⟩, trivial⟩ (fun _ => w_delta_Pair (er2))) ?_
    refine AOps.step rfl rfl rfl (OpQ.spec (sp_move rfl (.inl rfl)) _) ?_
    refine AOps.step rfl rfl rfl (OpQ.spec (sp_extract (a := .r (.sl (r2.map GStep.row))) rfl (.inl rfl) rfl) _) ?_
    refine AOps.step rfl rfl rfl (OpQ.spec (sp_extract (a := .r (.sl (r3.map GStep.row))) rfl (.inl rfl) rfl) _) ?_
    refine AOps.step rfl rfl rfl (OpQ.spec (sp_extract (a := .r (.int .i64 r4)) rfl (.inl rfl) rfl) _) ?_
    refine AOps.step rfl rfl rfl (OpQ.spec (sp_assign rfl (.inl rfl)) _) ?_
    refine AOps.step rfl rfl rfl (OpQ.spec (sp_assign rfl (.inl rfl)) _) ?_
    refine AOps.step rfl rfl rfl (OpQ.spec (sp_assign rfl (.inl rfl)) _) ?_
    refine AOps.nil ?_
    refine hK5 _ ?_
    refine AW.seq_w fun K6 hK6 wK6 => ?_
    refine AW.weak (s' := ⟨[(0, .r (.sl (a1.map GStep.row))), (1, .r (.sl (b1.map GStep.row))), (5, .r (.sl (r2.map GStep.row))), (6, .r (.sl (r3.map GStep.row))), (7, .r (.int .i64 r4))], [], n0, 96⟩) (by exact Weak.cv ⟨.inl (.inl rfl), .inl (.inl rfl), .inl (.inl rfl), .inl (.inl rfl), .inl (.inl rfl), trivial⟩ trivial (Nat.le_refl _)) ?_
    refine AW.region ?_
    refine AOps.step rfl rfl rfl (OpQ.spec (sp_move rfl (.inl rfl)) _) ?_
    refine ob1k h3 fun f1 ef1 h4 => ?_
    refine AOps.step rfl rfl rfl (sp_call (r := .r (.int .i64 f1)) (caps := []) (bs := [.r (.sl (a1.map GStep.row))]) rfl (.inl rfl) rfl ⟨⟨_, (.inl rfl), .d rfl⟩, trivial⟩ (fun _ => w_ref_DeltaError (ef1)) rfl) ?_
    refine AOps.step rfl rfl rfl (OpQ.spec (sp_assign rfl (.inl rfl)) _) ?_
    refine AOps.nil ?_
    refine hK6 _ ?_
    refine AW.seq_w fun K7 hK7 wK7 => ?_
    refine AW.seq_w fun K8 hK8 wK8 => ?_
    refine AW.region ?_
    refine AOps.step rfl rfl rfl (OpQ.spec (sp_move rfl (.inl rfl)) _) ?_
    refine AOps.step rfl rfl rfl (OpQ.spec (sp_eql rfl (.inl rfl) (.inl rfl)) _) ?_
    refine AOps.nil ?_
    refine hK8 _ ?_
    refine jb1k h4 fun p1 hp1 hk1 => ?_
    have J1 : ∀ (f2 : Int) (i1 : Nat → Nat), p1 = f2 → K7 ⟨[(0, .r (.sl (a1.map GStep.row))), (1, .r (.sl (b1.map GStep.row))), (5, .r (.sl (r2.map GStep.row))), (6, .r (.sl (r3.map GStep.row))), (7, .r (.int .i64 r4)), (8, .r (.int .i64 f2))], [], (i1 0), 96⟩ := by
      intro f2 i1 e
      have h5 := hk1 _ e
      refine hK7 _ ?_
      refine AW.seq_w fun K9 hK9 wK9 => ?_
      refine AW.seq_w fun K10 hK10 wK10 => ?_
      refine AW.region ?_
      refine AOps.step rfl rfl rfl (OpQ.spec (sp_move rfl (.inl rfl)) _) ?_
      refine AOps.step rfl rfl rfl (OpQ.spec (sp_neq rfl (.inl rfl) (.inl rfl)) _) ?_
      refine AOps.nil ?_
      refine hK10 _ ?_
      refine AW.cond rfl (fun hc2 => ?_) (fun hc2 => ?_)
      · have h6 := ite_t hc2 h5
        refine AW.seq_w fun K11 hK11 wK11 => ?_
        refine AW.region ?_
        refine AOps.step rfl rfl rfl (OpQ.spec (sp_move rfl (.inl rfl)) _) ?_
        refine AOps.step rfl rfl rfl (OpQ.spec (sp_move rfl (.inl rfl)) _) ?_
        refine AOps.step rfl rfl rfl (OpQ.spec (sp_eql rfl (.inl rfl) (.inl rfl)) _) ?_
        refine AOps.step rfl rfl rfl (OpQ.spec (sp_move rfl (.inl rfl)) _) ?_
        refine AOps.stepW (.one rfl rfl rfl) rfl rfl (OpQ.spec (sp_move rfl (.inl rfl)) _) ?_
        refine AOps.stepW (.one rfl rfl rfl) rfl rfl (OpQ.spec (ms_len rfl tg_42.slice (.inr ⟨_, (by exact id), rfl⟩)) _) ?_
        refine AOps.stepW (.one rfl rfl rfl) rfl rfl (OpQ.spec (sp_move rfl (.inl rfl)) _) ?_
        refine AOps.stepW (.one rfl rfl rfl) rfl rfl (OpQ.spec (ms_len rfl tg_42.slice (.inr ⟨_, (by exact id), rfl⟩)) _) ?_
        refine ob1k h6 fun x1 ex1 h7 => ?_
        refine AOps.stepW (.one rfl rfl rfl) rfl rfl (OpQ.spec (ms_add rfl (.inr ⟨_, (by exact id), rfl⟩) (.inr ⟨_, (by exact id), rfl⟩) (gdt ex1)) _) ?_
        refine AOps.stepW (.one rfl rfl rfl) rfl rfl (OpQ.spec (sp_eql rfl (.inr ⟨_, (by exact id), rfl⟩) (.inl rfl)) _) ?_
        refine AOps.step rfl rfl rfl (OpQ.spec (sp_and rfl (.inl rfl) (.inr ⟨_, (by exact id), rfl⟩)) _) ?_
        refine AOps.step rfl rfl rfl (OpQ.spec (sp_assign rfl (.inl rfl)) _) ?_
        refine AOps.nil ?_
        refine hK11 _ ?_
        refine AW.ret ?_
        exact retf1 (P := Try.prog) (fun (r : Bool) => .r (.bool r)) h7 (.inl rfl) (.t (.d rfl))
      · have h6 := ite_f hc2 h5
        refine AW.skip ?_
        refine hK9 _ ?_
        refine AW.seq_w fun K12 hK12 wK12 => ?_
        refine AW.seq_w fun K13 hK13 wK13 => ?_
        refine AW.region ?_
        refine AOps.step rfl rfl rfl (OpQ.spec (sp_move rfl (.inl rfl)) _) ?_
        refine ob1k h6 fun r5 er5 h8 => ?_
        refine AOps.step rfl rfl rfl (sp_call (r := .r (.bool r5)) (caps := []) (bs := [.r (.sl (a1.map GStep.row))]) rfl (.inl rfl) rfl ⟨⟨_, (.inl rfl), .d rfl⟩, trivial⟩ (fun _ => w_law_short (er5)) rfl) ?_
        refine AOps.step rfl rfl rfl (OpQ.spec (sp_not rfl (.inl rfl)) _) ?_
        refine AOps.step rfl rfl rfl (OpQ.spec (sp_move rfl (.inl rfl)) _) ?_
        refine AOps.stepW (.one rfl rfl rfl) rfl rfl (OpQ.spec (sp_move rfl (.inl rfl)) _) ?_
        refine ob1k h8 fun r6 er6 h9 => ?_
        refine AOps.stepW (.one rfl rfl rfl) rfl rfl (sp_call (r := .r (.bool r6)) (caps := []) (bs := [.r (.sl (b1.map GStep.row))]) rfl (.inl rfl) rfl ⟨⟨_, (.inr ⟨_, (by exact id), rfl⟩), .d rfl⟩, trivial⟩ (fun hg => w_law_short (gdt er6 hg)) rfl) ?_
        refine AOps.stepW (.one rfl rfl rfl) rfl rfl (OpQ.spec (sp_not rfl (.inr ⟨_, (by exact id), rfl⟩)) _) ?_
        refine AOps.step rfl rfl rfl (OpQ.spec (sp_or rfl (.inl rfl) (.inr ⟨_, (by exact id), rfl⟩)) _) ?_
        refine AOps.nil ?_
        refine hK13 _ ?_
        refine AW.cond rfl (fun hc3 => ?_) (fun hc3 => ?_)
        · have h10 := ite_t hc3 h9
          refine AW.seq_w fun K14 hK14 wK14 => ?_
          refine AW.weak (s' := ⟨[(5, .r (.sl (r2.map GStep.row))), (6, .r (.sl (r3.map GStep.row))), (7, .r (.int .i64 r4))], [], (i1 0), 96⟩) (by exact Weak.cv ⟨.inl (.inl rfl), .inl (.inl rfl), .inl (.inl rfl), trivial⟩ trivial (Nat.le_refl _)) ?_
          refine AW.region ?_
          refine AOps.step rfl rfl rfl (OpQ.spec (sp_move rfl (.inl rfl)) _) ?_
          refine AOps.step rfl rfl rfl (OpQ.spec (sp_eql rfl (.inl rfl) (.inl rfl)) _) ?_
          refine AOps.step rfl rfl rfl (OpQ.spec (sp_move rfl (.inl rfl)) _) ?_
          refine AOps.stepW (.one rfl rfl rfl) rfl rfl (OpQ.spec (sp_move rfl (.inl rfl)) _) ?_
          refine AOps.stepW (.one rfl rfl rfl) rfl rfl (OpQ.spec (ms_len rfl tg_42.slice (.inr ⟨_, (by exact id), rfl⟩)) _) ?_
          refine AOps.stepW (.one rfl rfl rfl) rfl rfl (OpQ.spec (sp_move rfl (.inl rfl)) _) ?_
          refine AOps.stepW (.one rfl rfl rfl) rfl rfl (OpQ.spec (ms_len rfl tg_42.slice (.inr ⟨_, (by exact id), rfl⟩)) _) ?_
          refine ob1k h10 fun x2 ex2 h11 => ?_
          refine AOps.stepW (.one rfl rfl rfl) rfl rfl (OpQ.spec (ms_add rfl (.inr ⟨_, (by exact id), rfl⟩) (.inr ⟨_, (by exact id), rfl⟩) (gdt ex2)) _) ?_
          refine AOps.stepW (.one rfl rfl rfl) rfl rfl (OpQ.spec (sp_eql rfl (.inr ⟨_, (by exact id), rfl⟩) (.inl rfl)) _) ?_
          refine AOps.step rfl rfl rfl (OpQ.spec (sp_or rfl (.inl rfl) (.inr ⟨_, (by exact id), rfl⟩)) _) ?_
          refine AOps.step rfl rfl rfl (OpQ.spec (sp_assign rfl (.inl rfl)) _) ?_
          refine AOps.nil ?_
          refine hK14 _ ?_
          refine AW.ret ?_
          exact retf1 (P := Try.prog) (fun (r : Bool) => .r (.bool r)) h11 (.inl rfl) (.t (.d rfl))
        · have h10 := ite_f hc3 h9
          refine AW.skip ?_
          refine hK12 _ ?_
          refine AW.seq_w fun K15 hK15 wK15 => ?_
          refine AW.weak (s' := ⟨[(0, .r (.sl (a1.map GStep.row))), (1, .r (.sl (b1.map GStep.row))), (5, .r (.sl (r2.map GStep.row))), (6, .r (.sl (r3.map GStep.row))), (7, .r (.int .i64 r4))], [], (i1 0), 96⟩) (by exact Weak.cv ⟨.inl (.inl rfl), .inl (.inl rfl), .inl (.inl rfl), .inl (.inl rfl), .inl (.inl rfl), trivial⟩ trivial (Nat.le_refl _)) ?_
          refine AW.region ?_
          refine AOps.step rfl rfl rfl (OpQ.spec (sp_move rfl (.inl rfl)) _) ?_
          refine ob1k h10 fun r7 er7 h12 => ?_
          refine AOps.step rfl rfl rfl (sp_callS (r := .agg [.r (.sl (r7.Adds.map (rSl GElem.row))), .r (.sl (r7.Cuts.map rBool)), .r (.sl (r7.Attrs.map (rSl GAttr.row)))]) (caps := []) (bs := [.r (.sl (a1.map GStep.row))]) rfl (.inl rfl) rfl ⟨.inl ⟨(.inl rfl), rfl⟩, trivial⟩ (fun _ => w_ref_ActOf (er7))) ?_
          refine AOps.step rfl rfl rfl (OpQ.spec (sp_move rfl (.inl rfl)) _) ?_
          refine ob1k h12 fun r8 er8 h13 => ?_
          refine AOps.step rfl rfl rfl (sp_callS (r := .agg [.r (.sl (r8.Adds.map (rSl GElem.row))), .r (.sl (r8.Cuts.map rBool)), .r (.sl (r8.Attrs.map (rSl GAttr.row)))]) (caps := []) (bs := [.r (.sl (b1.map GStep.row))]) rfl (.inl rfl) rfl ⟨.inl ⟨(.inl rfl), rfl⟩, trivial⟩ (fun _ => w_ref_ActOf (er8))) ?_
          refine AOps.step rfl rfl rfl (ms_alloc (cs := [.cst (.slice none 0 0), .cst (.slice none 0 0), .cst (.slice none 0 0)]) 9 rfl t0_34 rfl rfl) ?_
          refine AOps.step rfl rfl rfl (ms_alloc (cs := [.cst (.slice none 0 0), .cst (.slice none 0 0), .cst (.slice none 0 0)]) 10 rfl t0_34 rfl rfl) ?_
          refine AOps.step0 rfl rfl (ms_store_box (ds := [.r (.sl (r7.Adds.map (rSl GElem.row))), .r (.sl (r7.Cuts.map rBool)), .r (.sl (r7.Attrs.map (rSl GAttr.row)))]) rfl tz_34 (.inl rfl) rfl (.inl rfl) rfl rfl rfl rfl) ?_
          refine AOps.step0 rfl rfl (ms_store_box (ds := [.r (.sl (r8.Adds.map (rSl GElem.row))), .r (.sl (r8.Cuts.map rBool)), .r (.sl (r8.Attrs.map (rSl GAttr.row)))]) rfl tz_34 (.inl rfl) rfl (.inl rfl) rfl rfl rfl rfl) ?_
          refine AOps.nil ?_
          refine hK15 _ ?_
          refine AW.seq_w fun K16 hK16 wK16 => ?_
          refine AW.seq_w fun K17 hK17 wK17 => ?_
          refine AW.region ?_
          refine AOps.step rfl rfl rfl (OpQ.spec (sp_fieldAddr_own (ob := .box _ _ _) rfl tf_34_1 (.inl rfl) (fun _ => rfl) rfl) _) ?_
          refine AOps.step rfl rfl rfl (OpQ.spec (ms_load_box (a := .r (.sl (r7.Cuts.map rBool))) rfl ts_31 (.inl rfl) rfl rfl) _) ?_
          refine AOps.step rfl rfl rfl (OpQ.spec (ms_len rfl tg_31.slice (.inl rfl)) _) ?_
          refine AOps.step rfl rfl rfl (OpQ.spec (sp_fieldAddr_own (ob := .box _ _ _) rfl tf_34_1 (.inl rfl) (fun _ => rfl) rfl) _) ?_
          refine AOps.step rfl rfl rfl (OpQ.spec (ms_load_box (a := .r (.sl (r8.Cuts.map rBool))) rfl ts_31 (.inl rfl) rfl rfl) _) ?_
          refine AOps.step rfl rfl rfl (OpQ.spec (ms_len rfl tg_31.slice (.inl rfl)) _) ?_
          refine AOps.step rfl rfl rfl (OpQ.spec (sp_neq rfl (.inl rfl) (.inl rfl)) _) ?_
          refine AOps.nil ?_
          refine hK17 _ ?_
          refine AW.cond rfl (fun hc4 => ?_) (fun hc4 => ?_)
          · have h14 := ite_t hc4 h13
            refine AW.seq_w fun K18 hK18 wK18 => ?_
            refine AW.weak (s' := ⟨[(5, .r (.sl (r2.map GStep.row))), (6, .r (.sl (r3.map GStep.row))), (7, .r (.int .i64 r4))], [], ((i1 0) + 2), 96⟩) (by exact Weak.cv ⟨.inl (.inl rfl), .inl (.inl rfl), .inl (.inl rfl), trivial⟩ trivial (Nat.le_refl _)) ?_
            refine AW.region ?_
            refine AOps.step rfl rfl rfl (OpQ.spec (sp_move rfl (.inl rfl)) _) ?_
            refine AOps.step rfl rfl rfl (OpQ.spec (sp_eql rfl (.inl rfl) (.inl rfl)) _) ?_
            refine AOps.step rfl rfl rfl (OpQ.spec (sp_move rfl (.inl rfl)) _) ?_
            refine AOps.stepW (.one rfl rfl rfl) rfl rfl (OpQ.spec (sp_move rfl (.inl rfl)) _) ?_
            refine AOps.stepW (.one rfl rfl rfl) rfl rfl (OpQ.spec (ms_len rfl tg_42.slice (.inr ⟨_, (by exact id), rfl⟩)) _) ?_
            refine AOps.stepW (.one rfl rfl rfl) rfl rfl (OpQ.spec (sp_move rfl (.inl rfl)) _) ?_
            refine AOps.stepW (.one rfl rfl rfl) rfl rfl (OpQ.spec (ms_len rfl tg_42.slice (.inr ⟨_, (by exact id), rfl⟩)) _) ?_
            refine ob1k h14 fun x3 ex3 h15 => ?_
            refine AOps.stepW (.one rfl rfl rfl) rfl rfl (OpQ.spec (ms_add rfl (.inr ⟨_, (by exact id), rfl⟩) (.inr ⟨_, (by exact id), rfl⟩) (gdt ex3)) _) ?_
            refine AOps.stepW (.one rfl rfl rfl) rfl rfl (OpQ.spec (sp_eql rfl (.inr ⟨_, (by exact id), rfl⟩) (.inl rfl)) _) ?_
            refine AOps.step rfl rfl rfl (OpQ.spec (sp_and rfl (.inl rfl) (.inr ⟨_, (by exact id), rfl⟩)) _) ?_
            refine AOps.step rfl rfl rfl (OpQ.spec (sp_assign rfl (.inl rfl)) _) ?_
            refine AOps.nil ?_
            refine hK18 _ ?_
            refine AW.ret ?_
            exact retf1 (P := Try.prog) (fun (r : Bool) => .r (.bool r)) h15 (.inl rfl) (.t (.d rfl))
          · have h14 := ite_f hc4 h13
            refine AW.skip ?_
            refine hK16 _ ?_
            refine AW.seq_w fun K19 hK19 wK19 => ?_
            refine AW.weak (s' := ⟨[(5, .r (.sl (r2.map GStep.row))), (6, .r (.sl (r3.map GStep.row))), (7, .r (.int .i64 r4)), (9, .ptr 9 (i1 0) 0 0), (10, .ptr 10 ((i1 0) + 1) 0 0)], [(9, some (.box (i1 0) 34 [.r (.sl (r7.Adds.map (rSl GElem.row))), .r (.sl (r7.Cuts.map rBool)), .r (.sl (r7.Attrs.map (rSl GAttr.row)))])), (10, some (.box ((i1 0) + 1) 34 [.r (.sl (r8.Adds.map (rSl GElem.row))), .r (.sl (r8.Cuts.map rBool)), .r (.sl (r8.Attrs.map (rSl GAttr.row)))]))], ((i1 0) + 2), 96⟩) (by exact Weak.cv ⟨.inl (.inl rfl), .inl (.inl rfl), .inl (.inl rfl), .inl (.inl rfl), .inl (.inl rfl), trivial⟩ ⟨.inl rfl, .inl rfl, trivial⟩ (Nat.le_refl _)) ?_
            refine AW.region ?_
            refine AOps.step rfl rfl rfl (OpQ.spec (sp_move rfl (.inl rfl)) _) ?_
            refine AOps.step rfl rfl rfl (OpQ.spec (sp_eql rfl (.inl rfl) (.inl rfl)) _) ?_
            refine AOps.step rfl rfl rfl (OpQ.spec (sp_move rfl (.inl rfl)) _) ?_
            refine AOps.stepW (.one rfl rfl rfl) rfl rfl (OpQ.spec (sp_move rfl (.inl rfl)) _) ?_
            refine AOps.stepW (.one rfl rfl rfl) rfl rfl (OpQ.spec (ms_loadA_box rfl ta_34 (.inl rfl) rfl rfl) _) ?_
            refine AOps.stepW (.one rfl rfl rfl) rfl rfl (OpQ.spec (ms_loadA_box rfl ta_34 (.inl rfl) rfl rfl) _) ?_
            refine jb1k h14 fun p2 hp2 hk2 => ?_
            have J2 : ∀ (x4 : Bool) (i2 : Nat → Nat), p2 = x4 → K19 ⟨[(4, .r (.bool x4))], [], (i2 0), 96⟩ := by
              intro x4 i2 e
              have h16 := hk2 _ e
              refine hK19 _ ?_
              refine AW.ret ?_
              exact retf1 (P := Try.prog) (fun (r : Bool) => .r (.bool r)) h16 (.inl rfl) (.t (.d rfl))
            refine AOps.split ((decide (r4 = 0)) == true) (fun hg1 => ?_) (fun hg1 => ?_)
            · have h17 := ite_t hg1 hp2
              refine AOps.weak (by exact Weak.unw (e' := [(5, .r (.sl (r2.map GStep.row))), (6, .r (.sl (r3.map GStep.row))), (7, .r (.int .i64 r4)), (9, .ptr 9 (i1 0) 0 0), (10, .ptr 10 ((i1 0) + 1) 0 0), (78, .r (.int .i64 r4)), (79, .r (.bool (decide (r4 = 0)))), (80, .r (.bool (decide (r4 = 0)))), (81, .r (.sl (r2.map GStep.row))), (82, .agg [.r (.sl (r7.Adds.map (rSl GElem.row))), .r (.sl (r7.Cuts.map rBool)), .r (.sl (r7.Attrs.map (rSl GAttr.row)))]), (83, .agg [.r (.sl (r8.Adds.map (rSl GElem.row))), .r (.sl (r8.Cuts.map rBool)), .r (.sl (r8.Attrs.map (rSl GAttr.row)))])]) hg1 ⟨.inl rfl, .inl rfl, .inl rfl, .inl rfl, .inl rfl, .inl rfl, .inl rfl, .inl rfl, .inr rfl, .inr rfl, .inr rfl, trivial⟩) ?_
              refine ob1k h17 fun r9 er9 h18 => ?_
              refine AOps.stepGT (.one rfl rfl rfl) hg1 rfl rfl (sp_callS (r := .agg [.r (.sl (r9.Adds.map (rSl GElem.row))), .r (.sl (r9.Cuts.map rBool)), .r (.sl (r9.Attrs.map (rSl GAttr.row)))]) (caps := []) (bs := [.agg [.r (.sl (r7.Adds.map (rSl GElem.row))), .r (.sl (r7.Cuts.map rBool)), .r (.sl (r7.Attrs.map (rSl GAttr.row)))], .agg [.r (.sl (r8.Adds.map (rSl GElem.row))), .r (.sl (r8.Cuts.map rBool)), .r (.sl (r8.Attrs.map (rSl GAttr.row)))], .r (.bool true)]) rfl (.inl rfl) rfl ⟨.inl ⟨(.inl rfl), rfl⟩, .inl ⟨(.inl rfl), rfl⟩, .inl ⟨(.inl rfl), rfl⟩, trivial⟩ (fun _ => w_ref_Behind (er9))) ?_
              refine ob1k h18 fun r10 er10 h19 => ?_
              refine AOps.stepGT (.one rfl rfl rfl) hg1 rfl rfl (sp_callS (r := .r (.sl (r10.map GStep.row))) (caps := []) (bs := [.agg [.r (.sl (r9.Adds.map (rSl GElem.row))), .r (.sl (r9.Cuts.map rBool)), .r (.sl (r9.Attrs.map (rSl GAttr.row)))]]) rfl (.inl rfl) rfl ⟨.inl ⟨(.inl rfl), rfl⟩, trivial⟩ (fun _ => w_ref_DeltaOf (er10))) ?_
              refine ob1k h19 fun r11 er11 h20 => ?_
              refine AOps.stepGT (.one rfl rfl rfl) hg1 rfl rfl (sp_call (r := .r (.bool r11)) (caps := []) (bs := [.r (.sl (r2.map GStep.row)), .r (.sl (r10.map GStep.row))]) rfl (.inl rfl) rfl ⟨⟨_, (.inl rfl), .d rfl⟩, ⟨_, (.inl rfl), .d rfl⟩, trivial⟩ (fun _ => w_ref_SameDelta (er11)) rfl) ?_
              refine AOps.step rfl rfl rfl (OpQ.spec (sp_and rfl (.inl rfl) (.inl rfl)) _) ?_
              refine AOps.step rfl rfl rfl (OpQ.spec (sp_move rfl (.inl rfl)) _) ?_
              refine AOps.stepW (.one rfl rfl rfl) rfl rfl (OpQ.spec (sp_move rfl (.inl rfl)) _) ?_
              refine AOps.stepW (.one rfl rfl rfl) rfl rfl (OpQ.spec (ms_loadA_box rfl ta_34 (.inl rfl) rfl rfl) _) ?_
              refine AOps.stepW (.one rfl rfl rfl) rfl rfl (OpQ.spec (ms_loadA_box rfl ta_34 (.inl rfl) rfl rfl) _) ?_
              refine AOps.split (((decide (r4 = 0)) && r11) == true) (fun hg2 => ?_) (fun hg2 => ?_)
              · have h21 := ite_t hg2 h20
                refine AOps.weak (by exact Weak.unw (e' := [(5, .r (.sl (r2.map GStep.row))), (6, .r (.sl (r3.map GStep.row))), (7, .r (.int .i64 r4)), (9, .ptr 9 (i1 0) 0 0), (10, .ptr 10 ((i1 0) + 1) 0 0), (78, .r (.int .i64 r4)), (79, .r (.bool (decide (r4 = 0)))), (80, .r (.bool (decide (r4 = 0)))), (81, .r (.sl (r2.map GStep.row))), (82, .agg [.r (.sl (r7.Adds.map (rSl GElem.row))), .r (.sl (r7.Cuts.map rBool)), .r (.sl (r7.Attrs.map (rSl GAttr.row)))]), (83, .agg [.r (.sl (r8.Adds.map (rSl GElem.row))), .r (.sl (r8.Cuts.map rBool)), .r (.sl (r8.Attrs.map (rSl GAttr.row)))]), (84, .agg [.r (.sl (r9.Adds.map (rSl GElem.row))), .r (.sl (r9.Cuts.map rBool)), .r (.sl (r9.Attrs.map (rSl GAttr.row)))]), (85, .r (.sl (r10.map GStep.row))), (86, .r (.bool r11)), (87, .r (.bool ((decide (r4 = 0)) && r11))), (88, .r (.bool ((decide (r4 = 0)) && r11))), (89, .r (.sl (r3.map GStep.row))), (90, .agg [.r (.sl (r8.Adds.map (rSl GElem.row))), .r (.sl (r8.Cuts.map rBool)), .r (.sl (r8.Attrs.map (rSl GAttr.row)))]), (91, .agg [.r (.sl (r7.Adds.map (rSl GElem.row))), .r (.sl (r7.Cuts.map rBool)), .r (.sl (r7.Attrs.map (rSl GAttr.row)))])]) hg2 ⟨.inl rfl, .inl rfl, .inl rfl, .inl rfl, .inl rfl, .inl rfl, .inl rfl, .inl rfl, .inl rfl, .inl rfl, .inl rfl, .inl rfl, .inl rfl, .inl rfl, .inl rfl, .inl rfl, .inr rfl, .inr rfl, .inr rfl, trivial⟩) ?_
                refine ob1k h21 fun r12 er12 h22 => ?_
                refine AOps.stepGT (.one rfl rfl rfl) hg2 rfl rfl (sp_callS (r := .agg [.r (.sl (r12.Adds.map (rSl GElem.row))), .r (.sl (r12.Cuts.map rBool)), .r (.sl (r12.Attrs.map (rSl GAttr.row)))]) (caps := []) (bs := [.agg [.r (.sl (r8.Adds.map (rSl GElem.row))), .r (.sl (r8.Cuts.map rBool)), .r (.sl (r8.Attrs.map (rSl GAttr.row)))], .agg [.r (.sl (r7.Adds.map (rSl GElem.row))), .r (.sl (r7.Cuts.map rBool)), .r (.sl (r7.Attrs.map (rSl GAttr.row)))], .r (.bool false)]) rfl (.inl rfl) rfl ⟨.inl ⟨(.inl rfl), rfl⟩, .inl ⟨(.inl rfl), rfl⟩, .inl ⟨(.inl rfl), rfl⟩, trivial⟩ (fun _ => w_ref_Behind (er12))) ?_
                refine ob1k h22 fun r13 er13 h23 => ?_
                refine AOps.stepGT (.one rfl rfl rfl) hg2 rfl rfl (sp_callS (r := .r (.sl (r13.map GStep.row))) (caps := []) (bs := [.agg [.r (.sl (r12.Adds.map (rSl GElem.row))), .r (.sl (r12.Cuts.map rBool)), .r (.sl (r12.Attrs.map (rSl GAttr.row)))]]) rfl (.inl rfl) rfl ⟨.inl ⟨(.inl rfl), rfl⟩, trivial⟩ (fun _ => w_ref_DeltaOf (er13))) ?_
                refine ob1k h23 fun r14 er14 h24 => ?_
                refine AOps.stepGT (.one rfl rfl rfl) hg2 rfl rfl (sp_call (r := .r (.bool r14)) (caps := []) (bs := [.r (.sl (r3.map GStep.row)), .r (.sl (r13.map GStep.row))]) rfl (.inl rfl) rfl ⟨⟨_, (.inl rfl), .d rfl⟩, ⟨_, (.inl rfl), .d rfl⟩, trivial⟩ (fun _ => w_ref_SameDelta (er14)) rfl) ?_
                refine AOps.step rfl rfl rfl (OpQ.spec (sp_and rfl (.inl rfl) (.inl rfl)) _) ?_
                refine AOps.step rfl rfl rfl (OpQ.spec (sp_assign rfl (.inl rfl)) _) ?_
                refine AOps.nil ?_
                exact wK19 _ _ ((by exact Weak.cv ⟨.inl (.inl rfl), trivial⟩ trivial (Nat.le_refl _))) (J2 _ (vec [((i1 0) + 2)]) (Option.some.inj h24).symm)
              · have h21 := ite_f hg2 h20
                refine AOps.stepGF2 (.one rfl rfl rfl) hg2 rfl rfl ?_
                refine AOps.stepGF2 (.one rfl rfl rfl) hg2 rfl rfl ?_
                refine AOps.stepGF2 (.one rfl rfl rfl) hg2 rfl rfl ?_
                refine AOps.step rfl rfl rfl (OpQ.spec (sp_and rfl (.inl rfl) (.inr ⟨_, (by exact id), rfl⟩)) _) ?_
                refine AOps.step rfl rfl rfl (OpQ.spec (sp_assign rfl (.inl rfl)) _) ?_
                refine AOps.nil ?_
                exact wK19 _ _ ((by exact Weak.cv ⟨.inl (.inl rfl), trivial⟩ trivial (Nat.le_refl _))) (J2 _ (vec [((i1 0) + 2)]) (Option.some.inj h21).symm)
            · have h17 := ite_f hg1 hp2
              refine AOps.stepGF2 (.one rfl rfl rfl) hg1 rfl rfl ?_
              refine AOps.stepGF2 (.one rfl rfl rfl) hg1 rfl rfl ?_
              refine AOps.stepGF2 (.one rfl rfl rfl) hg1 rfl rfl ?_
              refine AOps.step rfl rfl rfl (OpQ.spec (sp_and rfl (.inl rfl) (.inr ⟨_, (by exact id), rfl⟩)) _) ?_
              refine AOps.step rfl rfl rfl (OpQ.spec (sp_move rfl (.inl rfl)) _) ?_
              refine AOps.stepW (.one rfl rfl rfl) rfl rfl (OpQ.spec (sp_move rfl (.inl rfl)) _) ?_
              refine AOps.stepW (.one rfl rfl rfl) rfl rfl (OpQ.spec (ms_loadA_box rfl ta_34 (.inl rfl) rfl rfl) _) ?_
              refine AOps.stepW (.one rfl rfl rfl) rfl rfl (OpQ.spec (ms_loadA_box rfl ta_34 (.inl rfl) rfl rfl) _) ?_
              refine AOps.split (((decide (r4 = 0)) && false) == true) (fun hg3 => ?_) (fun hg3 => ?_)
              · have h25 := ite_t hg3 h17
                refine AOps.weak (by exact Weak.unw (e' := [(5, .r (.sl (r2.map GStep.row))), (6, .r (.sl (r3.map GStep.row))), (7, .r (.int .i64 r4)), (9, .ptr 9 (i1 0) 0 0), (10, .ptr 10 ((i1 0) + 1) 0 0), (78, .r (.int .i64 r4)), (79, .r (.bool (decide (r4 = 0)))), (80, .r (.bool (decide (r4 = 0)))), (87, .r (.bool ((decide (r4 = 0)) && false))), (88, .r (.bool ((decide (r4 = 0)) && false))), (89, .r (.sl (r3.map GStep.row))), (90, .agg [.r (.sl (r8.Adds.map (rSl GElem.row))), .r (.sl (r8.Cuts.map rBool)), .r (.sl (r8.Attrs.map (rSl GAttr.row)))]), (91, .agg [.r (.sl (r7.Adds.map (rSl GElem.row))), .r (.sl (r7.Cuts.map rBool)), .r (.sl (r7.Attrs.map (rSl GAttr.row)))])]) hg3 ⟨.inl rfl, .inl rfl, .inl rfl, .inl rfl, .inl rfl, .inl rfl, .inl rfl, .inl rfl, .inl rfl, .inl rfl, .inr rfl, .inr rfl, .inr rfl, trivial⟩) ?_
                refine ob1k h25 fun r15 er15 h26 => ?_
                refine AOps.stepGT (.one rfl rfl rfl) hg3 rfl rfl (sp_callS (r := .agg [.r (.sl (r15.Adds.map (rSl GElem.row))), .r (.sl (r15.Cuts.map rBool)), .r (.sl (r15.Attrs.map (rSl GAttr.row)))]) (caps := []) (bs := [.agg [.r (.sl (r8.Adds.map (rSl GElem.row))), .r (.sl (r8.Cuts.map rBool)), .r (.sl (r8.Attrs.map (rSl GAttr.row)))], .agg [.r (.sl (r7.Adds.map (rSl GElem.row))), .r (.sl (r7.Cuts.map rBool)), .r (.sl (r7.Attrs.map (rSl GAttr.row)))], .r (.bool false)]) rfl (.inl rfl) rfl ⟨.inl ⟨(.inl rfl), rfl⟩, .inl ⟨(.inl rfl), rfl⟩, .inl ⟨(.inl rfl), rfl⟩, trivial⟩ (fun _ => w_ref_Behind (er15))) ?_
                refine ob1k h26 fun r16 er16 h27 => ?_
                refine AOps.stepGT (.one rfl rfl rfl) hg3 rfl rfl (sp_callS (r := .r (.sl (r16.map GStep.row))) (caps := []) (bs := [.agg [.r (.sl (r15.Adds.map (rSl GElem.row))), .r (.sl (r15.Cuts.map rBool)), .r (.sl (r15.Attrs.map (rSl GAttr.row)))]]) rfl (.inl rfl) rfl ⟨.inl ⟨(.inl rfl), rfl⟩, trivial⟩ (fun _ => w_ref_DeltaOf (er16))) ?_
                refine ob1k h27 fun r17 er17 h28 => ?_
                refine AOps.stepGT (.one rfl rfl rfl) hg3 rfl rfl (sp_call (r := .r (.bool r17)) (caps := []) (bs := [.r (.sl (r3.map GStep.row)), .r (.sl (r16.map GStep.row))]) rfl (.inl rfl) rfl ⟨⟨_, (.inl rfl), .d rfl⟩, ⟨_, (.inl rfl), .d rfl⟩, trivial⟩ (fun _ => w_ref_SameDelta (er17)) rfl) ?_
                refine AOps.step rfl rfl rfl (OpQ.spec (sp_and rfl (.inl rfl) (.inl rfl)) _) ?_
                refine AOps.step rfl rfl rfl (OpQ.spec (sp_assign rfl (.inl rfl)) _) ?_
                refine AOps.nil ?_
                exact wK19 _ _ ((by exact Weak.cv ⟨.inl (.inl rfl), trivial⟩ trivial (Nat.le_refl _))) (J2 _ (vec [((i1 0) + 2)]) (Option.some.inj h28).symm)
              · have h25 := ite_f hg3 h17
                refine AOps.stepGF2 (.one rfl rfl rfl) hg3 rfl rfl ?_
                refine AOps.stepGF2 (.one rfl rfl rfl) hg3 rfl rfl ?_
                refine AOps.stepGF2 (.one rfl rfl rfl) hg3 rfl rfl ?_
                refine AOps.step rfl rfl rfl (OpQ.spec (sp_and rfl (.inl rfl) (.inr ⟨_, (by exact id), rfl⟩)) _) ?_
                refine AOps.step rfl rfl rfl (OpQ.spec (sp_assign rfl (.inl rfl)) _) ?_
                refine AOps.nil ?_
                exact wK19 _ _ ((by exact Weak.cv ⟨.inl (.inl rfl), trivial⟩ trivial (Nat.le_refl _))) (J2 _ (vec [((i1 0) + 2)]) (Option.some.inj h25).symm)
    refine AW.cond rfl (fun hc5 => ?_) (fun hc5 => ?_)
    · have h29 := ite_t hc5 hp1
      refine AW.region ?_
      refine AOps.step rfl rfl rfl (OpQ.spec (sp_move rfl (.inl rfl)) _) ?_
      refine ob1k h29 fun f3 ef3 h30 => ?_
      refine AOps.step rfl rfl rfl (sp_call (r := .r (.int .i64 f3)) (caps := []) (bs := [.r (.sl (b1.map GStep.row))]) rfl (.inl rfl) rfl ⟨⟨_, (.inl rfl), .d rfl⟩, trivial⟩ (fun _ => w_ref_DeltaError (ef3)) rfl) ?_
      refine AOps.step rfl rfl rfl (OpQ.spec (sp_assign rfl (.inl rfl)) _) ?_
      refine AOps.nil ?_
      exact wK7 _ _ ((by exact Weak.cv ⟨.inl (.inl rfl), .inl (.inl rfl), .inl (.inl rfl), .inl (.inl rfl), .inl (.inl rfl), .inl (.inl rfl), trivial⟩ trivial (Nat.le_refl _))) (J1 _ (vec [n0]) (Option.some.inj h30).symm)
    · have h29 := ite_f hc5 hp1
      refine AW.skip ?_
      exact wK7 _ _ ((by exact Weak.cv ⟨.inl (.inl rfl), .inl (.inl rfl), .inl (.inl rfl), .inl (.inl rfl), .inl (.inl rfl), .inl (.inl rfl), trivial⟩ trivial (Nat.le_refl _))) (J1 _ (vec [n0]) (Option.some.inj h29).symm)
end Go.Proofs.Ytdeglnbioiicaaa.Al
