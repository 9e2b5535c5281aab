/- Walks, as printed. -/
import Derived.Test.YtfkolgjapajekaaWlkMF
import Derived.Test.YtfkolgjapajekaaProg
set_option linter.unusedVariables false
namespace Go.Proofs.Ytfkolgjapajekaa.Al
open Go.Proofs
set_option maxHeartbeats 4000000 in
set_option maxRecDepth 20000 in
theorem w_merge_read {n1 : Int} {d1 : List GStep} {r : Merge_Side} (h : merge_read n1 d1 = some r) : ARO Try.prog 81 [.r (.int .i64 n1), .r (.sl (d1.map GStep.row))] (.agg [.r (.sl (r.adds.map (rSl GElem.row))), .r (.sl (r.cut.map rBool)), .r (.sl (r.attrs.map (rSl GAttr.row)))]) := by
 unfold merge_read at h
 refine ARO.mkF Try.func81 rfl rfl Try.ntmps81 rfl (Nat.le_of_ble_eq_true rfl) fun n0 => ?_
 refine AW.seq_w fun K1 hK1 wK1 => ?_
 refine AW.region ?_
 refine AOps.step rfl rfl rfl (ms_alloc (cs := [.cst (.slice none 0 0), .cst (.slice none 0 0), .cst (.slice none 0 0)]) 4 rfl t0_122 rfl rfl) ?_
 refine AOps.nil (hK1 _ ?_)
 refine AW.seq_w fun K2 hK2 wK2 => ?_
 refine ob1k h fun x1 ex1 h1 => ?_
 refine ob1k h1 fun l1 el1 h2 => ?_
 refine ob1k h2 fun l2 el2 h3 => ?_
 refine ob1k h3 fun l3 el3 h4 => ?_
 refine AW.regionP 9 [⟨some 11, (fun _ => .r (.int .i64 n1)), none, []⟩, ⟨some 12, (fun _ => .r (.int .i64 x1)), none, []⟩, ⟨some 13, (fun G1 => .own 13 (G1 2)), some (13, (fun G1 => some (.arr (G1 2) 22 1 (l1.map (rSl GElem.row))))), [2]⟩, ⟨some 14, (fun _ => .r (.int .i64 n1)), none, []⟩, ⟨some 15, (fun G1 => .own 15 (G1 4)), some (15, (fun G1 => some (.arr (G1 4) 4 1 (l2.map rBool)))), [4]⟩, ⟨some 16, (fun _ => .r (.int .i64 n1)), none, []⟩, ⟨some 17, (fun G1 => .own 17 (G1 6)), some (17, (fun G1 => some (.arr (G1 6) 29 1 (l3.map (rSl GAttr.row))))), [6]⟩, ⟨some 18, (fun G1 => .agg [.own 13 (G1 2), .own 15 (G1 4), .own 17 (G1 6)]), none, [2, 4, 6]⟩, ⟨some 5, (fun G1 => .ptr 5 (G1 8) 0 0), some (5, (fun G1 => some (.box (G1 8) 122 [.cst (.slice none 0 0), .cst (.slice none 0 0), .cst (.slice none 0 0)]))), [8]⟩] hmix (by kernel_rfl) (by exact ⟨fun _ _ h => ⟨rfl, fun _ _ e => by cases e⟩, fun _ _ h => ⟨rfl, fun _ _ e => by cases e⟩, fun _ _ h => ⟨by simp only [h 2 rfl], fun _ _ e => by cases e; simp only [h 2 rfl]⟩, fun _ _ h => ⟨rfl, fun _ _ e => by cases e⟩, fun _ _ h => ⟨by simp only [h 4 rfl], fun _ _ e => by cases e; simp only [h 4 rfl]⟩, fun _ _ h => ⟨rfl, fun _ _ e => by cases e⟩, fun _ _ h => ⟨by simp only [h 6 rfl], fun _ _ e => by cases e; simp only [h 6 rfl]⟩, fun _ _ h => ⟨by simp only [h 2 rfl, h 4 rfl, h 6 rfl], fun _ _ e => by cases e⟩, fun _ _ h => ⟨by simp only [h 8 rfl], fun _ _ e => by cases e; simp only [h 8 rfl]⟩, trivial⟩) rfl (by exact ⟨Ob.quiet (n1 := fun n => n) rfl rfl (by intro d h; cases h; rfl) rfl (fun _ => [(0, .r (.int .i64 n1))]) (fun _ => []) (fun D G1 hr => ⟨inE_base rfl rfl, trivial⟩) (fun D G1 hr => trivial) (fun _ _ => rfl) (fun G1 e h' n => OpQ.spec (v := .r (.int .i64 n1)) (sp_move rfl (.inl rfl)) _),
   Ob.quiet (n1 := fun n => n) rfl rfl (by intro d h; cases h; rfl) rfl (fun _ => [(11, .r (.int .i64 n1))]) (fun _ => []) (fun D G1 hr => ⟨inE_op hr 0 rfl rfl (by kernel_rfl) rfl rfl, trivial⟩) (fun D G1 hr => trivial) (fun _ _ => rfl) (fun G1 e h' n => OpQ.spec (v := .r (.int .i64 x1)) (ms_add rfl (.inl rfl) (.inl rfl) (fun _ => ex1)) _),
   Ob.make (n1 := fun n => n + 1) rfl rfl (by intro d h; cases h; rfl) rfl (fun _ => [(12, .r (.int .i64 x1))]) (fun _ => []) (fun D G1 hr => ⟨inE_op hr 1 rfl rfl (by kernel_rfl) rfl rfl, trivial⟩) (fun D G1 hr => trivial) (fun G1 e h' n => ms_mk 13 rfl tg_37 (f := (rSl GElem.row)) (z0 := []) tr_22 (.inl rfl) (.inl rfl) el1),
   Ob.quiet (n1 := fun n => n) rfl rfl (by intro d h; cases h; rfl) rfl (fun _ => [(0, .r (.int .i64 n1))]) (fun _ => []) (fun D G1 hr => ⟨inE_base rfl rfl, trivial⟩) (fun D G1 hr => trivial) (fun _ _ => rfl) (fun G1 e h' n => OpQ.spec (v := .r (.int .i64 n1)) (sp_move rfl (.inl rfl)) _),
   Ob.make (n1 := fun n => n + 1) rfl rfl (by intro d h; cases h; rfl) rfl (fun _ => [(14, .r (.int .i64 n1))]) (fun _ => []) (fun D G1 hr => ⟨inE_op hr 3 rfl rfl (by kernel_rfl) rfl rfl, trivial⟩) (fun D G1 hr => trivial) (fun G1 e h' n => ms_mk 15 rfl tg_38 (f := rBool) (z0 := false) tr_4 (.inl rfl) (.inl rfl) el2),
   Ob.quiet (n1 := fun n => n) rfl rfl (by intro d h; cases h; rfl) rfl (fun _ => [(0, .r (.int .i64 n1))]) (fun _ => []) (fun D G1 hr => ⟨inE_base rfl rfl, trivial⟩) (fun D G1 hr => trivial) (fun _ _ => rfl) (fun G1 e h' n => OpQ.spec (v := .r (.int .i64 n1)) (sp_move rfl (.inl rfl)) _),
   Ob.make (n1 := fun n => n + 1) rfl rfl (by intro d h; cases h; rfl) rfl (fun _ => [(16, .r (.int .i64 n1))]) (fun _ => []) (fun D G1 hr => ⟨inE_op hr 5 rfl rfl (by kernel_rfl) rfl rfl, trivial⟩) (fun D G1 hr => trivial) (fun G1 e h' n => ms_mk 17 rfl tg_39 (f := (rSl GAttr.row)) (z0 := []) tr_29 (.inl rfl) (.inl rfl) el3),
   Ob.quiet (n1 := fun n => n) rfl rfl (by intro d h; cases h; rfl) rfl (fun G1 => [(13, .own 13 (G1 2)), (15, .own 15 (G1 4)), (17, .own 17 (G1 6))]) (fun G1 => [(13, some (.arr (G1 2) 22 1 (l1.map (rSl GElem.row)))), (15, some (.arr (G1 4) 4 1 (l2.map rBool))), (17, some (.arr (G1 6) 29 1 (l3.map (rSl GAttr.row))))]) (fun D G1 hr => ⟨inE_op hr 2 rfl rfl (by kernel_rfl) rfl rfl, inE_op hr 4 rfl rfl (by kernel_rfl) rfl rfl, inE_op hr 6 rfl rfl (by kernel_rfl) rfl rfl, trivial⟩) (fun D G1 hr => ⟨inH_op hr 2 rfl rfl (by kernel_rfl) (by kernel_rfl) rfl, inH_op hr 4 rfl rfl (by kernel_rfl) (by kernel_rfl) rfl, inH_op hr 6 rfl rfl (by kernel_rfl) (by kernel_rfl) rfl, trivial⟩) (fun _ _ => rfl) (fun G1 e h' n => OpQ.spec (v := .agg [.own 13 (G1 2), .own 15 (G1 4), .own 17 (G1 6)]) (sp_build rfl tb_122 (q := [(0, _), (1, _), (2, _)]) (by exact ⟨rfl, rfl, rfl, (.inl rfl), rfl, rfl, rfl, (.inl rfl), rfl, rfl, rfl, (.inl rfl), trivial⟩) (cs := [.own 13 (G1 2), .own 15 (G1 4), .own 17 (G1 6)]) (by rfl)) _),
   Ob.make (n1 := fun n => n + 1) rfl rfl (by intro d h; cases h; rfl) rfl (fun _ => []) (fun _ => []) (fun D G1 hr => trivial) (fun D G1 hr => trivial) (fun G1 e h' n => ms_alloc (cs := [.cst (.slice none 0 0), .cst (.slice none 0 0), .cst (.slice none 0 0)]) 5 rfl t0_122 rfl rfl),
   trivial⟩) fun G1 n2 => ?_
 refine AOps.weak (s' := ⟨[(0, .r (.int .i64 n1)), (1, .r (.sl (d1.map GStep.row))), (4, .ptr 4 n0 0 0), (5, .ptr 5 (G1 8) 0 0), (11, .r (.int .i64 n1)), (12, .r (.int .i64 x1)), (13, .own 13 (G1 2)), (14, .r (.int .i64 n1)), (15, .own 15 (G1 4)), (16, .r (.int .i64 n1)), (17, .own 17 (G1 6)), (18, .agg [.own 13 (G1 2), .own 15 (G1 4), .own 17 (G1 6)])], [(4, some (.box n0 122 [.cst (.slice none 0 0), .cst (.slice none 0 0), .cst (.slice none 0 0)])), (5, some (.box (G1 8) 122 [.cst (.slice none 0 0), .cst (.slice none 0 0), .cst (.slice none 0 0)])), (13, some (.arr (G1 2) 22 1 (l1.map (rSl GElem.row)))), (15, some (.arr (G1 4) 4 1 (l2.map rBool))), (17, some (.arr (G1 6) 29 1 (l3.map (rSl GAttr.row))))], n2, 69⟩) (by exact Weak.cv ⟨jL, jL, jL, jL, jL, jL, jL, jL, jL, jL, jL, jL, trivial⟩ ⟨.inl rfl, .inl rfl, .inl rfl, .inl rfl, .inl rfl, trivial⟩ nL) ?_
 refine AOps.step0 rfl rfl (ms_store_box (ds := [.own 13 (G1 2), .own 15 (G1 4), .own 17 (G1 6)]) rfl tz_122 iL rfl iL rfl rfl rfl rfl) ?_
 refine AOps.nil (hK2 _ ?_)
 refine AW.seq_w fun K3 hK3 wK3 => ?_
 refine AW.weak (s' := ⟨[(1, .r (.sl (d1.map GStep.row))), (4, .ptr 4 n0 0 0), (5, .ptr 5 (G1 8) 0 0)], [(4, some (.box n0 122 [.cst (.slice none 0 0), .cst (.slice none 0 0), .cst (.slice none 0 0)])), (5, some (.box (G1 8) 122 [.own 13 (G1 2), .own 15 (G1 4), .own 17 (G1 6)])), (13, some (.arr (G1 2) 22 1 (l1.map (rSl GElem.row)))), (15, some (.arr (G1 4) 4 1 (l2.map rBool))), (17, some (.arr (G1 6) 29 1 (l3.map (rSl GAttr.row))))], n2, 69⟩) (by exact Weak.cv ⟨jL, jL, jL, trivial⟩ ⟨.inl rfl, .inl rfl, .inl rfl, .inl rfl, .inl rfl, trivial⟩ nL) ?_
 refine AW.region ?_
 refine sQ rfl (sp_assign rfl iL) ?_
 refine AOps.nil (hK3 _ ?_)
 refine AW.seq_w fun K4 hK4 wK4 => ?_
 refine AW.seq_w fun K5 hK5 wK5 => ?_
 refine AW.region ?_
 refine sM rfl rfl ?_
 refine sQ rfl (ms_len rfl tg_23.slice iL) ?_
 refine sM rfl rfl ?_
 refine AOps.nil (hK5 _ ?_)
 refine AW.block ?_
 refine jb1k h4 fun o1 hit1 hk1 => ?_
 have J1 : ∀ (s4 : Merge_Side) (i5 : Nat → Nat), o1 = s4 → K4 ⟨[(4, .ptr 4 n0 0 0), (5, .ptr 5 (G1 8) 0 0)], [(4, some (.box n0 122 [.cst (.slice none 0 0), .cst (.slice none 0 0), .cst (.slice none 0 0)])), (5, some (.box (G1 8) 122 [.own 13 (i5 0), .own 15 (i5 1), .own 17 (i5 2)])), (13, some (.arr (i5 0) 22 1 (s4.adds.map (rSl GElem.row)))), (15, some (.arr (i5 1) 4 1 (s4.cut.map rBool))), (17, some (.arr (i5 2) 29 1 (s4.attrs.map (rSl GAttr.row))))], (i5 3), 69⟩ := by
  intro s4 i5 e
  have h5 := hk1 _ e
  refine hK4 _ ?_
  refine AW.seq_w fun K6 hK6 wK6 => ?_
  refine AW.region ?_
  refine sQ rfl (ms_loadA_box rfl ta_122 iL rfl rfl) ?_
  refine AOps.step0 rfl rfl (ms_store_box (ds := [.own 13 (i5 0), .own 15 (i5 1), .own 17 (i5 2)]) rfl tz_122 iL rfl iL rfl rfl rfl rfl) ?_
  refine AOps.nil (hK6 _ ?_)
  refine AW.ret ?_
  exact retf1 (P := Try.prog) (fun (r : Merge_Side) => .agg [.r (.sl (r.adds.map (rSl GElem.row))), .r (.sl (r.cut.map rBool)), .r (.sl (r.attrs.map (rSl GAttr.row)))]) h5 iL (.a ta_122 rfl rfl rfl (.agg (by exact ⟨.own rfl, .own rfl, .own rfl, trivial⟩)))
 refine AW.iter3 (fun (at2 : Int) (x3 : Int) (s2 : Merge_Side) i3 => ⟨[(4, .ptr 4 n0 0 0), (5, .ptr 5 (G1 8) 0 0), (6, .r (.int .i64 at2)), (19, .r (.sl (d1.map GStep.row))), (20, .r (.int .i64 (d1.length : Int))), (21, .r (.int .i64 x3))], [(4, some (.box n0 122 [.cst (.slice none 0 0), .cst (.slice none 0 0), .cst (.slice none 0 0)])), (5, some (.box (G1 8) 122 [.own 13 (i3 0), .own 15 (i3 1), .own 17 (i3 2)])), (13, some (.arr (i3 0) 22 1 (s2.adds.map (rSl GElem.row)))), (15, some (.arr (i3 1) 4 1 (s2.cut.map rBool))), (17, some (.arr (i3 2) 29 1 (s2.attrs.map (rSl GAttr.row))))], (i3 3), 69⟩) (vec [(G1 2), (G1 4), (G1 6), n2]) hit1 ((by exact Weak.cv ⟨jL, jL, jL, jL, jL, jL, trivial⟩ ⟨.inl rfl, .inl rfl, .inl rfl, .inl rfl, .inl rfl, trivial⟩ nL)) ?_
 intro at2 x3 s2 i3 v1 hv1 hx1
 have h6 : merge_read_L1 d1 at2 x3 s2 = some v1 := hv1; unfold merge_read_L1 at h6
 refine AW.seq_w fun K7 hK7 wK7 => ?_
 refine AW.region ?_
 refine sQ rfl (sp_lss rfl iL iL) ?_
 refine AOps.nil (hK7 _ ?_)
 refine AW.seq_w fun K8 hK8 wK8 => ?_
 refine AW.cond rfl (fun hc1 => ?_) (fun hc1 => ?_)
 ·have h7 := ite_t hc1 h6
  refine AW.skip ?_
  refine hK8 _ ?_
  refine AW.seq_w fun K9 hK9 wK9 => ?_
  refine AW.block ?_
  refine jb2k h7 fun p1 hp1 hk2 => ?_
  have J2 : ∀ (at4 : Int) (s5 : Merge_Side) (i6 : Nat → Nat), p1 = (at4, s5) → K9 ⟨[(4, .ptr 4 n0 0 0), (5, .ptr 5 (G1 8) 0 0), (6, .r (.int .i64 at4)), (19, .r (.sl (d1.map GStep.row))), (20, .r (.int .i64 (d1.length : Int))), (21, .r (.int .i64 x3))], [(4, some (.box n0 122 [.cst (.slice none 0 0), .cst (.slice none 0 0), .cst (.slice none 0 0)])), (5, some (.box (G1 8) 122 [.own 13 (i6 0), .own 15 (i6 1), .own 17 (i6 2)])), (13, some (.arr (i6 0) 22 1 (s5.adds.map (rSl GElem.row)))), (15, some (.arr (i6 1) 4 1 (s5.cut.map rBool))), (17, some (.arr (i6 2) 29 1 (s5.attrs.map (rSl GAttr.row))))], (i6 3), 69⟩ := by
   intro at4 s5 i6 e
   have h8 := hk2 _ _ e
   refine hK9 _ ?_
   refine AW.region ?_
   refine ob1k h8 fun x5 ex5 h9 => ?_
   refine sQ rfl (ms_add rfl iL iL (fun _ => ex5)) ?_
   refine sM rfl rfl ?_
   refine AOps.nil ?_
   exact NextQ3.mk h9 (vec [(i6 0), (i6 1), (i6 2), (i6 3)]) ((by exact Weak.cv ⟨jL, jL, jL, jL, jL, jL, trivial⟩ ⟨.inl rfl, .inl rfl, .inl rfl, .inl rfl, .inl rfl, trivial⟩ nL))
  refine AW.seq_w fun K10 hK10 wK10 => ?_
  refine AW.region ?_
  refine ob1k hp1 fun x6 ex6 h10 => ?_
  refine sQ rfl (ms_idx rfl tg_23.slice iL iL (fun _ => rfl) (fun _ => ex6)) ?_
  refine sQ rfl (ms_loadA (cs := [.r (.int .i64 x6.Kind), .r (.int .i64 x6.N), .r (.sl (x6.Attrs.map GAttr.row)), .r (.sl (x6.Elems.map GElem.row))]) rfl ta_31 iL rfl rfl) ?_
  refine AOps.step rfl rfl rfl (ms_alloc (cs := [.r (.int .i64 0), .r (.int .i64 0), .cst (.slice none 0 0), .cst (.slice none 0 0)]) 8 rfl t0_31 rfl rfl) ?_
  refine AOps.step0 rfl rfl (ms_store_box (ds := [.r (.int .i64 x6.Kind), .r (.int .i64 x6.N), .r (.sl (x6.Attrs.map GAttr.row)), .r (.sl (x6.Elems.map GElem.row))]) rfl tz_31 iL rfl iL rfl rfl rfl rfl) ?_
  refine AOps.nil (hK10 _ ?_)
  refine AW.seq_w fun K11 hK11 wK11 => ?_
  refine AW.seq_w fun K12 hK12 wK12 => ?_
  refine AW.region ?_
  refine sQ rfl (sp_fieldAddr_own (ob := .box _ _ _) rfl tf_31_0 iL fR rfl) ?_
  refine sQ rfl (ms_load_box (a := .r (.int .i64 x6.Kind)) rfl ts_3 iL rfl rfl) ?_
  refine AOps.nil (hK12 _ ?_)
  refine AW.block ?_
  refine jc1k h10 fun p2 hp2 hk3 he3 => ?_
  have J3 : ∀ (s6 : Merge_Side) (i7 : Nat → Nat), p2 = .nrm s6 → K11 ⟨[(4, .ptr 4 n0 0 0), (5, .ptr 5 (G1 8) 0 0), (6, .r (.int .i64 at2)), (8, .ptr 8 (i3 3) 0 0), (19, .r (.sl (d1.map GStep.row))), (20, .r (.int .i64 (d1.length : Int))), (21, .r (.int .i64 x3))], [(4, some (.box n0 122 [.cst (.slice none 0 0), .cst (.slice none 0 0), .cst (.slice none 0 0)])), (5, some (.box (G1 8) 122 [.own 13 (i7 0), .own 15 (i7 1), .own 17 (i7 2)])), (8, some (.box (i3 3) 31 [.r (.int .i64 x6.Kind), .r (.int .i64 x6.N), .r (.sl (x6.Attrs.map GAttr.row)), .r (.sl (x6.Elems.map GElem.row))])), (13, some (.arr (i7 0) 22 1 (s6.adds.map (rSl GElem.row)))), (15, some (.arr (i7 1) 4 1 (s6.cut.map rBool))), (17, some (.arr (i7 2) 29 1 (s6.attrs.map (rSl GAttr.row))))], (i7 3), 69⟩ := by
   intro s6 i7 e
   have h11 := hk3 _ e
   refine hK11 _ ?_
   refine AW.region ?_
   refine sM rfl rfl ?_
   refine sQ rfl (sp_fieldAddr_own (ob := .box _ _ _) rfl tf_31_1 iL fR rfl) ?_
   refine sQ rfl (ms_load_box (a := .r (.int .i64 x6.N)) rfl ts_3 iL rfl rfl) ?_
   refine ob1k h11 fun at5 eat5 h12 => ?_
   refine sQ rfl (ms_add rfl iL iL (fun _ => eat5)) ?_
   refine sQ rfl (sp_assign rfl iL) ?_
   refine AOps.nil ?_
   exact wK9 _ _ ((by exact Weak.cv ⟨jL, jL, jL, jL, jL, jL, trivial⟩ ⟨.inl rfl, .inl rfl, .inl rfl, .inl rfl, .inl rfl, trivial⟩ nL)) (J2 _ _ (vec [(i7 0), (i7 1), (i7 2), (i7 3)]) (Option.some.inj h12).symm)
  refine AW.seq_w fun K13 hK13 wK13 => ?_
  refine AW.region ?_
  refine sQ rfl (sp_eql rfl iL iL) ?_
  refine sQ rfl (sp_assign rfl iL) ?_
  refine AOps.nil (hK13 _ ?_)
  refine AW.cond rfl (fun hc2 => ?_) (fun hc2 => ?_)
  ·have h13 := ite_t hc2 hp2
   refine AW.seq_w fun K14 hK14 wK14 => ?_
   refine AW.region ?_
   refine sQ rfl (sp_fieldAddr_own (ob := .box _ _ _) rfl tf_122_0 iL fR rfl) ?_
   refine sQ rfl (ms_load_box (a := .own 13 (i3 0)) rfl ts_37 iL rfl rfl) ?_
   refine sM rfl rfl ?_
   refine sQ rfl (sp_fieldAddr_own (ob := .box _ _ _) rfl tf_31_3 iL fR rfl) ?_
   refine sQ rfl (ms_load_box (a := .r (.sl (x6.Elems.map GElem.row))) rfl ts_22 iL rfl rfl) ?_
   refine ob1k h13 fun x7 ex7 h14 => ?_
   refine sQ rfl (ms_idx_own rfl tg_37.slice iL rfl iL (fun _ => ex7)) ?_
   refine AOps.step0 rfl rfl (ms_store (v := x6.Elems) rfl tz_22 iL rfl ex7 iL rfl rfl rfl rfl) ?_
   refine AOps.nil (hK14 _ ?_)
   refine AW.exit ?_
   exact wK9 _ _ ((by exact Weak.cv ⟨jL, jL, jL, jL, jL, jL, trivial⟩ ⟨.inl rfl, .inl rfl, .inl rfl, .inl rfl, .inl rfl, trivial⟩ nL)) (J2 _ _ (vec [(i3 0), (i3 1), (i3 2), ((i3 3) + 1)]) (Option.some.inj (he3 _ (Option.some.inj h14).symm)).symm)
  ·have h13 := ite_f hc2 hp2
   refine AW.seq_w fun K15 hK15 wK15 => ?_
   refine AW.region ?_
   refine sQ rfl (sp_eql rfl iL iL) ?_
   refine sQ rfl (sp_assign rfl iL) ?_
   refine AOps.nil (hK15 _ ?_)
   refine AW.cond rfl (fun hc3 => ?_) (fun hc3 => ?_)
   ·have h15 := ite_t hc3 h13
    refine AW.seq_w fun K16 hK16 wK16 => ?_
    refine AW.weak (s' := ⟨[(4, .ptr 4 n0 0 0), (5, .ptr 5 (G1 8) 0 0), (6, .r (.int .i64 at2)), (8, .ptr 8 (i3 3) 0 0), (19, .r (.sl (d1.map GStep.row))), (20, .r (.int .i64 (d1.length : Int))), (21, .r (.int .i64 x3))], [(4, some (.box n0 122 [.cst (.slice none 0 0), .cst (.slice none 0 0), .cst (.slice none 0 0)])), (5, some (.box (G1 8) 122 [.own 13 (i3 0), .own 15 (i3 1), .own 17 (i3 2)])), (8, some (.box (i3 3) 31 [.r (.int .i64 x6.Kind), .r (.int .i64 x6.N), .r (.sl (x6.Attrs.map GAttr.row)), .r (.sl (x6.Elems.map GElem.row))])), (13, some (.arr (i3 0) 22 1 (s2.adds.map (rSl GElem.row)))), (15, some (.arr (i3 1) 4 1 (s2.cut.map rBool))), (17, some (.arr (i3 2) 29 1 (s2.attrs.map (rSl GAttr.row))))], ((i3 3) + 1), 69⟩) (by exact Weak.cv ⟨jL, jL, jL, jL, jL, jL, jL, trivial⟩ ⟨.inl rfl, .inl rfl, .inl rfl, .inl rfl, .inl rfl, .inl rfl, trivial⟩ nL) ?_
    refine AW.region ?_
    refine sQ rfl (sp_fieldAddr_own (ob := .box _ _ _) rfl tf_31_1 iL fR rfl) ?_
    refine sQ rfl (ms_load_box (a := .r (.int .i64 x6.N)) rfl ts_3 iL rfl rfl) ?_
    refine sM rfl rfl ?_
    refine AOps.nil (hK16 _ ?_)
    refine AW.block ?_
    refine jc1k h15 fun o2 hit2 hk4 he4 => ?_
    refine AW.iter2 (fun (x9 : Int) (s8 : Merge_Side) i10 => ⟨[(4, .ptr 4 n0 0 0), (5, .ptr 5 (G1 8) 0 0), (6, .r (.int .i64 at2)), (8, .ptr 8 (i3 3) 0 0), (19, .r (.sl (d1.map GStep.row))), (20, .r (.int .i64 (d1.length : Int))), (21, .r (.int .i64 x3)), (52, .r (.int .i64 x6.N)), (53, .r (.int .i64 x9))], [(4, some (.box n0 122 [.cst (.slice none 0 0), .cst (.slice none 0 0), .cst (.slice none 0 0)])), (5, some (.box (G1 8) 122 [.own 13 (i10 0), .own 15 (i10 1), .own 17 (i10 2)])), (8, some (.box (i3 3) 31 [.r (.int .i64 x6.Kind), .r (.int .i64 x6.N), .r (.sl (x6.Attrs.map GAttr.row)), .r (.sl (x6.Elems.map GElem.row))])), (13, some (.arr (i10 0) 22 1 (s8.adds.map (rSl GElem.row)))), (15, some (.arr (i10 1) 4 1 (s8.cut.map rBool))), (17, some (.arr (i10 2) 29 1 (s8.attrs.map (rSl GAttr.row))))], (i10 3), 69⟩) (vec [(i3 0), (i3 1), (i3 2), ((i3 3) + 1)]) hit2 ((by exact Weak.cv ⟨jL, jL, jL, jL, jL, jL, jL, jL, jL, trivial⟩ ⟨.inl rfl, .inl rfl, .inl rfl, .inl rfl, .inl rfl, .inl rfl, trivial⟩ nL)) ?_
    intro x9 s8 i10 v2 hv2 hx2
    have h16 : merge_read_L2 at2 x6 x9 s8 = some v2 := hv2; unfold merge_read_L2 at h16
    refine AW.seq_w fun K17 hK17 wK17 => ?_
    refine AW.region ?_
    refine sQ rfl (sp_lss rfl iL iL) ?_
    refine AOps.nil (hK17 _ ?_)
    refine AW.seq_w fun K18 hK18 wK18 => ?_
    refine AW.cond rfl (fun hc4 => ?_) (fun hc4 => ?_)
    ·have h17 := ite_t hc4 h16
     refine AW.skip ?_
     refine hK18 _ ?_
     refine AW.seq_w fun K19 hK19 wK19 => ?_
     refine AW.block ?_
     refine AW.seq_w fun K20 hK20 wK20 => ?_
     refine AW.region ?_
     refine sM rfl rfl ?_
     refine sQ rfl (sp_assign rfl iL) ?_
     refine AOps.nil (hK20 _ ?_)
     refine AW.region ?_
     refine sQ rfl (sp_fieldAddr_own (ob := .box _ _ _) rfl tf_122_1 iL fR rfl) ?_
     refine sQ rfl (ms_load_box (a := .own 15 (i10 1)) rfl ts_38 iL rfl rfl) ?_
     refine sM rfl rfl ?_
     refine sM rfl rfl ?_
     refine ob1k h17 fun x11 ex11 h18 => ?_
     refine sQ rfl (ms_add rfl iL iL (fun _ => ex11)) ?_
     refine ob1k h18 fun x12 ex12 h19 => ?_
     refine sQ rfl (ms_idx_own rfl tg_38.slice iL rfl iL (fun _ => ex12)) ?_
     refine AOps.step0 rfl rfl (ms_store (v := true) rfl tz_4 iL rfl ex12 iL rfl rfl rfl rfl) ?_
     refine AOps.nil (hK19 _ ?_)
     refine AW.weak (s' := ⟨[(4, .ptr 4 n0 0 0), (5, .ptr 5 (G1 8) 0 0), (6, .r (.int .i64 at2)), (8, .ptr 8 (i3 3) 0 0), (19, .r (.sl (d1.map GStep.row))), (20, .r (.int .i64 (d1.length : Int))), (21, .r (.int .i64 x3)), (52, .r (.int .i64 x6.N)), (53, .r (.int .i64 x9))], [(4, some (.box n0 122 [.cst (.slice none 0 0), .cst (.slice none 0 0), .cst (.slice none 0 0)])), (5, some (.box (G1 8) 122 [.own 13 (i10 0), .own 15 (i10 1), .own 17 (i10 2)])), (8, some (.box (i3 3) 31 [.r (.int .i64 x6.Kind), .r (.int .i64 x6.N), .r (.sl (x6.Attrs.map GAttr.row)), .r (.sl (x6.Elems.map GElem.row))])), (13, some (.arr (i10 0) 22 1 (s8.adds.map (rSl GElem.row)))), (15, some (.arr (i10 1) 4 1 ((s8.cut.set x11.toNat true).map rBool))), (17, some (.arr (i10 2) 29 1 (s8.attrs.map (rSl GAttr.row))))], (i10 3), 69⟩) (by exact Weak.cv ⟨jL, jL, jL, jL, jL, jL, jL, jL, jL, trivial⟩ ⟨.inl rfl, .inl rfl, .inl rfl, .inl rfl, .inl rfl, .inl rfl, trivial⟩ nL) ?_
     refine AW.region ?_
     refine ob1k h19 fun x13 ex13 h20 => ?_
     refine sQ rfl (ms_add rfl iL iL (fun _ => ex13)) ?_
     refine sM rfl rfl ?_
     refine AOps.nil ?_
     exact NextQ2.mk h20 (vec [(i10 0), (i10 1), (i10 2), (i10 3)]) ((by exact Weak.cv ⟨jL, jL, jL, jL, jL, jL, jL, jL, jL, trivial⟩ ⟨.inl rfl, .inl rfl, .inl rfl, .inl rfl, .inl rfl, .inl rfl, trivial⟩ nL))
    ·have h17 := ite_f hc4 h16
     refine AW.exit ?_
     exact wK11 _ _ ((by exact Weak.cv ⟨jL, jL, jL, jL, jL, jL, jL, trivial⟩ ⟨.inl rfl, .inl rfl, .inl rfl, .inl rfl, .inl rfl, .inl rfl, trivial⟩ nL)) (J3 _ (vec [(i10 0), (i10 1), (i10 2), (i10 3)]) (Option.some.inj (he4 _ (hx2 _ (Option.some.inj h17).symm))).symm)
   ·have h15 := ite_f hc3 h13
    refine AW.seq_w fun K21 hK21 wK21 => ?_
    refine AW.weak (s' := ⟨[(4, .ptr 4 n0 0 0), (5, .ptr 5 (G1 8) 0 0), (6, .r (.int .i64 at2)), (8, .ptr 8 (i3 3) 0 0), (19, .r (.sl (d1.map GStep.row))), (20, .r (.int .i64 (d1.length : Int))), (21, .r (.int .i64 x3))], [(4, some (.box n0 122 [.cst (.slice none 0 0), .cst (.slice none 0 0), .cst (.slice none 0 0)])), (5, some (.box (G1 8) 122 [.own 13 (i3 0), .own 15 (i3 1), .own 17 (i3 2)])), (8, some (.box (i3 3) 31 [.r (.int .i64 x6.Kind), .r (.int .i64 x6.N), .r (.sl (x6.Attrs.map GAttr.row)), .r (.sl (x6.Elems.map GElem.row))])), (13, some (.arr (i3 0) 22 1 (s2.adds.map (rSl GElem.row)))), (15, some (.arr (i3 1) 4 1 (s2.cut.map rBool))), (17, some (.arr (i3 2) 29 1 (s2.attrs.map (rSl GAttr.row))))], ((i3 3) + 1), 69⟩) (by exact Weak.cv ⟨jL, jL, jL, jL, jL, jL, jL, trivial⟩ ⟨.inl rfl, .inl rfl, .inl rfl, .inl rfl, .inl rfl, .inl rfl, trivial⟩ nL) ?_
    refine AW.region ?_
    refine sQ rfl (sp_fieldAddr_own (ob := .box _ _ _) rfl tf_31_1 iL fR rfl) ?_
    refine sQ rfl (ms_load_box (a := .r (.int .i64 x6.N)) rfl ts_3 iL rfl rfl) ?_
    refine sM rfl rfl ?_
    refine AOps.nil (hK21 _ ?_)
    refine AW.block ?_
    refine jc1k h15 fun o3 hit3 hk5 he5 => ?_
    refine AW.iter2 (fun (x15 : Int) (s11 : Merge_Side) i14 => ⟨[(4, .ptr 4 n0 0 0), (5, .ptr 5 (G1 8) 0 0), (6, .r (.int .i64 at2)), (8, .ptr 8 (i3 3) 0 0), (19, .r (.sl (d1.map GStep.row))), (20, .r (.int .i64 (d1.length : Int))), (21, .r (.int .i64 x3)), (28, .r (.int .i64 x6.N)), (29, .r (.int .i64 x15))], [(4, some (.box n0 122 [.cst (.slice none 0 0), .cst (.slice none 0 0), .cst (.slice none 0 0)])), (5, some (.box (G1 8) 122 [.own 13 (i14 0), .own 15 (i14 1), .own 17 (i14 2)])), (8, some (.box (i3 3) 31 [.r (.int .i64 x6.Kind), .r (.int .i64 x6.N), .r (.sl (x6.Attrs.map GAttr.row)), .r (.sl (x6.Elems.map GElem.row))])), (13, some (.arr (i14 0) 22 1 (s11.adds.map (rSl GElem.row)))), (15, some (.arr (i14 1) 4 1 (s11.cut.map rBool))), (17, some (.arr (i14 2) 29 1 (s11.attrs.map (rSl GAttr.row))))], (i14 3), 69⟩) (vec [(i3 0), (i3 1), (i3 2), ((i3 3) + 1)]) hit3 ((by exact Weak.cv ⟨jL, jL, jL, jL, jL, jL, jL, jL, jL, trivial⟩ ⟨.inl rfl, .inl rfl, .inl rfl, .inl rfl, .inl rfl, .inl rfl, trivial⟩ nL)) ?_
    intro x15 s11 i14 v3 hv3 hx3
    have h21 : merge_read_L3 at2 x6 x15 s11 = some v3 := hv3; unfold merge_read_L3 at h21
    refine AW.seq_w fun K22 hK22 wK22 => ?_
    refine AW.region ?_
    refine sQ rfl (sp_lss rfl iL iL) ?_
    refine AOps.nil (hK22 _ ?_)
    refine AW.seq_w fun K23 hK23 wK23 => ?_
    refine AW.cond rfl (fun hc5 => ?_) (fun hc5 => ?_)
    ·have h22 := ite_t hc5 h21
     refine AW.skip ?_
     refine hK23 _ ?_
     refine AW.seq_w fun K24 hK24 wK24 => ?_
     refine AW.block ?_
     refine AW.seq_w fun K25 hK25 wK25 => ?_
     refine AW.region ?_
     refine sM rfl rfl ?_
     refine sQ rfl (sp_assign rfl iL) ?_
     refine AOps.nil (hK25 _ ?_)
     refine AW.region ?_
     refine sQ rfl (sp_fieldAddr_own (ob := .box _ _ _) rfl tf_122_2 iL fR rfl) ?_
     refine sQ rfl (ms_load_box (a := .own 17 (i14 2)) rfl ts_39 iL rfl rfl) ?_
     refine sM rfl rfl ?_
     refine sM rfl rfl ?_
     refine ob1k h22 fun x17 ex17 h23 => ?_
     refine sQ rfl (ms_add rfl iL iL (fun _ => ex17)) ?_
     refine sQ rfl (sp_fieldAddr_own (ob := .box _ _ _) rfl tf_31_2 iL fR rfl) ?_
     refine sQ rfl (ms_load_box (a := .r (.sl (x6.Attrs.map GAttr.row))) rfl ts_29 iL rfl rfl) ?_
     refine ob1k h23 fun x18 ex18 h24 => ?_
     refine sQ rfl (ms_idx_own rfl tg_39.slice iL rfl iL (fun _ => ex18)) ?_
     refine AOps.step0 rfl rfl (ms_store (v := x6.Attrs) rfl tz_29 iL rfl ex18 iL rfl rfl rfl rfl) ?_
     refine AOps.nil (hK24 _ ?_)
     refine AW.weak (s' := ⟨[(4, .ptr 4 n0 0 0), (5, .ptr 5 (G1 8) 0 0), (6, .r (.int .i64 at2)), (8, .ptr 8 (i3 3) 0 0), (19, .r (.sl (d1.map GStep.row))), (20, .r (.int .i64 (d1.length : Int))), (21, .r (.int .i64 x3)), (28, .r (.int .i64 x6.N)), (29, .r (.int .i64 x15))], [(4, some (.box n0 122 [.cst (.slice none 0 0), .cst (.slice none 0 0), .cst (.slice none 0 0)])), (5, some (.box (G1 8) 122 [.own 13 (i14 0), .own 15 (i14 1), .own 17 (i14 2)])), (8, some (.box (i3 3) 31 [.r (.int .i64 x6.Kind), .r (.int .i64 x6.N), .r (.sl (x6.Attrs.map GAttr.row)), .r (.sl (x6.Elems.map GElem.row))])), (13, some (.arr (i14 0) 22 1 (s11.adds.map (rSl GElem.row)))), (15, some (.arr (i14 1) 4 1 (s11.cut.map rBool))), (17, some (.arr (i14 2) 29 1 ((s11.attrs.set x17.toNat x6.Attrs).map (rSl GAttr.row))))], (i14 3), 69⟩) (by exact Weak.cv ⟨jL, jL, jL, jL, jL, jL, jL, jL, jL, trivial⟩ ⟨.inl rfl, .inl rfl, .inl rfl, .inl rfl, .inl rfl, .inl rfl, trivial⟩ nL) ?_
     refine AW.region ?_
     refine ob1k h24 fun x19 ex19 h25 => ?_
     refine sQ rfl (ms_add rfl iL iL (fun _ => ex19)) ?_
     refine sM rfl rfl ?_
     refine AOps.nil ?_
     exact NextQ2.mk h25 (vec [(i14 0), (i14 1), (i14 2), (i14 3)]) ((by exact Weak.cv ⟨jL, jL, jL, jL, jL, jL, jL, jL, jL, trivial⟩ ⟨.inl rfl, .inl rfl, .inl rfl, .inl rfl, .inl rfl, .inl rfl, trivial⟩ nL))
    ·have h22 := ite_f hc5 h21
     refine AW.exit ?_
     exact wK11 _ _ ((by exact Weak.cv ⟨jL, jL, jL, jL, jL, jL, jL, trivial⟩ ⟨.inl rfl, .inl rfl, .inl rfl, .inl rfl, .inl rfl, .inl rfl, trivial⟩ nL)) (J3 _ (vec [(i14 0), (i14 1), (i14 2), (i14 3)]) (Option.some.inj (he5 _ (hx3 _ (Option.some.inj h22).symm))).symm)
 ·have h7 := ite_f hc1 h6
  refine AW.exit ?_
  exact wK4 _ _ ((by exact Weak.cv ⟨jL, jL, trivial⟩ ⟨.inl rfl, .inl rfl, .inl rfl, .inl rfl, .inl rfl, trivial⟩ nL)) (J1 _ (vec [(i3 0), (i3 1), (i3 2), (i3 3)]) (hx1 _ (Option.some.inj h7).symm))
set_option maxHeartbeats 4000000 in
set_option maxRecDepth 20000 in
theorem w_flow_Same {a1 : List GElem} {b1 : List GElem} {r : Bool} (h : flow_Same a1 b1 = some r) : ARO Try.prog 106 [.r (.sl (a1.map GElem.row)), .r (.sl (b1.map GElem.row))] (.r (.bool r)) := by
 unfold flow_Same at h
 refine ARO.mkF Try.func106 rfl rfl Try.ntmps106 rfl (Nat.le_of_ble_eq_true rfl) fun n0 => ?_
 refine AW.seq_w fun K1 hK1 wK1 => ?_
 refine AW.region ?_
 refine sQ rfl (sp_assign rfl iL) ?_
 refine AOps.nil (hK1 _ ?_)
 refine AW.seq_w fun K2 hK2 wK2 => ?_
 refine AW.seq_w fun K3 hK3 wK3 => ?_
 refine AW.region ?_
 refine sM rfl rfl ?_
 refine sQ rfl (ms_len rfl tg_22.slice iL) ?_
 refine sM rfl rfl ?_
 refine sQ rfl (ms_len rfl tg_22.slice iL) ?_
 refine sQ rfl (sp_neq rfl iL iL) ?_
 refine AOps.nil (hK3 _ ?_)
 refine AW.cond rfl (fun hc1 => ?_) (fun hc1 => ?_)
 ·have h1 := ite_t hc1 h
  refine AW.seq_w fun K4 hK4 wK4 => ?_
  refine AW.region ?_
  refine sQ rfl (sp_assign rfl iL) ?_
  refine AOps.nil (hK4 _ ?_)
  refine AW.ret ?_
  exact retf1 (P := Try.prog) (fun (r : Bool) => .r (.bool r)) h1 iL (.t (.d rfl))
 ·have h1 := ite_f hc1 h
  refine AW.skip ?_
  refine hK2 _ ?_
  refine AW.seq_w fun K5 hK5 wK5 => ?_
  refine AW.seq_w fun K6 hK6 wK6 => ?_
  refine AW.region ?_
  refine sM rfl rfl ?_
  refine sQ rfl (ms_len rfl tg_22.slice iL) ?_
  refine sM rfl rfl ?_
  refine AOps.nil (hK6 _ ?_)
  refine AW.block ?_
  refine jc1k h1 fun o1 hit1 hk1 he1 => ?_
  have J1 : ∀ (u2 : Unit) (i5 : Nat → Nat), o1 = .nrm u2 → K5 ⟨[], [], (i5 0), 45⟩ := by
   intro u2 i5 e
   have h2 := hk1 _ e
   refine hK5 _ ?_
   refine AW.seq_w fun K7 hK7 wK7 => ?_
   refine AW.region ?_
   refine sQ rfl (sp_assign rfl iL) ?_
   refine AOps.nil (hK7 _ ?_)
   refine AW.ret ?_
   exact retf1 (P := Try.prog) (fun (r : Bool) => .r (.bool r)) h2 iL (.t (.d rfl))
  refine AW.iter1 (fun (x2 : Int) i3 => ⟨[(1, .r (.sl (b1.map GElem.row))), (13, .r (.sl (a1.map GElem.row))), (14, .r (.int .i64 (a1.length : Int))), (15, .r (.int .i64 x2))], [], (i3 0), 45⟩) (vec [n0]) hit1 ((by exact Weak.cv ⟨jL, jL, jL, jL, trivial⟩ trivial nL)) ?_
  intro x2 i3 v1 hv1 hx1
  have h3 : flow_Same_L1 a1 b1 x2 = some v1 := hv1; unfold flow_Same_L1 at h3
  refine AW.seq_w fun K8 hK8 wK8 => ?_
  refine AW.region ?_
  refine sQ rfl (sp_lss rfl iL iL) ?_
  refine AOps.nil (hK8 _ ?_)
  refine AW.seq_w fun K9 hK9 wK9 => ?_
  refine AW.cond rfl (fun hc2 => ?_) (fun hc2 => ?_)
  ·have h4 := ite_t hc2 h3
   refine AW.skip ?_
   refine hK9 _ ?_
   refine AW.seq_w fun K10 hK10 wK10 => ?_
   refine AW.block ?_
   refine AW.seq_w fun K11 hK11 wK11 => ?_
   refine AW.region ?_
   refine sM rfl rfl ?_
   refine ob1k h4 fun x4 ex4 h5 => ?_
   refine sQ rfl (ms_idx rfl tg_22.slice iL iL (fun _ => rfl) (fun _ => ex4)) ?_
   refine sQ rfl (ms_loadA (cs := [.r (.int .i64 x4.Char), .r (.int .i64 x4.Ref), .r (.sl (x4.Attrs.map GAttr.row))]) rfl ta_82 iL rfl rfl) ?_
   refine AOps.step rfl rfl rfl (ms_alloc (cs := [.r (.int .i64 0), .r (.int .i64 0), .cst (.slice none 0 0)]) 6 rfl t0_82 rfl rfl) ?_
   refine sQ rfl (sp_assign rfl iL) ?_
   refine AOps.step0 rfl rfl (ms_store_box (ds := [.r (.int .i64 x4.Char), .r (.int .i64 x4.Ref), .r (.sl (x4.Attrs.map GAttr.row))]) rfl tz_82 iL rfl iL rfl rfl rfl rfl) ?_
   refine AOps.nil (hK11 _ ?_)
   refine AW.seq_w fun K12 hK12 wK12 => ?_
   refine AW.region ?_
   refine sM rfl rfl ?_
   refine sM rfl rfl ?_
   refine ob1k h5 fun x5 ex5 h6 => ?_
   refine sQ rfl (ms_idx rfl tg_22.slice iL iL (fun _ => rfl) (fun _ => ex5)) ?_
   refine sQ rfl (ms_loadA (cs := [.r (.int .i64 x5.Char), .r (.int .i64 x5.Ref), .r (.sl (x5.Attrs.map GAttr.row))]) rfl ta_82 iL rfl rfl) ?_
   refine AOps.step rfl rfl rfl (ms_alloc (cs := [.r (.int .i64 0), .r (.int .i64 0), .cst (.slice none 0 0)]) 7 rfl t0_82 rfl rfl) ?_
   refine AOps.step0 rfl rfl (ms_store_box (ds := [.r (.int .i64 x5.Char), .r (.int .i64 x5.Ref), .r (.sl (x5.Attrs.map GAttr.row))]) rfl tz_82 iL rfl iL rfl rfl rfl rfl) ?_
   refine AOps.nil (hK12 _ ?_)
   refine AW.seq_w fun K13 hK13 wK13 => ?_
   refine AW.weak (s' := ⟨[(1, .r (.sl (b1.map GElem.row))), (6, .ptr 6 (i3 0) 0 0), (7, .ptr 7 ((i3 0) + 1) 0 0), (13, .r (.sl (a1.map GElem.row))), (14, .r (.int .i64 (a1.length : Int))), (15, .r (.int .i64 x2))], [(6, some (.box (i3 0) 82 [.r (.int .i64 x4.Char), .r (.int .i64 x4.Ref), .r (.sl (x4.Attrs.map GAttr.row))])), (7, some (.box ((i3 0) + 1) 82 [.r (.int .i64 x5.Char), .r (.int .i64 x5.Ref), .r (.sl (x5.Attrs.map GAttr.row))]))], ((i3 0) + 2), 45⟩) (by exact Weak.cv ⟨jL, jL, jL, jL, jL, jL, trivial⟩ ⟨.inl rfl, .inl rfl, trivial⟩ nL) ?_
   refine AW.region ?_
   refine sQ rfl (sp_fieldAddr_own (ob := .box _ _ _) rfl tf_82_0 iL fR rfl) ?_
   refine sQ rfl (ms_load_box (a := .r (.int .i64 x4.Char)) rfl ts_3 iL rfl rfl) ?_
   refine sQ rfl (sp_fieldAddr_own (ob := .box _ _ _) rfl tf_82_0 iL fR rfl) ?_
   refine sQ rfl (ms_load_box (a := .r (.int .i64 x5.Char)) rfl ts_3 iL rfl rfl) ?_
   refine sQ rfl (sp_neq rfl iL iL) ?_
   refine sM rfl rfl ?_
   refine sV rfl rfl rfl (sp_fieldAddr_own (ob := .box _ _ _) rfl tf_82_1 iL fR rfl) ?_
   refine sV rfl rfl rfl (ms_load_box (a := .r (.int .i64 x4.Ref)) rfl ts_3 (iR rfl) rfl rfl) ?_
   refine sV rfl rfl rfl (sp_fieldAddr_own (ob := .box _ _ _) rfl tf_82_1 iL fR rfl) ?_
   refine sV rfl rfl rfl (ms_load_box (a := .r (.int .i64 x5.Ref)) rfl ts_3 (iR rfl) rfl rfl) ?_
   refine sV rfl rfl rfl (sp_neq rfl (iR rfl) (iR rfl)) ?_
   refine sQ rfl (sp_or rfl iL (iR rfl)) ?_
   refine sM rfl rfl ?_
   refine sV rfl rfl rfl (sp_fieldAddr_own (ob := .box _ _ _) rfl tf_82_2 iL fR rfl) ?_
   refine sV rfl rfl rfl (ms_load_box (a := .r (.sl (x4.Attrs.map GAttr.row))) rfl ts_29 (iR rfl) rfl rfl) ?_
   refine sV rfl rfl rfl (sp_fieldAddr_own (ob := .box _ _ _) rfl tf_82_2 iL fR rfl) ?_
   refine sV rfl rfl rfl (ms_load_box (a := .r (.sl (x5.Attrs.map GAttr.row))) rfl ts_29 (iR rfl) rfl rfl) ?_
   refine ob1k h6 fun r1 er1 h7 => ?_
   refine AOps.stepW (.one rfl rfl rfl) rfl rfl (sp_call (r := .r (.bool r1)) (caps := []) (bs := [.r (.sl (x4.Attrs.map GAttr.row)), .r (.sl (x5.Attrs.map GAttr.row))]) rfl iL rfl ⟨⟨_, (iR rfl), .d rfl⟩, ⟨_, (iR rfl), .d rfl⟩, trivial⟩ (fun hg => w_attr_Same (gdt er1 hg)) rfl) ?_
   refine sV rfl rfl rfl (sp_not rfl (iR rfl)) ?_
   refine sQ rfl (sp_or rfl iL (iR rfl)) ?_
   refine AOps.nil (hK13 _ ?_)
   refine AW.cond rfl (fun hc3 => ?_) (fun hc3 => ?_)
   ·have h8 := ite_t hc3 h7
    refine AW.seq_w fun K14 hK14 wK14 => ?_
    refine AW.weak (s' := ⟨[], [], ((i3 0) + 2), 45⟩) (by exact Weak.cv trivial trivial nL) ?_
    refine AW.region ?_
    refine sQ rfl (sp_assign rfl iL) ?_
    refine AOps.nil (hK14 _ ?_)
    refine AW.ret ?_
    exact retf1 (P := Try.prog) (fun (r : Bool) => .r (.bool r)) (he1 _ (hx1 _ (Option.some.inj h8).symm)) iL (.t (.d rfl))
   ·have h8 := ite_f hc3 h7
    refine AW.skip ?_
    refine hK10 _ ?_
    refine AW.weak (s' := ⟨[(1, .r (.sl (b1.map GElem.row))), (13, .r (.sl (a1.map GElem.row))), (14, .r (.int .i64 (a1.length : Int))), (15, .r (.int .i64 x2))], [], ((i3 0) + 2), 45⟩) (by exact Weak.cv ⟨jL, jL, jL, jL, trivial⟩ trivial nL) ?_
    refine AW.region ?_
    refine ob1k h8 fun x6 ex6 h9 => ?_
    refine sQ rfl (ms_add rfl iL iL (fun _ => ex6)) ?_
    refine sM rfl rfl ?_
    refine AOps.nil ?_
    exact NextQ1.mk h9 (vec [((i3 0) + 2)]) ((by exact Weak.cv ⟨jL, jL, jL, jL, trivial⟩ trivial nL))
  ·have h4 := ite_f hc2 h3
   refine AW.exit ?_
   exact wK5 _ _ ((by exact Weak.cv trivial trivial nL)) (J1 _ (vec [(i3 0)]) (hx1 _ (Option.some.inj h4).symm))
set_option maxHeartbeats 4000000 in
set_option maxRecDepth 20000 in
theorem w_merge_joined_gap {w1 : Merge_Joined} {a1 : List GElem} {b1 : List GElem} {r : Merge_Joined} {gb1000 : Nat} {ga1001 : Nat} {ga1002 : Nat} (h : merge_joined_gap w1 a1 b1 = some r) : AHC Try.prog 82 3 [.ptr 1000 gb1000 0 0, .r (.sl (a1.map GElem.row)), .r (.sl (b1.map GElem.row))] [(1000, some (.box gb1000 126 [.r (.int .i64 w1.node), .own 1001 ga1001, .own 1002 ga1002])), (1001, some (.arr ga1001 82 3 (w1.out.map GElem.row))), (1002, some (.arr ga1002 89 5 (w1.bad.map GConflict.row)))] (fun rr h' => ∃ (i : Nat → Nat), rr = .tup [] ∧ h' = [(1000, some (.box gb1000 126 [.r (.int .i64 r.node), .own 1001 (i 0), .own 1002 (i 1)])), (1001, some (.arr (i 0) 82 3 (r.out.map GElem.row))), (1002, some (.arr (i 1) 89 5 (r.bad.map GConflict.row)))]) := by
 unfold merge_joined_gap at h
 refine AHC.mkw Try.func82 rfl rfl Try.ntmps82 (Nat.le_of_ble_eq_true rfl) fun n0 => ?_
 refine AW.seq_w fun K1 hK1 wK1 => ?_
 refine AW.region ?_
 refine sM rfl rfl ?_
 refine sQ rfl (sp_nilCheck_own (ob := .box _ _ _) rfl iL fR rfl) ?_
 refine sQ rfl (sp_fieldAddr_own (ob := .box _ _ _) rfl tf_126_1 iL fR rfl) ?_
 refine sQ rfl (ms_load_box (a := .own 1001 ga1001) rfl ts_22 iL rfl rfl) ?_
 refine sQ rfl (ms_len_own rfl tg_22.slice iL rfl) ?_
 refine sQ rfl (sp_assign rfl iL) ?_
 refine AOps.nil (hK1 _ ?_)
 refine AW.seq_w fun K2 hK2 wK2 => ?_
 refine AW.region ?_
 refine sM rfl rfl ?_
 refine sM rfl rfl ?_
 refine sQ rfl (sp_nilCheck_own (ob := .box _ _ _) rfl iL fR rfl) ?_
 refine sQ rfl (sp_fieldAddr_own (ob := .box _ _ _) rfl tf_126_1 iL fR rfl) ?_
 refine sQ rfl (ms_load_box (a := .own 1001 ga1001) rfl ts_22 iL rfl rfl) ?_
 refine sM rfl rfl ?_
 refine ob1k h fun l1 el1 h1 => ?_
 refine AOps.step rfl rfl rfl (ms_app rfl tg_22 iL rfl (.inl ⟨iL, fun _ => rfl⟩) el1) ?_
 refine sQ rfl (sp_nilCheck_own (ob := .box _ _ _) rfl iL fR rfl) ?_
 refine sQ rfl (sp_fieldAddr_own (ob := .box _ _ _) rfl tf_126_1 iL fR rfl) ?_
 refine AOps.step0 rfl rfl (ms_store_box (ds := [.r (.int .i64 w1.node), .own 1001 n0, .own 1002 ga1002]) rfl tz_22 iL rfl iL rfl rfl rfl rfl) ?_
 refine AOps.nil (hK2 _ ?_)
 refine AW.seq_w fun K3 hK3 wK3 => ?_
 refine AW.seq_w fun K4 hK4 wK4 => ?_
 refine AW.weak (s' := ⟨[(0, .ptr 1000 gb1000 0 0), (1, .r (.sl (a1.map GElem.row))), (2, .r (.sl (b1.map GElem.row))), (6, .r (.int .i64 (w1.out.length : Int)))], [(1000, some (.box gb1000 126 [.r (.int .i64 w1.node), .own 1001 n0, .own 1002 ga1002])), (1001, some (.arr n0 82 3 (l1.map GElem.row))), (1002, some (.arr ga1002 89 5 (w1.bad.map GConflict.row)))], (n0 + 1), 61⟩) (by exact Weak.cv ⟨jL, jL, jL, jL, trivial⟩ ⟨.inl rfl, .inl rfl, .inl rfl, trivial⟩ nL) ?_
 refine AW.region ?_
 refine sM rfl rfl ?_
 refine sQ rfl (ms_len rfl tg_22.slice iL) ?_
 refine sQ rfl (sp_eql rfl iL iL) ?_
 refine sM rfl rfl ?_
 refine sV rfl rfl rfl (sp_move rfl iL) ?_
 refine sV rfl rfl rfl (sp_move rfl iL) ?_
 refine ob1k h1 fun r1 er1 h2 => ?_
 refine AOps.stepW (.one rfl rfl rfl) rfl rfl (sp_call (r := .r (.bool r1)) (caps := []) (bs := [.r (.sl (a1.map GElem.row)), .r (.sl (b1.map GElem.row))]) rfl iL rfl ⟨⟨_, (iR rfl), .d rfl⟩, ⟨_, (iR rfl), .d rfl⟩, trivial⟩ (fun hg => w_flow_Same (gdt er1 hg)) rfl) ?_
 refine sQ rfl (sp_or rfl iL (iR rfl)) ?_
 refine AOps.nil (hK4 _ ?_)
 refine AW.cond rfl (fun hc1 => ?_) (fun hc1 => ?_)
 ·have h3 := ite_t hc1 h2
  refine AW.ret ?_
  exact RetW.mk (s' := ⟨[], [(1000, some (.box gb1000 126 [.r (.int .i64 w1.node), .own 1001 n0, .own 1002 ga1002])), (1001, some (.arr n0 82 3 (l1.map GElem.row))), (1002, some (.arr ga1002 89 5 (w1.bad.map GConflict.row)))], (n0 + 1), 61⟩) ((by exact Weak.cv trivial ⟨.inl rfl, .inl rfl, .inl rfl, trivial⟩ nL)) (reth_cast (fun (r : Merge_Joined) rr h' => ∃ (i : Nat → Nat), rr = .tup [] ∧ h' = [(1000, some (.box gb1000 126 [.r (.int .i64 r.node), .own 1001 (i 0), .own 1002 (i 1)])), (1001, some (.arr (i 0) 82 3 (r.out.map GElem.row))), (1002, some (.arr (i 1) 89 5 (r.bad.map GConflict.row)))]) h3 (by exact ⟨.tup [], [(1000, some (.box gb1000 126 [.r (.int .i64 w1.node), .own 1001 n0, .own 1002 ga1002])), (1001, some (.arr n0 82 3 (l1.map GElem.row))), (1002, some (.arr ga1002 89 5 (w1.bad.map GConflict.row)))], ⟨_, rfl, trivial⟩, ⟨.inr rfl, .inr rfl, .inr rfl, trivial⟩, rfl, rfl, vec [n0, ga1002], rfl, rfl⟩))
 ·have h3 := ite_f hc1 h2
  refine AW.skip ?_
  refine hK3 _ ?_
  refine AW.seq_w fun K5 hK5 wK5 => ?_
  refine AW.region ?_
  refine sM rfl rfl ?_
  refine sM rfl rfl ?_
  refine sQ rfl (sp_nilCheck_own (ob := .box _ _ _) rfl iL fR rfl) ?_
  refine sQ rfl (sp_fieldAddr_own (ob := .box _ _ _) rfl tf_126_1 iL fR rfl) ?_
  refine sQ rfl (ms_load_box (a := .own 1001 n0) rfl ts_22 iL rfl rfl) ?_
  refine sM rfl rfl ?_
  refine ob1k h3 fun l2 el2 h4 => ?_
  refine AOps.step rfl rfl rfl (ms_app rfl tg_22 iL rfl (.inl ⟨iL, fun _ => rfl⟩) el2) ?_
  refine sQ rfl (sp_nilCheck_own (ob := .box _ _ _) rfl iL fR rfl) ?_
  refine sQ rfl (sp_fieldAddr_own (ob := .box _ _ _) rfl tf_126_1 iL fR rfl) ?_
  refine AOps.step0 rfl rfl (ms_store_box (ds := [.r (.int .i64 w1.node), .own 1001 (n0 + 1), .own 1002 ga1002]) rfl tz_22 iL rfl iL rfl rfl rfl rfl) ?_
  refine AOps.nil (hK5 _ ?_)
  refine AW.seq_w fun K6 hK6 wK6 => ?_
  refine AW.weak (s' := ⟨[(0, .ptr 1000 gb1000 0 0), (1, .r (.sl (a1.map GElem.row))), (6, .r (.int .i64 (w1.out.length : Int)))], [(1000, some (.box gb1000 126 [.r (.int .i64 w1.node), .own 1001 (n0 + 1), .own 1002 ga1002])), (1001, some (.arr (n0 + 1) 82 3 (l2.map GElem.row))), (1002, some (.arr ga1002 89 5 (w1.bad.map GConflict.row)))], (n0 + 2), 61⟩) (by exact Weak.cv ⟨jL, jL, jL, trivial⟩ ⟨.inl rfl, .inl rfl, .inl rfl, trivial⟩ nL) ?_
  refine AW.region ?_
  refine sM rfl rfl ?_
  refine sQ rfl (ms_len rfl tg_22.slice iL) ?_
  refine sQ rfl (sp_gtr rfl iL iL) ?_
  refine AOps.nil (hK6 _ ?_)
  refine AW.cond rfl (fun hc2 => ?_) (fun hc2 => ?_)
  ·have h5 := ite_t hc2 h4
   refine AW.regionF' [0] [1, 2, 3, 4, 5, 6, 7, 8, 9, 10, 11, 12, 13, 14, 15] [16] 17 hmix (by kernel_rfl) rfl rfl rfl rfl rfl ?_
   refine AFl.move rfl rfl rfl rfl ?_
   refine AFl.nil ?_
   refine AF.step rfl rfl rfl (sp_move rfl iL) ?_
   refine AF.step rfl rfl rfl (sp_nilCheck_own (ob := .box _ _ _) rfl iL fR rfl) ?_
   refine AF.step rfl rfl rfl (sp_fieldAddr_own (ob := .box _ _ _) rfl tf_126_2 iL fR rfl) ?_
   refine AF.step rfl rfl rfl (ms_load_box (a := .own 1002 ga1002) rfl ts_48 iL rfl rfl) ?_
   refine AF.step rfl rfl rfl (sp_move rfl iL) ?_
   refine AF.step rfl rfl rfl (sp_nilCheck_own (ob := .box _ _ _) rfl iL fR rfl) ?_
   refine AF.step rfl rfl rfl (sp_fieldAddr_own (ob := .box _ _ _) rfl tf_126_0 iL fR rfl) ?_
   refine AF.step rfl rfl rfl (ms_load_box (a := .r (.int .i64 w1.node)) rfl ts_3 iL rfl rfl) ?_
   refine AF.step rfl rfl rfl (sp_move rfl iL) ?_
   refine AF.step rfl rfl rfl (sp_move rfl iL) ?_
   refine AF.step rfl rfl rfl (sp_nilCheck_own (ob := .box _ _ _) rfl iL fR rfl) ?_
   refine AF.step rfl rfl rfl (sp_fieldAddr_own (ob := .box _ _ _) rfl tf_126_1 iL fR rfl) ?_
   refine AF.step rfl rfl rfl (ms_load_box (a := .own 1001 (n0 + 1)) rfl ts_22 iL rfl rfl) ?_
   refine AF.step rfl rfl rfl (ms_len_own rfl tg_22.slice iL rfl) ?_
   refine AF.step rfl rfl rfl (sp_build rfl tb_89 (q := [(0, _), (1, _), (2, _), (3, _)]) (by exact ⟨rfl, rfl, rfl, iL, rfl, rfl, rfl, iL, rfl, rfl, rfl, iL, rfl, rfl, rfl, iL, trivial⟩) (cs := [.r (.int .i64 0), .r (.int .i64 w1.node), .r (.int .i64 (w1.out.length : Int)), .r (.int .i64 (l2.length : Int)), .r (.str [])]) (by rfl)) ?_
   refine AF.nil ?_
   refine AA.step rfl rfl rfl (msA_lit 57 rfl tg_48 (f := GConflict.row) (l := ([(GConflict.mk 0 w1.node (w1.out.length : Int) (l2.length : Int) [])] : List GConflict)) ⟨rfl, ⟨_, iL, rfl⟩, trivial⟩ rfl (fun _ => rfl) rfl) ?_
   refine AA.nil ?_
   refine ob1k h5 fun l3 el3 h6 => ?_
   refine AOps.step rfl rfl rfl (ms_app rfl tg_48 iL rfl (.inr (.inl ⟨_, _, iL, rfl⟩)) el3) ?_
   refine sQ rfl (sp_nilCheck_own (ob := .box _ _ _) rfl iL fR rfl) ?_
   refine sQ rfl (sp_fieldAddr_own (ob := .box _ _ _) rfl tf_126_2 iL fR rfl) ?_
   refine AOps.step0 rfl rfl (ms_store_box (ds := [.r (.int .i64 w1.node), .own 1001 (n0 + 1), .own 1002 (n0 + 3)]) rfl tz_48 iL rfl iL rfl rfl rfl rfl) ?_
   refine AOps.nil ?_
   exact RetW.mk (s' := ⟨[], [(1000, some (.box gb1000 126 [.r (.int .i64 w1.node), .own 1001 (n0 + 1), .own 1002 (n0 + 3)])), (1001, some (.arr (n0 + 1) 82 3 (l2.map GElem.row))), (1002, some (.arr (n0 + 3) 89 5 (l3.map GConflict.row)))], (n0 + 4), 61⟩) ((by exact Weak.cv trivial ⟨.inl rfl, .inl rfl, .inl rfl, trivial⟩ nL)) (reth_cast (fun (r : Merge_Joined) rr h' => ∃ (i : Nat → Nat), rr = .tup [] ∧ h' = [(1000, some (.box gb1000 126 [.r (.int .i64 r.node), .own 1001 (i 0), .own 1002 (i 1)])), (1001, some (.arr (i 0) 82 3 (r.out.map GElem.row))), (1002, some (.arr (i 1) 89 5 (r.bad.map GConflict.row)))]) h6 (by exact ⟨.tup [], [(1000, some (.box gb1000 126 [.r (.int .i64 w1.node), .own 1001 (n0 + 1), .own 1002 (n0 + 3)])), (1001, some (.arr (n0 + 1) 82 3 (l2.map GElem.row))), (1002, some (.arr (n0 + 3) 89 5 (l3.map GConflict.row)))], ⟨_, rfl, trivial⟩, ⟨.inr rfl, .inr rfl, .inr rfl, trivial⟩, rfl, rfl, vec [(n0 + 1), (n0 + 3)], rfl, rfl⟩))
  ·have h5 := ite_f hc2 h4
   refine AW.skip ?_
   exact RetW.mk (s' := ⟨[], [(1000, some (.box gb1000 126 [.r (.int .i64 w1.node), .own 1001 (n0 + 1), .own 1002 ga1002])), (1001, some (.arr (n0 + 1) 82 3 (l2.map GElem.row))), (1002, some (.arr ga1002 89 5 (w1.bad.map GConflict.row)))], (n0 + 2), 61⟩) ((by exact Weak.cv trivial ⟨.inl rfl, .inl rfl, .inl rfl, trivial⟩ nL)) (reth_cast (fun (r : Merge_Joined) rr h' => ∃ (i : Nat → Nat), rr = .tup [] ∧ h' = [(1000, some (.box gb1000 126 [.r (.int .i64 r.node), .own 1001 (i 0), .own 1002 (i 1)])), (1001, some (.arr (i 0) 82 3 (r.out.map GElem.row))), (1002, some (.arr (i 1) 89 5 (r.bad.map GConflict.row)))]) h5 (by exact ⟨.tup [], [(1000, some (.box gb1000 126 [.r (.int .i64 w1.node), .own 1001 (n0 + 1), .own 1002 ga1002])), (1001, some (.arr (n0 + 1) 82 3 (l2.map GElem.row))), (1002, some (.arr ga1002 89 5 (w1.bad.map GConflict.row)))], ⟨_, rfl, trivial⟩, ⟨.inr rfl, .inr rfl, .inr rfl, trivial⟩, rfl, rfl, vec [(n0 + 1), ga1002], rfl, rfl⟩))
set_option maxHeartbeats 4000000 in
set_option maxRecDepth 20000 in
theorem w_merge_joined_elem_f1 {w1 : GAttr} {d1 : GAttr} {r : Bool} {gb1000 : Nat} (h : merge_joined_elem_f1 w1 d1 = some r) : AHC Try.prog 108 1 [.agg [.r (.str d1.Name), .r (.str d1.Value)], .ptr 1000 gb1000 0 0] [(1000, some (.box gb1000 92 [.r (.str w1.Name), .r (.str w1.Value)]))] (fun rr h' => ∃ (i : Nat → Nat), rr = .r (.bool r) ∧ h' = [(1000, some (.box gb1000 92 [.r (.str w1.Name), .r (.str w1.Value)]))]) := by
 unfold merge_joined_elem_f1 at h
 refine AHC.mkw Try.func108 rfl rfl Try.ntmps108 (Nat.le_of_ble_eq_true rfl) fun n0 => ?_
 refine AW.seq_w fun K1 hK1 wK1 => ?_
 refine AW.region ?_
 refine AOps.step rfl rfl rfl (ms_box (cs := [.r (.str d1.Name), .r (.str d1.Value)]) 2 rfl iL rfl rfl) ?_
 refine sQ rfl (sp_assign rfl iL) ?_
 refine AOps.nil (hK1 _ ?_)
 refine AW.seq_w fun K2 hK2 wK2 => ?_
 refine AW.region ?_
 refine sQ rfl (sp_fieldAddr_own (ob := .box _ _ _) rfl tf_92_0 iL fR rfl) ?_
 refine sQ rfl (ms_load_box (a := .r (.str d1.Name)) rfl ts_9 iL rfl rfl) ?_
 refine sQ rfl (sp_fieldAddr_own (ob := .box _ _ _) rfl tf_92_0 iL fR rfl) ?_
 refine sQ rfl (ms_load_box (a := .r (.str w1.Name)) rfl ts_9 iL rfl rfl) ?_
 refine sQ rfl (sp_seql rfl iL iL) ?_
 refine sQ rfl (sp_assign rfl iL) ?_
 refine AOps.nil (hK2 _ ?_)
 refine AW.ret ?_
 exact RetW.mk (s' := ⟨[(3, .r (.bool (decide (d1.Name = w1.Name))))], [(1000, some (.box gb1000 92 [.r (.str w1.Name), .r (.str w1.Value)]))], (n0 + 1), 9⟩) ((by exact Weak.cv ⟨jL, trivial⟩ ⟨.inl rfl, trivial⟩ nL)) (reth_cast (fun (r : Bool) rr h' => ∃ (i : Nat → Nat), rr = .r (.bool r) ∧ h' = [(1000, some (.box gb1000 92 [.r (.str w1.Name), .r (.str w1.Value)]))]) h (by exact ⟨.r (.bool (decide (d1.Name = w1.Name))), [(1000, some (.box gb1000 92 [.r (.str w1.Name), .r (.str w1.Value)]))], rfl, ⟨.inr rfl, trivial⟩, rfl, rfl, vec [], rfl, rfl⟩))
set_option maxHeartbeats 4000000 in
set_option maxRecDepth 20000 in
theorem w_slices_IndexFunc_api_Attr_api_Attr__joined_elem_f1 {w1 : GAttr} {s1 : List GAttr} {r : Int} {gb1000 : Nat} (h : slices_IndexFunc_api_Attr_api_Attr__joined_elem_f1 w1 s1 = some r) : AHC Try.prog 107 1 [.r (.sl (s1.map GAttr.row)), .fn 108 [.ptr 1000 gb1000 0 0]] [(1000, some (.box gb1000 92 [.r (.str w1.Name), .r (.str w1.Value)]))] (fun rr h' => ∃ (i : Nat → Nat), rr = .r (.int .i64 r) ∧ h' = [(1000, some (.box gb1000 92 [.r (.str w1.Name), .r (.str w1.Value)]))]) := by
 unfold slices_IndexFunc_api_Attr_api_Attr__joined_elem_f1 at h
 refine AHC.mkw Try.func107 rfl rfl Try.ntmps107 (Nat.le_of_ble_eq_true rfl) fun n0 => ?_
 refine AW.seq_w fun K1 hK1 wK1 => ?_
 refine AW.region ?_
 refine sQ rfl (sp_assign rfl iL) ?_
 refine AOps.nil (hK1 _ ?_)
 refine AW.seq_w fun K2 hK2 wK2 => ?_
 refine AW.seq_w fun K3 hK3 wK3 => ?_
 refine AW.region ?_
 refine sM rfl rfl ?_
 refine sQ rfl (ms_len rfl tg_29.slice iL) ?_
 refine sM rfl rfl ?_
 refine AOps.nil (hK3 _ ?_)
 refine AW.block ?_
 refine jc1k h fun o1 hit1 hk1 he1 => ?_
 have J1 : ∀ (u2 : Unit) (i5 : Nat → Nat), o1 = .nrm u2 → K2 ⟨[], [(1000, some (.box gb1000 92 [.r (.str w1.Name), .r (.str w1.Value)]))], (i5 0), 19⟩ := by
  intro u2 i5 e
  have h1 := hk1 _ e
  refine hK2 _ ?_
  refine AW.seq_w fun K4 hK4 wK4 => ?_
  refine AW.region ?_
  refine sQ rfl (sp_assign rfl iL) ?_
  refine AOps.nil (hK4 _ ?_)
  refine AW.ret ?_
  exact RetW.mk (s' := ⟨[(4, .r (.int .i64 (-1)))], [(1000, some (.box gb1000 92 [.r (.str w1.Name), .r (.str w1.Value)]))], (i5 0), 19⟩) ((by exact Weak.cv ⟨jL, trivial⟩ ⟨.inl rfl, trivial⟩ nL)) (reth_cast (fun (r : Int) rr h' => ∃ (i : Nat → Nat), rr = .r (.int .i64 r) ∧ h' = [(1000, some (.box gb1000 92 [.r (.str w1.Name), .r (.str w1.Value)]))]) h1 (by exact ⟨.r (.int .i64 (-1)), [(1000, some (.box gb1000 92 [.r (.str w1.Name), .r (.str w1.Value)]))], rfl, ⟨.inr rfl, trivial⟩, rfl, rfl, vec [], rfl, rfl⟩))
 refine AW.iter1 (fun (x2 : Int) i3 => ⟨[(0, .r (.sl (s1.map GAttr.row))), (1, .fn 108 [.ptr 1000 gb1000 0 0]), (7, .r (.int .i64 (s1.length : Int))), (8, .r (.int .i64 x2))], [(1000, some (.box gb1000 92 [.r (.str w1.Name), .r (.str w1.Value)]))], (i3 0), 19⟩) (vec [n0]) hit1 ((by exact Weak.cv ⟨jL, jL, jL, jL, trivial⟩ ⟨.inl rfl, trivial⟩ nL)) ?_
 intro x2 i3 v1 hv1 hx1
 have h2 : slices_IndexFunc_api_Attr_api_Attr__joined_elem_f1_L1 w1 s1 x2 = some v1 := hv1; unfold slices_IndexFunc_api_Attr_api_Attr__joined_elem_f1_L1 at h2
 refine AW.seq_w fun K5 hK5 wK5 => ?_
 refine AW.region ?_
 refine sQ rfl (sp_lss rfl iL iL) ?_
 refine AOps.nil (hK5 _ ?_)
 refine AW.seq_w fun K6 hK6 wK6 => ?_
 refine AW.cond rfl (fun hc1 => ?_) (fun hc1 => ?_)
 ·have h3 := ite_t hc1 h2
  refine AW.skip ?_
  refine hK6 _ ?_
  refine AW.seq_w fun K7 hK7 wK7 => ?_
  refine AW.block ?_
  refine AW.seq_w fun K8 hK8 wK8 => ?_
  refine AW.region ?_
  refine sM rfl rfl ?_
  refine sQ rfl (sp_assign rfl iL) ?_
  refine AOps.nil (hK8 _ ?_)
  refine AW.seq_w fun K9 hK9 wK9 => ?_
  refine AW.region ?_
  refine sM rfl rfl ?_
  refine sM rfl rfl ?_
  refine sM rfl rfl ?_
  refine ob1k h3 fun x4 ex4 h4 => ?_
  refine sQ rfl (ms_idx rfl tg_29.slice iL iL (fun _ => rfl) (fun _ => ex4)) ?_
  refine sQ rfl (ms_loadA (cs := [.r (.str x4.Name), .r (.str x4.Value)]) rfl ta_92 iL rfl rfl) ?_
  refine ob1k h4 fun r1 er1 h5 => ?_
  refine AOps.stepHI [1000] (hc := [(1000, some (.box gb1000 92 [.r (.str w1.Name), .r (.str w1.Value)]))]) (bs := [.agg [.r (.str x4.Name), .r (.str x4.Value)]]) (caps := [.ptr 1000 gb1000 0 0]) rfl rfl rfl rfl iL rfl ⟨.inl ⟨iL, rfl⟩, trivial⟩ ⟨rfl, rfl, rfl, trivial⟩ (by decide) (w_merge_joined_elem_f1 er1) ?_
  intro i6 n1
  refine AOps.weak (s' := ⟨[(0, .r (.sl (s1.map GAttr.row))), (1, .fn 108 [.ptr 1000 gb1000 0 0]), (5, .r (.int .i64 x2)), (7, .r (.int .i64 (s1.length : Int))), (8, .r (.int .i64 x2)), (9, .r (.bool (decide (x2 < (s1.length : Int))))), (10, .r (.int .i64 x2)), (11, .fn 108 [.ptr 1000 gb1000 0 0]), (12, .r (.sl (s1.map GAttr.row))), (13, .r (.int .i64 x2)), (14, .rop (GAttr.row x4) 0), (15, .agg [.r (.str x4.Name), .r (.str x4.Value)]), (16, .r (.bool r1))], [(1000, some (.box gb1000 92 [.r (.str w1.Name), .r (.str w1.Value)]))], n1, 19⟩) (by exact Weak.cv ⟨jL, jL, jL, jL, jL, jL, jL, jL, jL, jL, jL, jL, jL, trivial⟩ ⟨.inl rfl, trivial⟩ nL) ?_
  refine AOps.nil (hK9 _ ?_)
  refine AW.cond rfl (fun hc2 => ?_) (fun hc2 => ?_)
  ·have h6 := ite_t hc2 h5
   refine AW.seq_w fun K10 hK10 wK10 => ?_
   refine AW.weak (s' := ⟨[(5, .r (.int .i64 x2))], [(1000, some (.box gb1000 92 [.r (.str w1.Name), .r (.str w1.Value)]))], n1, 19⟩) (by exact Weak.cv ⟨jL, trivial⟩ ⟨.inl rfl, trivial⟩ nL) ?_
   refine AW.region ?_
   refine sM rfl rfl ?_
   refine sQ rfl (sp_assign rfl iL) ?_
   refine AOps.nil (hK10 _ ?_)
   refine AW.ret ?_
   exact RetW.mk (s' := ⟨[(4, .r (.int .i64 x2))], [(1000, some (.box gb1000 92 [.r (.str w1.Name), .r (.str w1.Value)]))], n1, 19⟩) ((by exact Weak.cv ⟨jL, trivial⟩ ⟨.inl rfl, trivial⟩ nL)) (reth_cast (fun (r : Int) rr h' => ∃ (i : Nat → Nat), rr = .r (.int .i64 r) ∧ h' = [(1000, some (.box gb1000 92 [.r (.str w1.Name), .r (.str w1.Value)]))]) (he1 _ (hx1 _ (Option.some.inj h6).symm)) (by exact ⟨.r (.int .i64 x2), [(1000, some (.box gb1000 92 [.r (.str w1.Name), .r (.str w1.Value)]))], rfl, ⟨.inr rfl, trivial⟩, rfl, rfl, vec [], rfl, rfl⟩))
  ·have h6 := ite_f hc2 h5
   refine AW.skip ?_
   refine hK7 _ ?_
   refine AW.weak (s' := ⟨[(0, .r (.sl (s1.map GAttr.row))), (1, .fn 108 [.ptr 1000 gb1000 0 0]), (7, .r (.int .i64 (s1.length : Int))), (8, .r (.int .i64 x2))], [(1000, some (.box gb1000 92 [.r (.str w1.Name), .r (.str w1.Value)]))], n1, 19⟩) (by exact Weak.cv ⟨jL, jL, jL, jL, trivial⟩ ⟨.inl rfl, trivial⟩ nL) ?_
   refine AW.region ?_
   refine ob1k h6 fun x5 ex5 h7 => ?_
   refine sQ rfl (ms_add rfl iL iL (fun _ => ex5)) ?_
   refine sM rfl rfl ?_
   refine AOps.nil ?_
   exact NextQ1.mk h7 (vec [n1]) ((by exact Weak.cv ⟨jL, jL, jL, jL, trivial⟩ ⟨.inl rfl, trivial⟩ nL))
 ·have h3 := ite_f hc1 h2
  refine AW.exit ?_
  exact wK2 _ _ ((by exact Weak.cv trivial ⟨.inl rfl, trivial⟩ nL)) (J1 _ (vec [(i3 0)]) (hx1 _ (Option.some.inj h3).symm))
set_option maxHeartbeats 4000000 in
set_option maxRecDepth 20000 in
theorem w_attr_Raw_f1 {c1 : List GAttr} {x1 : GAttr} {y1 : GAttr} {r : (List GAttr)} {gb1000 : Nat} {ga1001 : Nat} (h : attr_Raw_f1 c1 x1 y1 = some r) : AHC Try.prog 119 2 [.agg [.r (.str x1.Name), .r (.str x1.Value)], .agg [.r (.str y1.Name), .r (.str y1.Value)], .ptr 1000 gb1000 0 0] [(1000, some (.box gb1000 29 [.own 1001 ga1001])), (1001, some (.arr ga1001 92 2 (c1.map GAttr.row)))] (fun rr h' => ∃ (i : Nat → Nat), rr = .tup [] ∧ h' = [(1000, some (.box gb1000 29 [.own 1001 (i 0)])), (1001, some (.arr (i 0) 92 2 (r.map GAttr.row)))]) := by
 unfold attr_Raw_f1 at h
 refine AHC.mkw Try.func119 rfl rfl Try.ntmps119 (Nat.le_of_ble_eq_true rfl) fun n0 => ?_
 refine AW.seq_w fun K1 hK1 wK1 => ?_
 refine AW.region ?_
 refine AOps.step rfl rfl rfl (ms_box (cs := [.r (.str x1.Name), .r (.str x1.Value)]) 3 rfl iL rfl rfl) ?_
 refine AOps.step rfl rfl rfl (ms_box (cs := [.r (.str y1.Name), .r (.str y1.Value)]) 4 rfl iL rfl rfl) ?_
 refine AOps.nil (hK1 _ ?_)
 refine AW.block ?_
 refine AW.seq_w fun K2 hK2 wK2 => ?_
 refine AW.region ?_
 refine sQ rfl (sp_fieldAddr_own (ob := .box _ _ _) rfl tf_92_0 iL fR rfl) ?_
 refine sQ rfl (ms_load_box (a := .r (.str y1.Name)) rfl ts_9 iL rfl rfl) ?_
 refine sQ rfl (sp_seql rfl iL iL) ?_
 refine sQ rfl (sp_assign rfl iL) ?_
 refine AOps.nil (hK2 _ ?_)
 refine AW.cond rfl (fun hc1 => ?_) (fun hc1 => ?_)
 ·have h1 := ite_t hc1 h
  refine AW.region ?_
  refine sQ rfl (ms_load_box (a := .own 1001 ga1001) rfl ts_29 iL rfl rfl) ?_
  refine sQ rfl (ms_loadA_box rfl ta_92 iL rfl rfl) ?_
  refine AOps.step rfl rfl rfl (ms_lit 11 rfl tg_29 (f := GAttr.row) (l := ([x1] : List GAttr)) ⟨rfl, ⟨_, iL, rfl⟩, trivial⟩ rfl (fun _ => rfl) rfl) ?_
  refine ob1k h1 fun l1 el1 h2 => ?_
  refine AOps.step rfl rfl rfl (ms_app rfl tg_29 iL rfl (.inr (.inl ⟨_, _, iL, rfl⟩)) el1) ?_
  refine AOps.step0 rfl rfl (ms_store_box (ds := [.own 1001 (n0 + 3)]) rfl tz_29 iL rfl iL rfl rfl rfl rfl) ?_
  refine AOps.nil ?_
  exact RetW.mk (s' := ⟨[], [(1000, some (.box gb1000 29 [.own 1001 (n0 + 3)])), (1001, some (.arr (n0 + 3) 92 2 (l1.map GAttr.row)))], (n0 + 4), 21⟩) ((by exact Weak.cv trivial ⟨.inl rfl, .inl rfl, trivial⟩ nL)) (reth_cast (fun (r : (List GAttr)) rr h' => ∃ (i : Nat → Nat), rr = .tup [] ∧ h' = [(1000, some (.box gb1000 29 [.own 1001 (i 0)])), (1001, some (.arr (i 0) 92 2 (r.map GAttr.row)))]) h2 (by exact ⟨.tup [], [(1000, some (.box gb1000 29 [.own 1001 (n0 + 3)])), (1001, some (.arr (n0 + 3) 92 2 (l1.map GAttr.row)))], ⟨_, rfl, trivial⟩, ⟨.inr rfl, .inr rfl, trivial⟩, rfl, rfl, vec [(n0 + 3)], rfl, rfl⟩))
 ·have h1 := ite_f hc1 h
  refine AW.seq_w fun K3 hK3 wK3 => ?_
  refine AW.region ?_
  refine sQ rfl (sp_fieldAddr_own (ob := .box _ _ _) rfl tf_92_1 iL fR rfl) ?_
  refine sQ rfl (ms_load_box (a := .r (.str y1.Value)) rfl ts_9 iL rfl rfl) ?_
  refine sQ rfl (sp_sneq rfl iL iL) ?_
  refine sQ rfl (sp_assign rfl iL) ?_
  refine AOps.nil (hK3 _ ?_)
  refine AW.cond rfl (fun hc2 => ?_) (fun hc2 => ?_)
  ·have h3 := ite_t hc2 h1
   refine AW.weak (s' := ⟨[(2, .ptr 1000 gb1000 0 0), (4, .ptr 4 (n0 + 1) 0 0)], [(4, some (.box (n0 + 1) 92 [.r (.str y1.Name), .r (.str y1.Value)])), (1000, some (.box gb1000 29 [.own 1001 ga1001])), (1001, some (.arr ga1001 92 2 (c1.map GAttr.row)))], (n0 + 2), 21⟩) (by exact Weak.cv ⟨jL, jL, trivial⟩ ⟨.inl rfl, .inl rfl, .inl rfl, trivial⟩ nL) ?_
   refine AW.region ?_
   refine sQ rfl (ms_load_box (a := .own 1001 ga1001) rfl ts_29 iL rfl rfl) ?_
   refine sQ rfl (ms_loadA_box rfl ta_92 iL rfl rfl) ?_
   refine AOps.step rfl rfl rfl (ms_lit 19 rfl tg_29 (f := GAttr.row) (l := ([y1] : List GAttr)) ⟨rfl, ⟨_, iL, rfl⟩, trivial⟩ rfl (fun _ => rfl) rfl) ?_
   refine ob1k h3 fun l2 el2 h4 => ?_
   refine AOps.step rfl rfl rfl (ms_app rfl tg_29 iL rfl (.inr (.inl ⟨_, _, iL, rfl⟩)) el2) ?_
   refine AOps.step0 rfl rfl (ms_store_box (ds := [.own 1001 (n0 + 3)]) rfl tz_29 iL rfl iL rfl rfl rfl rfl) ?_
   refine AOps.nil ?_
   exact RetW.mk (s' := ⟨[], [(1000, some (.box gb1000 29 [.own 1001 (n0 + 3)])), (1001, some (.arr (n0 + 3) 92 2 (l2.map GAttr.row)))], (n0 + 4), 21⟩) ((by exact Weak.cv trivial ⟨.inl rfl, .inl rfl, trivial⟩ nL)) (reth_cast (fun (r : (List GAttr)) rr h' => ∃ (i : Nat → Nat), rr = .tup [] ∧ h' = [(1000, some (.box gb1000 29 [.own 1001 (i 0)])), (1001, some (.arr (i 0) 92 2 (r.map GAttr.row)))]) h4 (by exact ⟨.tup [], [(1000, some (.box gb1000 29 [.own 1001 (n0 + 3)])), (1001, some (.arr (n0 + 3) 92 2 (l2.map GAttr.row)))], ⟨_, rfl, trivial⟩, ⟨.inr rfl, .inr rfl, trivial⟩, rfl, rfl, vec [(n0 + 3)], rfl, rfl⟩))
  ·have h3 := ite_f hc2 h1
   refine AW.skip ?_
   exact RetW.mk (s' := ⟨[], [(1000, some (.box gb1000 29 [.own 1001 ga1001])), (1001, some (.arr ga1001 92 2 (c1.map GAttr.row)))], (n0 + 2), 21⟩) ((by exact Weak.cv trivial ⟨.inl rfl, .inl rfl, trivial⟩ nL)) (reth_cast (fun (r : (List GAttr)) rr h' => ∃ (i : Nat → Nat), rr = .tup [] ∧ h' = [(1000, some (.box gb1000 29 [.own 1001 (i 0)])), (1001, some (.arr (i 0) 92 2 (r.map GAttr.row)))]) h3 (by exact ⟨.tup [], [(1000, some (.box gb1000 29 [.own 1001 ga1001])), (1001, some (.arr ga1001 92 2 (c1.map GAttr.row)))], ⟨_, rfl, trivial⟩, ⟨.inr rfl, .inr rfl, trivial⟩, rfl, rfl, vec [ga1001], rfl, rfl⟩))
set_option maxHeartbeats 4000000 in
set_option maxRecDepth 20000 in
theorem w_attr_both__Raw_f1 {c1 : List GAttr} {a1 : List GAttr} {b1 : List GAttr} {r : (List GAttr)} {gb1000 : Nat} {ga1001 : Nat} (h : attr_both__Raw_f1 c1 a1 b1 = some r) : AHC Try.prog 101 2 [.r (.sl (a1.map GAttr.row)), .r (.sl (b1.map GAttr.row)), .fn 119 [.ptr 1000 gb1000 0 0]] [(1000, some (.box gb1000 29 [.own 1001 ga1001])), (1001, some (.arr ga1001 92 2 (c1.map GAttr.row)))] (fun rr h' => ∃ (i : Nat → Nat), rr = .tup [] ∧ h' = [(1000, some (.box gb1000 29 [.own 1001 (i 0)])), (1001, some (.arr (i 0) 92 2 (r.map GAttr.row)))]) := by
 unfold attr_both__Raw_f1 at h
 refine AHC.mkw Try.func101 rfl rfl Try.ntmps101 (Nat.le_of_ble_eq_true rfl) fun n0 => ?_
 refine AW.seq_w fun K1 hK1 wK1 => ?_
 refine AW.region ?_
 refine sQ rfl (sp_assign rfl iL) ?_
 refine sQ rfl (sp_assign rfl iL) ?_
 refine AOps.nil (hK1 _ ?_)
 refine AW.block ?_
 refine jc1k h fun o4 hit1 hk1 he1 => ?_
 refine AW.iter3 (fun (i4 : Int) (j2 : Int) (o2 : List GAttr) i5 => ⟨[(0, .r (.sl (a1.map GAttr.row))), (1, .r (.sl (b1.map GAttr.row))), (2, .fn 119 [.ptr 1000 gb1000 0 0]), (6, .r (.int .i64 i4)), (7, .r (.int .i64 j2))], [(1000, some (.box gb1000 29 [.own 1001 (i5 0)])), (1001, some (.arr (i5 0) 92 2 (o2.map GAttr.row)))], (i5 1), 92⟩) (vec [ga1001, n0]) hit1 ((by exact Weak.cv ⟨jL, jL, jL, jL, jL, trivial⟩ ⟨.inl rfl, .inl rfl, trivial⟩ nL)) ?_
 intro i4 j2 o2 i5 v1 hv1 hx1
 have h1 : attr_both__Raw_f1_L1 a1 b1 i4 j2 o2 = some v1 := hv1; unfold attr_both__Raw_f1_L1 at h1
 refine AW.seq_w fun K2 hK2 wK2 => ?_
 refine AW.seq_w fun K3 hK3 wK3 => ?_
 refine AW.region ?_
 refine sM rfl rfl ?_
 refine sM rfl rfl ?_
 refine sQ rfl (ms_len rfl tg_29.slice iL) ?_
 refine sQ rfl (sp_lss rfl iL iL) ?_
 refine sM rfl rfl ?_
 refine sV rfl rfl rfl (sp_move rfl iL) ?_
 refine sV rfl rfl rfl (sp_move rfl iL) ?_
 refine sV rfl rfl rfl (ms_len rfl tg_29.slice (iR rfl)) ?_
 refine sV rfl rfl rfl (sp_lss rfl (iR rfl) (iR rfl)) ?_
 refine sQ rfl (sp_or rfl iL (iR rfl)) ?_
 refine AOps.nil (hK3 _ ?_)
 refine AW.cond rfl (fun hc1 => ?_) (fun hc1 => ?_)
 ·have h2 := ite_t hc1 h1
  refine AW.skip ?_
  refine hK2 _ ?_
  refine AW.block ?_
  refine AW.block ?_
  refine AW.seq_w fun K4 hK4 wK4 => ?_
  refine AW.regionQ hmix (by kernel_rfl) ?_
  refine AQ.step rfl rfl rfl (sp_move rfl iL) ?_
  refine AQ.step rfl rfl rfl (sp_move rfl iL) ?_
  refine AQ.step rfl rfl rfl (ms_len rfl tg_29.slice iL) ?_
  refine AQ.step rfl rfl rfl (sp_eql rfl iL iL) ?_
  refine AQ.step rfl rfl rfl (sp_move rfl iL) ?_
  refine AQ.stepW (.one rfl rfl rfl) rfl rfl (sp_move rfl iL) ?_
  refine AQ.stepW (.one rfl rfl rfl) rfl rfl (sp_move rfl iL) ?_
  refine AQ.stepW (.one rfl rfl rfl) rfl rfl (ms_len rfl tg_29.slice (iR rfl)) ?_
  refine AQ.stepW (.one rfl rfl rfl) rfl rfl (sp_lss rfl (iR rfl) (iR rfl)) ?_
  refine AQ.stepW (.one rfl rfl rfl) rfl rfl (sp_move rfl (iR rfl)) ?_
  refine AQ.stepW (.two rfl rfl rfl) rfl rfl (sp_move rfl iL) ?_
  refine AQ.stepW (.two rfl rfl rfl) rfl rfl (sp_move rfl iL) ?_
  refine ob1k h2 fun x1 ex1 h3 => ?_
  refine AQ.stepW (.two rfl rfl rfl) rfl rfl (ms_idx rfl tg_29.slice (iR rfl) (iR rfl) (fun _ => rfl) (gdt ex1)) ?_
  refine AQ.stepW (.two rfl rfl rfl) rfl rfl (sp_fieldAddr_ro rfl tf_92_0 (iR rfl)) ?_
  refine AQ.stepW (.two rfl rfl rfl) rfl rfl (ms_load (d := .str x1.Name) rfl ts_9 (iR rfl) rfl) ?_
  refine AQ.stepW (.two rfl rfl rfl) rfl rfl (sp_move rfl iL) ?_
  refine AQ.stepW (.two rfl rfl rfl) rfl rfl (sp_move rfl iL) ?_
  refine ob1k h3 fun x2 ex2 h4 => ?_
  refine AQ.stepW (.two rfl rfl rfl) rfl rfl (ms_idx rfl tg_29.slice (iR rfl) (iR rfl) (fun _ => rfl) (gdt ex2)) ?_
  refine AQ.stepW (.two rfl rfl rfl) rfl rfl (sp_fieldAddr_ro rfl tf_92_0 (iR rfl)) ?_
  refine AQ.stepW (.two rfl rfl rfl) rfl rfl (ms_load (d := .str x2.Name) rfl ts_9 (iR rfl) rfl) ?_
  refine AQ.stepW (.two rfl rfl rfl) rfl rfl (sp_slss rfl (iR rfl) (iR rfl)) ?_
  refine AQ.stepW (.one rfl rfl rfl) rfl rfl (sp_and rfl (iR rfl) (iR rfl)) ?_
  refine AQ.step rfl rfl rfl (sp_or rfl iL (iR rfl)) ?_
  refine AQ.step rfl rfl rfl (sp_assign rfl iL) ?_
  refine AQ.nil ?_
  refine hK4 _ ?_
  refine AW.cond rfl (fun hc2 => ?_) (fun hc2 => ?_)
  ·have h5 := ite_t hc2 h4
   refine AW.seq_w fun K5 hK5 wK5 => ?_
   refine AW.weak (s' := ⟨[(0, .r (.sl (a1.map GAttr.row))), (1, .r (.sl (b1.map GAttr.row))), (2, .fn 119 [.ptr 1000 gb1000 0 0]), (6, .r (.int .i64 i4)), (7, .r (.int .i64 j2))], [(1000, some (.box gb1000 29 [.own 1001 (i5 0)])), (1001, some (.arr (i5 0) 92 2 (o2.map GAttr.row)))], (i5 1), 92⟩) (by exact Weak.cv ⟨jL, jL, jL, jL, jL, trivial⟩ ⟨.inl rfl, .inl rfl, trivial⟩ nL) ?_
   refine AW.region ?_
   refine sM rfl rfl ?_
   refine sM rfl rfl ?_
   refine sM rfl rfl ?_
   refine ob1k h5 fun x3 ex3 h6 => ?_
   refine sQ rfl (ms_idx rfl tg_29.slice iL iL (fun _ => rfl) (fun _ => ex3)) ?_
   refine sQ rfl (ms_loadA (cs := [.r (.str x3.Name), .r (.str x3.Value)]) rfl ta_92 iL rfl rfl) ?_
   refine sQ rfl (sp_build rfl tb_92 (q := []) (by exact trivial) (cs := [.r (.str []), .r (.str [])]) (by rfl)) ?_
   refine ob1k h6 fun w1 ew1 h7 => ?_
   refine AOps.stepHI [1000, 1001] (hc := [(1000, some (.box gb1000 29 [.own 1001 (i5 0)])), (1001, some (.arr (i5 0) 92 2 (o2.map GAttr.row)))]) (bs := [.agg [.r (.str x3.Name), .r (.str x3.Value)], .agg [.r (.str []), .r (.str [])]]) (caps := [.ptr 1000 gb1000 0 0]) rfl rfl rfl rfl iL rfl ⟨.inl ⟨iL, rfl⟩, .inl ⟨iL, rfl⟩, trivial⟩ ⟨rfl, rfl, rfl, rfl, rfl, rfl, trivial⟩ (by decide) (w_attr_Raw_f1 ew1) ?_
   intro i8 n1
   refine AOps.weak (s' := ⟨[(0, .r (.sl (a1.map GAttr.row))), (1, .r (.sl (b1.map GAttr.row))), (2, .fn 119 [.ptr 1000 gb1000 0 0]), (6, .r (.int .i64 i4)), (7, .r (.int .i64 j2)), (56, .fn 119 [.ptr 1000 gb1000 0 0]), (57, .r (.sl (a1.map GAttr.row))), (58, .r (.int .i64 i4)), (59, .rop (GAttr.row x3) 0), (60, .agg [.r (.str x3.Name), .r (.str x3.Value)]), (61, .agg [.r (.str []), .r (.str [])]), (62, .tup [])], [(1000, some (.box gb1000 29 [.own 1001 (i8 0)])), (1001, some (.arr (i8 0) 92 2 (w1.map GAttr.row)))], n1, 92⟩) (by exact Weak.cv ⟨jL, jL, jL, jL, jL, jL, jL, jL, jL, jL, jL, jL, trivial⟩ ⟨.inl rfl, .inl rfl, trivial⟩ nL) ?_
   refine AOps.nil (hK5 _ ?_)
   refine AW.region ?_
   refine sM rfl rfl ?_
   refine ob1k h7 fun i9 ei9 h8 => ?_
   refine sQ rfl (ms_add rfl iL iL (fun _ => ei9)) ?_
   refine sQ rfl (sp_assign rfl iL) ?_
   refine AOps.nil ?_
   exact NextQ3.mk h8 (vec [(i8 0), n1]) ((by exact Weak.cv ⟨jL, jL, jL, jL, jL, trivial⟩ ⟨.inl rfl, .inl rfl, trivial⟩ nL))
  ·have h5 := ite_f hc2 h4
   refine AW.seq_w fun K6 hK6 wK6 => ?_
   refine AW.weak (s' := ⟨[(0, .r (.sl (a1.map GAttr.row))), (1, .r (.sl (b1.map GAttr.row))), (2, .fn 119 [.ptr 1000 gb1000 0 0]), (6, .r (.int .i64 i4)), (7, .r (.int .i64 j2))], [(1000, some (.box gb1000 29 [.own 1001 (i5 0)])), (1001, some (.arr (i5 0) 92 2 (o2.map GAttr.row)))], (i5 1), 92⟩) (by exact Weak.cv ⟨jL, jL, jL, jL, jL, trivial⟩ ⟨.inl rfl, .inl rfl, trivial⟩ nL) ?_
   refine AW.regionQ hmix (by kernel_rfl) ?_
   refine AQ.step rfl rfl rfl (sp_move rfl iL) ?_
   refine AQ.step rfl rfl rfl (sp_move rfl iL) ?_
   refine AQ.step rfl rfl rfl (ms_len rfl tg_29.slice iL) ?_
   refine AQ.step rfl rfl rfl (sp_eql rfl iL iL) ?_
   refine AQ.step rfl rfl rfl (sp_move rfl iL) ?_
   refine AQ.stepW (.one rfl rfl rfl) rfl rfl (sp_move rfl iL) ?_
   refine AQ.stepW (.one rfl rfl rfl) rfl rfl (sp_move rfl iL) ?_
   refine ob1k h5 fun x4 ex4 h9 => ?_
   refine AQ.stepW (.one rfl rfl rfl) rfl rfl (ms_idx rfl tg_29.slice (iR rfl) (iR rfl) (fun _ => rfl) (gdt ex4)) ?_
   refine AQ.stepW (.one rfl rfl rfl) rfl rfl (sp_fieldAddr_ro rfl tf_92_0 (iR rfl)) ?_
   refine AQ.stepW (.one rfl rfl rfl) rfl rfl (ms_load (d := .str x4.Name) rfl ts_9 (iR rfl) rfl) ?_
   refine AQ.stepW (.one rfl rfl rfl) rfl rfl (sp_move rfl iL) ?_
   refine AQ.stepW (.one rfl rfl rfl) rfl rfl (sp_move rfl iL) ?_
   refine ob1k h9 fun x5 ex5 h10 => ?_
   refine AQ.stepW (.one rfl rfl rfl) rfl rfl (ms_idx rfl tg_29.slice (iR rfl) (iR rfl) (fun _ => rfl) (gdt ex5)) ?_
   refine AQ.stepW (.one rfl rfl rfl) rfl rfl (sp_fieldAddr_ro rfl tf_92_0 (iR rfl)) ?_
   refine AQ.stepW (.one rfl rfl rfl) rfl rfl (ms_load (d := .str x5.Name) rfl ts_9 (iR rfl) rfl) ?_
   refine AQ.stepW (.one rfl rfl rfl) rfl rfl (sp_slss rfl (iR rfl) (iR rfl)) ?_
   refine AQ.step rfl rfl rfl (sp_or rfl iL (iR rfl)) ?_
   refine AQ.step rfl rfl rfl (sp_assign rfl iL) ?_
   refine AQ.nil ?_
   refine hK6 _ ?_
   refine AW.cond rfl (fun hc3 => ?_) (fun hc3 => ?_)
   ·have h11 := ite_t hc3 h10
    refine AW.seq_w fun K7 hK7 wK7 => ?_
    refine AW.region ?_
    refine sM rfl rfl ?_
    refine sQ rfl (sp_build rfl tb_92 (q := []) (by exact trivial) (cs := [.r (.str []), .r (.str [])]) (by rfl)) ?_
    refine sM rfl rfl ?_
    refine sM rfl rfl ?_
    refine ob1k h11 fun x6 ex6 h12 => ?_
    refine sQ rfl (ms_idx rfl tg_29.slice iL iL (fun _ => rfl) (fun _ => ex6)) ?_
    refine sQ rfl (ms_loadA (cs := [.r (.str x6.Name), .r (.str x6.Value)]) rfl ta_92 iL rfl rfl) ?_
    refine ob1k h12 fun w2 ew2 h13 => ?_
    refine AOps.stepHI [1000, 1001] (hc := [(1000, some (.box gb1000 29 [.own 1001 (i5 0)])), (1001, some (.arr (i5 0) 92 2 (o2.map GAttr.row)))]) (bs := [.agg [.r (.str []), .r (.str [])], .agg [.r (.str x6.Name), .r (.str x6.Value)]]) (caps := [.ptr 1000 gb1000 0 0]) rfl rfl rfl rfl iL rfl ⟨.inl ⟨iL, rfl⟩, .inl ⟨iL, rfl⟩, trivial⟩ ⟨rfl, rfl, rfl, rfl, rfl, rfl, trivial⟩ (by decide) (w_attr_Raw_f1 ew2) ?_
    intro i10 n2
    refine AOps.weak (s' := ⟨[(0, .r (.sl (a1.map GAttr.row))), (1, .r (.sl (b1.map GAttr.row))), (2, .fn 119 [.ptr 1000 gb1000 0 0]), (6, .r (.int .i64 i4)), (7, .r (.int .i64 j2)), (65, .r (.bool ((decide (i4 = (a1.length : Int))) || (sLt x4.Name x5.Name)))), (66, .r (.int .i64 i4)), (67, .r (.sl (a1.map GAttr.row))), (68, .r (.int .i64 (a1.length : Int))), (69, .r (.bool (decide (i4 = (a1.length : Int))))), (70, .r (.bool (decide (i4 = (a1.length : Int))))), (82, .r (.bool ((decide (i4 = (a1.length : Int))) || (sLt x4.Name x5.Name)))), (83, .fn 119 [.ptr 1000 gb1000 0 0]), (84, .agg [.r (.str []), .r (.str [])]), (85, .r (.sl (b1.map GAttr.row))), (86, .r (.int .i64 j2)), (87, .rop (GAttr.row x6) 0), (88, .agg [.r (.str x6.Name), .r (.str x6.Value)]), (89, .tup [])], [(1000, some (.box gb1000 29 [.own 1001 (i10 0)])), (1001, some (.arr (i10 0) 92 2 (w2.map GAttr.row)))], n2, 92⟩) (by exact Weak.cv ⟨jL, jL, jL, jL, jL, jL, jL, jL, jL, jL, jL, jL, jL, jL, jL, jL, jL, jL, jL, trivial⟩ ⟨.inl rfl, .inl rfl, trivial⟩ nL) ?_
    refine AOps.nil (hK7 _ ?_)
    refine AW.weak (s' := ⟨[(0, .r (.sl (a1.map GAttr.row))), (1, .r (.sl (b1.map GAttr.row))), (2, .fn 119 [.ptr 1000 gb1000 0 0]), (6, .r (.int .i64 i4)), (7, .r (.int .i64 j2))], [(1000, some (.box gb1000 29 [.own 1001 (i10 0)])), (1001, some (.arr (i10 0) 92 2 (w2.map GAttr.row)))], n2, 92⟩) (by exact Weak.cv ⟨jL, jL, jL, jL, jL, trivial⟩ ⟨.inl rfl, .inl rfl, trivial⟩ nL) ?_
    refine AW.region ?_
    refine sM rfl rfl ?_
    refine ob1k h13 fun j4 ej4 h14 => ?_
    refine sQ rfl (ms_add rfl iL iL (fun _ => ej4)) ?_
    refine sQ rfl (sp_assign rfl iL) ?_
    refine AOps.nil ?_
    exact NextQ3.mk h14 (vec [(i10 0), n2]) ((by exact Weak.cv ⟨jL, jL, jL, jL, jL, trivial⟩ ⟨.inl rfl, .inl rfl, trivial⟩ nL))
   ·have h11 := ite_f hc3 h10
    refine AW.seq_w fun K8 hK8 wK8 => ?_
    refine AW.regionT 9 hmix (by kernel_rfl) rfl rfl ?_
    refine AT.step rfl rfl rfl (sp_move rfl iL) ?_
    refine AT.step rfl rfl rfl (sp_move rfl iL) ?_
    refine AT.step rfl rfl rfl (sp_move rfl iL) ?_
    refine ob1k h11 fun x7 ex7 h15 => ?_
    refine AT.step rfl rfl rfl (ms_idx rfl tg_29.slice iL iL (fun _ => rfl) (fun _ => ex7)) ?_
    refine AT.step rfl rfl rfl (ms_loadA (cs := [.r (.str x7.Name), .r (.str x7.Value)]) rfl ta_92 iL rfl rfl) ?_
    refine AT.step rfl rfl rfl (sp_move rfl iL) ?_
    refine AT.step rfl rfl rfl (sp_move rfl iL) ?_
    refine ob1k h15 fun x8 ex8 h16 => ?_
    refine AT.step rfl rfl rfl (ms_idx rfl tg_29.slice iL iL (fun _ => rfl) (fun _ => ex8)) ?_
    refine AT.step rfl rfl rfl (ms_loadA (cs := [.r (.str x8.Name), .r (.str x8.Value)]) rfl ta_92 iL rfl rfl) ?_
    refine AT.nil ?_
    refine ob1k h16 fun w3 ew3 h17 => ?_
    refine AOps.stepHI [1000, 1001] (hc := [(1000, some (.box gb1000 29 [.own 1001 (i5 0)])), (1001, some (.arr (i5 0) 92 2 (o2.map GAttr.row)))]) (bs := [.agg [.r (.str x7.Name), .r (.str x7.Value)], .agg [.r (.str x8.Name), .r (.str x8.Value)]]) (caps := [.ptr 1000 gb1000 0 0]) rfl rfl rfl rfl iL rfl ⟨.inl ⟨iL, rfl⟩, .inl ⟨iL, rfl⟩, trivial⟩ ⟨rfl, rfl, rfl, rfl, rfl, rfl, trivial⟩ (by decide) (w_attr_Raw_f1 ew3) ?_
    intro i11 n3
    refine AOps.weak (s' := ⟨[(0, .r (.sl (a1.map GAttr.row))), (1, .r (.sl (b1.map GAttr.row))), (2, .fn 119 [.ptr 1000 gb1000 0 0]), (6, .r (.int .i64 i4)), (7, .r (.int .i64 j2)), (18, .fn 119 [.ptr 1000 gb1000 0 0]), (19, .r (.sl (a1.map GAttr.row))), (20, .r (.int .i64 i4)), (21, .rop (GAttr.row x7) 0), (22, .agg [.r (.str x7.Name), .r (.str x7.Value)]), (23, .r (.sl (b1.map GAttr.row))), (24, .r (.int .i64 j2)), (25, .rop (GAttr.row x8) 0), (26, .agg [.r (.str x8.Name), .r (.str x8.Value)]), (27, .tup []), (65, .r (.bool ((decide (i4 = (a1.length : Int))) || (sLt x4.Name x5.Name)))), (66, .r (.int .i64 i4)), (67, .r (.sl (a1.map GAttr.row))), (68, .r (.int .i64 (a1.length : Int))), (69, .r (.bool (decide (i4 = (a1.length : Int))))), (70, .r (.bool (decide (i4 = (a1.length : Int))))), (82, .r (.bool ((decide (i4 = (a1.length : Int))) || (sLt x4.Name x5.Name))))], [(1000, some (.box gb1000 29 [.own 1001 (i11 0)])), (1001, some (.arr (i11 0) 92 2 (w3.map GAttr.row)))], n3, 92⟩) (by exact Weak.cv ⟨jL, jL, jL, jL, jL, jL, jL, jL, jL, jL, jL, jL, jL, jL, jL, jL, jL, jL, jL, jL, jL, jL, trivial⟩ ⟨.inl rfl, .inl rfl, trivial⟩ nL) ?_
    refine AOps.nil (hK8 _ ?_)
    refine AW.weak (s' := ⟨[(0, .r (.sl (a1.map GAttr.row))), (1, .r (.sl (b1.map GAttr.row))), (2, .fn 119 [.ptr 1000 gb1000 0 0]), (6, .r (.int .i64 i4)), (7, .r (.int .i64 j2))], [(1000, some (.box gb1000 29 [.own 1001 (i11 0)])), (1001, some (.arr (i11 0) 92 2 (w3.map GAttr.row)))], n3, 92⟩) (by exact Weak.cv ⟨jL, jL, jL, jL, jL, trivial⟩ ⟨.inl rfl, .inl rfl, trivial⟩ nL) ?_
    refine AW.region ?_
    refine sM rfl rfl ?_
    refine ob1k h17 fun i12 ei12 h18 => ?_
    refine sQ rfl (ms_add rfl iL iL (fun _ => ei12)) ?_
    refine sM rfl rfl ?_
    refine ob1k h18 fun j5 ej5 h19 => ?_
    refine sQ rfl (ms_add rfl iL iL (fun _ => ej5)) ?_
    refine sQ rfl (sp_assign rfl iL) ?_
    refine sQ rfl (sp_assign rfl iL) ?_
    refine AOps.nil ?_
    exact NextQ3.mk h19 (vec [(i11 0), n3]) ((by exact Weak.cv ⟨jL, jL, jL, jL, jL, trivial⟩ ⟨.inl rfl, .inl rfl, trivial⟩ nL))
 ·have h2 := ite_f hc1 h1
  refine AW.exit ?_
  exact RetW.mk (s' := ⟨[], [(1000, some (.box gb1000 29 [.own 1001 (i5 0)])), (1001, some (.arr (i5 0) 92 2 (o2.map GAttr.row)))], (i5 1), 92⟩) ((by exact Weak.cv trivial ⟨.inl rfl, .inl rfl, trivial⟩ nL)) (reth_cast (fun (r : (List GAttr)) rr h' => ∃ (i : Nat → Nat), rr = .tup [] ∧ h' = [(1000, some (.box gb1000 29 [.own 1001 (i 0)])), (1001, some (.arr (i 0) 92 2 (r.map GAttr.row)))]) (he1 _ (hx1 _ (Option.some.inj h2).symm)) (by exact ⟨.tup [], [(1000, some (.box gb1000 29 [.own 1001 (i5 0)])), (1001, some (.arr (i5 0) 92 2 (o2.map GAttr.row)))], ⟨_, rfl, trivial⟩, ⟨.inr rfl, .inr rfl, trivial⟩, rfl, rfl, vec [(i5 0)], rfl, rfl⟩))
set_option maxHeartbeats 4000000 in
set_option maxRecDepth 20000 in
theorem w_attr_Raw {l1 : List GAttr} {change1 : List GAttr} {r : (List GAttr)} (h : attr_Raw l1 change1 = some r) : ARO Try.prog 109 [.r (.sl (l1.map GAttr.row)), .r (.sl (change1.map GAttr.row))] (.r (.sl (r.map GAttr.row))) := by
 unfold attr_Raw at h
 refine ARO.mkF Try.func109 rfl rfl Try.ntmps109 rfl (Nat.le_of_ble_eq_true rfl) fun n0 => ?_
 refine AW.seq_w fun K1 hK1 wK1 => ?_
 refine AW.region ?_
 refine sQ rfl (sp_assign rfl iL) ?_
 refine AOps.nil (hK1 _ ?_)
 refine AW.seq_w fun K2 hK2 wK2 => ?_
 refine AW.region ?_
 refine AOps.step rfl rfl rfl (ms_alloc (cs := [.cst (.slice none 0 0)]) 5 rfl t0_29 rfl rfl) ?_
 refine AOps.nil (hK2 _ ?_)
 refine AW.seq_w fun K3 hK3 wK3 => ?_
 refine AW.region ?_
 refine sM rfl rfl ?_
 refine sM rfl rfl ?_
 refine sQ rfl (sp_makeFunc (bs := [.ptr 5 n0 0 0]) rfl (by exact ⟨iL, trivial⟩)) ?_
 refine AOps.weak (Weak.trans (Weak.adoptBox 5 0 3050 92 2 (by decide) rfl rfl (by decide)) (by exact Weak.cv (e' := [(0, .r (.sl (l1.map GAttr.row))), (1, .r (.sl (change1.map GAttr.row))), (4, .cst (.slice none 0 0)), (5, .ptr 5 n0 0 0), (6, .r (.sl (l1.map GAttr.row))), (7, .r (.sl (change1.map GAttr.row))), (8, .fn 119 [.ptr 5 n0 0 0])]) (h' := [(5, some (.box n0 29 [.own 3050 (n0 + 1)])), (3050, some (.arr (n0 + 1) 92 2 (([] : List GAttr).map GAttr.row)))]) ⟨jL, jL, jL, jL, jL, jL, jL, trivial⟩ ⟨.inl rfl, .inl rfl, trivial⟩ nL)) ?_
 refine ob1k h fun w1 ew1 h1 => ?_
 refine AOps.stepHI [5, 3050] (hc := [(1000, some (.box n0 29 [.own 1001 (n0 + 1)])), (1001, some (.arr (n0 + 1) 92 2 (([] : List GAttr).map GAttr.row)))]) (bs := [.r (.sl (l1.map GAttr.row)), .r (.sl (change1.map GAttr.row)), .fn 119 [.ptr 1000 n0 0 0]]) (caps := []) rfl rfl rfl rfl iL rfl ⟨.inl ⟨iL, rfl⟩, .inl ⟨iL, rfl⟩, .inl ⟨iL, rfl⟩, trivial⟩ ⟨rfl, rfl, rfl, rfl, rfl, rfl, trivial⟩ (by decide) (w_attr_both__Raw_f1 ew1) ?_
 intro i1 n1
 refine AOps.weak (s' := ⟨[(0, .r (.sl (l1.map GAttr.row))), (1, .r (.sl (change1.map GAttr.row))), (4, .cst (.slice none 0 0)), (5, .ptr 5 n0 0 0), (6, .r (.sl (l1.map GAttr.row))), (7, .r (.sl (change1.map GAttr.row))), (8, .fn 119 [.ptr 5 n0 0 0]), (9, .tup [])], [(5, some (.box n0 29 [.own 3050 (i1 0)])), (3050, some (.arr (i1 0) 92 2 (w1.map GAttr.row)))], n1, 11⟩) (by exact Weak.cv ⟨jL, jL, jL, jL, jL, jL, jL, jL, trivial⟩ ⟨.inl rfl, .inl rfl, trivial⟩ nL) ?_
 refine AOps.nil (hK3 _ ?_)
 refine AW.seq_w fun K4 hK4 wK4 => ?_
 refine AW.region ?_
 refine sQ rfl (ms_load_box (a := .own 3050 (i1 0)) rfl ts_29 iL rfl rfl) ?_
 refine sQ rfl (sp_assign rfl iL) ?_
 refine AOps.nil (hK4 _ ?_)
 refine AW.ret ?_
 exact retf1 (P := Try.prog) (fun (r : (List GAttr)) => .r (.sl (r.map GAttr.row))) h1 iL (.t (.one (.own rfl)))
set_option maxHeartbeats 4000000 in
set_option maxRecDepth 20000 in
theorem w_merge_joined_elem {w1 : Merge_Joined} {x1 : GElem} {a1 : List GAttr} {b1 : List GAttr} {cutA1 : Bool} {cutB1 : Bool} {r : Merge_Joined} {gb1000 : Nat} {ga1001 : Nat} {ga1002 : Nat} (h : merge_joined_elem w1 x1 a1 b1 cutA1 cutB1 = some r) : AHC Try.prog 83 3 [.ptr 1000 gb1000 0 0, .agg [.r (.int .i64 x1.Char), .r (.int .i64 x1.Ref), .r (.sl (x1.Attrs.map GAttr.row))], .r (.sl (a1.map GAttr.row)), .r (.sl (b1.map GAttr.row)), .r (.bool cutA1), .r (.bool cutB1)] [(1000, some (.box gb1000 126 [.r (.int .i64 w1.node), .own 1001 ga1001, .own 1002 ga1002])), (1001, some (.arr ga1001 82 3 (w1.out.map GElem.row))), (1002, some (.arr ga1002 89 5 (w1.bad.map GConflict.row)))] (fun rr h' => ∃ (i : Nat → Nat), rr = .tup [] ∧ h' = [(1000, some (.box gb1000 126 [.r (.int .i64 r.node), .own 1001 (i 0), .own 1002 (i 1)])), (1001, some (.arr (i 0) 82 3 (r.out.map GElem.row))), (1002, some (.arr (i 1) 89 5 (r.bad.map GConflict.row)))]) := by
 unfold merge_joined_elem at h
 refine AHC.mkw Try.func83 rfl rfl Try.ntmps83 (Nat.le_of_ble_eq_true rfl) fun n0 => ?_
 refine AW.seq_w fun K1 hK1 wK1 => ?_
 refine AW.region ?_
 refine AOps.step rfl rfl rfl (ms_box (cs := [.r (.int .i64 x1.Char), .r (.int .i64 x1.Ref), .r (.sl (x1.Attrs.map GAttr.row))]) 7 rfl iL rfl rfl) ?_
 refine AOps.nil (hK1 _ ?_)
 refine AW.seq_w fun K2 hK2 wK2 => ?_
 refine AW.region ?_
 refine sM rfl rfl ?_
 refine sQ rfl (sp_nilCheck_own (ob := .box _ _ _) rfl iL fR rfl) ?_
 refine sQ rfl (sp_fieldAddr_own (ob := .box _ _ _) rfl tf_126_1 iL fR rfl) ?_
 refine sQ rfl (ms_load_box (a := .own 1001 ga1001) rfl ts_22 iL rfl rfl) ?_
 refine sQ rfl (ms_len_own rfl tg_22.slice iL rfl) ?_
 refine sQ rfl (sp_assign rfl iL) ?_
 refine AOps.nil (hK2 _ ?_)
 refine AW.seq_w fun K3 hK3 wK3 => ?_
 refine AW.seq_w fun K4 hK4 wK4 => ?_
 refine AW.region ?_
 refine sM rfl rfl ?_
 refine sM rfl rfl ?_
 refine sV rfl rfl rfl (sp_move rfl iL) ?_
 refine sQ rfl (sp_or rfl iL (iR rfl)) ?_
 refine AOps.nil (hK4 _ ?_)
 refine AW.cond rfl (fun hc1 => ?_) (fun hc1 => ?_)
 ·have h1 := ite_t hc1 h
  refine AW.seq_w fun K5 hK5 wK5 => ?_
  refine AW.seq_w fun K6 hK6 wK6 => ?_
  refine AW.weak (s' := ⟨[(0, .ptr 1000 gb1000 0 0), (2, .r (.sl (a1.map GAttr.row))), (3, .r (.sl (b1.map GAttr.row))), (4, .r (.bool cutA1)), (5, .r (.bool cutB1)), (12, .r (.int .i64 (w1.out.length : Int)))], [(1000, some (.box gb1000 126 [.r (.int .i64 w1.node), .own 1001 ga1001, .own 1002 ga1002])), (1001, some (.arr ga1001 82 3 (w1.out.map GElem.row))), (1002, some (.arr ga1002 89 5 (w1.bad.map GConflict.row)))], (n0 + 1), 115⟩) (by exact Weak.cv ⟨jL, jL, jL, jL, jL, jL, trivial⟩ ⟨.inl rfl, .inl rfl, .inl rfl, trivial⟩ nL) ?_
  refine AW.region ?_
  refine sM rfl rfl ?_
  refine sQ rfl (sp_not rfl iL) ?_
  refine sM rfl rfl ?_
  refine sV rfl rfl rfl (sp_move rfl iL) ?_
  refine sV rfl rfl rfl (ms_len rfl tg_29.slice (iR rfl)) ?_
  refine sV rfl rfl rfl (sp_gtr rfl (iR rfl) iL) ?_
  refine sQ rfl (sp_and rfl iL (iR rfl)) ?_
  refine sM rfl rfl ?_
  refine sV rfl rfl rfl (sp_move rfl iL) ?_
  refine sV rfl rfl rfl (sp_not rfl (iR rfl)) ?_
  refine sV rfl rfl rfl (sp_move rfl (iR rfl)) ?_
  refine sW (.two rfl rfl rfl) rfl (sp_move rfl iL) ?_
  refine sW (.two rfl rfl rfl) rfl (ms_len rfl tg_29.slice (iR rfl)) ?_
  refine sW (.two rfl rfl rfl) rfl (sp_gtr rfl (iR rfl) iL) ?_
  refine sV rfl rfl rfl (sp_and rfl (iR rfl) (iR rfl)) ?_
  refine sQ rfl (sp_or rfl iL (iR rfl)) ?_
  refine AOps.nil (hK6 _ ?_)
  refine jb1k h1 fun p1 hp1 hk1 => ?_
  have J1 : ∀ (j1 : Merge_Joined) (i1 : Nat → Nat), p1 = j1 → K5 ⟨[], [(1000, some (.box gb1000 126 [.r (.int .i64 j1.node), .own 1001 (i1 0), .own 1002 (i1 1)])), (1001, some (.arr (i1 0) 82 3 (j1.out.map GElem.row))), (1002, some (.arr (i1 1) 89 5 (j1.bad.map GConflict.row)))], (i1 2), 115⟩ := by
   intro j1 i1 e
   have h2 := hk1 _ e
   refine hK5 _ ?_
   refine AW.ret ?_
   exact RetW.mk (s' := ⟨[], [(1000, some (.box gb1000 126 [.r (.int .i64 j1.node), .own 1001 (i1 0), .own 1002 (i1 1)])), (1001, some (.arr (i1 0) 82 3 (j1.out.map GElem.row))), (1002, some (.arr (i1 1) 89 5 (j1.bad.map GConflict.row)))], (i1 2), 115⟩) ((by exact Weak.cv trivial ⟨.inl rfl, .inl rfl, .inl rfl, trivial⟩ nL)) (reth_cast (fun (r : Merge_Joined) rr h' => ∃ (i : Nat → Nat), rr = .tup [] ∧ h' = [(1000, some (.box gb1000 126 [.r (.int .i64 r.node), .own 1001 (i 0), .own 1002 (i 1)])), (1001, some (.arr (i 0) 82 3 (r.out.map GElem.row))), (1002, some (.arr (i 1) 89 5 (r.bad.map GConflict.row)))]) h2 (by exact ⟨.tup [], [(1000, some (.box gb1000 126 [.r (.int .i64 j1.node), .own 1001 (i1 0), .own 1002 (i1 1)])), (1001, some (.arr (i1 0) 82 3 (j1.out.map GElem.row))), (1002, some (.arr (i1 1) 89 5 (j1.bad.map GConflict.row)))], ⟨_, rfl, trivial⟩, ⟨.inr rfl, .inr rfl, .inr rfl, trivial⟩, rfl, rfl, vec [(i1 0), (i1 1)], rfl, rfl⟩))
  refine AW.cond rfl (fun hc2 => ?_) (fun hc2 => ?_)
  ·have h3 := ite_t hc2 hp1
   refine AW.weak (s' := ⟨[(0, .ptr 1000 gb1000 0 0), (12, .r (.int .i64 (w1.out.length : Int)))], [(1000, some (.box gb1000 126 [.r (.int .i64 w1.node), .own 1001 ga1001, .own 1002 ga1002])), (1001, some (.arr ga1001 82 3 (w1.out.map GElem.row))), (1002, some (.arr ga1002 89 5 (w1.bad.map GConflict.row)))], (n0 + 1), 115⟩) (by exact Weak.cv ⟨jL, jL, trivial⟩ ⟨.inl rfl, .inl rfl, .inl rfl, trivial⟩ nL) ?_
   refine AW.regionF' [0] [1, 2, 3, 4, 5, 6, 7, 8, 9, 10, 11] [12] 13 hmix (by kernel_rfl) rfl rfl rfl rfl rfl ?_
   refine AFl.move rfl rfl rfl rfl ?_
   refine AFl.nil ?_
   refine AF.step rfl rfl rfl (sp_move rfl iL) ?_
   refine AF.step rfl rfl rfl (sp_nilCheck_own (ob := .box _ _ _) rfl iL fR rfl) ?_
   refine AF.step rfl rfl rfl (sp_fieldAddr_own (ob := .box _ _ _) rfl tf_126_2 iL fR rfl) ?_
   refine AF.step rfl rfl rfl (ms_load_box (a := .own 1002 ga1002) rfl ts_48 iL rfl rfl) ?_
   refine AF.step rfl rfl rfl (sp_move rfl iL) ?_
   refine AF.step rfl rfl rfl (sp_nilCheck_own (ob := .box _ _ _) rfl iL fR rfl) ?_
   refine AF.step rfl rfl rfl (sp_fieldAddr_own (ob := .box _ _ _) rfl tf_126_0 iL fR rfl) ?_
   refine AF.step rfl rfl rfl (ms_load_box (a := .r (.int .i64 w1.node)) rfl ts_3 iL rfl rfl) ?_
   refine AF.step rfl rfl rfl (sp_move rfl iL) ?_
   refine AF.step rfl rfl rfl (sp_move rfl iL) ?_
   refine AF.step rfl rfl rfl (sp_build rfl tb_89 (q := [(0, _), (1, _), (2, _), (3, _)]) (by exact ⟨rfl, rfl, rfl, iL, rfl, rfl, rfl, iL, rfl, rfl, rfl, iL, rfl, rfl, rfl, iL, trivial⟩) (cs := [.r (.int .i64 1), .r (.int .i64 w1.node), .r (.int .i64 (w1.out.length : Int)), .r (.int .i64 (w1.out.length : Int)), .r (.str [])]) (by rfl)) ?_
   refine AF.nil ?_
   refine AA.step rfl rfl rfl (msA_lit 53 rfl tg_48 (f := GConflict.row) (l := ([(GConflict.mk 1 w1.node (w1.out.length : Int) (w1.out.length : Int) [])] : List GConflict)) ⟨rfl, ⟨_, iL, rfl⟩, trivial⟩ rfl (fun _ => rfl) rfl) ?_
   refine AA.nil ?_
   refine ob1k h3 fun l1 el1 h4 => ?_
   refine AOps.step rfl rfl rfl (ms_app rfl tg_48 iL rfl (.inr (.inl ⟨_, _, iL, rfl⟩)) el1) ?_
   refine sQ rfl (sp_nilCheck_own (ob := .box _ _ _) rfl iL fR rfl) ?_
   refine sQ rfl (sp_fieldAddr_own (ob := .box _ _ _) rfl tf_126_2 iL fR rfl) ?_
   refine AOps.step0 rfl rfl (ms_store_box (ds := [.r (.int .i64 w1.node), .own 1001 ga1001, .own 1002 (n0 + 2)]) rfl tz_48 iL rfl iL rfl rfl rfl rfl) ?_
   refine AOps.nil ?_
   exact wK5 _ _ ((by exact Weak.cv trivial ⟨.inl rfl, .inl rfl, .inl rfl, trivial⟩ nL)) (J1 _ (vec [ga1001, (n0 + 2), (n0 + 3)]) (Option.some.inj h4).symm)
  ·have h3 := ite_f hc2 hp1
   refine AW.skip ?_
   exact wK5 _ _ ((by exact Weak.cv trivial ⟨.inl rfl, .inl rfl, .inl rfl, trivial⟩ nL)) (J1 _ (vec [ga1001, ga1002, (n0 + 1)]) (Option.some.inj h3).symm)
 ·have h1 := ite_f hc1 h
  refine AW.skip ?_
  refine hK3 _ ?_
  refine AW.seq_w fun K7 hK7 wK7 => ?_
  refine AW.seq_w fun K8 hK8 wK8 => ?_
  refine AW.weak (s' := ⟨[(0, .ptr 1000 gb1000 0 0), (2, .r (.sl (a1.map GAttr.row))), (3, .r (.sl (b1.map GAttr.row))), (7, .ptr 7 n0 0 0), (12, .r (.int .i64 (w1.out.length : Int)))], [(7, some (.box n0 82 [.r (.int .i64 x1.Char), .r (.int .i64 x1.Ref), .r (.sl (x1.Attrs.map GAttr.row))])), (1000, some (.box gb1000 126 [.r (.int .i64 w1.node), .own 1001 ga1001, .own 1002 ga1002])), (1001, some (.arr ga1001 82 3 (w1.out.map GElem.row))), (1002, some (.arr ga1002 89 5 (w1.bad.map GConflict.row)))], (n0 + 1), 115⟩) (by exact Weak.cv ⟨jL, jL, jL, jL, jL, trivial⟩ ⟨.inl rfl, .inl rfl, .inl rfl, .inl rfl, trivial⟩ nL) ?_
  refine AW.region ?_
  refine sM rfl rfl ?_
  refine sQ rfl (ms_len rfl tg_29.slice iL) ?_
  refine sM rfl rfl ?_
  refine AOps.nil (hK8 _ ?_)
  refine AW.block ?_
  refine jb1k h1 fun o1 hit1 hk2 => ?_
  have J2 : ∀ (j5 : Merge_Joined) (i6 : Nat → Nat), o1 = j5 → K7 ⟨[(0, .ptr 1000 gb1000 0 0), (2, .r (.sl (a1.map GAttr.row))), (3, .r (.sl (b1.map GAttr.row))), (7, .ptr 7 n0 0 0)], [(7, some (.box n0 82 [.r (.int .i64 x1.Char), .r (.int .i64 x1.Ref), .r (.sl (x1.Attrs.map GAttr.row))])), (1000, some (.box gb1000 126 [.r (.int .i64 j5.node), .own 1001 (i6 0), .own 1002 (i6 1)])), (1001, some (.arr (i6 0) 82 3 (j5.out.map GElem.row))), (1002, some (.arr (i6 1) 89 5 (j5.bad.map GConflict.row)))], (i6 2), 115⟩ := by
   intro j5 i6 e
   have h5 := hk2 _ e
   refine hK7 _ ?_
   refine AW.seq_w fun K9 hK9 wK9 => ?_
   refine AW.region ?_
   refine sQ rfl (sp_fieldAddr_own (ob := .box _ _ _) rfl tf_82_2 iL fR rfl) ?_
   refine sQ rfl (ms_load_box (a := .r (.sl (x1.Attrs.map GAttr.row))) rfl ts_29 iL rfl rfl) ?_
   refine sM rfl rfl ?_
   refine ob1k h5 fun r1 er1 h6 => ?_
   refine AOps.step rfl rfl rfl (sp_callS (r := .r (.sl (r1.map GAttr.row))) (caps := []) (bs := [.r (.sl (x1.Attrs.map GAttr.row)), .r (.sl (b1.map GAttr.row))]) rfl iL rfl ⟨.inl ⟨iL, rfl⟩, .inl ⟨iL, rfl⟩, trivial⟩ (fun _ => w_attr_Raw (er1))) ?_
   refine sM rfl rfl ?_
   refine ob1k h6 fun r2 er2 h7 => ?_
   refine AOps.step rfl rfl rfl (sp_callS (r := .r (.sl (r2.map GAttr.row))) (caps := []) (bs := [.r (.sl (r1.map GAttr.row)), .r (.sl (a1.map GAttr.row))]) rfl iL rfl ⟨.inl ⟨iL, rfl⟩, .inl ⟨iL, rfl⟩, trivial⟩ (fun _ => w_attr_Raw (er2))) ?_
   refine sQ rfl (sp_fieldAddr_own (ob := .box _ _ _) rfl tf_82_2 iL fR rfl) ?_
   refine AOps.step0 rfl rfl (ms_store_box (ds := [.r (.int .i64 x1.Char), .r (.int .i64 x1.Ref), .r (.sl (r2.map GAttr.row))]) rfl tz_29 iL rfl iL rfl rfl rfl rfl) ?_
   refine AOps.nil (hK9 _ ?_)
   refine AW.weak (s' := ⟨[(0, .ptr 1000 gb1000 0 0), (7, .ptr 7 n0 0 0)], [(7, some (.box n0 82 [.r (.int .i64 x1.Char), .r (.int .i64 x1.Ref), .r (.sl (r2.map GAttr.row))])), (1000, some (.box gb1000 126 [.r (.int .i64 j5.node), .own 1001 (i6 0), .own 1002 (i6 1)])), (1001, some (.arr (i6 0) 82 3 (j5.out.map GElem.row))), (1002, some (.arr (i6 1) 89 5 (j5.bad.map GConflict.row)))], (i6 2), 115⟩) (by exact Weak.cv ⟨jL, jL, trivial⟩ ⟨.inl rfl, .inl rfl, .inl rfl, .inl rfl, trivial⟩ nL) ?_
   refine AW.regionF' [0] [1, 2, 3, 4, 5] [6] 7 hmix (by kernel_rfl) rfl rfl rfl rfl rfl ?_
   refine AFl.move rfl rfl rfl rfl ?_
   refine AFl.nil ?_
   refine AF.step rfl rfl rfl (sp_move rfl iL) ?_
   refine AF.step rfl rfl rfl (sp_nilCheck_own (ob := .box _ _ _) rfl iL fR rfl) ?_
   refine AF.step rfl rfl rfl (sp_fieldAddr_own (ob := .box _ _ _) rfl tf_126_1 iL fR rfl) ?_
   refine AF.step rfl rfl rfl (ms_load_box (a := .own 1001 (i6 0)) rfl ts_22 iL rfl rfl) ?_
   refine AF.step rfl rfl rfl (ms_loadA_box rfl ta_82 iL rfl rfl) ?_
   refine AF.nil ?_
   refine AA.step rfl rfl rfl (msA_lit 111 rfl tg_22 (f := GElem.row) (l := ([(GElem.mk x1.Char x1.Ref r2)] : List GElem)) ⟨rfl, ⟨_, iL, rfl⟩, trivial⟩ rfl (fun _ => rfl) rfl) ?_
   refine AA.nil ?_
   refine ob1k h7 fun l2 el2 h8 => ?_
   refine AOps.step rfl rfl rfl (ms_app rfl tg_22 iL rfl (.inr (.inl ⟨_, _, iL, rfl⟩)) el2) ?_
   refine sQ rfl (sp_nilCheck_own (ob := .box _ _ _) rfl iL fR rfl) ?_
   refine sQ rfl (sp_fieldAddr_own (ob := .box _ _ _) rfl tf_126_1 iL fR rfl) ?_
   refine AOps.step0 rfl rfl (ms_store_box (ds := [.r (.int .i64 j5.node), .own 1001 ((i6 2) + 1), .own 1002 (i6 1)]) rfl tz_22 iL rfl iL rfl rfl rfl rfl) ?_
   refine AOps.nil ?_
   exact RetW.mk (s' := ⟨[], [(1000, some (.box gb1000 126 [.r (.int .i64 j5.node), .own 1001 ((i6 2) + 1), .own 1002 (i6 1)])), (1001, some (.arr ((i6 2) + 1) 82 3 (l2.map GElem.row))), (1002, some (.arr (i6 1) 89 5 (j5.bad.map GConflict.row)))], ((i6 2) + 2), 115⟩) ((by exact Weak.cv trivial ⟨.inl rfl, .inl rfl, .inl rfl, trivial⟩ nL)) (reth_cast (fun (r : Merge_Joined) rr h' => ∃ (i : Nat → Nat), rr = .tup [] ∧ h' = [(1000, some (.box gb1000 126 [.r (.int .i64 r.node), .own 1001 (i 0), .own 1002 (i 1)])), (1001, some (.arr (i 0) 82 3 (r.out.map GElem.row))), (1002, some (.arr (i 1) 89 5 (r.bad.map GConflict.row)))]) h8 (by exact ⟨.tup [], [(1000, some (.box gb1000 126 [.r (.int .i64 j5.node), .own 1001 ((i6 2) + 1), .own 1002 (i6 1)])), (1001, some (.arr ((i6 2) + 1) 82 3 (l2.map GElem.row))), (1002, some (.arr (i6 1) 89 5 (j5.bad.map GConflict.row)))], ⟨_, rfl, trivial⟩, ⟨.inr rfl, .inr rfl, .inr rfl, trivial⟩, rfl, rfl, vec [((i6 2) + 1), (i6 1)], rfl, rfl⟩))
  refine AW.iter2 (fun (x3 : Int) (j3 : Merge_Joined) i4 => ⟨[(0, .ptr 1000 gb1000 0 0), (2, .r (.sl (a1.map GAttr.row))), (3, .r (.sl (b1.map GAttr.row))), (7, .ptr 7 n0 0 0), (12, .r (.int .i64 (w1.out.length : Int))), (57, .r (.sl (a1.map GAttr.row))), (58, .r (.int .i64 (a1.length : Int))), (59, .r (.int .i64 x3))], [(7, some (.box n0 82 [.r (.int .i64 x1.Char), .r (.int .i64 x1.Ref), .r (.sl (x1.Attrs.map GAttr.row))])), (1000, some (.box gb1000 126 [.r (.int .i64 j3.node), .own 1001 (i4 0), .own 1002 (i4 1)])), (1001, some (.arr (i4 0) 82 3 (j3.out.map GElem.row))), (1002, some (.arr (i4 1) 89 5 (j3.bad.map GConflict.row)))], (i4 2), 115⟩) (vec [ga1001, ga1002, (n0 + 1)]) hit1 ((by exact Weak.cv ⟨jL, jL, jL, jL, jL, jL, jL, jL, trivial⟩ ⟨.inl rfl, .inl rfl, .inl rfl, .inl rfl, trivial⟩ nL)) ?_
  intro x3 j3 i4 v1 hv1 hx1
  have h9 : merge_joined_elem_L1 w1 a1 b1 x3 j3 = some v1 := hv1; unfold merge_joined_elem_L1 at h9
  refine AW.seq_w fun K10 hK10 wK10 => ?_
  refine AW.region ?_
  refine sQ rfl (sp_lss rfl iL iL) ?_
  refine AOps.nil (hK10 _ ?_)
  refine AW.seq_w fun K11 hK11 wK11 => ?_
  refine AW.cond rfl (fun hc3 => ?_) (fun hc3 => ?_)
  ·have h10 := ite_t hc3 h9
   refine AW.skip ?_
   refine hK11 _ ?_
   refine AW.seq_w fun K12 hK12 wK12 => ?_
   refine AW.block ?_
   refine jb1k h10 fun p2 hp2 hk3 => ?_
   have J3 : ∀ (j6 : Merge_Joined) (i7 : Nat → Nat), p2 = j6 → K12 ⟨[(0, .ptr 1000 gb1000 0 0), (2, .r (.sl (a1.map GAttr.row))), (3, .r (.sl (b1.map GAttr.row))), (7, .ptr 7 n0 0 0), (12, .r (.int .i64 (w1.out.length : Int))), (57, .r (.sl (a1.map GAttr.row))), (58, .r (.int .i64 (a1.length : Int))), (59, .r (.int .i64 x3))], [(7, some (.box n0 82 [.r (.int .i64 x1.Char), .r (.int .i64 x1.Ref), .r (.sl (x1.Attrs.map GAttr.row))])), (1000, some (.box gb1000 126 [.r (.int .i64 j6.node), .own 1001 (i7 0), .own 1002 (i7 1)])), (1001, some (.arr (i7 0) 82 3 (j6.out.map GElem.row))), (1002, some (.arr (i7 1) 89 5 (j6.bad.map GConflict.row)))], (i7 2), 115⟩ := by
    intro j6 i7 e
    have h11 := hk3 _ e
    refine hK12 _ ?_
    refine AW.region ?_
    refine ob1k h11 fun x5 ex5 h12 => ?_
    refine sQ rfl (ms_add rfl iL iL (fun _ => ex5)) ?_
    refine sM rfl rfl ?_
    refine AOps.nil ?_
    exact NextQ2.mk h12 (vec [(i7 0), (i7 1), (i7 2)]) ((by exact Weak.cv ⟨jL, jL, jL, jL, jL, jL, jL, jL, trivial⟩ ⟨.inl rfl, .inl rfl, .inl rfl, .inl rfl, trivial⟩ nL))
   refine AW.seq_w fun K13 hK13 wK13 => ?_
   refine AW.region ?_
   refine ob1k hp2 fun x6 ex6 h13 => ?_
   refine sQ rfl (ms_idx rfl tg_29.slice iL iL (fun _ => rfl) (fun _ => ex6)) ?_
   refine sQ rfl (ms_loadA (cs := [.r (.str x6.Name), .r (.str x6.Value)]) rfl ta_92 iL rfl rfl) ?_
   refine AOps.step rfl rfl rfl (ms_alloc (cs := [.r (.str []), .r (.str [])]) 14 rfl t0_92 rfl rfl) ?_
   refine AOps.step0 rfl rfl (ms_store_box (ds := [.r (.str x6.Name), .r (.str x6.Value)]) rfl tz_92 iL rfl iL rfl rfl rfl rfl) ?_
   refine AOps.nil (hK13 _ ?_)
   refine AW.seq_w fun K14 hK14 wK14 => ?_
   refine AW.region ?_
   refine sM rfl rfl ?_
   refine sQ rfl (sp_makeFunc (bs := [.ptr 14 (i4 2) 0 0]) rfl (by exact ⟨iL, trivial⟩)) ?_
   refine ob1k h13 fun i8 ei8 h14 => ?_
   refine AOps.stepHI [14] (hc := [(1000, some (.box (i4 2) 92 [.r (.str x6.Name), .r (.str x6.Value)]))]) (bs := [.r (.sl (b1.map GAttr.row)), .fn 108 [.ptr 1000 (i4 2) 0 0]]) (caps := []) rfl rfl rfl rfl iL rfl ⟨.inl ⟨iL, rfl⟩, .inl ⟨iL, rfl⟩, trivial⟩ ⟨rfl, rfl, rfl, trivial⟩ (by decide) (w_slices_IndexFunc_api_Attr_api_Attr__joined_elem_f1 ei8) ?_
   intro i9 n1
   refine AOps.weak (s' := ⟨[(0, .ptr 1000 gb1000 0 0), (2, .r (.sl (a1.map GAttr.row))), (3, .r (.sl (b1.map GAttr.row))), (7, .ptr 7 n0 0 0), (12, .r (.int .i64 (w1.out.length : Int))), (14, .ptr 14 (i4 2) 0 0), (57, .r (.sl (a1.map GAttr.row))), (58, .r (.int .i64 (a1.length : Int))), (59, .r (.int .i64 x3)), (60, .r (.bool (decide (x3 < (a1.length : Int))))), (61, .rop (GAttr.row x6) 0), (62, .agg [.r (.str x6.Name), .r (.str x6.Value)]), (63, .r (.sl (b1.map GAttr.row))), (64, .fn 108 [.ptr 14 (i4 2) 0 0]), (65, .r (.int .i64 i8))], [(7, some (.box n0 82 [.r (.int .i64 x1.Char), .r (.int .i64 x1.Ref), .r (.sl (x1.Attrs.map GAttr.row))])), (14, some (.box (i4 2) 92 [.r (.str x6.Name), .r (.str x6.Value)])), (1000, some (.box gb1000 126 [.r (.int .i64 j3.node), .own 1001 (i4 0), .own 1002 (i4 1)])), (1001, some (.arr (i4 0) 82 3 (j3.out.map GElem.row))), (1002, some (.arr (i4 1) 89 5 (j3.bad.map GConflict.row)))], n1, 115⟩) (by exact Weak.cv ⟨jL, jL, jL, jL, jL, jL, jL, jL, jL, jL, jL, jL, jL, jL, jL, trivial⟩ ⟨.inl rfl, .inl rfl, .inl rfl, .inl rfl, .inl rfl, trivial⟩ nL) ?_
   refine sQ rfl (sp_assign rfl iL) ?_
   refine AOps.nil (hK14 _ ?_)
   refine AW.seq_w fun K15 hK15 wK15 => ?_
   refine AW.regionQ hmix (by kernel_rfl) ?_
   refine AQ.step rfl rfl rfl (sp_move rfl iL) ?_
   refine AQ.step rfl rfl rfl (sp_geq rfl iL iL) ?_
   refine AQ.step rfl rfl rfl (sp_move rfl iL) ?_
   refine AQ.stepW (.one rfl rfl rfl) rfl rfl (sp_move rfl iL) ?_
   refine AQ.stepW (.one rfl rfl rfl) rfl rfl (sp_move rfl iL) ?_
   refine ob1k h14 fun x7 ex7 h15 => ?_
   refine AQ.stepW (.one rfl rfl rfl) rfl rfl (ms_idx rfl tg_29.slice (iR rfl) (iR rfl) (fun _ => rfl) (gdt ex7)) ?_
   refine AQ.stepW (.one rfl rfl rfl) rfl rfl (sp_fieldAddr_ro rfl tf_92_1 (iR rfl)) ?_
   refine AQ.stepW (.one rfl rfl rfl) rfl rfl (ms_load (d := .str x7.Value) rfl ts_9 (iR rfl) rfl) ?_
   refine AQ.stepW (.one rfl rfl rfl) rfl rfl (sp_fieldAddr_own (ob := .box _ _ _) rfl tf_92_1 iL fR rfl) ?_
   refine AQ.stepW (.one rfl rfl rfl) rfl rfl (ms_load_box (a := .r (.str x6.Value)) rfl ts_9 (iR rfl) rfl rfl) ?_
   refine AQ.stepW (.one rfl rfl rfl) rfl rfl (sp_sneq rfl (iR rfl) (iR rfl)) ?_
   refine AQ.step rfl rfl rfl (sp_and rfl iL (iR rfl)) ?_
   refine AQ.nil ?_
   refine hK15 _ ?_
   refine AW.cond rfl (fun hc4 => ?_) (fun hc4 => ?_)
   ·have h16 := ite_t hc4 h15
    refine AW.weak (s' := ⟨[(0, .ptr 1000 gb1000 0 0), (2, .r (.sl (a1.map GAttr.row))), (3, .r (.sl (b1.map GAttr.row))), (7, .ptr 7 n0 0 0), (12, .r (.int .i64 (w1.out.length : Int))), (14, .ptr 14 (i4 2) 0 0), (57, .r (.sl (a1.map GAttr.row))), (58, .r (.int .i64 (a1.length : Int))), (59, .r (.int .i64 x3))], [(7, some (.box n0 82 [.r (.int .i64 x1.Char), .r (.int .i64 x1.Ref), .r (.sl (x1.Attrs.map GAttr.row))])), (14, some (.box (i4 2) 92 [.r (.str x6.Name), .r (.str x6.Value)])), (1000, some (.box gb1000 126 [.r (.int .i64 j3.node), .own 1001 (i4 0), .own 1002 (i4 1)])), (1001, some (.arr (i4 0) 82 3 (j3.out.map GElem.row))), (1002, some (.arr (i4 1) 89 5 (j3.bad.map GConflict.row)))], n1, 115⟩) (by exact Weak.cv ⟨jL, jL, jL, jL, jL, jL, jL, jL, jL, trivial⟩ ⟨.inl rfl, .inl rfl, .inl rfl, .inl rfl, .inl rfl, trivial⟩ nL) ?_
    refine AW.regionF' [0] [1, 2, 3, 4, 5, 6, 7, 8, 9, 10, 11, 12, 13, 14] [15] 16 hmix (by kernel_rfl) rfl rfl rfl rfl rfl ?_
    refine AFl.move rfl rfl rfl rfl ?_
    refine AFl.nil ?_
    refine AF.step rfl rfl rfl (sp_move rfl iL) ?_
    refine AF.step rfl rfl rfl (sp_nilCheck_own (ob := .box _ _ _) rfl iL fR rfl) ?_
    refine AF.step rfl rfl rfl (sp_fieldAddr_own (ob := .box _ _ _) rfl tf_126_2 iL fR rfl) ?_
    refine AF.step rfl rfl rfl (ms_load_box (a := .own 1002 (i4 1)) rfl ts_48 iL rfl rfl) ?_
    refine AF.step rfl rfl rfl (sp_move rfl iL) ?_
    refine AF.step rfl rfl rfl (sp_nilCheck_own (ob := .box _ _ _) rfl iL fR rfl) ?_
    refine AF.step rfl rfl rfl (sp_fieldAddr_own (ob := .box _ _ _) rfl tf_126_0 iL fR rfl) ?_
    refine AF.step rfl rfl rfl (ms_load_box (a := .r (.int .i64 j3.node)) rfl ts_3 iL rfl rfl) ?_
    refine AF.step rfl rfl rfl (sp_move rfl iL) ?_
    refine AF.step rfl rfl rfl (sp_move rfl iL) ?_
    refine ob1k h16 fun x8 ex8 h17 => ?_
    refine AF.step rfl rfl rfl (ms_add rfl iL iL (fun _ => ex8)) ?_
    refine AF.step rfl rfl rfl (sp_fieldAddr_own (ob := .box _ _ _) rfl tf_92_0 iL fR rfl) ?_
    refine AF.step rfl rfl rfl (ms_load_box (a := .r (.str x6.Name)) rfl ts_9 iL rfl rfl) ?_
    refine AF.step rfl rfl rfl (sp_build rfl tb_89 (q := [(0, _), (1, _), (2, _), (3, _), (4, _)]) (by exact ⟨rfl, rfl, rfl, iL, rfl, rfl, rfl, iL, rfl, rfl, rfl, iL, rfl, rfl, rfl, iL, rfl, rfl, rfl, iL, trivial⟩) (cs := [.r (.int .i64 2), .r (.int .i64 j3.node), .r (.int .i64 (w1.out.length : Int)), .r (.int .i64 x8), .r (.str x6.Name)]) (by rfl)) ?_
    refine AF.nil ?_
    refine AA.step rfl rfl rfl (msA_lit 93 rfl tg_48 (f := GConflict.row) (l := ([(GConflict.mk 2 j3.node (w1.out.length : Int) x8 x6.Name)] : List GConflict)) ⟨rfl, ⟨_, iL, rfl⟩, trivial⟩ rfl (fun _ => rfl) rfl) ?_
    refine AA.nil ?_
    refine ob1k h17 fun l3 el3 h18 => ?_
    refine AOps.step rfl rfl rfl (ms_app rfl tg_48 iL rfl (.inr (.inl ⟨_, _, iL, rfl⟩)) el3) ?_
    refine sQ rfl (sp_nilCheck_own (ob := .box _ _ _) rfl iL fR rfl) ?_
    refine sQ rfl (sp_fieldAddr_own (ob := .box _ _ _) rfl tf_126_2 iL fR rfl) ?_
    refine AOps.step0 rfl rfl (ms_store_box (ds := [.r (.int .i64 j3.node), .own 1001 (i4 0), .own 1002 (n1 + 1)]) rfl tz_48 iL rfl iL rfl rfl rfl rfl) ?_
    refine AOps.nil ?_
    exact wK12 _ _ ((by exact Weak.cv ⟨jL, jL, jL, jL, jL, jL, jL, jL, trivial⟩ ⟨.inl rfl, .inl rfl, .inl rfl, .inl rfl, trivial⟩ nL)) (J3 _ (vec [(i4 0), (n1 + 1), (n1 + 2)]) (Option.some.inj h18).symm)
   ·have h16 := ite_f hc4 h15
    refine AW.skip ?_
    exact wK12 _ _ ((by exact Weak.cv ⟨jL, jL, jL, jL, jL, jL, jL, jL, trivial⟩ ⟨.inl rfl, .inl rfl, .inl rfl, .inl rfl, trivial⟩ nL)) (J3 _ (vec [(i4 0), (i4 1), n1]) (Option.some.inj h16).symm)
  ·have h10 := ite_f hc3 h9
   refine AW.exit ?_
   exact wK7 _ _ ((by exact Weak.cv ⟨jL, jL, jL, jL, trivial⟩ ⟨.inl rfl, .inl rfl, .inl rfl, .inl rfl, trivial⟩ nL)) (J2 _ (vec [(i4 0), (i4 1), (i4 2)]) (hx1 _ (Option.some.inj h10).symm))
set_option maxHeartbeats 4000000 in
set_option maxRecDepth 20000 in
theorem w_merge_flows {node1 : Int} {o1 : List GElem} {a1 : List GElem} {b1 : List GElem} {r : (List GElem) × (List GConflict)} (h : merge_flows node1 o1 a1 b1 = some r) : ARO Try.prog 51 [.r (.int .i64 node1), .r (.sl (o1.map GElem.row)), .r (.sl (a1.map GElem.row)), .r (.sl (b1.map GElem.row))] (.tup [.r (.sl (r.1.map GElem.row)), .r (.sl (r.2.map GConflict.row))]) := by
 unfold merge_flows at h
 refine ARO.mkF Try.func51 rfl rfl Try.ntmps51 rfl (Nat.le_of_ble_eq_true rfl) fun n0 => ?_
 refine AW.seq_w fun K1 hK1 wK1 => ?_
 refine AW.region ?_
 refine sQ rfl (sp_assign rfl iL) ?_
 refine sQ rfl (sp_assign rfl iL) ?_
 refine AOps.nil (hK1 _ ?_)
 refine AW.seq_w fun K2 hK2 wK2 => ?_
 refine AW.region ?_
 refine sM rfl rfl ?_
 refine sQ rfl (ms_len rfl tg_22.slice iL) ?_
 refine sM rfl rfl ?_
 refine sM rfl rfl ?_
 refine ob1k h fun r1 er1 h1 => ?_
 refine AOps.step rfl rfl rfl (sp_callS (r := .r (.sl (r1.map GStep.row))) (caps := []) (bs := [.r (.sl (o1.map GElem.row)), .r (.sl (a1.map GElem.row))]) rfl iL rfl ⟨.inl ⟨iL, rfl⟩, .inl ⟨iL, rfl⟩, trivial⟩ (fun _ => w_diff_Raw (er1))) ?_
 refine ob1k h1 fun r2 er2 h2 => ?_
 refine AOps.step rfl rfl rfl (sp_callS (r := .agg [.r (.sl (r2.adds.map (rSl GElem.row))), .r (.sl (r2.cut.map rBool)), .r (.sl (r2.attrs.map (rSl GAttr.row)))]) (caps := []) (bs := [.r (.int .i64 (o1.length : Int)), .r (.sl (r1.map GStep.row))]) rfl iL rfl ⟨.inl ⟨iL, rfl⟩, .inl ⟨iL, rfl⟩, trivial⟩ (fun _ => w_merge_read (er2))) ?_
 refine sM rfl rfl ?_
 refine sQ rfl (ms_len rfl tg_22.slice iL) ?_
 refine sM rfl rfl ?_
 refine sM rfl rfl ?_
 refine ob1k h2 fun r3 er3 h3 => ?_
 refine AOps.step rfl rfl rfl (sp_callS (r := .r (.sl (r3.map GStep.row))) (caps := []) (bs := [.r (.sl (o1.map GElem.row)), .r (.sl (b1.map GElem.row))]) rfl iL rfl ⟨.inl ⟨iL, rfl⟩, .inl ⟨iL, rfl⟩, trivial⟩ (fun _ => w_diff_Raw (er3))) ?_
 refine ob1k h3 fun r4 er4 h4 => ?_
 refine AOps.step rfl rfl rfl (sp_callS (r := .agg [.r (.sl (r4.adds.map (rSl GElem.row))), .r (.sl (r4.cut.map rBool)), .r (.sl (r4.attrs.map (rSl GAttr.row)))]) (caps := []) (bs := [.r (.int .i64 (o1.length : Int)), .r (.sl (r3.map GStep.row))]) rfl iL rfl ⟨.inl ⟨iL, rfl⟩, .inl ⟨iL, rfl⟩, trivial⟩ (fun _ => w_merge_read (er4))) ?_
 refine AOps.step rfl rfl rfl (ms_alloc (cs := [.cst (.slice none 0 0), .cst (.slice none 0 0), .cst (.slice none 0 0)]) 10 rfl t0_122 rfl rfl) ?_
 refine AOps.step rfl rfl rfl (ms_alloc (cs := [.cst (.slice none 0 0), .cst (.slice none 0 0), .cst (.slice none 0 0)]) 11 rfl t0_122 rfl rfl) ?_
 refine AOps.step0 rfl rfl (ms_store_box (ds := [.r (.sl (r2.adds.map (rSl GElem.row))), .r (.sl (r2.cut.map rBool)), .r (.sl (r2.attrs.map (rSl GAttr.row)))]) rfl tz_122 iL rfl iL rfl rfl rfl rfl) ?_
 refine AOps.step0 rfl rfl (ms_store_box (ds := [.r (.sl (r4.adds.map (rSl GElem.row))), .r (.sl (r4.cut.map rBool)), .r (.sl (r4.attrs.map (rSl GAttr.row)))]) rfl tz_122 iL rfl iL rfl rfl rfl rfl) ?_
 refine AOps.nil (hK2 _ ?_)
 refine AW.seq_w fun K3 hK3 wK3 => ?_
 refine AW.weak (s' := ⟨[(0, .r (.int .i64 node1)), (1, .r (.sl (o1.map GElem.row))), (10, .ptr 10 n0 0 0), (11, .ptr 11 (n0 + 1) 0 0)], [(10, some (.box n0 122 [.r (.sl (r2.adds.map (rSl GElem.row))), .r (.sl (r2.cut.map rBool)), .r (.sl (r2.attrs.map (rSl GAttr.row)))])), (11, some (.box (n0 + 1) 122 [.r (.sl (r4.adds.map (rSl GElem.row))), .r (.sl (r4.cut.map rBool)), .r (.sl (r4.attrs.map (rSl GAttr.row)))]))], (n0 + 2), 96⟩) (by exact Weak.cv ⟨jL, jL, jL, jL, trivial⟩ ⟨.inl rfl, .inl rfl, trivial⟩ nL) ?_
 refine AW.region ?_
 refine sM rfl rfl ?_
 refine sQ rfl (sp_build rfl tb_126 (q := [(0, _)]) (by exact ⟨rfl, rfl, rfl, iL, trivial⟩) (cs := [.r (.int .i64 node1), .cst (.slice none 0 0), .cst (.slice none 0 0)]) (by rfl)) ?_
 refine AOps.step rfl rfl rfl (ms_box (cs := [.r (.int .i64 node1), .cst (.slice none 0 0), .cst (.slice none 0 0)]) 29 rfl iL rfl rfl) ?_
 refine sQ rfl (sp_assign rfl iL) ?_
 refine AOps.nil (hK3 _ ?_)
 refine AW.seq_w fun K4 hK4 wK4 => ?_
 refine AW.seq_w fun K5 hK5 wK5 => ?_
 refine AW.region ?_
 refine sM rfl rfl ?_
 refine sQ rfl (ms_len rfl tg_22.slice iL) ?_
 refine sM rfl rfl ?_
 refine AOps.nil (hK5 _ ?_)
 refine AW.block ?_
 refine jb1k h4 fun o2 hit1 hk1 => ?_
 have J1 : ∀ (j4 : Merge_Joined) (i5 : Nat → Nat), o2 = j4 → K4 ⟨[(1, .r (.sl (o1.map GElem.row))), (10, .ptr 10 n0 0 0), (11, .ptr 11 (n0 + 1) 0 0), (12, .ptr 29 (n0 + 2) 0 0)], [(10, some (.box n0 122 [.r (.sl (r2.adds.map (rSl GElem.row))), .r (.sl (r2.cut.map rBool)), .r (.sl (r2.attrs.map (rSl GAttr.row)))])), (11, some (.box (n0 + 1) 122 [.r (.sl (r4.adds.map (rSl GElem.row))), .r (.sl (r4.cut.map rBool)), .r (.sl (r4.attrs.map (rSl GAttr.row)))])), (29, some (.box (n0 + 2) 126 [.r (.int .i64 j4.node), .own 3291 (i5 0), .own 3292 (i5 1)])), (3291, some (.arr (i5 0) 82 3 (j4.out.map GElem.row))), (3292, some (.arr (i5 1) 89 5 (j4.bad.map GConflict.row)))], (i5 2), 96⟩ := by
  intro j4 i5 e
  have h5 := hk1 _ e
  refine hK4 _ ?_
  refine AW.seq_w fun K6 hK6 wK6 => ?_
  refine AW.regionT 13 hmix (by kernel_rfl) rfl rfl ?_
  refine AT.step rfl rfl rfl (sp_move rfl iL) ?_
  refine AT.step rfl rfl rfl (sp_fieldAddr_own (ob := .box _ _ _) rfl tf_122_0 iL fR rfl) ?_
  refine AT.step rfl rfl rfl (ms_load_box (a := .r (.sl (r2.adds.map (rSl GElem.row)))) rfl ts_37 iL rfl rfl) ?_
  refine AT.step rfl rfl rfl (sp_move rfl iL) ?_
  refine AT.step rfl rfl rfl (ms_len rfl tg_22.slice iL) ?_
  refine ob1k h5 fun x4 ex4 h6 => ?_
  refine AT.step rfl rfl rfl (ms_idx rfl tg_37.slice iL iL (fun _ => rfl) (fun _ => ex4)) ?_
  refine AT.step rfl rfl rfl (ms_load (d := .sl (x4.map GElem.row)) rfl ts_22 iL rfl) ?_
  refine AT.step rfl rfl rfl (sp_fieldAddr_own (ob := .box _ _ _) rfl tf_122_0 iL fR rfl) ?_
  refine AT.step rfl rfl rfl (ms_load_box (a := .r (.sl (r4.adds.map (rSl GElem.row)))) rfl ts_37 iL rfl rfl) ?_
  refine AT.step rfl rfl rfl (sp_move rfl iL) ?_
  refine AT.step rfl rfl rfl (ms_len rfl tg_22.slice iL) ?_
  refine ob1k h6 fun x5 ex5 h7 => ?_
  refine AT.step rfl rfl rfl (ms_idx rfl tg_37.slice iL iL (fun _ => rfl) (fun _ => ex5)) ?_
  refine AT.step rfl rfl rfl (ms_load (d := .sl (x5.map GElem.row)) rfl ts_22 iL rfl) ?_
  refine AT.nil ?_
  refine ob1k h7 fun w1 ew1 h8 => ?_
  refine AOps.stepHI [29, 3291, 3292] (hc := [(1000, some (.box (n0 + 2) 126 [.r (.int .i64 j4.node), .own 1001 (i5 0), .own 1002 (i5 1)])), (1001, some (.arr (i5 0) 82 3 (j4.out.map GElem.row))), (1002, some (.arr (i5 1) 89 5 (j4.bad.map GConflict.row)))]) (bs := [.ptr 1000 (n0 + 2) 0 0, .r (.sl (x4.map GElem.row)), .r (.sl (x5.map GElem.row))]) (caps := []) rfl rfl rfl rfl iL rfl ⟨.inl ⟨iL, rfl⟩, .inl ⟨iL, rfl⟩, .inl ⟨iL, rfl⟩, trivial⟩ ⟨rfl, rfl, rfl, rfl, rfl, rfl, rfl, rfl, rfl, trivial⟩ (by decide) (w_merge_joined_gap ew1) ?_
  intro i6 n1
  refine AOps.weak (s' := ⟨[(1, .r (.sl (o1.map GElem.row))), (10, .ptr 10 n0 0 0), (11, .ptr 11 (n0 + 1) 0 0), (12, .ptr 29 (n0 + 2) 0 0), (73, .ptr 29 (n0 + 2) 0 0), (74, .ptr 10 n0 0 0), (75, .r (.sl (r2.adds.map (rSl GElem.row)))), (76, .r (.sl (o1.map GElem.row))), (77, .r (.int .i64 (o1.length : Int))), (78, .rop ((rSl GElem.row) x4) 0), (79, .r (.sl (x4.map GElem.row))), (80, .ptr 11 (n0 + 1) 0 0), (81, .r (.sl (r4.adds.map (rSl GElem.row)))), (82, .r (.sl (o1.map GElem.row))), (83, .r (.int .i64 (o1.length : Int))), (84, .rop ((rSl GElem.row) x5) 0), (85, .r (.sl (x5.map GElem.row))), (86, .tup [])], [(10, some (.box n0 122 [.r (.sl (r2.adds.map (rSl GElem.row))), .r (.sl (r2.cut.map rBool)), .r (.sl (r2.attrs.map (rSl GAttr.row)))])), (11, some (.box (n0 + 1) 122 [.r (.sl (r4.adds.map (rSl GElem.row))), .r (.sl (r4.cut.map rBool)), .r (.sl (r4.attrs.map (rSl GAttr.row)))])), (29, some (.box (n0 + 2) 126 [.r (.int .i64 w1.node), .own 3291 (i6 0), .own 3292 (i6 1)])), (3291, some (.arr (i6 0) 82 3 (w1.out.map GElem.row))), (3292, some (.arr (i6 1) 89 5 (w1.bad.map GConflict.row)))], n1, 96⟩) (by exact Weak.cv ⟨jL, jL, jL, jL, jL, jL, jL, jL, jL, jL, jL, jL, jL, jL, jL, jL, jL, jL, trivial⟩ ⟨.inl rfl, .inl rfl, .inl rfl, .inl rfl, .inl rfl, trivial⟩ nL) ?_
  refine AOps.nil (hK6 _ ?_)
  refine AW.seq_w fun K7 hK7 wK7 => ?_
  refine AW.weak (s' := ⟨[(12, .ptr 29 (n0 + 2) 0 0)], [(29, some (.box (n0 + 2) 126 [.r (.int .i64 w1.node), .own 3291 (i6 0), .own 3292 (i6 1)])), (3291, some (.arr (i6 0) 82 3 (w1.out.map GElem.row))), (3292, some (.arr (i6 1) 89 5 (w1.bad.map GConflict.row)))], n1, 96⟩) (by exact Weak.cv ⟨jL, trivial⟩ ⟨.inl rfl, .inl rfl, .inl rfl, trivial⟩ nL) ?_
  refine AW.weak (by exact Weak.frz (e' := [(12, .ptr 29 (n0 + 2) 0 0)]) (h' := [(29, some (.box (n0 + 2) 126 [.r (.int .i64 w1.node), .r (.sl (w1.out.map GElem.row)), .own 3292 (i6 1)])), (3292, some (.arr (i6 1) 89 5 (w1.bad.map GConflict.row)))]) 3291 rfl ⟨jL, trivial⟩ ⟨rfl, .inr (.inr (.inl ⟨_, _, _, _, rfl, rfl, ⟨.inl rfl, .inr (.inr ⟨rfl, rfl⟩), .inl rfl, trivial⟩⟩)), rfl, .inl rfl, trivial⟩) ?_
  refine ob1k h8 fun r5 er5 h9 => ?_
  refine AW.regionP 10 [⟨some 87, (fun _ => .ptr 29 (n0 + 2) 0 0), none, []⟩, ⟨some 88, (fun _ => .ptr 29 (n0 + 2) 0 0), none, []⟩, ⟨some 89, (fun _ => .ptr 29 (n0 + 2) 0 1), none, []⟩, ⟨some 90, (fun _ => .r (.sl (w1.out.map GElem.row))), none, []⟩, ⟨some 91, (fun _ => .r (.sl (r5.map GElem.row))), none, []⟩, ⟨some 92, (fun _ => .ptr 29 (n0 + 2) 0 0), none, []⟩, ⟨some 93, (fun _ => .ptr 29 (n0 + 2) 0 0), none, []⟩, ⟨some 94, (fun _ => .ptr 29 (n0 + 2) 0 2), none, []⟩, ⟨some 95, (fun _ => .own 3292 (i6 1)), none, []⟩, ⟨some 8, (fun _ => .r (.sl (r5.map GElem.row))), none, []⟩] hmix (by kernel_rfl) (by exact ⟨fun _ _ h => ⟨rfl, fun _ _ e => by cases e⟩, fun _ _ h => ⟨rfl, fun _ _ e => by cases e⟩, fun _ _ h => ⟨rfl, fun _ _ e => by cases e⟩, fun _ _ h => ⟨rfl, fun _ _ e => by cases e⟩, fun _ _ h => ⟨rfl, fun _ _ e => by cases e⟩, fun _ _ h => ⟨rfl, fun _ _ e => by cases e⟩, fun _ _ h => ⟨rfl, fun _ _ e => by cases e⟩, fun _ _ h => ⟨rfl, fun _ _ e => by cases e⟩, fun _ _ h => ⟨rfl, fun _ _ e => by cases e⟩, fun _ _ h => ⟨rfl, fun _ _ e => by cases e⟩, trivial⟩) rfl (by exact ⟨Ob.quiet (n1 := fun n => n) rfl rfl (by intro d h; cases h; rfl) rfl (fun _ => [(12, .ptr 29 (n0 + 2) 0 0)]) (fun _ => [(29, some (.box (n0 + 2) 126 [.r (.int .i64 w1.node), .r (.sl (w1.out.map GElem.row)), .own 3292 (i6 1)]))]) (fun D G1 hr => ⟨inE_base rfl rfl, trivial⟩) (fun D G1 hr => ⟨inH_base rfl rfl, trivial⟩) (fun _ _ => rfl) (fun G1 e h' n => OpQ.spec (v := .ptr 29 (n0 + 2) 0 0) (sp_move rfl (.inl rfl)) _),
    Ob.quiet (n1 := fun n => n) rfl rfl (by intro d h; cases h; rfl) rfl (fun _ => [(87, .ptr 29 (n0 + 2) 0 0)]) (fun _ => [(29, some (.box (n0 + 2) 126 [.r (.int .i64 w1.node), .r (.sl (w1.out.map GElem.row)), .own 3292 (i6 1)]))]) (fun D G1 hr => ⟨inE_op hr 0 rfl rfl (by kernel_rfl) rfl rfl, trivial⟩) (fun D G1 hr => ⟨inH_base rfl rfl, trivial⟩) (fun _ _ => rfl) (fun G1 e h' n => OpQ.spec (v := .ptr 29 (n0 + 2) 0 0) (sp_nilCheck_own (ob := .box _ _ _) rfl (.inl rfl) (fun _ => rfl) rfl) _),
    Ob.quiet (n1 := fun n => n) rfl rfl (by intro d h; cases h; rfl) rfl (fun _ => [(88, .ptr 29 (n0 + 2) 0 0)]) (fun _ => [(29, some (.box (n0 + 2) 126 [.r (.int .i64 w1.node), .r (.sl (w1.out.map GElem.row)), .own 3292 (i6 1)]))]) (fun D G1 hr => ⟨inE_op hr 1 rfl rfl (by kernel_rfl) rfl rfl, trivial⟩) (fun D G1 hr => ⟨inH_base rfl rfl, trivial⟩) (fun _ _ => rfl) (fun G1 e h' n => OpQ.spec (v := .ptr 29 (n0 + 2) 0 1) (sp_fieldAddr_own (ob := .box _ _ _) rfl tf_126_1 (.inl rfl) (fun _ => rfl) rfl) _),
    Ob.quiet (n1 := fun n => n) rfl rfl (by intro d h; cases h; rfl) rfl (fun _ => [(89, .ptr 29 (n0 + 2) 0 1)]) (fun _ => [(29, some (.box (n0 + 2) 126 [.r (.int .i64 w1.node), .r (.sl (w1.out.map GElem.row)), .own 3292 (i6 1)]))]) (fun D G1 hr => ⟨inE_op hr 2 rfl rfl (by kernel_rfl) rfl rfl, trivial⟩) (fun D G1 hr => ⟨inH_base rfl rfl, trivial⟩) (fun _ _ => rfl) (fun G1 e h' n => OpQ.spec (v := .r (.sl (w1.out.map GElem.row))) (ms_load_box (a := .r (.sl (w1.out.map GElem.row))) rfl ts_22 (.inl rfl) rfl rfl) _),
    Ob.quiet (n1 := fun n => n) rfl rfl (by intro d h; cases h; rfl) rfl (fun _ => [(90, .r (.sl (w1.out.map GElem.row)))]) (fun _ => []) (fun D G1 hr => ⟨inE_op hr 3 rfl rfl (by kernel_rfl) rfl rfl, trivial⟩) (fun D G1 hr => trivial) (fun _ _ => rfl) (fun G1 e h' n => sp_callS (r := .r (.sl (r5.map GElem.row))) (caps := []) (bs := [.r (.sl (w1.out.map GElem.row))]) rfl (.inl rfl) rfl ⟨.inl ⟨(.inl rfl), rfl⟩, trivial⟩ (fun _ => w_flow_Copy (er5))),
    Ob.quiet (n1 := fun n => n) rfl rfl (by intro d h; cases h; rfl) rfl (fun _ => [(12, .ptr 29 (n0 + 2) 0 0)]) (fun _ => [(29, some (.box (n0 + 2) 126 [.r (.int .i64 w1.node), .r (.sl (w1.out.map GElem.row)), .own 3292 (i6 1)]))]) (fun D G1 hr => ⟨inE_base rfl rfl, trivial⟩) (fun D G1 hr => ⟨inH_base rfl rfl, trivial⟩) (fun _ _ => rfl) (fun G1 e h' n => OpQ.spec (v := .ptr 29 (n0 + 2) 0 0) (sp_move rfl (.inl rfl)) _),
    Ob.quiet (n1 := fun n => n) rfl rfl (by intro d h; cases h; rfl) rfl (fun _ => [(92, .ptr 29 (n0 + 2) 0 0)]) (fun _ => [(29, some (.box (n0 + 2) 126 [.r (.int .i64 w1.node), .r (.sl (w1.out.map GElem.row)), .own 3292 (i6 1)]))]) (fun D G1 hr => ⟨inE_op hr 5 rfl rfl (by kernel_rfl) rfl rfl, trivial⟩) (fun D G1 hr => ⟨inH_base rfl rfl, trivial⟩) (fun _ _ => rfl) (fun G1 e h' n => OpQ.spec (v := .ptr 29 (n0 + 2) 0 0) (sp_nilCheck_own (ob := .box _ _ _) rfl (.inl rfl) (fun _ => rfl) rfl) _),
    Ob.quiet (n1 := fun n => n) rfl rfl (by intro d h; cases h; rfl) rfl (fun _ => [(93, .ptr 29 (n0 + 2) 0 0)]) (fun _ => [(29, some (.box (n0 + 2) 126 [.r (.int .i64 w1.node), .r (.sl (w1.out.map GElem.row)), .own 3292 (i6 1)]))]) (fun D G1 hr => ⟨inE_op hr 6 rfl rfl (by kernel_rfl) rfl rfl, trivial⟩) (fun D G1 hr => ⟨inH_base rfl rfl, trivial⟩) (fun _ _ => rfl) (fun G1 e h' n => OpQ.spec (v := .ptr 29 (n0 + 2) 0 2) (sp_fieldAddr_own (ob := .box _ _ _) rfl tf_126_2 (.inl rfl) (fun _ => rfl) rfl) _),
    Ob.quiet (n1 := fun n => n) rfl rfl (by intro d h; cases h; rfl) rfl (fun _ => [(94, .ptr 29 (n0 + 2) 0 2)]) (fun _ => [(29, some (.box (n0 + 2) 126 [.r (.int .i64 w1.node), .r (.sl (w1.out.map GElem.row)), .own 3292 (i6 1)]))]) (fun D G1 hr => ⟨inE_op hr 7 rfl rfl (by kernel_rfl) rfl rfl, trivial⟩) (fun D G1 hr => ⟨inH_base rfl rfl, trivial⟩) (fun _ _ => rfl) (fun G1 e h' n => OpQ.spec (v := .own 3292 (i6 1)) (ms_load_box (a := .own 3292 (i6 1)) rfl ts_48 (.inl rfl) rfl rfl) _),
    Ob.quiet (n1 := fun n => n) rfl rfl (by intro d h; cases h; rfl) rfl (fun _ => [(91, .r (.sl (r5.map GElem.row)))]) (fun _ => []) (fun D G1 hr => ⟨inE_op hr 4 rfl rfl (by kernel_rfl) rfl rfl, trivial⟩) (fun D G1 hr => trivial) (fun _ _ => rfl) (fun G1 e h' n => OpQ.spec (v := .r (.sl (r5.map GElem.row))) (sp_assign rfl (.inl rfl)) _),
    trivial⟩) fun G1 n2 => ?_
  refine AOps.weak (s' := ⟨[(8, .r (.sl (r5.map GElem.row))), (12, .ptr 29 (n0 + 2) 0 0), (87, .ptr 29 (n0 + 2) 0 0), (88, .ptr 29 (n0 + 2) 0 0), (89, .ptr 29 (n0 + 2) 0 1), (90, .r (.sl (w1.out.map GElem.row))), (91, .r (.sl (r5.map GElem.row))), (92, .ptr 29 (n0 + 2) 0 0), (93, .ptr 29 (n0 + 2) 0 0), (94, .ptr 29 (n0 + 2) 0 2), (95, .own 3292 (i6 1))], [(29, some (.box (n0 + 2) 126 [.r (.int .i64 w1.node), .r (.sl (w1.out.map GElem.row)), .own 3292 (i6 1)])), (3292, some (.arr (i6 1) 89 5 (w1.bad.map GConflict.row)))], n2, 96⟩) (by exact Weak.cv ⟨jL, jL, jL, jL, jL, jL, jL, jL, jL, jL, jL, trivial⟩ ⟨.inl rfl, .inl rfl, trivial⟩ nL) ?_
  refine sQ rfl (sp_assign rfl iL) ?_
  refine AOps.nil (hK7 _ ?_)
  refine AW.ret ?_
  exact retf2 (P := Try.prog) (fun (r : (List GElem) × (List GConflict)) => .r (.sl (r.1.map GElem.row))) (fun (r : (List GElem) × (List GConflict)) => .r (.sl (r.2.map GConflict.row))) h9 iL (.t (.d rfl)) (.t (.one (.own rfl)))
 refine AW.iter2 (fun (x2 : Int) (j2 : Merge_Joined) i3 => ⟨[(1, .r (.sl (o1.map GElem.row))), (10, .ptr 10 n0 0 0), (11, .ptr 11 (n0 + 1) 0 0), (12, .ptr 29 (n0 + 2) 0 0), (30, .r (.sl (o1.map GElem.row))), (31, .r (.int .i64 (o1.length : Int))), (32, .r (.int .i64 x2))], [(10, some (.box n0 122 [.r (.sl (r2.adds.map (rSl GElem.row))), .r (.sl (r2.cut.map rBool)), .r (.sl (r2.attrs.map (rSl GAttr.row)))])), (11, some (.box (n0 + 1) 122 [.r (.sl (r4.adds.map (rSl GElem.row))), .r (.sl (r4.cut.map rBool)), .r (.sl (r4.attrs.map (rSl GAttr.row)))])), (29, some (.box (n0 + 2) 126 [.r (.int .i64 j2.node), .own 3291 (i3 0), .own 3292 (i3 1)])), (3291, some (.arr (i3 0) 82 3 (j2.out.map GElem.row))), (3292, some (.arr (i3 1) 89 5 (j2.bad.map GConflict.row)))], (i3 2), 96⟩) (vec [(n0 + 3), (n0 + 4), (n0 + 5)]) hit1 (Weak.trans (Weak.trans (Weak.adoptBox 29 1 3291 82 3 (by decide) rfl rfl (by decide)) (by exact Weak.cv (e' := [(0, .r (.int .i64 node1)), (1, .r (.sl (o1.map GElem.row))), (10, .ptr 10 n0 0 0), (11, .ptr 11 (n0 + 1) 0 0), (12, .ptr 29 (n0 + 2) 0 0), (27, .r (.int .i64 node1)), (28, .agg [.r (.int .i64 node1), .cst (.slice none 0 0), .cst (.slice none 0 0)]), (29, .ptr 29 (n0 + 2) 0 0), (30, .r (.sl (o1.map GElem.row))), (31, .r (.int .i64 (o1.length : Int))), (32, .r (.int .i64 0))]) (h' := [(10, some (.box n0 122 [.r (.sl (r2.adds.map (rSl GElem.row))), .r (.sl (r2.cut.map rBool)), .r (.sl (r2.attrs.map (rSl GAttr.row)))])), (11, some (.box (n0 + 1) 122 [.r (.sl (r4.adds.map (rSl GElem.row))), .r (.sl (r4.cut.map rBool)), .r (.sl (r4.attrs.map (rSl GAttr.row)))])), (29, some (.box (n0 + 2) 126 [.r (.int .i64 node1), .own 3291 (n0 + 3), .cst (.slice none 0 0)])), (3291, some (.arr (n0 + 3) 82 3 (([] : List GElem).map GElem.row)))]) ⟨jL, jL, jL, jL, jL, jL, jL, jL, jL, jL, jL, trivial⟩ ⟨.inl rfl, .inl rfl, .inl rfl, .inl rfl, trivial⟩ nL)) (Weak.trans (Weak.trans (Weak.adoptBox 29 2 3292 89 5 (by decide) rfl rfl (by decide)) (by exact Weak.cv (e' := [(0, .r (.int .i64 node1)), (1, .r (.sl (o1.map GElem.row))), (10, .ptr 10 n0 0 0), (11, .ptr 11 (n0 + 1) 0 0), (12, .ptr 29 (n0 + 2) 0 0), (27, .r (.int .i64 node1)), (28, .agg [.r (.int .i64 node1), .cst (.slice none 0 0), .cst (.slice none 0 0)]), (29, .ptr 29 (n0 + 2) 0 0), (30, .r (.sl (o1.map GElem.row))), (31, .r (.int .i64 (o1.length : Int))), (32, .r (.int .i64 0))]) (h' := [(10, some (.box n0 122 [.r (.sl (r2.adds.map (rSl GElem.row))), .r (.sl (r2.cut.map rBool)), .r (.sl (r2.attrs.map (rSl GAttr.row)))])), (11, some (.box (n0 + 1) 122 [.r (.sl (r4.adds.map (rSl GElem.row))), .r (.sl (r4.cut.map rBool)), .r (.sl (r4.attrs.map (rSl GAttr.row)))])), (29, some (.box (n0 + 2) 126 [.r (.int .i64 node1), .own 3291 (n0 + 3), .own 3292 (n0 + 4)])), (3291, some (.arr (n0 + 3) 82 3 (([] : List GElem).map GElem.row))), (3292, some (.arr (n0 + 4) 89 5 (([] : List GConflict).map GConflict.row)))]) ⟨jL, jL, jL, jL, jL, jL, jL, jL, jL, jL, jL, trivial⟩ ⟨.inl rfl, .inl rfl, .inl rfl, .inl rfl, .inl rfl, trivial⟩ nL)) (by exact Weak.cv ⟨jL, jL, jL, jL, jL, jL, jL, trivial⟩ ⟨.inl rfl, .inl rfl, .inl rfl, .inl rfl, .inl rfl, trivial⟩ nL))) ?_
 intro x2 j2 i3 v1 hv1 hx1
 have h10 : merge_flows_L1 o1 r2 r4 x2 j2 = some v1 := hv1; unfold merge_flows_L1 at h10
 refine AW.seq_w fun K8 hK8 wK8 => ?_
 refine AW.region ?_
 refine sQ rfl (sp_lss rfl iL iL) ?_
 refine AOps.nil (hK8 _ ?_)
 refine AW.seq_w fun K9 hK9 wK9 => ?_
 refine AW.cond rfl (fun hc1 => ?_) (fun hc1 => ?_)
 ·have h11 := ite_t hc1 h10
  refine AW.skip ?_
  refine hK9 _ ?_
  refine AW.seq_w fun K10 hK10 wK10 => ?_
  refine AW.block ?_
  refine AW.seq_w fun K11 hK11 wK11 => ?_
  refine AW.region ?_
  refine sM rfl rfl ?_
  refine ob1k h11 fun x6 ex6 h12 => ?_
  refine sQ rfl (ms_idx rfl tg_22.slice iL iL (fun _ => rfl) (fun _ => ex6)) ?_
  refine sQ rfl (ms_loadA (cs := [.r (.int .i64 x6.Char), .r (.int .i64 x6.Ref), .r (.sl (x6.Attrs.map GAttr.row))]) rfl ta_82 iL rfl rfl) ?_
  refine AOps.step rfl rfl rfl (ms_alloc (cs := [.r (.int .i64 0), .r (.int .i64 0), .cst (.slice none 0 0)]) 14 rfl t0_82 rfl rfl) ?_
  refine sQ rfl (sp_assign rfl iL) ?_
  refine AOps.step0 rfl rfl (ms_store_box (ds := [.r (.int .i64 x6.Char), .r (.int .i64 x6.Ref), .r (.sl (x6.Attrs.map GAttr.row))]) rfl tz_82 iL rfl iL rfl rfl rfl rfl) ?_
  refine AOps.nil (hK11 _ ?_)
  refine AW.seq_w fun K12 hK12 wK12 => ?_
  refine AW.regionT 11 hmix (by kernel_rfl) rfl rfl ?_
  refine AT.step rfl rfl rfl (sp_move rfl iL) ?_
  refine AT.step rfl rfl rfl (sp_fieldAddr_own (ob := .box _ _ _) rfl tf_122_0 iL fR rfl) ?_
  refine AT.step rfl rfl rfl (ms_load_box (a := .r (.sl (r2.adds.map (rSl GElem.row)))) rfl ts_37 iL rfl rfl) ?_
  refine AT.step rfl rfl rfl (sp_move rfl iL) ?_
  refine ob1k h12 fun x7 ex7 h13 => ?_
  refine AT.step rfl rfl rfl (ms_idx rfl tg_37.slice iL iL (fun _ => rfl) (fun _ => ex7)) ?_
  refine AT.step rfl rfl rfl (ms_load (d := .sl (x7.map GElem.row)) rfl ts_22 iL rfl) ?_
  refine AT.step rfl rfl rfl (sp_fieldAddr_own (ob := .box _ _ _) rfl tf_122_0 iL fR rfl) ?_
  refine AT.step rfl rfl rfl (ms_load_box (a := .r (.sl (r4.adds.map (rSl GElem.row)))) rfl ts_37 iL rfl rfl) ?_
  refine AT.step rfl rfl rfl (sp_move rfl iL) ?_
  refine ob1k h13 fun x8 ex8 h14 => ?_
  refine AT.step rfl rfl rfl (ms_idx rfl tg_37.slice iL iL (fun _ => rfl) (fun _ => ex8)) ?_
  refine AT.step rfl rfl rfl (ms_load (d := .sl (x8.map GElem.row)) rfl ts_22 iL rfl) ?_
  refine AT.nil ?_
  refine ob1k h14 fun w2 ew2 h15 => ?_
  refine AOps.stepHI [29, 3291, 3292] (hc := [(1000, some (.box (n0 + 2) 126 [.r (.int .i64 j2.node), .own 1001 (i3 0), .own 1002 (i3 1)])), (1001, some (.arr (i3 0) 82 3 (j2.out.map GElem.row))), (1002, some (.arr (i3 1) 89 5 (j2.bad.map GConflict.row)))]) (bs := [.ptr 1000 (n0 + 2) 0 0, .r (.sl (x7.map GElem.row)), .r (.sl (x8.map GElem.row))]) (caps := []) rfl rfl rfl rfl iL rfl ⟨.inl ⟨iL, rfl⟩, .inl ⟨iL, rfl⟩, .inl ⟨iL, rfl⟩, trivial⟩ ⟨rfl, rfl, rfl, rfl, rfl, rfl, rfl, rfl, rfl, trivial⟩ (by decide) (w_merge_joined_gap ew2) ?_
  intro i7 n3
  refine AOps.weak (s' := ⟨[(1, .r (.sl (o1.map GElem.row))), (10, .ptr 10 n0 0 0), (11, .ptr 11 (n0 + 1) 0 0), (12, .ptr 29 (n0 + 2) 0 0), (13, .r (.int .i64 x2)), (14, .ptr 14 (i3 2) 0 0), (30, .r (.sl (o1.map GElem.row))), (31, .r (.int .i64 (o1.length : Int))), (32, .r (.int .i64 x2)), (33, .r (.bool (decide (x2 < (o1.length : Int))))), (34, .r (.int .i64 x2)), (35, .rop (GElem.row x6) 0), (36, .agg [.r (.int .i64 x6.Char), .r (.int .i64 x6.Ref), .r (.sl (x6.Attrs.map GAttr.row))]), (37, .ptr 29 (n0 + 2) 0 0), (38, .ptr 10 n0 0 0), (39, .r (.sl (r2.adds.map (rSl GElem.row)))), (40, .r (.int .i64 x2)), (41, .rop ((rSl GElem.row) x7) 0), (42, .r (.sl (x7.map GElem.row))), (43, .ptr 11 (n0 + 1) 0 0), (44, .r (.sl (r4.adds.map (rSl GElem.row)))), (45, .r (.int .i64 x2)), (46, .rop ((rSl GElem.row) x8) 0), (47, .r (.sl (x8.map GElem.row))), (48, .tup [])], [(10, some (.box n0 122 [.r (.sl (r2.adds.map (rSl GElem.row))), .r (.sl (r2.cut.map rBool)), .r (.sl (r2.attrs.map (rSl GAttr.row)))])), (11, some (.box (n0 + 1) 122 [.r (.sl (r4.adds.map (rSl GElem.row))), .r (.sl (r4.cut.map rBool)), .r (.sl (r4.attrs.map (rSl GAttr.row)))])), (14, some (.box (i3 2) 82 [.r (.int .i64 x6.Char), .r (.int .i64 x6.Ref), .r (.sl (x6.Attrs.map GAttr.row))])), (29, some (.box (n0 + 2) 126 [.r (.int .i64 w2.node), .own 3291 (i7 0), .own 3292 (i7 1)])), (3291, some (.arr (i7 0) 82 3 (w2.out.map GElem.row))), (3292, some (.arr (i7 1) 89 5 (w2.bad.map GConflict.row)))], n3, 96⟩) (by exact Weak.cv ⟨jL, jL, jL, jL, jL, jL, jL, jL, jL, jL, jL, jL, jL, jL, jL, jL, jL, jL, jL, jL, jL, jL, jL, jL, jL, trivial⟩ ⟨.inl rfl, .inl rfl, .inl rfl, .inl rfl, .inl rfl, .inl rfl, trivial⟩ nL) ?_
  refine AOps.nil (hK12 _ ?_)
  refine AW.weak (s' := ⟨[(1, .r (.sl (o1.map GElem.row))), (10, .ptr 10 n0 0 0), (11, .ptr 11 (n0 + 1) 0 0), (12, .ptr 29 (n0 + 2) 0 0), (13, .r (.int .i64 x2)), (14, .ptr 14 (i3 2) 0 0), (30, .r (.sl (o1.map GElem.row))), (31, .r (.int .i64 (o1.length : Int))), (32, .r (.int .i64 x2))], [(10, some (.box n0 122 [.r (.sl (r2.adds.map (rSl GElem.row))), .r (.sl (r2.cut.map rBool)), .r (.sl (r2.attrs.map (rSl GAttr.row)))])), (11, some (.box (n0 + 1) 122 [.r (.sl (r4.adds.map (rSl GElem.row))), .r (.sl (r4.cut.map rBool)), .r (.sl (r4.attrs.map (rSl GAttr.row)))])), (14, some (.box (i3 2) 82 [.r (.int .i64 x6.Char), .r (.int .i64 x6.Ref), .r (.sl (x6.Attrs.map GAttr.row))])), (29, some (.box (n0 + 2) 126 [.r (.int .i64 w2.node), .own 3291 (i7 0), .own 3292 (i7 1)])), (3291, some (.arr (i7 0) 82 3 (w2.out.map GElem.row))), (3292, some (.arr (i7 1) 89 5 (w2.bad.map GConflict.row)))], n3, 96⟩) (by exact Weak.cv ⟨jL, jL, jL, jL, jL, jL, jL, jL, jL, trivial⟩ ⟨.inl rfl, .inl rfl, .inl rfl, .inl rfl, .inl rfl, .inl rfl, trivial⟩ nL) ?_
  refine AW.regionT 22 hmix (by kernel_rfl) rfl rfl ?_
  refine AT.step rfl rfl rfl (sp_move rfl iL) ?_
  refine AT.step rfl rfl rfl (ms_loadA_box rfl ta_82 iL rfl rfl) ?_
  refine AT.step rfl rfl rfl (sp_fieldAddr_own (ob := .box _ _ _) rfl tf_122_2 iL fR rfl) ?_
  refine AT.step rfl rfl rfl (ms_load_box (a := .r (.sl (r2.attrs.map (rSl GAttr.row)))) rfl ts_39 iL rfl rfl) ?_
  refine AT.step rfl rfl rfl (sp_move rfl iL) ?_
  refine ob1k h15 fun x9 ex9 h16 => ?_
  refine AT.step rfl rfl rfl (ms_idx rfl tg_39.slice iL iL (fun _ => rfl) (fun _ => ex9)) ?_
  refine AT.step rfl rfl rfl (ms_load (d := .sl (x9.map GAttr.row)) rfl ts_29 iL rfl) ?_
  refine AT.step rfl rfl rfl (sp_fieldAddr_own (ob := .box _ _ _) rfl tf_122_2 iL fR rfl) ?_
  refine AT.step rfl rfl rfl (ms_load_box (a := .r (.sl (r4.attrs.map (rSl GAttr.row)))) rfl ts_39 iL rfl rfl) ?_
  refine AT.step rfl rfl rfl (sp_move rfl iL) ?_
  refine ob1k h16 fun x10 ex10 h17 => ?_
  refine AT.step rfl rfl rfl (ms_idx rfl tg_39.slice iL iL (fun _ => rfl) (fun _ => ex10)) ?_
  refine AT.step rfl rfl rfl (ms_load (d := .sl (x10.map GAttr.row)) rfl ts_29 iL rfl) ?_
  refine AT.step rfl rfl rfl (sp_fieldAddr_own (ob := .box _ _ _) rfl tf_122_1 iL fR rfl) ?_
  refine AT.step rfl rfl rfl (ms_load_box (a := .r (.sl (r2.cut.map rBool))) rfl ts_38 iL rfl rfl) ?_
  refine AT.step rfl rfl rfl (sp_move rfl iL) ?_
  refine ob1k h17 fun x11 ex11 h18 => ?_
  refine AT.step rfl rfl rfl (ms_idx rfl tg_38.slice iL iL (fun _ => rfl) (fun _ => ex11)) ?_
  refine AT.step rfl rfl rfl (ms_load (d := .bool x11) rfl ts_4 iL rfl) ?_
  refine AT.step rfl rfl rfl (sp_fieldAddr_own (ob := .box _ _ _) rfl tf_122_1 iL fR rfl) ?_
  refine AT.step rfl rfl rfl (ms_load_box (a := .r (.sl (r4.cut.map rBool))) rfl ts_38 iL rfl rfl) ?_
  refine AT.step rfl rfl rfl (sp_move rfl iL) ?_
  refine ob1k h18 fun x12 ex12 h19 => ?_
  refine AT.step rfl rfl rfl (ms_idx rfl tg_38.slice iL iL (fun _ => rfl) (fun _ => ex12)) ?_
  refine AT.step rfl rfl rfl (ms_load (d := .bool x12) rfl ts_4 iL rfl) ?_
  refine AT.nil ?_
  refine ob1k h19 fun w3 ew3 h20 => ?_
  refine AOps.stepHI [29, 3291, 3292] (hc := [(1000, some (.box (n0 + 2) 126 [.r (.int .i64 w2.node), .own 1001 (i7 0), .own 1002 (i7 1)])), (1001, some (.arr (i7 0) 82 3 (w2.out.map GElem.row))), (1002, some (.arr (i7 1) 89 5 (w2.bad.map GConflict.row)))]) (bs := [.ptr 1000 (n0 + 2) 0 0, .agg [.r (.int .i64 x6.Char), .r (.int .i64 x6.Ref), .r (.sl (x6.Attrs.map GAttr.row))], .r (.sl (x9.map GAttr.row)), .r (.sl (x10.map GAttr.row)), .r (.bool x11), .r (.bool x12)]) (caps := []) rfl rfl rfl rfl iL rfl ⟨.inl ⟨iL, rfl⟩, .inl ⟨iL, rfl⟩, .inl ⟨iL, rfl⟩, .inl ⟨iL, rfl⟩, .inl ⟨iL, rfl⟩, .inl ⟨iL, rfl⟩, trivial⟩ ⟨rfl, rfl, rfl, rfl, rfl, rfl, rfl, rfl, rfl, trivial⟩ (by decide) (w_merge_joined_elem ew3) ?_
  intro i8 n4
  refine AOps.weak (s' := ⟨[(1, .r (.sl (o1.map GElem.row))), (10, .ptr 10 n0 0 0), (11, .ptr 11 (n0 + 1) 0 0), (12, .ptr 29 (n0 + 2) 0 0), (13, .r (.int .i64 x2)), (14, .ptr 14 (i3 2) 0 0), (30, .r (.sl (o1.map GElem.row))), (31, .r (.int .i64 (o1.length : Int))), (32, .r (.int .i64 x2)), (49, .ptr 29 (n0 + 2) 0 0), (50, .agg [.r (.int .i64 x6.Char), .r (.int .i64 x6.Ref), .r (.sl (x6.Attrs.map GAttr.row))]), (51, .ptr 10 n0 0 2), (52, .r (.sl (r2.attrs.map (rSl GAttr.row)))), (53, .r (.int .i64 x2)), (54, .rop ((rSl GAttr.row) x9) 0), (55, .r (.sl (x9.map GAttr.row))), (56, .ptr 11 (n0 + 1) 0 2), (57, .r (.sl (r4.attrs.map (rSl GAttr.row)))), (58, .r (.int .i64 x2)), (59, .rop ((rSl GAttr.row) x10) 0), (60, .r (.sl (x10.map GAttr.row))), (61, .ptr 10 n0 0 1), (62, .r (.sl (r2.cut.map rBool))), (63, .r (.int .i64 x2)), (64, .rop (rBool x11) 0), (65, .r (.bool x11)), (66, .ptr 11 (n0 + 1) 0 1), (67, .r (.sl (r4.cut.map rBool))), (68, .r (.int .i64 x2)), (69, .rop (rBool x12) 0), (70, .r (.bool x12)), (71, .tup [])], [(10, some (.box n0 122 [.r (.sl (r2.adds.map (rSl GElem.row))), .r (.sl (r2.cut.map rBool)), .r (.sl (r2.attrs.map (rSl GAttr.row)))])), (11, some (.box (n0 + 1) 122 [.r (.sl (r4.adds.map (rSl GElem.row))), .r (.sl (r4.cut.map rBool)), .r (.sl (r4.attrs.map (rSl GAttr.row)))])), (14, some (.box (i3 2) 82 [.r (.int .i64 x6.Char), .r (.int .i64 x6.Ref), .r (.sl (x6.Attrs.map GAttr.row))])), (29, some (.box (n0 + 2) 126 [.r (.int .i64 w3.node), .own 3291 (i8 0), .own 3292 (i8 1)])), (3291, some (.arr (i8 0) 82 3 (w3.out.map GElem.row))), (3292, some (.arr (i8 1) 89 5 (w3.bad.map GConflict.row)))], n4, 96⟩) (by exact Weak.cv ⟨jL, jL, jL, jL, jL, jL, jL, jL, jL, jL, jL, jL, jL, jL, jL, jL, jL, jL, jL, jL, jL, jL, jL, jL, jL, jL, jL, jL, jL, jL, jL, jL, trivial⟩ ⟨.inl rfl, .inl rfl, .inl rfl, .inl rfl, .inl rfl, .inl rfl, trivial⟩ nL) ?_
  refine AOps.nil (hK10 _ ?_)
  refine AW.weak (s' := ⟨[(1, .r (.sl (o1.map GElem.row))), (10, .ptr 10 n0 0 0), (11, .ptr 11 (n0 + 1) 0 0), (12, .ptr 29 (n0 + 2) 0 0), (30, .r (.sl (o1.map GElem.row))), (31, .r (.int .i64 (o1.length : Int))), (32, .r (.int .i64 x2))], [(10, some (.box n0 122 [.r (.sl (r2.adds.map (rSl GElem.row))), .r (.sl (r2.cut.map rBool)), .r (.sl (r2.attrs.map (rSl GAttr.row)))])), (11, some (.box (n0 + 1) 122 [.r (.sl (r4.adds.map (rSl GElem.row))), .r (.sl (r4.cut.map rBool)), .r (.sl (r4.attrs.map (rSl GAttr.row)))])), (29, some (.box (n0 + 2) 126 [.r (.int .i64 w3.node), .own 3291 (i8 0), .own 3292 (i8 1)])), (3291, some (.arr (i8 0) 82 3 (w3.out.map GElem.row))), (3292, some (.arr (i8 1) 89 5 (w3.bad.map GConflict.row)))], n4, 96⟩) (by exact Weak.cv ⟨jL, jL, jL, jL, jL, jL, jL, trivial⟩ ⟨.inl rfl, .inl rfl, .inl rfl, .inl rfl, .inl rfl, trivial⟩ nL) ?_
  refine AW.region ?_
  refine ob1k h20 fun x13 ex13 h21 => ?_
  refine sQ rfl (ms_add rfl iL iL (fun _ => ex13)) ?_
  refine sM rfl rfl ?_
  refine AOps.nil ?_
  exact NextQ2.mk h21 (vec [(i8 0), (i8 1), n4]) ((by exact Weak.cv ⟨jL, jL, jL, jL, jL, jL, jL, trivial⟩ ⟨.inl rfl, .inl rfl, .inl rfl, .inl rfl, .inl rfl, trivial⟩ nL))
 ·have h11 := ite_f hc1 h10
  refine AW.exit ?_
  exact wK4 _ _ ((by exact Weak.cv ⟨jL, jL, jL, jL, trivial⟩ ⟨.inl rfl, .inl rfl, .inl rfl, .inl rfl, .inl rfl, trivial⟩ nL)) (J1 _ (vec [(i3 0), (i3 1), (i3 2)]) (hx1 _ (Option.some.inj h11).symm))
set_option maxHeartbeats 4000000 in
set_option maxRecDepth 20000 in
theorem w_merge_Flows {o1 : List GElem} {a1 : List GElem} {b1 : List GElem} {r : (List GElem) × (List GConflict) × Int} (h : merge_Flows o1 a1 b1 = some r) : ARO Try.prog 23 [.r (.sl (o1.map GElem.row)), .r (.sl (a1.map GElem.row)), .r (.sl (b1.map GElem.row))] (.tup [.r (.sl (r.1.map GElem.row)), .r (.sl (r.2.1.map GConflict.row)), .r (.int .i64 r.2.2)]) := by
 unfold merge_Flows at h
 refine ARO.mkF Try.func23 rfl rfl Try.ntmps23 rfl (Nat.le_of_ble_eq_true rfl) fun n0 => ?_
 refine AW.seq_w fun K1 hK1 wK1 => ?_
 refine AW.region ?_
 refine sQ rfl (sp_assign rfl iL) ?_
 refine sQ rfl (sp_assign rfl iL) ?_
 refine sQ rfl (sp_assign rfl iL) ?_
 refine AOps.nil (hK1 _ ?_)
 refine AW.seq_w fun K2 hK2 wK2 => ?_
 refine AW.seq_w fun K3 hK3 wK3 => ?_
 refine AW.region ?_
 refine sM rfl rfl ?_
 refine sM rfl rfl ?_
 refine sM rfl rfl ?_
 refine sQ rfl (sp_buildArr rfl tb_51 (q := [(0, _), (1, _), (2, _)]) (by exact ⟨rfl, rfl, rfl, iL, rfl, rfl, rfl, iL, rfl, rfl, rfl, iL, trivial⟩) (cs := [.r (.sl (o1.map GElem.row)), .r (.sl (a1.map GElem.row)), .r (.sl (b1.map GElem.row))]) (by rfl)) ?_
 refine sM rfl rfl ?_
 refine AOps.nil (hK3 _ ?_)
 refine AW.block ?_
 refine jc1k h fun o2 hit1 hk1 he1 => ?_
 have J1 : ∀ (u2 : Unit) (i5 : Nat → Nat), o2 = .nrm u2 → K2 ⟨[(0, .r (.sl (o1.map GElem.row))), (1, .r (.sl (a1.map GElem.row))), (2, .r (.sl (b1.map GElem.row)))], [], (i5 0), 49⟩ := by
  intro u2 i5 e
  have h1 := hk1 _ e
  refine hK2 _ ?_
  refine AW.seq_w fun K4 hK4 wK4 => ?_
  refine AW.seq_w fun K5 hK5 wK5 => ?_
  refine AW.region ?_
  refine sM rfl rfl ?_
  refine sM rfl rfl ?_
  refine sM rfl rfl ?_
  refine sQ rfl (sp_buildArr rfl tb_51 (q := [(0, _), (1, _), (2, _)]) (by exact ⟨rfl, rfl, rfl, iL, rfl, rfl, rfl, iL, rfl, rfl, rfl, iL, trivial⟩) (cs := [.r (.sl (o1.map GElem.row)), .r (.sl (a1.map GElem.row)), .r (.sl (b1.map GElem.row))]) (by rfl)) ?_
  refine sM rfl rfl ?_
  refine AOps.nil (hK5 _ ?_)
  refine AW.block ?_
  refine jc1k h1 fun o3 hit2 hk2 he2 => ?_
  have J2 : ∀ (u4 : Unit) (i10 : Nat → Nat), o3 = .nrm u4 → K4 ⟨[(0, .r (.sl (o1.map GElem.row))), (1, .r (.sl (a1.map GElem.row))), (2, .r (.sl (b1.map GElem.row)))], [], (i10 0), 49⟩ := by
   intro u4 i10 e
   have h2 := hk2 _ e
   refine hK4 _ ?_
   refine AW.seq_w fun K6 hK6 wK6 => ?_
   refine AW.region ?_
   refine sM rfl rfl ?_
   refine sM rfl rfl ?_
   refine sM rfl rfl ?_
   refine ob2k h2 fun r1 r2 er1 h3 => ?_
   refine AOps.step rfl rfl rfl (sp_callS (r := .tup [.r (.sl (r1.map GElem.row)), .r (.sl (r2.map GConflict.row))]) (caps := []) (bs := [.r (.int .i64 0), .r (.sl (o1.map GElem.row)), .r (.sl (a1.map GElem.row)), .r (.sl (b1.map GElem.row))]) rfl iL rfl ⟨.inl ⟨iL, rfl⟩, .inl ⟨iL, rfl⟩, .inl ⟨iL, rfl⟩, .inl ⟨iL, rfl⟩, trivial⟩ (fun _ => w_merge_flows (er1))) ?_
   refine sM rfl rfl ?_
   refine sQ rfl (sp_extract (a := .r (.sl (r1.map GElem.row))) rfl iL rfl) ?_
   refine sQ rfl (sp_extract (a := .r (.sl (r2.map GConflict.row))) rfl iL rfl) ?_
   refine sQ rfl (sp_assign rfl iL) ?_
   refine sQ rfl (sp_assign rfl iL) ?_
   refine AOps.nil (hK6 _ ?_)
   refine AW.seq_w fun K7 hK7 wK7 => ?_
   refine AW.weak (s' := ⟨[(14, .r (.sl (r1.map GElem.row))), (15, .r (.sl (r2.map GConflict.row)))], [], (i10 0), 49⟩) (by exact Weak.cv ⟨jL, jL, trivial⟩ trivial nL) ?_
   refine AW.region ?_
   refine sM rfl rfl ?_
   refine sM rfl rfl ?_
   refine sQ rfl (sp_assign rfl iL) ?_
   refine sQ rfl (sp_assign rfl iL) ?_
   refine sQ rfl (sp_assign rfl iL) ?_
   refine AOps.nil (hK7 _ ?_)
   refine AW.ret ?_
   exact retf3 (P := Try.prog) (fun (r : (List GElem) × (List GConflict) × Int) => .r (.sl (r.1.map GElem.row))) (fun (r : (List GElem) × (List GConflict) × Int) => .r (.sl (r.2.1.map GConflict.row))) (fun (r : (List GElem) × (List GConflict) × Int) => .r (.int .i64 r.2.2)) h3 iL (.t (.d rfl)) (.t (.d rfl)) (.t (.d rfl))
  refine AW.iter1 (fun (x5 : Int) i8 => ⟨[(0, .r (.sl (o1.map GElem.row))), (1, .r (.sl (a1.map GElem.row))), (2, .r (.sl (b1.map GElem.row))), (32, .agg [.r (.sl (o1.map GElem.row)), .r (.sl (a1.map GElem.row)), .r (.sl (b1.map GElem.row))]), (33, .r (.int .i64 x5))], [], (i8 0), 49⟩) (vec [(i5 0)]) hit2 ((by exact Weak.cv ⟨jL, jL, jL, jL, jL, trivial⟩ trivial nL)) ?_
  intro x5 i8 v1 hv1 hx2
  have h4 : merge_Flows_L2 o1 a1 b1 x5 = some v1 := hv1; unfold merge_Flows_L2 at h4
  refine AW.seq_w fun K8 hK8 wK8 => ?_
  refine AW.region ?_
  refine sQ rfl (sp_lss rfl iL iL) ?_
  refine AOps.nil (hK8 _ ?_)
  refine AW.seq_w fun K9 hK9 wK9 => ?_
  refine AW.cond rfl (fun hc1 => ?_) (fun hc1 => ?_)
  ·have h5 := ite_t hc1 h4
   refine AW.skip ?_
   refine hK9 _ ?_
   refine AW.seq_w fun K10 hK10 wK10 => ?_
   refine AW.block ?_
   refine AW.seq_w fun K11 hK11 wK11 => ?_
   refine AW.region ?_
   refine ob1k h5 fun f1 ef1 h6 => ?_
   refine sQ rfl (ms_idx_arr (f := fun a => .r (.sl (a.map GElem.row))) (l := [o1, a1, b1]) rfl tq_51 (.inl rfl) (.inl rfl) rfl (fun _ => ef1)) ?_
   refine sQ rfl (sp_assign rfl iL) ?_
   refine AOps.nil (hK11 _ ?_)
   refine AW.seq_w fun K12 hK12 wK12 => ?_
   refine AW.region ?_
   refine sM rfl rfl ?_
   refine sQ rfl (ms_len rfl tg_22.slice iL) ?_
   refine sQ rfl (sp_gtr rfl iL iL) ?_
   refine AOps.nil (hK12 _ ?_)
   refine AW.cond rfl (fun hc2 => ?_) (fun hc2 => ?_)
   ·have h7 := ite_t hc2 h6
    refine AW.seq_w fun K13 hK13 wK13 => ?_
    refine AW.weak (s' := ⟨[], [], (i8 0), 49⟩) (by exact Weak.cv trivial trivial nL) ?_
    refine AW.region ?_
    refine sQ rfl (sp_assign rfl iL) ?_
    refine sQ rfl (sp_assign rfl iL) ?_
    refine sQ rfl (sp_assign rfl iL) ?_
    refine AOps.nil (hK13 _ ?_)
    refine AW.ret ?_
    exact retf3 (P := Try.prog) (fun (r : (List GElem) × (List GConflict) × Int) => .r (.sl (r.1.map GElem.row))) (fun (r : (List GElem) × (List GConflict) × Int) => .r (.sl (r.2.1.map GConflict.row))) (fun (r : (List GElem) × (List GConflict) × Int) => .r (.int .i64 r.2.2)) (he2 _ (hx2 _ (Option.some.inj h7).symm)) iL (.t (.one (.nil))) (.t (.one (.nil))) (.t (.d rfl))
   ·have h7 := ite_f hc2 h6
    refine AW.skip ?_
    refine hK10 _ ?_
    refine AW.region ?_
    refine ob1k h7 fun x7 ex7 h8 => ?_
    refine sQ rfl (ms_add rfl iL iL (fun _ => ex7)) ?_
    refine sM rfl rfl ?_
    refine AOps.nil ?_
    exact NextQ1.mk h8 (vec [(i8 0)]) ((by exact Weak.cv ⟨jL, jL, jL, jL, jL, trivial⟩ trivial nL))
  ·have h5 := ite_f hc1 h4
   refine AW.exit ?_
   exact wK4 _ _ ((by exact Weak.cv ⟨jL, jL, jL, trivial⟩ trivial nL)) (J2 _ (vec [(i8 0)]) (hx2 _ (Option.some.inj h5).symm))
 refine AW.iter1 (fun (x2 : Int) i3 => ⟨[(0, .r (.sl (o1.map GElem.row))), (1, .r (.sl (a1.map GElem.row))), (2, .r (.sl (b1.map GElem.row))), (19, .agg [.r (.sl (o1.map GElem.row)), .r (.sl (a1.map GElem.row)), .r (.sl (b1.map GElem.row))]), (20, .r (.int .i64 x2))], [], (i3 0), 49⟩) (vec [n0]) hit1 ((by exact Weak.cv ⟨jL, jL, jL, jL, jL, trivial⟩ trivial nL)) ?_
 intro x2 i3 v2 hv2 hx1
 have h9 : merge_Flows_L1 o1 a1 b1 x2 = some v2 := hv2; unfold merge_Flows_L1 at h9
 refine AW.seq_w fun K14 hK14 wK14 => ?_
 refine AW.region ?_
 refine sQ rfl (sp_lss rfl iL iL) ?_
 refine AOps.nil (hK14 _ ?_)
 refine AW.seq_w fun K15 hK15 wK15 => ?_
 refine AW.cond rfl (fun hc3 => ?_) (fun hc3 => ?_)
 ·have h10 := ite_t hc3 h9
  refine AW.skip ?_
  refine hK15 _ ?_
  refine AW.seq_w fun K16 hK16 wK16 => ?_
  refine AW.block ?_
  refine AW.seq_w fun K17 hK17 wK17 => ?_
  refine AW.region ?_
  refine ob1k h10 fun f2 ef2 h11 => ?_
  refine sQ rfl (ms_idx_arr (f := fun a => .r (.sl (a.map GElem.row))) (l := [o1, a1, b1]) rfl tq_51 (.inl rfl) (.inl rfl) rfl (fun _ => ef2)) ?_
  refine sQ rfl (sp_assign rfl iL) ?_
  refine AOps.nil (hK17 _ ?_)
  refine AW.seq_w fun K18 hK18 wK18 => ?_
  refine AW.region ?_
  refine sM rfl rfl ?_
  refine ob1k h11 fun e1 ee1 h12 => ?_
  refine AOps.step rfl rfl rfl (sp_call (r := .r (.int .i64 e1)) (caps := []) (bs := [.r (.sl (f2.map GElem.row))]) rfl iL rfl ⟨⟨_, iL, .d rfl⟩, trivial⟩ (fun _ => w_flow_CheckPart (ee1)) rfl) ?_
  refine sQ rfl (sp_assign rfl iL) ?_
  refine AOps.nil (hK18 _ ?_)
  refine AW.seq_w fun K19 hK19 wK19 => ?_
  refine AW.region ?_
  refine sM rfl rfl ?_
  refine sQ rfl (sp_neq rfl iL iL) ?_
  refine AOps.nil (hK19 _ ?_)
  refine AW.cond rfl (fun hc4 => ?_) (fun hc4 => ?_)
  ·have h13 := ite_t hc4 h12
   refine AW.seq_w fun K20 hK20 wK20 => ?_
   refine AW.weak (s' := ⟨[(11, .r (.int .i64 e1))], [], (i3 0), 49⟩) (by exact Weak.cv ⟨jL, trivial⟩ trivial nL) ?_
   refine AW.region ?_
   refine sM rfl rfl ?_
   refine sQ rfl (sp_assign rfl iL) ?_
   refine sQ rfl (sp_assign rfl iL) ?_
   refine sQ rfl (sp_assign rfl iL) ?_
   refine AOps.nil (hK20 _ ?_)
   refine AW.ret ?_
   exact retf3 (P := Try.prog) (fun (r : (List GElem) × (List GConflict) × Int) => .r (.sl (r.1.map GElem.row))) (fun (r : (List GElem) × (List GConflict) × Int) => .r (.sl (r.2.1.map GConflict.row))) (fun (r : (List GElem) × (List GConflict) × Int) => .r (.int .i64 r.2.2)) (he1 _ (hx1 _ (Option.some.inj h13).symm)) iL (.t (.one (.nil))) (.t (.one (.nil))) (.t (.d rfl))
  ·have h13 := ite_f hc4 h12
   refine AW.skip ?_
   refine hK16 _ ?_
   refine AW.region ?_
   refine ob1k h13 fun x8 ex8 h14 => ?_
   refine sQ rfl (ms_add rfl iL iL (fun _ => ex8)) ?_
   refine sM rfl rfl ?_
   refine AOps.nil ?_
   exact NextQ1.mk h14 (vec [(i3 0)]) ((by exact Weak.cv ⟨jL, jL, jL, jL, jL, trivial⟩ trivial nL))
 ·have h10 := ite_f hc3 h9
  refine AW.exit ?_
  exact wK2 _ _ ((by exact Weak.cv ⟨jL, jL, jL, trivial⟩ trivial nL)) (J1 _ (vec [(i3 0)]) (hx1 _ (Option.some.inj h10).symm))
set_option maxHeartbeats 4000000 in
set_option maxRecDepth 20000 in
theorem w_ref_SameAttrs {a1 : List GAttr} {b1 : List GAttr} {r : Bool} (h : ref_SameAttrs a1 b1 = some r) : ARO Try.prog 43 [.r (.sl (a1.map GAttr.row)), .r (.sl (b1.map GAttr.row))] (.r (.bool r)) := by
 unfold ref_SameAttrs at h
 refine ARO.mkF Try.func43 rfl rfl Try.ntmps43 rfl (Nat.le_of_ble_eq_true rfl) fun n0 => ?_
 refine AW.seq_w fun K1 hK1 wK1 => ?_
 refine AW.region ?_
 refine sQ rfl (sp_assign rfl iL) ?_
 refine AOps.nil (hK1 _ ?_)
 refine AW.seq_w fun K2 hK2 wK2 => ?_
 refine AW.seq_w fun K3 hK3 wK3 => ?_
 refine AW.region ?_
 refine sM rfl rfl ?_
 refine sQ rfl (ms_len rfl tg_29.slice iL) ?_
 refine sM rfl rfl ?_
 refine sQ rfl (ms_len rfl tg_29.slice iL) ?_
 refine sQ rfl (sp_neq rfl iL iL) ?_
 refine AOps.nil (hK3 _ ?_)
 refine AW.cond rfl (fun hc1 => ?_) (fun hc1 => ?_)
 ·have h1 := ite_t hc1 h
  refine AW.seq_w fun K4 hK4 wK4 => ?_
  refine AW.region ?_
  refine sQ rfl (sp_assign rfl iL) ?_
  refine AOps.nil (hK4 _ ?_)
  refine AW.ret ?_
  exact retf1 (P := Try.prog) (fun (r : Bool) => .r (.bool r)) h1 iL (.t (.d rfl))
 ·have h1 := ite_f hc1 h
  refine AW.skip ?_
  refine hK2 _ ?_
  refine AW.seq_w fun K5 hK5 wK5 => ?_
  refine AW.seq_w fun K6 hK6 wK6 => ?_
  refine AW.region ?_
  refine sM rfl rfl ?_
  refine sQ rfl (ms_len rfl tg_29.slice iL) ?_
  refine sM rfl rfl ?_
  refine AOps.nil (hK6 _ ?_)
  refine AW.block ?_
  refine jc1k h1 fun o1 hit1 hk1 he1 => ?_
  have J1 : ∀ (u2 : Unit) (i5 : Nat → Nat), o1 = .nrm u2 → K5 ⟨[], [], (i5 0), 26⟩ := by
   intro u2 i5 e
   have h2 := hk1 _ e
   refine hK5 _ ?_
   refine AW.seq_w fun K7 hK7 wK7 => ?_
   refine AW.region ?_
   refine sQ rfl (sp_assign rfl iL) ?_
   refine AOps.nil (hK7 _ ?_)
   refine AW.ret ?_
   exact retf1 (P := Try.prog) (fun (r : Bool) => .r (.bool r)) h2 iL (.t (.d rfl))
  refine AW.iter1 (fun (x2 : Int) i3 => ⟨[(0, .r (.sl (a1.map GAttr.row))), (1, .r (.sl (b1.map GAttr.row))), (12, .r (.int .i64 (a1.length : Int))), (13, .r (.int .i64 x2))], [], (i3 0), 26⟩) (vec [n0]) hit1 ((by exact Weak.cv ⟨jL, jL, jL, jL, trivial⟩ trivial nL)) ?_
  intro x2 i3 v1 hv1 hx1
  have h3 : ref_SameAttrs_L1 a1 b1 x2 = some v1 := hv1; unfold ref_SameAttrs_L1 at h3
  refine AW.seq_w fun K8 hK8 wK8 => ?_
  refine AW.region ?_
  refine sQ rfl (sp_lss rfl iL iL) ?_
  refine AOps.nil (hK8 _ ?_)
  refine AW.seq_w fun K9 hK9 wK9 => ?_
  refine AW.cond rfl (fun hc2 => ?_) (fun hc2 => ?_)
  ·have h4 := ite_t hc2 h3
   refine AW.skip ?_
   refine hK9 _ ?_
   refine AW.seq_w fun K10 hK10 wK10 => ?_
   refine AW.block ?_
   refine AW.seq_w fun K11 hK11 wK11 => ?_
   refine AW.region ?_
   refine sM rfl rfl ?_
   refine sQ rfl (sp_assign rfl iL) ?_
   refine AOps.nil (hK11 _ ?_)
   refine AW.seq_w fun K12 hK12 wK12 => ?_
   refine AW.regionQ hmix (by kernel_rfl) ?_
   refine AQ.step rfl rfl rfl (sp_move rfl iL) ?_
   refine AQ.step rfl rfl rfl (sp_move rfl iL) ?_
   refine ob1k h4 fun x4 ex4 h5 => ?_
   refine AQ.step rfl rfl rfl (ms_idx rfl tg_29.slice iL iL (fun _ => rfl) (fun _ => ex4)) ?_
   refine AQ.step rfl rfl rfl (ms_loadA (cs := [.r (.str x4.Name), .r (.str x4.Value)]) rfl ta_92 iL rfl rfl) ?_
   refine AQ.step rfl rfl rfl (sp_move rfl iL) ?_
   refine AQ.step rfl rfl rfl (sp_move rfl iL) ?_
   refine ob1k h5 fun x5 ex5 h6 => ?_
   refine AQ.step rfl rfl rfl (ms_idx rfl tg_29.slice iL iL (fun _ => rfl) (fun _ => ex5)) ?_
   refine AQ.step rfl rfl rfl (ms_loadA (cs := [.r (.str x5.Name), .r (.str x5.Value)]) rfl ta_92 iL rfl rfl) ?_
   refine AQ.step rfl rfl rfl (sp_aggneq rfl te_92 iL iL rfl) ?_
   refine AQ.nil ?_
   refine hK12 _ ?_
   refine AW.cond rfl (fun hc3 => ?_) (fun hc3 => ?_)
   ·have h7 := ite_t hc3 h6
    refine AW.seq_w fun K13 hK13 wK13 => ?_
    refine AW.weak (s' := ⟨[], [], (i3 0), 26⟩) (by exact Weak.cv trivial trivial nL) ?_
    refine AW.region ?_
    refine sQ rfl (sp_assign rfl iL) ?_
    refine AOps.nil (hK13 _ ?_)
    refine AW.ret ?_
    exact retf1 (P := Try.prog) (fun (r : Bool) => .r (.bool r)) (he1 _ (hx1 _ (Option.some.inj h7).symm)) iL (.t (.d rfl))
   ·have h7 := ite_f hc3 h6
    refine AW.skip ?_
    refine hK10 _ ?_
    refine AW.weak (s' := ⟨[(0, .r (.sl (a1.map GAttr.row))), (1, .r (.sl (b1.map GAttr.row))), (12, .r (.int .i64 (a1.length : Int))), (13, .r (.int .i64 x2))], [], (i3 0), 26⟩) (by exact Weak.cv ⟨jL, jL, jL, jL, trivial⟩ trivial nL) ?_
    refine AW.region ?_
    refine ob1k h7 fun x6 ex6 h8 => ?_
    refine sQ rfl (ms_add rfl iL iL (fun _ => ex6)) ?_
    refine sM rfl rfl ?_
    refine AOps.nil ?_
    exact NextQ1.mk h8 (vec [(i3 0)]) ((by exact Weak.cv ⟨jL, jL, jL, jL, trivial⟩ trivial nL))
  ·have h4 := ite_f hc2 h3
   refine AW.exit ?_
   exact wK5 _ _ ((by exact Weak.cv trivial trivial nL)) (J1 _ (vec [(i3 0)]) (hx1 _ (Option.some.inj h4).symm))
set_option maxHeartbeats 4000000 in
set_option maxRecDepth 20000 in
theorem w_ref_SameElem {a1 : GElem} {b1 : GElem} {r : Bool} (h : ref_SameElem a1 b1 = some r) : ARO Try.prog 48 [.agg [.r (.int .i64 a1.Char), .r (.int .i64 a1.Ref), .r (.sl (a1.Attrs.map GAttr.row))], .agg [.r (.int .i64 b1.Char), .r (.int .i64 b1.Ref), .r (.sl (b1.Attrs.map GAttr.row))]] (.r (.bool r)) := by
 unfold ref_SameElem at h
 refine ARO.mkF Try.func48 rfl rfl Try.ntmps48 rfl (Nat.le_of_ble_eq_true rfl) fun n0 => ?_
 refine AW.seq_w fun K1 hK1 wK1 => ?_
 refine AW.region ?_
 refine AOps.step rfl rfl rfl (ms_box (cs := [.r (.int .i64 a1.Char), .r (.int .i64 a1.Ref), .r (.sl (a1.Attrs.map GAttr.row))]) 2 rfl iL rfl rfl) ?_
 refine AOps.step rfl rfl rfl (ms_box (cs := [.r (.int .i64 b1.Char), .r (.int .i64 b1.Ref), .r (.sl (b1.Attrs.map GAttr.row))]) 3 rfl iL rfl rfl) ?_
 refine sQ rfl (sp_assign rfl iL) ?_
 refine AOps.nil (hK1 _ ?_)
 refine AW.seq_w fun K2 hK2 wK2 => ?_
 refine AW.region ?_
 refine sQ rfl (sp_fieldAddr_own (ob := .box _ _ _) rfl tf_82_0 iL fR rfl) ?_
 refine sQ rfl (ms_load_box (a := .r (.int .i64 a1.Char)) rfl ts_3 iL rfl rfl) ?_
 refine sQ rfl (sp_fieldAddr_own (ob := .box _ _ _) rfl tf_82_0 iL fR rfl) ?_
 refine sQ rfl (ms_load_box (a := .r (.int .i64 b1.Char)) rfl ts_3 iL rfl rfl) ?_
 refine sQ rfl (sp_eql rfl iL iL) ?_
 refine sM rfl rfl ?_
 refine sV rfl rfl rfl (sp_fieldAddr_own (ob := .box _ _ _) rfl tf_82_1 iL fR rfl) ?_
 refine sV rfl rfl rfl (ms_load_box (a := .r (.int .i64 a1.Ref)) rfl ts_3 (iR rfl) rfl rfl) ?_
 refine sV rfl rfl rfl (sp_fieldAddr_own (ob := .box _ _ _) rfl tf_82_1 iL fR rfl) ?_
 refine sV rfl rfl rfl (ms_load_box (a := .r (.int .i64 b1.Ref)) rfl ts_3 (iR rfl) rfl rfl) ?_
 refine sV rfl rfl rfl (sp_eql rfl (iR rfl) (iR rfl)) ?_
 refine sQ rfl (sp_and rfl iL (iR rfl)) ?_
 refine sM rfl rfl ?_
 refine sV rfl rfl rfl (sp_fieldAddr_own (ob := .box _ _ _) rfl tf_82_2 iL fR rfl) ?_
 refine sV rfl rfl rfl (ms_load_box (a := .r (.sl (a1.Attrs.map GAttr.row))) rfl ts_29 (iR rfl) rfl rfl) ?_
 refine sV rfl rfl rfl (sp_fieldAddr_own (ob := .box _ _ _) rfl tf_82_2 iL fR rfl) ?_
 refine sV rfl rfl rfl (ms_load_box (a := .r (.sl (b1.Attrs.map GAttr.row))) rfl ts_29 (iR rfl) rfl rfl) ?_
 refine ob1k h fun r1 er1 h1 => ?_
 refine AOps.stepW (.one rfl rfl rfl) rfl rfl (sp_call (r := .r (.bool r1)) (caps := []) (bs := [.r (.sl (a1.Attrs.map GAttr.row)), .r (.sl (b1.Attrs.map GAttr.row))]) rfl iL rfl ⟨⟨_, (iR rfl), .d rfl⟩, ⟨_, (iR rfl), .d rfl⟩, trivial⟩ (fun hg => w_ref_SameAttrs (gdt er1 hg)) rfl) ?_
 refine sQ rfl (sp_and rfl iL (iR rfl)) ?_
 refine sQ rfl (sp_assign rfl iL) ?_
 refine AOps.nil (hK2 _ ?_)
 refine AW.ret ?_
 exact retf1 (P := Try.prog) (fun (r : Bool) => .r (.bool r)) h1 iL (.t (.d rfl))
set_option maxHeartbeats 4000000 in
set_option maxRecDepth 20000 in
theorem w_ref_SameFlow {a1 : List GElem} {b1 : List GElem} {r : Bool} (h : ref_SameFlow a1 b1 = some r) : ARO Try.prog 18 [.r (.sl (a1.map GElem.row)), .r (.sl (b1.map GElem.row))] (.r (.bool r)) := by
 unfold ref_SameFlow at h
 refine ARO.mkF Try.func18 rfl rfl Try.ntmps18 rfl (Nat.le_of_ble_eq_true rfl) fun n0 => ?_
 refine AW.seq_w fun K1 hK1 wK1 => ?_
 refine AW.region ?_
 refine sQ rfl (sp_assign rfl iL) ?_
 refine AOps.nil (hK1 _ ?_)
 refine AW.seq_w fun K2 hK2 wK2 => ?_
 refine AW.seq_w fun K3 hK3 wK3 => ?_
 refine AW.region ?_
 refine sM rfl rfl ?_
 refine sQ rfl (ms_len rfl tg_22.slice iL) ?_
 refine sM rfl rfl ?_
 refine sQ rfl (ms_len rfl tg_22.slice iL) ?_
 refine sQ rfl (sp_neq rfl iL iL) ?_
 refine AOps.nil (hK3 _ ?_)
 refine AW.cond rfl (fun hc1 => ?_) (fun hc1 => ?_)
 ·have h1 := ite_t hc1 h
  refine AW.seq_w fun K4 hK4 wK4 => ?_
  refine AW.region ?_
  refine sQ rfl (sp_assign rfl iL) ?_
  refine AOps.nil (hK4 _ ?_)
  refine AW.ret ?_
  exact retf1 (P := Try.prog) (fun (r : Bool) => .r (.bool r)) h1 iL (.t (.d rfl))
 ·have h1 := ite_f hc1 h
  refine AW.skip ?_
  refine hK2 _ ?_
  refine AW.seq_w fun K5 hK5 wK5 => ?_
  refine AW.seq_w fun K6 hK6 wK6 => ?_
  refine AW.region ?_
  refine sM rfl rfl ?_
  refine sQ rfl (ms_len rfl tg_22.slice iL) ?_
  refine sM rfl rfl ?_
  refine AOps.nil (hK6 _ ?_)
  refine AW.block ?_
  refine jc1k h1 fun o1 hit1 hk1 he1 => ?_
  have J1 : ∀ (u2 : Unit) (i5 : Nat → Nat), o1 = .nrm u2 → K5 ⟨[], [], (i5 0), 27⟩ := by
   intro u2 i5 e
   have h2 := hk1 _ e
   refine hK5 _ ?_
   refine AW.seq_w fun K7 hK7 wK7 => ?_
   refine AW.region ?_
   refine sQ rfl (sp_assign rfl iL) ?_
   refine AOps.nil (hK7 _ ?_)
   refine AW.ret ?_
   exact retf1 (P := Try.prog) (fun (r : Bool) => .r (.bool r)) h2 iL (.t (.d rfl))
  refine AW.iter1 (fun (x2 : Int) i3 => ⟨[(0, .r (.sl (a1.map GElem.row))), (1, .r (.sl (b1.map GElem.row))), (12, .r (.int .i64 (a1.length : Int))), (13, .r (.int .i64 x2))], [], (i3 0), 27⟩) (vec [n0]) hit1 ((by exact Weak.cv ⟨jL, jL, jL, jL, trivial⟩ trivial nL)) ?_
  intro x2 i3 v1 hv1 hx1
  have h3 : ref_SameFlow_L1 a1 b1 x2 = some v1 := hv1; unfold ref_SameFlow_L1 at h3
  refine AW.seq_w fun K8 hK8 wK8 => ?_
  refine AW.region ?_
  refine sQ rfl (sp_lss rfl iL iL) ?_
  refine AOps.nil (hK8 _ ?_)
  refine AW.seq_w fun K9 hK9 wK9 => ?_
  refine AW.cond rfl (fun hc2 => ?_) (fun hc2 => ?_)
  ·have h4 := ite_t hc2 h3
   refine AW.skip ?_
   refine hK9 _ ?_
   refine AW.seq_w fun K10 hK10 wK10 => ?_
   refine AW.block ?_
   refine AW.seq_w fun K11 hK11 wK11 => ?_
   refine AW.region ?_
   refine sM rfl rfl ?_
   refine sQ rfl (sp_assign rfl iL) ?_
   refine AOps.nil (hK11 _ ?_)
   refine AW.seq_w fun K12 hK12 wK12 => ?_
   refine AW.regionQ hmix (by kernel_rfl) ?_
   refine AQ.step rfl rfl rfl (sp_move rfl iL) ?_
   refine AQ.step rfl rfl rfl (sp_move rfl iL) ?_
   refine ob1k h4 fun x4 ex4 h5 => ?_
   refine AQ.step rfl rfl rfl (ms_idx rfl tg_22.slice iL iL (fun _ => rfl) (fun _ => ex4)) ?_
   refine AQ.step rfl rfl rfl (ms_loadA (cs := [.r (.int .i64 x4.Char), .r (.int .i64 x4.Ref), .r (.sl (x4.Attrs.map GAttr.row))]) rfl ta_82 iL rfl rfl) ?_
   refine AQ.step rfl rfl rfl (sp_move rfl iL) ?_
   refine AQ.step rfl rfl rfl (sp_move rfl iL) ?_
   refine ob1k h5 fun x5 ex5 h6 => ?_
   refine AQ.step rfl rfl rfl (ms_idx rfl tg_22.slice iL iL (fun _ => rfl) (fun _ => ex5)) ?_
   refine AQ.step rfl rfl rfl (ms_loadA (cs := [.r (.int .i64 x5.Char), .r (.int .i64 x5.Ref), .r (.sl (x5.Attrs.map GAttr.row))]) rfl ta_82 iL rfl rfl) ?_
   refine ob1k h6 fun r1 er1 h7 => ?_
   refine AQ.stepC rfl rfl rfl (r := .r (.bool r1)) (caps := []) (bs := [.agg [.r (.int .i64 x4.Char), .r (.int .i64 x4.Ref), .r (.sl (x4.Attrs.map GAttr.row))], .agg [.r (.int .i64 x5.Char), .r (.int .i64 x5.Ref), .r (.sl (x5.Attrs.map GAttr.row))]]) rfl iL rfl ⟨⟨_, iL, .g (cs := [.int .i64 x4.Char, .int .i64 x4.Ref, .sl (x4.Attrs.map GAttr.row)]) rfl rfl⟩, ⟨_, iL, .g (cs := [.int .i64 x5.Char, .int .i64 x5.Ref, .sl (x5.Attrs.map GAttr.row)]) rfl rfl⟩, trivial⟩ (fun _ => w_ref_SameElem (er1)) rfl ?_
   refine AQ.step rfl rfl rfl (sp_not rfl iL) ?_
   refine AQ.nil ?_
   refine hK12 _ ?_
   refine AW.cond rfl (fun hc3 => ?_) (fun hc3 => ?_)
   ·have h8 := ite_t hc3 h7
    refine AW.seq_w fun K13 hK13 wK13 => ?_
    refine AW.weak (s' := ⟨[], [], (i3 0), 27⟩) (by exact Weak.cv trivial trivial nL) ?_
    refine AW.region ?_
    refine sQ rfl (sp_assign rfl iL) ?_
    refine AOps.nil (hK13 _ ?_)
    refine AW.ret ?_
    exact retf1 (P := Try.prog) (fun (r : Bool) => .r (.bool r)) (he1 _ (hx1 _ (Option.some.inj h8).symm)) iL (.t (.d rfl))
   ·have h8 := ite_f hc3 h7
    refine AW.skip ?_
    refine hK10 _ ?_
    refine AW.weak (s' := ⟨[(0, .r (.sl (a1.map GElem.row))), (1, .r (.sl (b1.map GElem.row))), (12, .r (.int .i64 (a1.length : Int))), (13, .r (.int .i64 x2))], [], (i3 0), 27⟩) (by exact Weak.cv ⟨jL, jL, jL, jL, trivial⟩ trivial nL) ?_
    refine AW.region ?_
    refine ob1k h8 fun x6 ex6 h9 => ?_
    refine sQ rfl (ms_add rfl iL iL (fun _ => ex6)) ?_
    refine sM rfl rfl ?_
    refine AOps.nil ?_
    exact NextQ1.mk h9 (vec [(i3 0)]) ((by exact Weak.cv ⟨jL, jL, jL, jL, trivial⟩ trivial nL))
  ·have h4 := ite_f hc2 h3
   refine AW.exit ?_
   exact wK5 _ _ ((by exact Weak.cv trivial trivial nL)) (J1 _ (vec [(i3 0)]) (hx1 _ (Option.some.inj h4).symm))
set_option maxHeartbeats 4000000 in
set_option maxRecDepth 20000 in
theorem w_law_merges {r : Bool} (h : law_merges = some r) : ARO Try.prog 22 [] (.r (.bool r)) := by
 unfold law_merges at h
 refine ARO.mkF Try.func22 rfl rfl Try.ntmps22 rfl (Nat.le_of_ble_eq_true rfl) fun n0 => ?_
 refine AW.seq_w fun K1 hK1 wK1 => ?_
 refine AW.region ?_
 refine sQ rfl (sp_assign rfl iL) ?_
 refine AOps.nil (hK1 _ ?_)
 refine AW.seq_w fun K2 hK2 wK2 => ?_
 refine AW.region ?_
 refine ob1k h fun r1 er1 h1 => ?_
 refine AOps.step rfl rfl rfl (sp_callS (r := .r (.sl (r1.map GElem.row))) (caps := []) (bs := [.r (.str [97, 98])]) rfl iL rfl ⟨.inl ⟨iL, rfl⟩, trivial⟩ (fun _ => w_law_letters (er1))) ?_
 refine ob1k h1 fun r2 er2 h2 => ?_
 refine AOps.step rfl rfl rfl (sp_callS (r := .r (.sl (r2.map GElem.row))) (caps := []) (bs := [.r (.str [97, 120, 98])]) rfl iL rfl ⟨.inl ⟨iL, rfl⟩, trivial⟩ (fun _ => w_law_letters (er2))) ?_
 refine ob1k h2 fun r3 er3 h3 => ?_
 refine AOps.step rfl rfl rfl (sp_callS (r := .r (.sl (r3.map GElem.row))) (caps := []) (bs := [.r (.str [97, 121, 98])]) rfl iL rfl ⟨.inl ⟨iL, rfl⟩, trivial⟩ (fun _ => w_law_letters (er3))) ?_
 refine ob3k h3 fun r4 r5 r6 er4 h4 => ?_
 refine AOps.step rfl rfl rfl (sp_callS (r := .tup [.r (.sl (r4.map GElem.row)), .r (.sl (r5.map GConflict.row)), .r (.int .i64 r6)]) (caps := []) (bs := [.r (.sl (r1.map GElem.row)), .r (.sl (r2.map GElem.row)), .r (.sl (r3.map GElem.row))]) rfl iL rfl ⟨.inl ⟨iL, rfl⟩, .inl ⟨iL, rfl⟩, .inl ⟨iL, rfl⟩, trivial⟩ (fun _ => w_merge_Flows (er4))) ?_
 refine sM rfl rfl ?_
 refine sQ rfl (sp_extract (a := .r (.sl (r4.map GElem.row))) rfl iL rfl) ?_
 refine sQ rfl (sp_extract (a := .r (.sl (r5.map GConflict.row))) rfl iL rfl) ?_
 refine sQ rfl (sp_extract (a := .r (.int .i64 r6)) rfl iL rfl) ?_
 refine sQ rfl (sp_assign rfl iL) ?_
 refine sQ rfl (sp_assign rfl iL) ?_
 refine sQ rfl (sp_assign rfl iL) ?_
 refine AOps.nil (hK2 _ ?_)
 refine AW.seq_w fun K3 hK3 wK3 => ?_
 refine AW.weak (s' := ⟨[(1, .r (.sl (r4.map GElem.row))), (2, .r (.sl (r5.map GConflict.row))), (3, .r (.int .i64 r6))], [], n0, 31⟩) (by exact Weak.cv ⟨jL, jL, jL, trivial⟩ trivial nL) ?_
 refine AW.region ?_
 refine sM rfl rfl ?_
 refine sQ rfl (sp_eql rfl iL iL) ?_
 refine sM rfl rfl ?_
 refine sV rfl rfl rfl (sp_move rfl iL) ?_
 refine jb1k h4 fun p1 hp1 hk1 => ?_
 have J1 : ∀ (x1 : Bool) (i1 : Nat → Nat), p1 = x1 → K3 ⟨[(0, .r (.bool x1))], [], (i1 0), 31⟩ := by
  intro x1 i1 e
  have h5 := hk1 _ e
  refine hK3 _ ?_
  refine AW.ret ?_
  exact retf1 (P := Try.prog) (fun (r : Bool) => .r (.bool r)) h5 iL (.t (.d rfl))
 refine AOps.split ((decide (r6 = 0)) == true) (fun hg1 => ?_) (fun hg1 => ?_)
 ·have h6 := ite_t hg1 hp1
  refine AOps.weak (by exact Weak.unw2 (e' := [(1, .r (.sl (r4.map GElem.row))), (2, .r (.sl (r5.map GConflict.row))), (3, .r (.int .i64 r6)), (12, .r (.int .i64 r6)), (13, .r (.bool (decide (r6 = 0)))), (14, .r (.bool (decide (r6 = 0)))), (15, .r (.sl (r4.map GElem.row)))]) hg1 ⟨.inl rfl, .inl rfl, .inl rfl, .inl rfl, .inl rfl, .inl rfl, .inr iL, trivial⟩) ?_
  refine ob1k h6 fun r7 er7 h7 => ?_
  refine AOps.stepGT (.one rfl rfl rfl) hg1 rfl rfl (sp_callS (r := .r (.sl (r7.map GElem.row))) (caps := []) (bs := [.r (.str [97, 120, 121, 98])]) rfl iL rfl ⟨.inl ⟨iL, rfl⟩, trivial⟩ (fun _ => w_law_letters (er7))) ?_
  refine ob1k h7 fun r8 er8 h8 => ?_
  refine AOps.stepGT (.one rfl rfl rfl) hg1 rfl rfl (sp_call (r := .r (.bool r8)) (caps := []) (bs := [.r (.sl (r4.map GElem.row)), .r (.sl (r7.map GElem.row))]) rfl iL rfl ⟨⟨_, iL, .d rfl⟩, ⟨_, iL, .d rfl⟩, trivial⟩ (fun _ => w_ref_SameFlow (er8)) rfl) ?_
  refine sQ rfl (sp_and rfl iL iL) ?_
  refine sM rfl rfl ?_
  refine sV rfl rfl rfl (sp_move rfl iL) ?_
  refine sV rfl rfl rfl (ms_len rfl tg_48.slice (iR rfl)) ?_
  refine sV rfl rfl rfl (sp_eql rfl (iR rfl) iL) ?_
  refine sQ rfl (sp_and rfl iL (iR rfl)) ?_
  refine sM rfl rfl ?_
  refine sV rfl rfl rfl (sp_move rfl iL) ?_
  refine ob1k h8 fun x2 ex2 h9 => ?_
  refine sV rfl rfl rfl (ms_idx rfl tg_48.slice (iR rfl) iL (fun _ => rfl) (gdt ex2)) ?_
  refine sV rfl rfl rfl (ms_loadA (cs := [.r (.int .i64 x2.Kind), .r (.int .i64 x2.Node), .r (.int .i64 x2.From), .r (.int .i64 x2.To), .r (.str x2.Name)]) rfl ta_89 (iR rfl) rfl rfl) ?_
  refine sV rfl rfl rfl (sp_build rfl tb_89 (q := [(0, _), (2, _), (3, _)]) (by exact ⟨rfl, rfl, rfl, iL, rfl, rfl, rfl, iL, rfl, rfl, rfl, iL, trivial⟩) (cs := [.r (.int .i64 0), .r (.int .i64 0), .r (.int .i64 1), .r (.int .i64 3), .r (.str [])]) (by rfl)) ?_
  refine sV rfl rfl rfl (sp_aggeql rfl te_89 (iR rfl) (iR rfl) rfl) ?_
  refine sQ rfl (sp_and rfl iL (iR rfl)) ?_
  refine sQ rfl (sp_assign rfl iL) ?_
  refine AOps.nil ?_
  exact wK3 _ _ ((by exact Weak.cv ⟨jL, trivial⟩ trivial nL)) (J1 _ (vec [n0]) (Option.some.inj h9).symm)
 ·have h6 := ite_f hg1 hp1
  refine AOps.stepGF2 (.one rfl rfl rfl) hg1 rfl rfl ?_
  refine AOps.stepGF2 (.one rfl rfl rfl) hg1 rfl rfl ?_
  refine sQ rfl (sp_and rfl iL (iR rfl)) ?_
  refine sM rfl rfl ?_
  refine sV rfl rfl rfl (sp_move rfl iL) ?_
  refine sV rfl rfl rfl (ms_len rfl tg_48.slice (iR rfl)) ?_
  refine sV rfl rfl rfl (sp_eql rfl (iR rfl) iL) ?_
  refine sQ rfl (sp_and rfl iL (iR rfl)) ?_
  refine sM rfl rfl ?_
  refine sV rfl rfl rfl (sp_move rfl iL) ?_
  refine ob1k h6 fun x3 ex3 h10 => ?_
  refine sV rfl rfl rfl (ms_idx rfl tg_48.slice (iR rfl) iL (fun _ => rfl) (gdt ex3)) ?_
  refine sV rfl rfl rfl (ms_loadA (cs := [.r (.int .i64 x3.Kind), .r (.int .i64 x3.Node), .r (.int .i64 x3.From), .r (.int .i64 x3.To), .r (.str x3.Name)]) rfl ta_89 (iR rfl) rfl rfl) ?_
  refine sV rfl rfl rfl (sp_build rfl tb_89 (q := [(0, _), (2, _), (3, _)]) (by exact ⟨rfl, rfl, rfl, iL, rfl, rfl, rfl, iL, rfl, rfl, rfl, iL, trivial⟩) (cs := [.r (.int .i64 0), .r (.int .i64 0), .r (.int .i64 1), .r (.int .i64 3), .r (.str [])]) (by rfl)) ?_
  refine sV rfl rfl rfl (sp_aggeql rfl te_89 (iR rfl) (iR rfl) rfl) ?_
  refine sQ rfl (sp_and rfl iL (iR rfl)) ?_
  refine sQ rfl (sp_assign rfl iL) ?_
  refine AOps.nil ?_
  exact wK3 _ _ ((by exact Weak.cv ⟨jL, trivial⟩ trivial nL)) (J1 _ (vec [n0]) (Option.some.inj h10).symm)
set_option maxHeartbeats 4000000 in
set_option maxRecDepth 20000 in
theorem w_ref_In {x1 : Int} {low1 : Int} {high1 : Int} {r : Bool} (h : ref_In x1 low1 high1 = some r) : ARO Try.prog 56 [.r (.int .i64 x1), .r (.int .i64 low1), .r (.int .i64 high1)] (.r (.bool r)) := by
 unfold ref_In at h
 refine ARO.mkF Try.func56 rfl rfl Try.ntmps56 rfl (Nat.le_of_ble_eq_true rfl) fun n0 => ?_
 refine AW.seq_w fun K1 hK1 wK1 => ?_
 refine AW.region ?_
 refine sQ rfl (sp_assign rfl iL) ?_
 refine AOps.nil (hK1 _ ?_)
 refine AW.seq_w fun K2 hK2 wK2 => ?_
 refine AW.region ?_
 refine sM rfl rfl ?_
 refine sM rfl rfl ?_
 refine sQ rfl (sp_geq rfl iL iL) ?_
 refine sM rfl rfl ?_
 refine sV rfl rfl rfl (sp_move rfl iL) ?_
 refine sV rfl rfl rfl (sp_move rfl iL) ?_
 refine sV rfl rfl rfl (sp_leq rfl (iR rfl) (iR rfl)) ?_
 refine sQ rfl (sp_and rfl iL (iR rfl)) ?_
 refine sQ rfl (sp_assign rfl iL) ?_
 refine AOps.nil (hK2 _ ?_)
 refine AW.ret ?_
 exact retf1 (P := Try.prog) (fun (r : Bool) => .r (.bool r)) h iL (.t (.d rfl))
set_option maxHeartbeats 4000000 in
set_option maxRecDepth 20000 in
theorem w_ref_Char {c1 : Int} {r : Bool} (h : ref_Char c1 = some r) : ARO Try.prog 79 [.r (.int .i64 c1)] (.r (.bool r)) := by
 unfold ref_Char at h
 refine ARO.mkF Try.func79 rfl rfl Try.ntmps79 rfl (Nat.le_of_ble_eq_true rfl) fun n0 => ?_
 refine AW.seq_w fun K1 hK1 wK1 => ?_
 refine AW.region ?_
 refine sQ rfl (sp_assign rfl iL) ?_
 refine AOps.nil (hK1 _ ?_)
 refine AW.seq_w fun K2 hK2 wK2 => ?_
 refine AW.region ?_
 refine sM rfl rfl ?_
 refine sQ rfl (sp_eql rfl iL iL) ?_
 refine sM rfl rfl ?_
 refine sV rfl rfl rfl (sp_move rfl iL) ?_
 refine sV rfl rfl rfl (sp_eql rfl (iR rfl) iL) ?_
 refine sQ rfl (sp_or rfl iL (iR rfl)) ?_
 refine sM rfl rfl ?_
 refine sV rfl rfl rfl (sp_move rfl iL) ?_
 refine ob1k h fun r1 er1 h1 => ?_
 refine AOps.stepW (.one rfl rfl rfl) rfl rfl (sp_call (r := .r (.bool r1)) (caps := []) (bs := [.r (.int .i64 c1), .r (.int .i64 32), .r (.int .i64 126)]) rfl iL rfl ⟨⟨_, (iR rfl), .d rfl⟩, ⟨_, iL, .d rfl⟩, ⟨_, iL, .d rfl⟩, trivial⟩ (fun hg => w_ref_In (gdt er1 hg)) rfl) ?_
 refine sQ rfl (sp_or rfl iL (iR rfl)) ?_
 refine sM rfl rfl ?_
 refine sV rfl rfl rfl (sp_move rfl iL) ?_
 refine ob1k h1 fun r2 er2 h2 => ?_
 refine AOps.stepW (.one rfl rfl rfl) rfl rfl (sp_call (r := .r (.bool r2)) (caps := []) (bs := [.r (.int .i64 c1), .r (.int .i64 160), .r (.int .i64 55295)]) rfl iL rfl ⟨⟨_, (iR rfl), .d rfl⟩, ⟨_, iL, .d rfl⟩, ⟨_, iL, .d rfl⟩, trivial⟩ (fun hg => w_ref_In (gdt er2 hg)) rfl) ?_
 refine sQ rfl (sp_or rfl iL (iR rfl)) ?_
 refine sM rfl rfl ?_
 refine sV rfl rfl rfl (sp_move rfl iL) ?_
 refine ob1k h2 fun r3 er3 h3 => ?_
 refine AOps.stepW (.one rfl rfl rfl) rfl rfl (sp_call (r := .r (.bool r3)) (caps := []) (bs := [.r (.int .i64 c1), .r (.int .i64 57344), .r (.int .i64 1114111)]) rfl iL rfl ⟨⟨_, (iR rfl), .d rfl⟩, ⟨_, iL, .d rfl⟩, ⟨_, iL, .d rfl⟩, trivial⟩ (fun hg => w_ref_In (gdt er3 hg)) rfl) ?_
 refine sQ rfl (sp_or rfl iL (iR rfl)) ?_
 refine sQ rfl (sp_assign rfl iL) ?_
 refine AOps.nil (hK2 _ ?_)
 refine AW.ret ?_
 exact retf1 (P := Try.prog) (fun (r : Bool) => .r (.bool r)) h3 iL (.t (.d rfl))
set_option maxHeartbeats 4000000 in
set_option maxRecDepth 20000 in
theorem w_ref_Name {s1 : List UInt8} {r : Bool} (h : ref_Name s1 = some r) : ARO Try.prog 57 [.r (.str s1)] (.r (.bool r)) := by
 unfold ref_Name at h
 refine ARO.mkF Try.func57 rfl rfl Try.ntmps57 rfl (Nat.le_of_ble_eq_true rfl) fun n0 => ?_
 refine AW.seq_w fun K1 hK1 wK1 => ?_
 refine AW.region ?_
 refine sQ rfl (sp_assign rfl iL) ?_
 refine AOps.nil (hK1 _ ?_)
 refine AW.seq_w fun K2 hK2 wK2 => ?_
 refine AW.seq_w fun K3 hK3 wK3 => ?_
 refine AW.region ?_
 refine sM rfl rfl ?_
 refine sQ rfl (sp_len_str rfl Try.underlying9 iL) ?_
 refine sM rfl rfl ?_
 refine AOps.nil (hK3 _ ?_)
 refine AW.block ?_
 refine jc1k h fun o1 hit1 hk1 he1 => ?_
 have J1 : ∀ (u2 : Unit) (i5 : Nat → Nat), o1 = .nrm u2 → K2 ⟨[(0, .r (.str s1))], [], (i5 0), 59⟩ := by
  intro u2 i5 e
  have h1 := hk1 _ e
  refine hK2 _ ?_
  refine AW.seq_w fun K4 hK4 wK4 => ?_
  refine AW.region ?_
  refine sM rfl rfl ?_
  refine sQ rfl (sp_len_str rfl Try.underlying9 iL) ?_
  refine sQ rfl (sp_geq rfl iL iL) ?_
  refine sM rfl rfl ?_
  refine sV rfl rfl rfl (sp_move rfl iL) ?_
  refine sV rfl rfl rfl (sp_len_str rfl Try.underlying9 (iR rfl)) ?_
  refine sV rfl rfl rfl (sp_leq rfl (iR rfl) iL) ?_
  refine sQ rfl (sp_and rfl iL (iR rfl)) ?_
  refine sQ rfl (sp_assign rfl iL) ?_
  refine AOps.nil (hK4 _ ?_)
  refine AW.ret ?_
  exact retf1 (P := Try.prog) (fun (r : Bool) => .r (.bool r)) h1 iL (.t (.d rfl))
 refine AW.iter1 (fun (x2 : Int) i3 => ⟨[(0, .r (.str s1)), (6, .r (.int .i64 (s1.length : Int))), (7, .r (.int .i64 x2))], [], (i3 0), 59⟩) (vec [n0]) hit1 ((by exact Weak.cv ⟨jL, jL, jL, trivial⟩ trivial nL)) ?_
 intro x2 i3 v1 hv1 hx1
 have h2 : ref_Name_L1 s1 x2 = some v1 := hv1; unfold ref_Name_L1 at h2
 refine AW.seq_w fun K5 hK5 wK5 => ?_
 refine AW.region ?_
 refine sQ rfl (sp_lss rfl iL iL) ?_
 refine AOps.nil (hK5 _ ?_)
 refine AW.seq_w fun K6 hK6 wK6 => ?_
 refine AW.cond rfl (fun hc1 => ?_) (fun hc1 => ?_)
 ·have h3 := ite_t hc1 h2
  refine AW.skip ?_
  refine hK6 _ ?_
  refine AW.seq_w fun K7 hK7 wK7 => ?_
  refine AW.block ?_
  refine AW.seq_w fun K8 hK8 wK8 => ?_
  refine AW.region ?_
  refine sM rfl rfl ?_
  refine sQ rfl (sp_assign rfl iL) ?_
  refine AOps.nil (hK8 _ ?_)
  refine AW.seq_w fun K9 hK9 wK9 => ?_
  refine AW.region ?_
  refine sM rfl rfl ?_
  refine sM rfl rfl ?_
  refine ob1k h3 fun ch1 ech1 h4 => ?_
  refine sQ rfl (ms_idx_str rfl Try.underlying9 iL iL (fun _ => ech1)) ?_
  refine sQ rfl (sp_geq rfl iL iL) ?_
  refine sM rfl rfl ?_
  refine sV rfl rfl rfl (sp_move rfl iL) ?_
  refine sV rfl rfl rfl (sp_move rfl iL) ?_
  refine sV rfl rfl rfl (ms_idx_str rfl Try.underlying9 (iR rfl) (iR rfl) (fun _ => ech1)) ?_
  refine sV rfl rfl rfl (sp_leq rfl (iR rfl) iL) ?_
  refine sQ rfl (sp_and rfl iL (iR rfl)) ?_
  refine sQ rfl (sp_assign rfl iL) ?_
  refine AOps.nil (hK9 _ ?_)
  refine AW.seq_w fun K10 hK10 wK10 => ?_
  refine AW.region ?_
  refine sM rfl rfl ?_
  refine sQ rfl (sp_not rfl iL) ?_
  refine sM rfl rfl ?_
  refine sV rfl rfl rfl (sp_move rfl iL) ?_
  refine sV rfl rfl rfl (sp_eql rfl (iR rfl) iL) ?_
  refine sV rfl rfl rfl (sp_move rfl (iR rfl)) ?_
  refine sW (.two rfl rfl rfl) rfl (sp_move rfl iL) ?_
  refine sW (.two rfl rfl rfl) rfl (sp_move rfl iL) ?_
  refine sW (.two rfl rfl rfl) rfl (ms_idx_str rfl Try.underlying9 (iR rfl) (iR rfl) (fun _ => ech1)) ?_
  refine sW (.two rfl rfl rfl) rfl (sp_neq rfl (iR rfl) iL) ?_
  refine sW (.two rfl rfl rfl) rfl (sp_move rfl (iR rfl)) ?_
  refine sW (.two rfl rfl rfl) rfl (sp_move rfl iL) ?_
  refine sW (.two rfl rfl rfl) rfl (sp_move rfl iL) ?_
  refine sW (.two rfl rfl rfl) rfl (ms_idx_str rfl Try.underlying9 (iR rfl) (iR rfl) (fun _ => ech1)) ?_
  refine sW (.two rfl rfl rfl) rfl (sp_neq rfl (iR rfl) iL) ?_
  refine sW (.two rfl rfl rfl) rfl (sp_and rfl (iR rfl) (iR rfl)) ?_
  refine sW (.two rfl rfl rfl) rfl (sp_move rfl (iR rfl)) ?_
  refine sW (.two rfl rfl rfl) rfl (sp_move rfl iL) ?_
  refine sW (.two rfl rfl rfl) rfl (sp_move rfl iL) ?_
  refine sW (.two rfl rfl rfl) rfl (ms_idx_str rfl Try.underlying9 (iR rfl) (iR rfl) (fun _ => ech1)) ?_
  refine sW (.two rfl rfl rfl) rfl (sp_lss rfl (iR rfl) iL) ?_
  refine sW (.two rfl rfl rfl) rfl (sp_move rfl (iR rfl)) ?_
  refine sW (.two rfl rfl rfl) rfl (sp_move rfl iL) ?_
  refine sW (.two rfl rfl rfl) rfl (sp_move rfl iL) ?_
  refine sW (.two rfl rfl rfl) rfl (ms_idx_str rfl Try.underlying9 (iR rfl) (iR rfl) (fun _ => ech1)) ?_
  refine sW (.two rfl rfl rfl) rfl (sp_gtr rfl (iR rfl) iL) ?_
  refine sW (.two rfl rfl rfl) rfl (sp_or rfl (iR rfl) (iR rfl)) ?_
  refine sW (.two rfl rfl rfl) rfl (sp_and rfl (iR rfl) (iR rfl)) ?_
  refine sV rfl rfl rfl (sp_or rfl (iR rfl) (iR rfl)) ?_
  refine sQ rfl (sp_and rfl iL (iR rfl)) ?_
  refine AOps.nil (hK10 _ ?_)
  refine AW.cond rfl (fun hc2 => ?_) (fun hc2 => ?_)
  ·have h5 := ite_t hc2 h4
   refine AW.seq_w fun K11 hK11 wK11 => ?_
   refine AW.weak (s' := ⟨[], [], (i3 0), 59⟩) (by exact Weak.cv trivial trivial nL) ?_
   refine AW.region ?_
   refine sQ rfl (sp_assign rfl iL) ?_
   refine AOps.nil (hK11 _ ?_)
   refine AW.ret ?_
   exact retf1 (P := Try.prog) (fun (r : Bool) => .r (.bool r)) (he1 _ (hx1 _ (Option.some.inj h5).symm)) iL (.t (.d rfl))
  ·have h5 := ite_f hc2 h4
   refine AW.skip ?_
   refine hK7 _ ?_
   refine AW.weak (s' := ⟨[(0, .r (.str s1)), (6, .r (.int .i64 (s1.length : Int))), (7, .r (.int .i64 x2))], [], (i3 0), 59⟩) (by exact Weak.cv ⟨jL, jL, jL, trivial⟩ trivial nL) ?_
   refine AW.region ?_
   refine ob1k h5 fun x4 ex4 h6 => ?_
   refine sQ rfl (ms_add rfl iL iL (fun _ => ex4)) ?_
   refine sM rfl rfl ?_
   refine AOps.nil ?_
   exact NextQ1.mk h6 (vec [(i3 0)]) ((by exact Weak.cv ⟨jL, jL, jL, trivial⟩ trivial nL))
 ·have h3 := ite_f hc1 h2
  refine AW.exit ?_
  exact wK2 _ _ ((by exact Weak.cv ⟨jL, trivial⟩ trivial nL)) (J1 _ (vec [(i3 0)]) (hx1 _ (Option.some.inj h3).symm))
set_option maxHeartbeats 4000000 in
set_option maxRecDepth 20000 in
theorem w_ref_Value {s1 : List UInt8} {r : Bool} (h : ref_Value s1 = some r) : ARO Try.prog 58 [.r (.str s1)] (.r (.bool r)) := by
 unfold ref_Value at h
 refine ARO.mkF Try.func58 rfl rfl Try.ntmps58 rfl (Nat.le_of_ble_eq_true rfl) fun n0 => ?_
 refine AW.seq_w fun K1 hK1 wK1 => ?_
 refine AW.region ?_
 refine sQ rfl (sp_assign rfl iL) ?_
 refine AOps.nil (hK1 _ ?_)
 refine AW.seq_w fun K2 hK2 wK2 => ?_
 refine AW.seq_w fun K3 hK3 wK3 => ?_
 refine AW.region ?_
 refine sM rfl rfl ?_
 refine sQ rfl (sp_len_str rfl Try.underlying9 iL) ?_
 refine sM rfl rfl ?_
 refine AOps.nil (hK3 _ ?_)
 refine AW.block ?_
 refine jc1k h fun o1 hit1 hk1 he1 => ?_
 have J1 : ∀ (u2 : Unit) (i5 : Nat → Nat), o1 = .nrm u2 → K2 ⟨[(0, .r (.str s1))], [], (i5 0), 28⟩ := by
  intro u2 i5 e
  have h1 := hk1 _ e
  refine hK2 _ ?_
  refine AW.seq_w fun K4 hK4 wK4 => ?_
  refine AW.region ?_
  refine sM rfl rfl ?_
  refine sQ rfl (sp_len_str rfl Try.underlying9 iL) ?_
  refine sQ rfl (sp_geq rfl iL iL) ?_
  refine sM rfl rfl ?_
  refine sV rfl rfl rfl (sp_move rfl iL) ?_
  refine sV rfl rfl rfl (sp_len_str rfl Try.underlying9 (iR rfl)) ?_
  refine sV rfl rfl rfl (sp_leq rfl (iR rfl) iL) ?_
  refine sQ rfl (sp_and rfl iL (iR rfl)) ?_
  refine sQ rfl (sp_assign rfl iL) ?_
  refine AOps.nil (hK4 _ ?_)
  refine AW.ret ?_
  exact retf1 (P := Try.prog) (fun (r : Bool) => .r (.bool r)) h1 iL (.t (.d rfl))
 refine AW.iter1 (fun (x2 : Int) i3 => ⟨[(0, .r (.str s1)), (5, .r (.int .i64 (s1.length : Int))), (6, .r (.int .i64 x2))], [], (i3 0), 28⟩) (vec [n0]) hit1 ((by exact Weak.cv ⟨jL, jL, jL, trivial⟩ trivial nL)) ?_
 intro x2 i3 v1 hv1 hx1
 have h2 : ref_Value_L1 s1 x2 = some v1 := hv1; unfold ref_Value_L1 at h2
 refine AW.seq_w fun K5 hK5 wK5 => ?_
 refine AW.region ?_
 refine sQ rfl (sp_lss rfl iL iL) ?_
 refine AOps.nil (hK5 _ ?_)
 refine AW.seq_w fun K6 hK6 wK6 => ?_
 refine AW.cond rfl (fun hc1 => ?_) (fun hc1 => ?_)
 ·have h3 := ite_t hc1 h2
  refine AW.skip ?_
  refine hK6 _ ?_
  refine AW.seq_w fun K7 hK7 wK7 => ?_
  refine AW.block ?_
  refine AW.seq_w fun K8 hK8 wK8 => ?_
  refine AW.region ?_
  refine sM rfl rfl ?_
  refine sQ rfl (sp_assign rfl iL) ?_
  refine AOps.nil (hK8 _ ?_)
  refine AW.seq_w fun K9 hK9 wK9 => ?_
  refine AW.region ?_
  refine sM rfl rfl ?_
  refine sM rfl rfl ?_
  refine ob1k h3 fun ch1 ech1 h4 => ?_
  refine sQ rfl (ms_idx_str rfl Try.underlying9 iL iL (fun _ => ech1)) ?_
  refine sQ rfl (sp_lss rfl iL iL) ?_
  refine sM rfl rfl ?_
  refine sV rfl rfl rfl (sp_move rfl iL) ?_
  refine sV rfl rfl rfl (sp_move rfl iL) ?_
  refine sV rfl rfl rfl (ms_idx_str rfl Try.underlying9 (iR rfl) (iR rfl) (fun _ => ech1)) ?_
  refine sV rfl rfl rfl (sp_gtr rfl (iR rfl) iL) ?_
  refine sQ rfl (sp_or rfl iL (iR rfl)) ?_
  refine AOps.nil (hK9 _ ?_)
  refine AW.cond rfl (fun hc2 => ?_) (fun hc2 => ?_)
  ·have h5 := ite_t hc2 h4
   refine AW.seq_w fun K10 hK10 wK10 => ?_
   refine AW.weak (s' := ⟨[], [], (i3 0), 28⟩) (by exact Weak.cv trivial trivial nL) ?_
   refine AW.region ?_
   refine sQ rfl (sp_assign rfl iL) ?_
   refine AOps.nil (hK10 _ ?_)
   refine AW.ret ?_
   exact retf1 (P := Try.prog) (fun (r : Bool) => .r (.bool r)) (he1 _ (hx1 _ (Option.some.inj h5).symm)) iL (.t (.d rfl))
  ·have h5 := ite_f hc2 h4
   refine AW.skip ?_
   refine hK7 _ ?_
   refine AW.weak (s' := ⟨[(0, .r (.str s1)), (5, .r (.int .i64 (s1.length : Int))), (6, .r (.int .i64 x2))], [], (i3 0), 28⟩) (by exact Weak.cv ⟨jL, jL, jL, trivial⟩ trivial nL) ?_
   refine AW.region ?_
   refine ob1k h5 fun x4 ex4 h6 => ?_
   refine sQ rfl (ms_add rfl iL iL (fun _ => ex4)) ?_
   refine sM rfl rfl ?_
   refine AOps.nil ?_
   exact NextQ1.mk h6 (vec [(i3 0)]) ((by exact Weak.cv ⟨jL, jL, jL, trivial⟩ trivial nL))
 ·have h3 := ite_f hc1 h2
  refine AW.exit ?_
  exact wK2 _ _ ((by exact Weak.cv ⟨jL, trivial⟩ trivial nL)) (J1 _ (vec [(i3 0)]) (hx1 _ (Option.some.inj h3).symm))
set_option maxHeartbeats 4000000 in
set_option maxRecDepth 20000 in
theorem w_ref_AttrsError {l1 : List GAttr} {change1 : Bool} {r : Int} (h : ref_AttrsError l1 change1 = some r) : ARO Try.prog 72 [.r (.sl (l1.map GAttr.row)), .r (.bool change1)] (.r (.int .i64 r)) := by
 unfold ref_AttrsError at h
 refine ARO.mkF Try.func72 rfl rfl Try.ntmps72 rfl (Nat.le_of_ble_eq_true rfl) fun n0 => ?_
 refine AW.seq_w fun K1 hK1 wK1 => ?_
 refine AW.region ?_
 refine sQ rfl (sp_assign rfl iL) ?_
 refine AOps.nil (hK1 _ ?_)
 refine AW.seq_w fun K2 hK2 wK2 => ?_
 refine AW.seq_w fun K3 hK3 wK3 => ?_
 refine AW.region ?_
 refine sM rfl rfl ?_
 refine sQ rfl (ms_len rfl tg_29.slice iL) ?_
 refine sM rfl rfl ?_
 refine AOps.nil (hK3 _ ?_)
 refine AW.block ?_
 refine jc1k h fun o1 hit1 hk1 he1 => ?_
 have J1 : ∀ (u2 : Unit) (i5 : Nat → Nat), o1 = .nrm u2 → K2 ⟨[], [], (i5 0), 54⟩ := by
  intro u2 i5 e
  have h1 := hk1 _ e
  refine hK2 _ ?_
  refine AW.seq_w fun K4 hK4 wK4 => ?_
  refine AW.region ?_
  refine sQ rfl (sp_assign rfl iL) ?_
  refine AOps.nil (hK4 _ ?_)
  refine AW.ret ?_
  exact retf1 (P := Try.prog) (fun (r : Int) => .r (.int .i64 r)) h1 iL (.t (.d rfl))
 refine AW.iter1 (fun (x2 : Int) i3 => ⟨[(0, .r (.sl (l1.map GAttr.row))), (1, .r (.bool change1)), (7, .r (.int .i64 (l1.length : Int))), (8, .r (.int .i64 x2))], [], (i3 0), 54⟩) (vec [n0]) hit1 ((by exact Weak.cv ⟨jL, jL, jL, jL, trivial⟩ trivial nL)) ?_
 intro x2 i3 v1 hv1 hx1
 have h2 : ref_AttrsError_L1 l1 change1 x2 = some v1 := hv1; unfold ref_AttrsError_L1 at h2
 refine AW.seq_w fun K5 hK5 wK5 => ?_
 refine AW.region ?_
 refine sQ rfl (sp_lss rfl iL iL) ?_
 refine AOps.nil (hK5 _ ?_)
 refine AW.seq_w fun K6 hK6 wK6 => ?_
 refine AW.cond rfl (fun hc1 => ?_) (fun hc1 => ?_)
 ·have h3 := ite_t hc1 h2
  refine AW.skip ?_
  refine hK6 _ ?_
  refine AW.seq_w fun K7 hK7 wK7 => ?_
  refine AW.block ?_
  refine AW.seq_w fun K8 hK8 wK8 => ?_
  refine AW.region ?_
  refine sM rfl rfl ?_
  refine sQ rfl (sp_assign rfl iL) ?_
  refine AOps.nil (hK8 _ ?_)
  refine AW.seq_w fun K9 hK9 wK9 => ?_
  refine AW.seq_w fun K10 hK10 wK10 => ?_
  refine AW.region ?_
  refine sM rfl rfl ?_
  refine sM rfl rfl ?_
  refine ob1k h3 fun x4 ex4 h4 => ?_
  refine sQ rfl (ms_idx rfl tg_29.slice iL iL (fun _ => rfl) (fun _ => ex4)) ?_
  refine sQ rfl (sp_fieldAddr_ro rfl tf_92_0 iL) ?_
  refine sQ rfl (ms_load (d := .str x4.Name) rfl ts_9 iL rfl) ?_
  refine ob1k h4 fun r1 er1 h5 => ?_
  refine AOps.step rfl rfl rfl (sp_call (r := .r (.bool r1)) (caps := []) (bs := [.r (.str x4.Name)]) rfl iL rfl ⟨⟨_, iL, .d rfl⟩, trivial⟩ (fun _ => w_ref_Name (er1)) rfl) ?_
  refine sQ rfl (sp_not rfl iL) ?_
  refine AOps.nil (hK10 _ ?_)
  refine AW.cond rfl (fun hc2 => ?_) (fun hc2 => ?_)
  ·have h6 := ite_t hc2 h5
   refine AW.seq_w fun K11 hK11 wK11 => ?_
   refine AW.weak (s' := ⟨[], [], (i3 0), 54⟩) (by exact Weak.cv trivial trivial nL) ?_
   refine AW.region ?_
   refine sQ rfl (sp_assign rfl iL) ?_
   refine AOps.nil (hK11 _ ?_)
   refine AW.ret ?_
   exact retf1 (P := Try.prog) (fun (r : Int) => .r (.int .i64 r)) (he1 _ (hx1 _ (Option.some.inj h6).symm)) iL (.t (.d rfl))
  ·have h6 := ite_f hc2 h5
   refine AW.skip ?_
   refine hK9 _ ?_
   refine AW.seq_w fun K12 hK12 wK12 => ?_
   refine AW.seq_w fun K13 hK13 wK13 => ?_
   refine AW.weak (s' := ⟨[(0, .r (.sl (l1.map GAttr.row))), (1, .r (.bool change1)), (5, .r (.int .i64 x2)), (7, .r (.int .i64 (l1.length : Int))), (8, .r (.int .i64 x2))], [], (i3 0), 54⟩) (by exact Weak.cv ⟨jL, jL, jL, jL, jL, trivial⟩ trivial nL) ?_
   refine AW.region ?_
   refine sM rfl rfl ?_
   refine sM rfl rfl ?_
   refine sQ rfl (ms_idx rfl tg_29.slice iL iL (fun _ => rfl) (fun _ => ex4)) ?_
   refine sQ rfl (sp_fieldAddr_ro rfl tf_92_1 iL) ?_
   refine sQ rfl (ms_load (d := .str x4.Value) rfl ts_9 iL rfl) ?_
   refine ob1k h6 fun r2 er2 h7 => ?_
   refine AOps.step rfl rfl rfl (sp_call (r := .r (.bool r2)) (caps := []) (bs := [.r (.str x4.Value)]) rfl iL rfl ⟨⟨_, iL, .d rfl⟩, trivial⟩ (fun _ => w_ref_Value (er2)) rfl) ?_
   refine sQ rfl (sp_not rfl iL) ?_
   refine sM rfl rfl ?_
   refine sV rfl rfl rfl (sp_move rfl iL) ?_
   refine sV rfl rfl rfl (sp_move rfl iL) ?_
   refine sV rfl rfl rfl (ms_idx rfl tg_29.slice (iR rfl) (iR rfl) (fun _ => rfl) (fun _ => ex4)) ?_
   refine sV rfl rfl rfl (sp_fieldAddr_ro rfl tf_92_1 (iR rfl)) ?_
   refine sV rfl rfl rfl (ms_load (d := .str x4.Value) rfl ts_9 (iR rfl) rfl) ?_
   refine sV rfl rfl rfl (sp_sneq rfl (iR rfl) iL) ?_
   refine sV rfl rfl rfl (sp_move rfl (iR rfl)) ?_
   refine sW (.two rfl rfl rfl) rfl (sp_move rfl iL) ?_
   refine sW (.two rfl rfl rfl) rfl (sp_not rfl (iR rfl)) ?_
   refine sV rfl rfl rfl (sp_or rfl (iR rfl) (iR rfl)) ?_
   refine sQ rfl (sp_and rfl iL (iR rfl)) ?_
   refine AOps.nil (hK13 _ ?_)
   refine AW.cond rfl (fun hc3 => ?_) (fun hc3 => ?_)
   ·have h8 := ite_t hc3 h7
    refine AW.seq_w fun K14 hK14 wK14 => ?_
    refine AW.weak (s' := ⟨[], [], (i3 0), 54⟩) (by exact Weak.cv trivial trivial nL) ?_
    refine AW.region ?_
    refine sQ rfl (sp_assign rfl iL) ?_
    refine AOps.nil (hK14 _ ?_)
    refine AW.ret ?_
    exact retf1 (P := Try.prog) (fun (r : Int) => .r (.int .i64 r)) (he1 _ (hx1 _ (Option.some.inj h8).symm)) iL (.t (.d rfl))
   ·have h8 := ite_f hc3 h7
    refine AW.skip ?_
    refine hK12 _ ?_
    refine AW.seq_w fun K15 hK15 wK15 => ?_
    refine AW.weak (s' := ⟨[(0, .r (.sl (l1.map GAttr.row))), (1, .r (.bool change1)), (5, .r (.int .i64 x2)), (7, .r (.int .i64 (l1.length : Int))), (8, .r (.int .i64 x2))], [], (i3 0), 54⟩) (by exact Weak.cv ⟨jL, jL, jL, jL, jL, trivial⟩ trivial nL) ?_
    refine AW.regionQ hmix (by kernel_rfl) ?_
    refine AQ.step rfl rfl rfl (sp_move rfl iL) ?_
    refine AQ.step rfl rfl rfl (sp_gtr rfl iL iL) ?_
    refine AQ.step rfl rfl rfl (sp_move rfl iL) ?_
    refine AQ.stepW (.one rfl rfl rfl) rfl rfl (sp_move rfl iL) ?_
    refine AQ.stepW (.one rfl rfl rfl) rfl rfl (sp_move rfl iL) ?_
    refine ob1k h8 fun x5 ex5 h9 => ?_
    refine AQ.stepW (.one rfl rfl rfl) rfl rfl (ms_sub rfl (iR rfl) iL (gdt ex5)) ?_
    refine ob1k h9 fun x6 ex6 h10 => ?_
    refine AQ.stepW (.one rfl rfl rfl) rfl rfl (ms_idx rfl tg_29.slice (iR rfl) (iR rfl) (fun _ => rfl) (gdt ex6)) ?_
    refine AQ.stepW (.one rfl rfl rfl) rfl rfl (sp_fieldAddr_ro rfl tf_92_0 (iR rfl)) ?_
    refine AQ.stepW (.one rfl rfl rfl) rfl rfl (ms_load (d := .str x6.Name) rfl ts_9 (iR rfl) rfl) ?_
    refine AQ.stepW (.one rfl rfl rfl) rfl rfl (sp_move rfl iL) ?_
    refine AQ.stepW (.one rfl rfl rfl) rfl rfl (sp_move rfl iL) ?_
    refine AQ.stepW (.one rfl rfl rfl) rfl rfl (ms_idx rfl tg_29.slice (iR rfl) (iR rfl) (fun _ => rfl) (fun _ => ex4)) ?_
    refine AQ.stepW (.one rfl rfl rfl) rfl rfl (sp_fieldAddr_ro rfl tf_92_0 (iR rfl)) ?_
    refine AQ.stepW (.one rfl rfl rfl) rfl rfl (ms_load (d := .str x4.Name) rfl ts_9 (iR rfl) rfl) ?_
    refine AQ.stepW (.one rfl rfl rfl) rfl rfl (sp_sgeq rfl (iR rfl) (iR rfl)) ?_
    refine AQ.step rfl rfl rfl (sp_and rfl iL (iR rfl)) ?_
    refine AQ.nil ?_
    refine hK15 _ ?_
    refine AW.cond rfl (fun hc4 => ?_) (fun hc4 => ?_)
    ·have h11 := ite_t hc4 h10
     refine AW.seq_w fun K16 hK16 wK16 => ?_
     refine AW.weak (s' := ⟨[], [], (i3 0), 54⟩) (by exact Weak.cv trivial trivial nL) ?_
     refine AW.region ?_
     refine sQ rfl (sp_assign rfl iL) ?_
     refine AOps.nil (hK16 _ ?_)
     refine AW.ret ?_
     exact retf1 (P := Try.prog) (fun (r : Int) => .r (.int .i64 r)) (he1 _ (hx1 _ (Option.some.inj h11).symm)) iL (.t (.d rfl))
    ·have h11 := ite_f hc4 h10
     refine AW.skip ?_
     refine hK7 _ ?_
     refine AW.region ?_
     refine ob1k h11 fun x7 ex7 h12 => ?_
     refine sQ rfl (ms_add rfl iL iL (fun _ => ex7)) ?_
     refine sM rfl rfl ?_
     refine AOps.nil ?_
     exact NextQ1.mk h12 (vec [(i3 0)]) ((by exact Weak.cv ⟨jL, jL, jL, jL, trivial⟩ trivial nL))
 ·have h3 := ite_f hc1 h2
  refine AW.exit ?_
  exact wK2 _ _ ((by exact Weak.cv trivial trivial nL)) (J1 _ (vec [(i3 0)]) (hx1 _ (Option.some.inj h3).symm))
set_option maxHeartbeats 4000000 in
set_option maxRecDepth 20000 in
theorem w_ref_ElemError {x1 : GElem} {r : Int} (h : ref_ElemError x1 = some r) : ARO Try.prog 46 [.agg [.r (.int .i64 x1.Char), .r (.int .i64 x1.Ref), .r (.sl (x1.Attrs.map GAttr.row))]] (.r (.int .i64 r)) := by
 unfold ref_ElemError at h
 refine ARO.mkF Try.func46 rfl rfl Try.ntmps46 rfl (Nat.le_of_ble_eq_true rfl) fun n0 => ?_
 refine AW.seq_w fun K1 hK1 wK1 => ?_
 refine AW.region ?_
 refine AOps.step rfl rfl rfl (ms_box (cs := [.r (.int .i64 x1.Char), .r (.int .i64 x1.Ref), .r (.sl (x1.Attrs.map GAttr.row))]) 1 rfl iL rfl rfl) ?_
 refine sQ rfl (sp_assign rfl iL) ?_
 refine AOps.nil (hK1 _ ?_)
 refine AW.seq_w fun K2 hK2 wK2 => ?_
 refine AW.seq_w fun K3 hK3 wK3 => ?_
 refine AW.region ?_
 refine sQ rfl (sp_fieldAddr_own (ob := .box _ _ _) rfl tf_82_0 iL fR rfl) ?_
 refine sQ rfl (ms_load_box (a := .r (.int .i64 x1.Char)) rfl ts_3 iL rfl rfl) ?_
 refine sQ rfl (sp_eql rfl iL iL) ?_
 refine sM rfl rfl ?_
 refine sV rfl rfl rfl (sp_fieldAddr_own (ob := .box _ _ _) rfl tf_82_1 iL fR rfl) ?_
 refine sV rfl rfl rfl (ms_load_box (a := .r (.int .i64 x1.Ref)) rfl ts_3 (iR rfl) rfl rfl) ?_
 refine sV rfl rfl rfl (sp_eql rfl (iR rfl) iL) ?_
 refine sQ rfl (sp_and rfl iL (iR rfl)) ?_
 refine sM rfl rfl ?_
 refine sV rfl rfl rfl (sp_fieldAddr_own (ob := .box _ _ _) rfl tf_82_0 iL fR rfl) ?_
 refine sV rfl rfl rfl (ms_load_box (a := .r (.int .i64 x1.Char)) rfl ts_3 (iR rfl) rfl rfl) ?_
 refine sV rfl rfl rfl (sp_neq rfl (iR rfl) iL) ?_
 refine sV rfl rfl rfl (sp_move rfl (iR rfl)) ?_
 refine sW (.two rfl rfl rfl) rfl (sp_fieldAddr_own (ob := .box _ _ _) rfl tf_82_1 iL fR rfl) ?_
 refine sW (.two rfl rfl rfl) rfl (ms_load_box (a := .r (.int .i64 x1.Ref)) rfl ts_3 (iR rfl) rfl rfl) ?_
 refine sW (.two rfl rfl rfl) rfl (sp_neq rfl (iR rfl) iL) ?_
 refine sV rfl rfl rfl (sp_and rfl (iR rfl) (iR rfl)) ?_
 refine sQ rfl (sp_or rfl iL (iR rfl)) ?_
 refine AOps.nil (hK3 _ ?_)
 refine AW.cond rfl (fun hc1 => ?_) (fun hc1 => ?_)
 ·have h1 := ite_t hc1 h
  refine AW.seq_w fun K4 hK4 wK4 => ?_
  refine AW.weak (s' := ⟨[], [], (n0 + 1), 44⟩) (by exact Weak.cv trivial trivial nL) ?_
  refine AW.region ?_
  refine sQ rfl (sp_assign rfl iL) ?_
  refine AOps.nil (hK4 _ ?_)
  refine AW.ret ?_
  exact retf1 (P := Try.prog) (fun (r : Int) => .r (.int .i64 r)) h1 iL (.t (.d rfl))
 ·have h1 := ite_f hc1 h
  refine AW.skip ?_
  refine hK2 _ ?_
  refine AW.seq_w fun K5 hK5 wK5 => ?_
  refine AW.seq_w fun K6 hK6 wK6 => ?_
  refine AW.weak (s' := ⟨[(1, .ptr 1 n0 0 0)], [(1, some (.box n0 82 [.r (.int .i64 x1.Char), .r (.int .i64 x1.Ref), .r (.sl (x1.Attrs.map GAttr.row))]))], (n0 + 1), 44⟩) (by exact Weak.cv ⟨jL, trivial⟩ ⟨.inl rfl, trivial⟩ nL) ?_
  refine AW.region ?_
  refine sQ rfl (sp_fieldAddr_own (ob := .box _ _ _) rfl tf_82_0 iL fR rfl) ?_
  refine sQ rfl (ms_load_box (a := .r (.int .i64 x1.Char)) rfl ts_3 iL rfl rfl) ?_
  refine sQ rfl (sp_neq rfl iL iL) ?_
  refine sM rfl rfl ?_
  refine sV rfl rfl rfl (sp_fieldAddr_own (ob := .box _ _ _) rfl tf_82_0 iL fR rfl) ?_
  refine sV rfl rfl rfl (ms_load_box (a := .r (.int .i64 x1.Char)) rfl ts_3 (iR rfl) rfl rfl) ?_
  refine ob1k h1 fun r1 er1 h2 => ?_
  refine AOps.stepW (.one rfl rfl rfl) rfl rfl (sp_call (r := .r (.bool r1)) (caps := []) (bs := [.r (.int .i64 x1.Char)]) rfl iL rfl ⟨⟨_, (iR rfl), .d rfl⟩, trivial⟩ (fun hg => w_ref_Char (gdt er1 hg)) rfl) ?_
  refine sV rfl rfl rfl (sp_not rfl (iR rfl)) ?_
  refine sQ rfl (sp_and rfl iL (iR rfl)) ?_
  refine sM rfl rfl ?_
  refine sV rfl rfl rfl (sp_fieldAddr_own (ob := .box _ _ _) rfl tf_82_1 iL fR rfl) ?_
  refine sV rfl rfl rfl (ms_load_box (a := .r (.int .i64 x1.Ref)) rfl ts_3 (iR rfl) rfl rfl) ?_
  refine sV rfl rfl rfl (sp_neq rfl (iR rfl) iL) ?_
  refine sV rfl rfl rfl (sp_move rfl (iR rfl)) ?_
  refine sW (.two rfl rfl rfl) rfl (sp_fieldAddr_own (ob := .box _ _ _) rfl tf_82_1 iL fR rfl) ?_
  refine sW (.two rfl rfl rfl) rfl (ms_load_box (a := .r (.int .i64 x1.Ref)) rfl ts_3 (iR rfl) rfl rfl) ?_
  refine ob1k h2 fun r2 er2 h3 => ?_
  refine AOps.stepW (.two rfl rfl rfl) rfl rfl (sp_call (r := .r (.bool r2)) (caps := []) (bs := [.r (.int .i64 x1.Ref), .r (.int .i64 1), .r (.int .i64 1073741824)]) rfl iL rfl ⟨⟨_, (iR rfl), .d rfl⟩, ⟨_, iL, .d rfl⟩, ⟨_, iL, .d rfl⟩, trivial⟩ (fun hg => w_ref_In (gdt er2 hg)) rfl) ?_
  refine sW (.two rfl rfl rfl) rfl (sp_not rfl (iR rfl)) ?_
  refine sV rfl rfl rfl (sp_and rfl (iR rfl) (iR rfl)) ?_
  refine sQ rfl (sp_or rfl iL (iR rfl)) ?_
  refine AOps.nil (hK6 _ ?_)
  refine AW.cond rfl (fun hc2 => ?_) (fun hc2 => ?_)
  ·have h4 := ite_t hc2 h3
   refine AW.seq_w fun K7 hK7 wK7 => ?_
   refine AW.weak (s' := ⟨[], [], (n0 + 1), 44⟩) (by exact Weak.cv trivial trivial nL) ?_
   refine AW.region ?_
   refine sQ rfl (sp_assign rfl iL) ?_
   refine AOps.nil (hK7 _ ?_)
   refine AW.ret ?_
   exact retf1 (P := Try.prog) (fun (r : Int) => .r (.int .i64 r)) h4 iL (.t (.d rfl))
  ·have h4 := ite_f hc2 h3
   refine AW.skip ?_
   refine hK5 _ ?_
   refine AW.seq_w fun K8 hK8 wK8 => ?_
   refine AW.weak (s' := ⟨[(1, .ptr 1 n0 0 0)], [(1, some (.box n0 82 [.r (.int .i64 x1.Char), .r (.int .i64 x1.Ref), .r (.sl (x1.Attrs.map GAttr.row))]))], (n0 + 1), 44⟩) (by exact Weak.cv ⟨jL, trivial⟩ ⟨.inl rfl, trivial⟩ nL) ?_
   refine AW.region ?_
   refine sQ rfl (sp_fieldAddr_own (ob := .box _ _ _) rfl tf_82_2 iL fR rfl) ?_
   refine sQ rfl (ms_load_box (a := .r (.sl (x1.Attrs.map GAttr.row))) rfl ts_29 iL rfl rfl) ?_
   refine ob1k h4 fun r3 er3 h5 => ?_
   refine AOps.step rfl rfl rfl (sp_call (r := .r (.int .i64 r3)) (caps := []) (bs := [.r (.sl (x1.Attrs.map GAttr.row)), .r (.bool false)]) rfl iL rfl ⟨⟨_, iL, .d rfl⟩, ⟨_, iL, .d rfl⟩, trivial⟩ (fun _ => w_ref_AttrsError (er3)) rfl) ?_
   refine sQ rfl (sp_assign rfl iL) ?_
   refine AOps.nil (hK8 _ ?_)
   refine AW.ret ?_
   exact retf1 (P := Try.prog) (fun (r : Int) => .r (.int .i64 r)) h5 iL (.t (.d rfl))
set_option maxHeartbeats 4000000 in
set_option maxRecDepth 20000 in
theorem w_ref_PartError {f1 : List GElem} {r : Int} (h : ref_PartError f1 = some r) : ARO Try.prog 13 [.r (.sl (f1.map GElem.row))] (.r (.int .i64 r)) := by
 unfold ref_PartError at h
 refine ARO.mkF Try.func13 rfl rfl Try.ntmps13 rfl (Nat.le_of_ble_eq_true rfl) fun n0 => ?_
 refine AW.seq_w fun K1 hK1 wK1 => ?_
 refine AW.region ?_
 refine sQ rfl (sp_assign rfl iL) ?_
 refine AOps.nil (hK1 _ ?_)
 refine AW.seq_w fun K2 hK2 wK2 => ?_
 refine AW.seq_w fun K3 hK3 wK3 => ?_
 refine AW.region ?_
 refine sM rfl rfl ?_
 refine sQ rfl (ms_len rfl tg_22.slice iL) ?_
 refine sM rfl rfl ?_
 refine AOps.nil (hK3 _ ?_)
 refine AW.block ?_
 refine jc1k h fun o1 hit1 hk1 he1 => ?_
 have J1 : ∀ (u2 : Unit) (i5 : Nat → Nat), o1 = .nrm u2 → K2 ⟨[], [], (i5 0), 19⟩ := by
  intro u2 i5 e
  have h1 := hk1 _ e
  refine hK2 _ ?_
  refine AW.seq_w fun K4 hK4 wK4 => ?_
  refine AW.region ?_
  refine sQ rfl (sp_assign rfl iL) ?_
  refine AOps.nil (hK4 _ ?_)
  refine AW.ret ?_
  exact retf1 (P := Try.prog) (fun (r : Int) => .r (.int .i64 r)) h1 iL (.t (.d rfl))
 refine AW.iter1 (fun (x2 : Int) i3 => ⟨[(0, .r (.sl (f1.map GElem.row))), (6, .r (.int .i64 (f1.length : Int))), (7, .r (.int .i64 x2))], [], (i3 0), 19⟩) (vec [n0]) hit1 ((by exact Weak.cv ⟨jL, jL, jL, trivial⟩ trivial nL)) ?_
 intro x2 i3 v1 hv1 hx1
 have h2 : ref_PartError_L1 f1 x2 = some v1 := hv1; unfold ref_PartError_L1 at h2
 refine AW.seq_w fun K5 hK5 wK5 => ?_
 refine AW.region ?_
 refine sQ rfl (sp_lss rfl iL iL) ?_
 refine AOps.nil (hK5 _ ?_)
 refine AW.seq_w fun K6 hK6 wK6 => ?_
 refine AW.cond rfl (fun hc1 => ?_) (fun hc1 => ?_)
 ·have h3 := ite_t hc1 h2
  refine AW.skip ?_
  refine hK6 _ ?_
  refine AW.seq_w fun K7 hK7 wK7 => ?_
  refine AW.block ?_
  refine AW.seq_w fun K8 hK8 wK8 => ?_
  refine AW.region ?_
  refine sM rfl rfl ?_
  refine sQ rfl (sp_assign rfl iL) ?_
  refine AOps.nil (hK8 _ ?_)
  refine AW.seq_w fun K9 hK9 wK9 => ?_
  refine AW.region ?_
  refine sM rfl rfl ?_
  refine sM rfl rfl ?_
  refine ob1k h3 fun x4 ex4 h4 => ?_
  refine sQ rfl (ms_idx rfl tg_22.slice iL iL (fun _ => rfl) (fun _ => ex4)) ?_
  refine sQ rfl (ms_loadA (cs := [.r (.int .i64 x4.Char), .r (.int .i64 x4.Ref), .r (.sl (x4.Attrs.map GAttr.row))]) rfl ta_82 iL rfl rfl) ?_
  refine ob1k h4 fun e1 ee1 h5 => ?_
  refine AOps.step rfl rfl rfl (sp_call (r := .r (.int .i64 e1)) (caps := []) (bs := [.agg [.r (.int .i64 x4.Char), .r (.int .i64 x4.Ref), .r (.sl (x4.Attrs.map GAttr.row))]]) rfl iL rfl ⟨⟨_, iL, .g (cs := [.int .i64 x4.Char, .int .i64 x4.Ref, .sl (x4.Attrs.map GAttr.row)]) rfl rfl⟩, trivial⟩ (fun _ => w_ref_ElemError (ee1)) rfl) ?_
  refine sQ rfl (sp_assign rfl iL) ?_
  refine AOps.nil (hK9 _ ?_)
  refine AW.seq_w fun K10 hK10 wK10 => ?_
  refine AW.region ?_
  refine sM rfl rfl ?_
  refine sQ rfl (sp_neq rfl iL iL) ?_
  refine AOps.nil (hK10 _ ?_)
  refine AW.cond rfl (fun hc2 => ?_) (fun hc2 => ?_)
  ·have h6 := ite_t hc2 h5
   refine AW.seq_w fun K11 hK11 wK11 => ?_
   refine AW.weak (s' := ⟨[(4, .r (.int .i64 e1))], [], (i3 0), 19⟩) (by exact Weak.cv ⟨jL, trivial⟩ trivial nL) ?_
   refine AW.region ?_
   refine sM rfl rfl ?_
   refine sQ rfl (sp_assign rfl iL) ?_
   refine AOps.nil (hK11 _ ?_)
   refine AW.ret ?_
   exact retf1 (P := Try.prog) (fun (r : Int) => .r (.int .i64 r)) (he1 _ (hx1 _ (Option.some.inj h6).symm)) iL (.t (.d rfl))
  ·have h6 := ite_f hc2 h5
   refine AW.skip ?_
   refine hK7 _ ?_
   refine AW.weak (s' := ⟨[(0, .r (.sl (f1.map GElem.row))), (6, .r (.int .i64 (f1.length : Int))), (7, .r (.int .i64 x2))], [], (i3 0), 19⟩) (by exact Weak.cv ⟨jL, jL, jL, trivial⟩ trivial nL) ?_
   refine AW.region ?_
   refine ob1k h6 fun x5 ex5 h7 => ?_
   refine sQ rfl (ms_add rfl iL iL (fun _ => ex5)) ?_
   refine sM rfl rfl ?_
   refine AOps.nil ?_
   exact NextQ1.mk h7 (vec [(i3 0)]) ((by exact Weak.cv ⟨jL, jL, jL, trivial⟩ trivial nL))
 ·have h3 := ite_f hc1 h2
  refine AW.exit ?_
  exact wK2 _ _ ((by exact Weak.cv trivial trivial nL)) (J1 _ (vec [(i3 0)]) (hx1 _ (Option.some.inj h3).symm))
set_option maxHeartbeats 4000000 in
set_option maxRecDepth 20000 in
theorem w_ref_Tied {a1 : List GElem} {b1 : List GElem} {r : Bool} (h : ref_Tied a1 b1 = some r) : ARO Try.prog 21 [.r (.sl (a1.map GElem.row)), .r (.sl (b1.map GElem.row))] (.r (.bool r)) := by
 unfold ref_Tied at h
 refine ARO.mkF Try.func21 rfl rfl Try.ntmps21 rfl (Nat.le_of_ble_eq_true rfl) fun n0 => ?_
 refine AW.seq_w fun K1 hK1 wK1 => ?_
 refine AW.region ?_
 refine sQ rfl (sp_assign rfl iL) ?_
 refine AOps.nil (hK1 _ ?_)
 refine AW.seq_w fun K2 hK2 wK2 => ?_
 refine AW.region ?_
 refine sM rfl rfl ?_
 refine sQ rfl (ms_len rfl tg_22.slice iL) ?_
 refine sQ rfl (sp_gtr rfl iL iL) ?_
 refine sM rfl rfl ?_
 refine sV rfl rfl rfl (sp_move rfl iL) ?_
 refine sV rfl rfl rfl (ms_len rfl tg_22.slice (iR rfl)) ?_
 refine sV rfl rfl rfl (sp_gtr rfl (iR rfl) iL) ?_
 refine sQ rfl (sp_and rfl iL (iR rfl)) ?_
 refine sM rfl rfl ?_
 refine sV rfl rfl rfl (sp_move rfl iL) ?_
 refine sV rfl rfl rfl (sp_move rfl iL) ?_
 refine sV rfl rfl rfl (ms_len rfl tg_22.slice (iR rfl)) ?_
 refine ob1k h fun x1 ex1 h1 => ?_
 refine sV rfl rfl rfl (ms_sub rfl (iR rfl) iL (gdt ex1)) ?_
 refine ob1k h1 fun x2 ex2 h2 => ?_
 refine sV rfl rfl rfl (ms_idx rfl tg_22.slice (iR rfl) (iR rfl) (fun _ => rfl) (gdt ex2)) ?_
 refine sV rfl rfl rfl (sp_fieldAddr_ro rfl tf_82_0 (iR rfl)) ?_
 refine sV rfl rfl rfl (ms_load (d := .int .i64 x2.Char) rfl ts_3 (iR rfl) rfl) ?_
 refine sV rfl rfl rfl (sp_eql rfl (iR rfl) iL) ?_
 refine sQ rfl (sp_and rfl iL (iR rfl)) ?_
 refine sM rfl rfl ?_
 refine sV rfl rfl rfl (sp_move rfl iL) ?_
 refine sV rfl rfl rfl (sp_move rfl iL) ?_
 refine sV rfl rfl rfl (ms_len rfl tg_22.slice (iR rfl)) ?_
 refine ob1k h2 fun x3 ex3 h3 => ?_
 refine sV rfl rfl rfl (ms_sub rfl (iR rfl) iL (gdt ex3)) ?_
 refine ob1k h3 fun x4 ex4 h4 => ?_
 refine sV rfl rfl rfl (ms_idx rfl tg_22.slice (iR rfl) (iR rfl) (fun _ => rfl) (gdt ex4)) ?_
 refine sV rfl rfl rfl (sp_fieldAddr_ro rfl tf_82_0 (iR rfl)) ?_
 refine sV rfl rfl rfl (ms_load (d := .int .i64 x4.Char) rfl ts_3 (iR rfl) rfl) ?_
 refine sV rfl rfl rfl (sp_eql rfl (iR rfl) iL) ?_
 refine sQ rfl (sp_and rfl iL (iR rfl)) ?_
 refine sQ rfl (sp_assign rfl iL) ?_
 refine AOps.nil (hK2 _ ?_)
 refine AW.ret ?_
 exact retf1 (P := Try.prog) (fun (r : Bool) => .r (.bool r)) h4 iL (.t (.d rfl))
set_option maxHeartbeats 4000000 in
set_option maxRecDepth 20000 in
theorem w_ref_DiffCost_B {self : (List GElem) → (List GElem) → Bool → Option Int} (hself : ∀ {a1 : List GElem} {b1 : List GElem} {tied1 : Bool} {r : Int}, self a1 b1 tied1 = some r → ARO Try.prog 20 [.r (.sl (a1.map GElem.row)), .r (.sl (b1.map GElem.row)), .r (.bool tied1)] (.r (.int .i64 r))) {a1 : List GElem} {b1 : List GElem} {tied1 : Bool} {r : Int} (h : ref_DiffCost_B self a1 b1 tied1 = some r) : ARO Try.prog 20 [.r (.sl (a1.map GElem.row)), .r (.sl (b1.map GElem.row)), .r (.bool tied1)] (.r (.int .i64 r)) := by
 unfold ref_DiffCost_B at h
 refine ARO.mkF Try.func20 rfl rfl Try.ntmps20 rfl (Nat.le_of_ble_eq_true rfl) fun n0 => ?_
 refine AW.seq_w fun K1 hK1 wK1 => ?_
 refine AW.region ?_
 refine sQ rfl (sp_assign rfl iL) ?_
 refine AOps.nil (hK1 _ ?_)
 refine AW.seq_w fun K2 hK2 wK2 => ?_
 refine AW.seq_w fun K3 hK3 wK3 => ?_
 refine AW.region ?_
 refine sM rfl rfl ?_
 refine AOps.nil (hK3 _ ?_)
 refine AW.cond rfl (fun hc1 => ?_) (fun hc1 => ?_)
 ·have h1 := ite_t hc1 h
  refine AW.seq_w fun K4 hK4 wK4 => ?_
  refine AW.region ?_
  refine sQ rfl (sp_assign rfl iL) ?_
  refine AOps.nil (hK4 _ ?_)
  refine AW.seq_w fun K5 hK5 wK5 => ?_
  refine AW.seq_w fun K6 hK6 wK6 => ?_
  refine AW.regionQ hmix (by kernel_rfl) ?_
  refine AQ.step rfl rfl rfl (sp_move rfl iL) ?_
  refine AQ.step rfl rfl rfl (sp_move rfl iL) ?_
  refine AQ.step rfl rfl rfl (ms_len rfl tg_22.slice iL) ?_
  refine ob1k h1 fun x1 ex1 h2 => ?_
  refine AQ.step rfl rfl rfl (ms_sub rfl iL iL (fun _ => ex1)) ?_
  refine ob1k h2 fun x2 ex2 h3 => ?_
  refine AQ.step rfl rfl rfl (ms_idx rfl tg_22.slice iL iL (fun _ => rfl) (fun _ => ex2)) ?_
  refine AQ.step rfl rfl rfl (sp_fieldAddr_ro rfl tf_82_2 iL) ?_
  refine AQ.step rfl rfl rfl (ms_load (d := .sl (x2.Attrs.map GAttr.row)) rfl ts_29 iL rfl) ?_
  refine AQ.step rfl rfl rfl (sp_move rfl iL) ?_
  refine AQ.step rfl rfl rfl (sp_move rfl iL) ?_
  refine AQ.step rfl rfl rfl (ms_len rfl tg_22.slice iL) ?_
  refine ob1k h3 fun x3 ex3 h4 => ?_
  refine AQ.step rfl rfl rfl (ms_sub rfl iL iL (fun _ => ex3)) ?_
  refine ob1k h4 fun x4 ex4 h5 => ?_
  refine AQ.step rfl rfl rfl (ms_idx rfl tg_22.slice iL iL (fun _ => rfl) (fun _ => ex4)) ?_
  refine AQ.step rfl rfl rfl (sp_fieldAddr_ro rfl tf_82_2 iL) ?_
  refine AQ.step rfl rfl rfl (ms_load (d := .sl (x4.Attrs.map GAttr.row)) rfl ts_29 iL rfl) ?_
  refine ob1k h5 fun r1 er1 h6 => ?_
  refine AQ.stepC rfl rfl rfl (r := .r (.bool r1)) (caps := []) (bs := [.r (.sl (x2.Attrs.map GAttr.row)), .r (.sl (x4.Attrs.map GAttr.row))]) rfl iL rfl ⟨⟨_, iL, .d rfl⟩, ⟨_, iL, .d rfl⟩, trivial⟩ (fun _ => w_ref_SameAttrs (er1)) rfl ?_
  refine AQ.step rfl rfl rfl (sp_not rfl iL) ?_
  refine AQ.nil ?_
  refine hK6 _ ?_
  refine jb1k h6 fun p1 hp1 hk1 => ?_
  have J1 : ∀ (n1 : Int) (i1 : Nat → Nat), p1 = n1 → K5 ⟨[(0, .r (.sl (a1.map GElem.row))), (1, .r (.sl (b1.map GElem.row))), (7, .r (.int .i64 n1))], [], (i1 0), 140⟩ := by
   intro n1 i1 e
   have h7 := hk1 _ e
   refine hK5 _ ?_
   refine AW.seq_w fun K7 hK7 wK7 => ?_
   refine AW.regionQ hmix (by kernel_rfl) ?_
   refine AQ.step rfl rfl rfl (sp_move rfl iL) ?_
   refine AQ.step rfl rfl rfl (sp_move rfl iL) ?_
   refine AQ.step rfl rfl rfl (sp_move rfl iL) ?_
   refine AQ.step rfl rfl rfl (ms_len rfl tg_22.slice iL) ?_
   refine AQ.step rfl rfl rfl (ms_sub rfl iL iL (fun _ => ex1)) ?_
   refine ob1k h7 fun l1 el1 h8 => ?_
   refine AQ.step rfl rfl rfl (ms_slice rfl tg_22.slice iL (by exact rfl) (by exact ⟨_, iL⟩) (fun _ => rfl) (fun _ => el1)) ?_
   refine AQ.step rfl rfl rfl (sp_move rfl iL) ?_
   refine AQ.step rfl rfl rfl (sp_move rfl iL) ?_
   refine AQ.step rfl rfl rfl (ms_len rfl tg_22.slice iL) ?_
   refine AQ.step rfl rfl rfl (ms_sub rfl iL iL (fun _ => ex3)) ?_
   refine ob1k h8 fun l2 el2 h9 => ?_
   refine AQ.step rfl rfl rfl (ms_slice rfl tg_22.slice iL (by exact rfl) (by exact ⟨_, iL⟩) (fun _ => rfl) (fun _ => el2)) ?_
   refine ob1k h9 fun r2 er2 h10 => ?_
   refine AQ.stepC rfl rfl rfl (r := .r (.int .i64 r2)) (caps := []) (bs := [.r (.sl (l1.map GElem.row)), .r (.sl (l2.map GElem.row)), .r (.bool false)]) rfl iL rfl ⟨⟨_, iL, .d rfl⟩, ⟨_, iL, .d rfl⟩, ⟨_, iL, .d rfl⟩, trivial⟩ (fun _ => hself (er2)) rfl ?_
   refine ob1k h10 fun x5 ex5 h11 => ?_
   refine AQ.step rfl rfl rfl (ms_add rfl iL iL (fun _ => ex5)) ?_
   refine AQ.step rfl rfl rfl (sp_assign rfl iL) ?_
   refine AQ.nil ?_
   refine hK7 _ ?_
   refine AW.ret ?_
   exact retf1 (P := Try.prog) (fun (r : Int) => .r (.int .i64 r)) h11 iL (.t (.d rfl))
  refine AW.cond rfl (fun hc2 => ?_) (fun hc2 => ?_)
  ·have h12 := ite_t hc2 hp1
   refine AW.weak (s' := ⟨[(0, .r (.sl (a1.map GElem.row))), (1, .r (.sl (b1.map GElem.row)))], [], n0, 140⟩) (by exact Weak.cv ⟨jL, jL, trivial⟩ trivial nL) ?_
   refine AW.region ?_
   refine sQ rfl (sp_assign rfl iL) ?_
   refine AOps.nil ?_
   exact wK5 _ _ ((by exact Weak.cv ⟨jL, jL, jL, trivial⟩ trivial nL)) (J1 _ (vec [n0]) (Option.some.inj h12).symm)
  ·have h12 := ite_f hc2 hp1
   refine AW.skip ?_
   exact wK5 _ _ ((by exact Weak.cv ⟨jL, jL, jL, trivial⟩ trivial nL)) (J1 _ (vec [n0]) (Option.some.inj h12).symm)
 ·have h1 := ite_f hc1 h
  refine AW.skip ?_
  refine hK2 _ ?_
  refine AW.seq_w fun K8 hK8 wK8 => ?_
  refine AW.region ?_
  refine sM rfl rfl ?_
  refine sQ rfl (ms_len rfl tg_22.slice iL) ?_
  refine ob1k h1 fun x6 ex6 h13 => ?_
  refine sQ rfl (ms_add rfl iL iL (fun _ => ex6)) ?_
  refine ob1k h13 fun line1 eline1 h14 => ?_
  refine AOps.step rfl rfl rfl (ms_mk 48 rfl tg_87 (f := (rInt .i64)) (z0 := 0) tr_3 iL iL eline1) ?_
  refine sQ rfl (sp_assign rfl iL) ?_
  refine AOps.nil (hK8 _ ?_)
  refine AW.seq_w fun K9 hK9 wK9 => ?_
  refine AW.seq_w fun K10 hK10 wK10 => ?_
  refine AW.region ?_
  refine sM rfl rfl ?_
  refine sQ rfl (ms_len_own rfl tg_87.slice iL rfl) ?_
  refine sM rfl rfl ?_
  refine AOps.nil (hK10 _ ?_)
  refine AW.block ?_
  refine jb1k h14 fun o1 hit1 hk2 => ?_
  have J2 : ∀ (line5 : List Int) (i6 : Nat → Nat), o1 = line5 → K9 ⟨[(0, .r (.sl (a1.map GElem.row))), (1, .r (.sl (b1.map GElem.row))), (8, .own 48 (i6 0))], [(48, some (.arr (i6 0) 3 1 (line5.map (rInt .i64))))], (i6 1), 140⟩ := by
   intro line5 i6 e
   have h15 := hk2 _ e
   refine hK9 _ ?_
   refine AW.seq_w fun K11 hK11 wK11 => ?_
   refine AW.seq_w fun K12 hK12 wK12 => ?_
   refine AW.region ?_
   refine sM rfl rfl ?_
   refine sQ rfl (ms_len rfl tg_22.slice iL) ?_
   refine sM rfl rfl ?_
   refine AOps.nil (hK12 _ ?_)
   refine AW.block ?_
   refine jb1k h15 fun o2 hit2 hk3 => ?_
   have J3 : ∀ (line9 : List Int) (i11 : Nat → Nat), o2 = line9 → K11 ⟨[(1, .r (.sl (b1.map GElem.row))), (8, .r (.sl (line9.map (rInt .i64))))], [], (i11 0), 140⟩ := by
    intro line9 i11 e
    have h16 := hk3 _ e
    refine hK11 _ ?_
    refine AW.seq_w fun K13 hK13 wK13 => ?_
    refine AW.region ?_
    refine sM rfl rfl ?_
    refine sM rfl rfl ?_
    refine sQ rfl (ms_len rfl tg_22.slice iL) ?_
    refine ob1k h16 fun x13 ex13 h17 => ?_
    refine sQ rfl (ms_idx rfl tg_87.slice iL iL (fun _ => rfl) (fun _ => ex13)) ?_
    refine sQ rfl (ms_load (d := .int .i64 x13) rfl ts_3 iL rfl) ?_
    refine sQ rfl (sp_assign rfl iL) ?_
    refine AOps.nil (hK13 _ ?_)
    refine AW.ret ?_
    exact retf1 (P := Try.prog) (fun (r : Int) => .r (.int .i64 r)) h17 iL (.t (.d rfl))
   refine AW.iter2 (fun (line7 : List Int) (x11 : Int) i9 => ⟨[(0, .r (.sl (a1.map GElem.row))), (1, .r (.sl (b1.map GElem.row))), (8, .r (.sl (line7.map (rInt .i64)))), (60, .r (.int .i64 (a1.length : Int))), (61, .r (.int .i64 x11))], [], (i9 0), 140⟩) (vec [(i6 1)]) hit2 (Weak.trans (by exact Weak.frz (e' := [(0, .r (.sl (a1.map GElem.row))), (1, .r (.sl (b1.map GElem.row))), (8, .r (.sl (line5.map (rInt .i64)))), (59, .r (.sl (a1.map GElem.row))), (60, .r (.int .i64 (a1.length : Int))), (61, .r (.int .i64 0))]) (h' := []) 48 rfl ⟨jL, jL, .inl (.inr (.inr ⟨rfl, rfl⟩)), jL, jL, jL, trivial⟩ trivial) (by exact Weak.cv ⟨jL, jL, jL, jL, jL, trivial⟩ trivial nL)) ?_
   intro line7 x11 i9 v1 hv1 hx2
   have h18 : ref_DiffCost_L2 a1 b1 line7 x11 = some v1 := hv1; unfold ref_DiffCost_L2 at h18
   refine AW.seq_w fun K14 hK14 wK14 => ?_
   refine AW.region ?_
   refine sQ rfl (sp_lss rfl iL iL) ?_
   refine AOps.nil (hK14 _ ?_)
   refine AW.seq_w fun K15 hK15 wK15 => ?_
   refine AW.cond rfl (fun hc3 => ?_) (fun hc3 => ?_)
   ·have h19 := ite_t hc3 h18
    refine AW.skip ?_
    refine hK15 _ ?_
    refine AW.seq_w fun K16 hK16 wK16 => ?_
    refine AW.block ?_
    refine AW.seq_w fun K17 hK17 wK17 => ?_
    refine AW.region ?_
    refine sM rfl rfl ?_
    refine sQ rfl (sp_assign rfl iL) ?_
    refine AOps.nil (hK17 _ ?_)
    refine AW.seq_w fun K18 hK18 wK18 => ?_
    refine AW.region ?_
    refine sM rfl rfl ?_
    refine ob1k h19 fun x14 ex14 h20 => ?_
    refine sQ rfl (ms_add rfl iL iL (fun _ => ex14)) ?_
    refine AOps.step rfl rfl rfl (ms_lit 66 rfl tg_87 (f := (rInt .i64)) (l := ([x14] : List Int)) ⟨rfl, ⟨_, iL, rfl⟩, trivial⟩ rfl (fun _ => rfl) rfl) ?_
    refine sQ rfl (sp_assign rfl iL) ?_
    refine AOps.nil (hK18 _ ?_)
    refine AW.seq_w fun K19 hK19 wK19 => ?_
    refine AW.seq_w fun K20 hK20 wK20 => ?_
    refine AW.region ?_
    refine sM rfl rfl ?_
    refine sQ rfl (ms_len rfl tg_22.slice iL) ?_
    refine sM rfl rfl ?_
    refine AOps.nil (hK20 _ ?_)
    refine AW.block ?_
    refine jb1k h20 fun o3 hit3 hk4 => ?_
    have J4 : ∀ (next4 : List Int) (i16 : Nat → Nat), o3 = next4 → K19 ⟨[(0, .r (.sl (a1.map GElem.row))), (1, .r (.sl (b1.map GElem.row))), (11, .own 66 (i16 0)), (60, .r (.int .i64 (a1.length : Int))), (61, .r (.int .i64 x11))], [(66, some (.arr (i16 0) 3 1 (next4.map (rInt .i64))))], (i16 1), 140⟩ := by
     intro next4 i16 e
     have h21 := hk4 _ e
     refine hK19 _ ?_
     refine AW.region ?_
     refine sM rfl rfl ?_
     refine sQ rfl (sp_assign rfl iL) ?_
     refine AOps.nil (hK16 _ ?_)
     refine AW.region ?_
     refine sQ rfl (ms_add rfl iL iL (fun _ => ex14)) ?_
     refine sM rfl rfl ?_
     refine AOps.nil ?_
     exact NextQ2.mk h21 (vec [(i16 1)]) (Weak.trans (by exact Weak.frz (e' := [(0, .r (.sl (a1.map GElem.row))), (1, .r (.sl (b1.map GElem.row))), (8, .r (.sl (next4.map (rInt .i64)))), (11, .r (.sl (next4.map (rInt .i64)))), (60, .r (.int .i64 (a1.length : Int))), (61, .r (.int .i64 x14)), (133, .r (.sl (next4.map (rInt .i64)))), (134, .r (.int .i64 x14))]) (h' := []) 66 rfl ⟨jL, jL, .inl (.inr (.inr ⟨rfl, rfl⟩)), .inl (.inr (.inr ⟨rfl, rfl⟩)), jL, jL, .inl (.inr (.inr ⟨rfl, rfl⟩)), jL, trivial⟩ trivial) (by exact Weak.cv ⟨jL, jL, jL, jL, jL, trivial⟩ trivial nL))
    refine AW.iter2 (fun (x16 : Int) (next2 : List Int) i14 => ⟨[(0, .r (.sl (a1.map GElem.row))), (1, .r (.sl (b1.map GElem.row))), (8, .r (.sl (line7.map (rInt .i64)))), (10, .r (.int .i64 x11)), (11, .own 66 (i14 0)), (60, .r (.int .i64 (a1.length : Int))), (61, .r (.int .i64 x11)), (68, .r (.int .i64 (b1.length : Int))), (69, .r (.int .i64 x16))], [(66, some (.arr (i14 0) 3 1 (next2.map (rInt .i64))))], (i14 1), 140⟩) (vec [(i9 0), ((i9 0) + 1)]) hit3 ((by exact Weak.cv ⟨jL, jL, jL, jL, jL, jL, jL, jL, jL, trivial⟩ ⟨.inl rfl, trivial⟩ nL)) ?_
    intro x16 next2 i14 v2 hv2 hx3
    have h22 : ref_DiffCost_L3 a1 b1 line7 x11 x16 next2 = some v2 := hv2; unfold ref_DiffCost_L3 at h22
    refine AW.seq_w fun K21 hK21 wK21 => ?_
    refine AW.region ?_
    refine sQ rfl (sp_lss rfl iL iL) ?_
    refine AOps.nil (hK21 _ ?_)
    refine AW.seq_w fun K22 hK22 wK22 => ?_
    refine AW.cond rfl (fun hc4 => ?_) (fun hc4 => ?_)
    ·have h23 := ite_t hc4 h22
     refine AW.skip ?_
     refine hK22 _ ?_
     refine AW.seq_w fun K23 hK23 wK23 => ?_
     refine AW.block ?_
     refine AW.seq_w fun K24 hK24 wK24 => ?_
     refine AW.region ?_
     refine sM rfl rfl ?_
     refine sQ rfl (sp_assign rfl iL) ?_
     refine AOps.nil (hK24 _ ?_)
     refine AW.seq_w fun K25 hK25 wK25 => ?_
     refine AW.regionQ hmix (by kernel_rfl) ?_
     refine AQ.step rfl rfl rfl (sp_move rfl iL) ?_
     refine AQ.step rfl rfl rfl (sp_move rfl iL) ?_
     refine ob1k h23 fun x18 ex18 h24 => ?_
     refine AQ.step rfl rfl rfl (ms_add rfl iL iL (fun _ => ex18)) ?_
     refine ob1k h24 fun x19 ex19 h25 => ?_
     refine AQ.step rfl rfl rfl (ms_idx rfl tg_87.slice iL iL (fun _ => rfl) (fun _ => ex19)) ?_
     refine AQ.step rfl rfl rfl (ms_load (d := .int .i64 x19) rfl ts_3 iL rfl) ?_
     refine AQ.step rfl rfl rfl (sp_move rfl iL) ?_
     refine AQ.step rfl rfl rfl (sp_move rfl iL) ?_
     refine ob1k h25 fun x20 ex20 h26 => ?_
     refine AQ.step rfl rfl rfl (ms_idx_own rfl tg_87.slice iL rfl iL (fun _ => ex20)) ?_
     refine AQ.step rfl rfl rfl (ms_load_own (d := .int .i64 x20) rfl ts_3 iL fR (fun _ => ex20) rfl) ?_
     refine AQ.step rfl rfl rfl (sp_min rfl iL iL) ?_
     refine ob1k h26 fun n2 en2 h27 => ?_
     refine AQ.step rfl rfl rfl (ms_add rfl iL iL (fun _ => en2)) ?_
     refine AQ.step rfl rfl rfl (sp_assign rfl iL) ?_
     refine AQ.nil ?_
     refine hK25 _ ?_
     refine AW.seq_w fun K26 hK26 wK26 => ?_
     refine AW.seq_w fun K27 hK27 wK27 => ?_
     refine AW.weak (s' := ⟨[(0, .r (.sl (a1.map GElem.row))), (1, .r (.sl (b1.map GElem.row))), (8, .r (.sl (line7.map (rInt .i64)))), (10, .r (.int .i64 x11)), (11, .own 66 (i14 0)), (12, .r (.int .i64 x16)), (13, .r (.int .i64 n2)), (60, .r (.int .i64 (a1.length : Int))), (61, .r (.int .i64 x11)), (68, .r (.int .i64 (b1.length : Int))), (69, .r (.int .i64 x16))], [(66, some (.arr (i14 0) 3 1 (next2.map (rInt .i64))))], (i14 1), 140⟩) (by exact Weak.cv ⟨jL, jL, jL, jL, jL, jL, jL, jL, jL, jL, jL, trivial⟩ ⟨.inl rfl, trivial⟩ nL) ?_
     refine AW.regionQ hmix (by kernel_rfl) ?_
     refine AQ.step rfl rfl rfl (sp_move rfl iL) ?_
     refine AQ.step rfl rfl rfl (sp_move rfl iL) ?_
     refine ob1k h27 fun x21 ex21 h28 => ?_
     refine AQ.step rfl rfl rfl (ms_idx rfl tg_22.slice iL iL (fun _ => rfl) (fun _ => ex21)) ?_
     refine AQ.step rfl rfl rfl (sp_fieldAddr_ro rfl tf_82_0 iL) ?_
     refine AQ.step rfl rfl rfl (ms_load (d := .int .i64 x21.Char) rfl ts_3 iL rfl) ?_
     refine AQ.step rfl rfl rfl (sp_move rfl iL) ?_
     refine AQ.step rfl rfl rfl (sp_move rfl iL) ?_
     refine ob1k h28 fun x22 ex22 h29 => ?_
     refine AQ.step rfl rfl rfl (ms_idx rfl tg_22.slice iL iL (fun _ => rfl) (fun _ => ex22)) ?_
     refine AQ.step rfl rfl rfl (sp_fieldAddr_ro rfl tf_82_0 iL) ?_
     refine AQ.step rfl rfl rfl (ms_load (d := .int .i64 x22.Char) rfl ts_3 iL rfl) ?_
     refine AQ.step rfl rfl rfl (sp_eql rfl iL iL) ?_
     refine AQ.step rfl rfl rfl (sp_move rfl iL) ?_
     refine AQ.stepW (.one rfl rfl rfl) rfl rfl (sp_move rfl iL) ?_
     refine AQ.stepW (.one rfl rfl rfl) rfl rfl (sp_move rfl iL) ?_
     refine AQ.stepW (.one rfl rfl rfl) rfl rfl (ms_idx rfl tg_22.slice (iR rfl) (iR rfl) (fun _ => rfl) (fun _ => ex21)) ?_
     refine AQ.stepW (.one rfl rfl rfl) rfl rfl (sp_fieldAddr_ro rfl tf_82_1 (iR rfl)) ?_
     refine AQ.stepW (.one rfl rfl rfl) rfl rfl (ms_load (d := .int .i64 x21.Ref) rfl ts_3 (iR rfl) rfl) ?_
     refine AQ.stepW (.one rfl rfl rfl) rfl rfl (sp_move rfl iL) ?_
     refine AQ.stepW (.one rfl rfl rfl) rfl rfl (sp_move rfl iL) ?_
     refine AQ.stepW (.one rfl rfl rfl) rfl rfl (ms_idx rfl tg_22.slice (iR rfl) (iR rfl) (fun _ => rfl) (fun _ => ex22)) ?_
     refine AQ.stepW (.one rfl rfl rfl) rfl rfl (sp_fieldAddr_ro rfl tf_82_1 (iR rfl)) ?_
     refine AQ.stepW (.one rfl rfl rfl) rfl rfl (ms_load (d := .int .i64 x22.Ref) rfl ts_3 (iR rfl) rfl) ?_
     refine AQ.stepW (.one rfl rfl rfl) rfl rfl (sp_eql rfl (iR rfl) (iR rfl)) ?_
     refine AQ.step rfl rfl rfl (sp_and rfl iL (iR rfl)) ?_
     refine AQ.nil ?_
     refine hK27 _ ?_
     refine jb1k h29 fun p2 hp2 hk5 => ?_
     have J5 : ∀ (n3 : Int) (i17 : Nat → Nat), p2 = n3 → K26 ⟨[(0, .r (.sl (a1.map GElem.row))), (1, .r (.sl (b1.map GElem.row))), (8, .r (.sl (line7.map (rInt .i64)))), (10, .r (.int .i64 x11)), (11, .own 66 (i14 0)), (13, .r (.int .i64 n3)), (60, .r (.int .i64 (a1.length : Int))), (61, .r (.int .i64 x11)), (68, .r (.int .i64 (b1.length : Int))), (69, .r (.int .i64 x16))], [(66, some (.arr (i14 0) 3 1 (next2.map (rInt .i64))))], (i17 0), 140⟩ := by
      intro n3 i17 e
      have h30 := hk5 _ e
      refine hK26 _ ?_
      refine AW.region ?_
      refine sM rfl rfl ?_
      refine sM rfl rfl ?_
      refine AOps.step rfl rfl rfl (ms_lit 130 rfl tg_87 (f := (rInt .i64)) (l := ([n3] : List Int)) ⟨rfl, ⟨_, iL, rfl⟩, trivial⟩ rfl (fun _ => rfl) rfl) ?_
      refine ob1k h30 fun next5 enext5 h31 => ?_
      refine AOps.step rfl rfl rfl (ms_app rfl tg_87 iL rfl (.inr (.inl ⟨_, _, iL, rfl⟩)) enext5) ?_
      refine sQ rfl (sp_assign rfl iL) ?_
      refine AOps.nil (hK23 _ ?_)
      refine AW.region ?_
      refine sQ rfl (ms_add rfl iL iL (fun _ => ex18)) ?_
      refine sM rfl rfl ?_
      refine AOps.nil ?_
      exact NextQ2.mk h31 (vec [((i17 0) + 1), ((i17 0) + 2)]) ((by exact Weak.cv ⟨jL, jL, jL, jL, jL, jL, jL, jL, jL, trivial⟩ ⟨.inl rfl, trivial⟩ nL))
     refine AW.cond rfl (fun hc5 => ?_) (fun hc5 => ?_)
     ·have h32 := ite_t hc5 hp2
      refine AW.seq_w fun K28 hK28 wK28 => ?_
      refine AW.weak (s' := ⟨[(0, .r (.sl (a1.map GElem.row))), (1, .r (.sl (b1.map GElem.row))), (8, .r (.sl (line7.map (rInt .i64)))), (10, .r (.int .i64 x11)), (11, .own 66 (i14 0)), (12, .r (.int .i64 x16)), (13, .r (.int .i64 n2)), (60, .r (.int .i64 (a1.length : Int))), (61, .r (.int .i64 x11)), (68, .r (.int .i64 (b1.length : Int))), (69, .r (.int .i64 x16))], [(66, some (.arr (i14 0) 3 1 (next2.map (rInt .i64))))], (i14 1), 140⟩) (by exact Weak.cv ⟨jL, jL, jL, jL, jL, jL, jL, jL, jL, jL, jL, trivial⟩ ⟨.inl rfl, trivial⟩ nL) ?_
      refine AW.region ?_
      refine sM rfl rfl ?_
      refine sM rfl rfl ?_
      refine ob1k h32 fun x23 ex23 h33 => ?_
      refine sQ rfl (ms_idx rfl tg_87.slice iL iL (fun _ => rfl) (fun _ => ex23)) ?_
      refine sQ rfl (ms_load (d := .int .i64 x23) rfl ts_3 iL rfl) ?_
      refine sQ rfl (sp_assign rfl iL) ?_
      refine AOps.nil (hK28 _ ?_)
      refine AW.seq_w fun K29 hK29 wK29 => ?_
      refine AW.seq_w fun K30 hK30 wK30 => ?_
      refine AW.regionQ hmix (by kernel_rfl) ?_
      refine AQ.step rfl rfl rfl (sp_move rfl iL) ?_
      refine AQ.step rfl rfl rfl (sp_move rfl iL) ?_
      refine AQ.step rfl rfl rfl (ms_idx rfl tg_22.slice iL iL (fun _ => rfl) (fun _ => ex21)) ?_
      refine AQ.step rfl rfl rfl (sp_fieldAddr_ro rfl tf_82_2 iL) ?_
      refine AQ.step rfl rfl rfl (ms_load (d := .sl (x21.Attrs.map GAttr.row)) rfl ts_29 iL rfl) ?_
      refine AQ.step rfl rfl rfl (sp_move rfl iL) ?_
      refine AQ.step rfl rfl rfl (sp_move rfl iL) ?_
      refine AQ.step rfl rfl rfl (ms_idx rfl tg_22.slice iL iL (fun _ => rfl) (fun _ => ex22)) ?_
      refine AQ.step rfl rfl rfl (sp_fieldAddr_ro rfl tf_82_2 iL) ?_
      refine AQ.step rfl rfl rfl (ms_load (d := .sl (x22.Attrs.map GAttr.row)) rfl ts_29 iL rfl) ?_
      refine ob1k h33 fun r3 er3 h34 => ?_
      refine AQ.stepC rfl rfl rfl (r := .r (.bool r3)) (caps := []) (bs := [.r (.sl (x21.Attrs.map GAttr.row)), .r (.sl (x22.Attrs.map GAttr.row))]) rfl iL rfl ⟨⟨_, iL, .d rfl⟩, ⟨_, iL, .d rfl⟩, trivial⟩ (fun _ => w_ref_SameAttrs (er3)) rfl ?_
      refine AQ.step rfl rfl rfl (sp_not rfl iL) ?_
      refine AQ.nil ?_
      refine hK30 _ ?_
      refine jb1k h34 fun p4 hp3 hk6 => ?_
      have J6 : ∀ (p3 : Int) (i18 : Nat → Nat), p4 = p3 → K29 ⟨[(0, .r (.sl (a1.map GElem.row))), (1, .r (.sl (b1.map GElem.row))), (8, .r (.sl (line7.map (rInt .i64)))), (10, .r (.int .i64 x11)), (11, .own 66 (i14 0)), (13, .r (.int .i64 n2)), (14, .r (.int .i64 p3)), (60, .r (.int .i64 (a1.length : Int))), (61, .r (.int .i64 x11)), (68, .r (.int .i64 (b1.length : Int))), (69, .r (.int .i64 x16))], [(66, some (.arr (i14 0) 3 1 (next2.map (rInt .i64))))], (i18 0), 140⟩ := by
       intro p3 i18 e
       have h35 := hk6 _ e
       refine hK29 _ ?_
       refine AW.region ?_
       refine sM rfl rfl ?_
       refine sM rfl rfl ?_
       refine sQ rfl (sp_min rfl iL iL) ?_
       refine sQ rfl (sp_assign rfl iL) ?_
       refine AOps.nil ?_
       exact wK26 _ _ ((by exact Weak.cv ⟨jL, jL, jL, jL, jL, jL, jL, jL, jL, jL, trivial⟩ ⟨.inl rfl, trivial⟩ nL)) (J5 _ (vec [(i18 0)]) (Option.some.inj h35).symm)
      refine AW.cond rfl (fun hc6 => ?_) (fun hc6 => ?_)
      ·have h36 := ite_t hc6 hp3
       refine AW.weak (s' := ⟨[(0, .r (.sl (a1.map GElem.row))), (1, .r (.sl (b1.map GElem.row))), (8, .r (.sl (line7.map (rInt .i64)))), (10, .r (.int .i64 x11)), (11, .own 66 (i14 0)), (13, .r (.int .i64 n2)), (14, .r (.int .i64 x23)), (60, .r (.int .i64 (a1.length : Int))), (61, .r (.int .i64 x11)), (68, .r (.int .i64 (b1.length : Int))), (69, .r (.int .i64 x16))], [(66, some (.arr (i14 0) 3 1 (next2.map (rInt .i64))))], (i14 1), 140⟩) (by exact Weak.cv ⟨jL, jL, jL, jL, jL, jL, jL, jL, jL, jL, jL, trivial⟩ ⟨.inl rfl, trivial⟩ nL) ?_
       refine AW.region ?_
       refine sM rfl rfl ?_
       refine ob1k h36 fun p5 ep5 h37 => ?_
       refine sQ rfl (ms_add rfl iL iL (fun _ => ep5)) ?_
       refine sQ rfl (sp_assign rfl iL) ?_
       refine AOps.nil ?_
       exact wK29 _ _ ((by exact Weak.cv ⟨jL, jL, jL, jL, jL, jL, jL, jL, jL, jL, jL, trivial⟩ ⟨.inl rfl, trivial⟩ nL)) (J6 _ (vec [(i14 1)]) (Option.some.inj h37).symm)
      ·have h36 := ite_f hc6 hp3
       refine AW.skip ?_
       exact wK29 _ _ ((by exact Weak.cv ⟨jL, jL, jL, jL, jL, jL, jL, jL, jL, jL, jL, trivial⟩ ⟨.inl rfl, trivial⟩ nL)) (J6 _ (vec [(i14 1)]) (Option.some.inj h36).symm)
     ·have h32 := ite_f hc5 hp2
      refine AW.skip ?_
      exact wK26 _ _ ((by exact Weak.cv ⟨jL, jL, jL, jL, jL, jL, jL, jL, jL, jL, trivial⟩ ⟨.inl rfl, trivial⟩ nL)) (J5 _ (vec [(i14 1)]) (Option.some.inj h32).symm)
    ·have h23 := ite_f hc4 h22
     refine AW.exit ?_
     exact wK19 _ _ ((by exact Weak.cv ⟨jL, jL, jL, jL, jL, trivial⟩ ⟨.inl rfl, trivial⟩ nL)) (J4 _ (vec [(i14 0), (i14 1)]) (hx3 _ (Option.some.inj h23).symm))
   ·have h19 := ite_f hc3 h18
    refine AW.exit ?_
    exact wK11 _ _ ((by exact Weak.cv ⟨jL, jL, trivial⟩ trivial nL)) (J3 _ (vec [(i9 0)]) (hx2 _ (Option.some.inj h19).symm))
  refine AW.iter2 (fun (x8 : Int) (line3 : List Int) i4 => ⟨[(0, .r (.sl (a1.map GElem.row))), (1, .r (.sl (b1.map GElem.row))), (8, .own 48 (i4 0)), (50, .r (.int .i64 (line1.length : Int))), (51, .r (.int .i64 x8))], [(48, some (.arr (i4 0) 3 1 (line3.map (rInt .i64))))], (i4 1), 140⟩) (vec [n0, (n0 + 1)]) hit1 ((by exact Weak.cv ⟨jL, jL, jL, jL, jL, trivial⟩ ⟨.inl rfl, trivial⟩ nL)) ?_
  intro x8 line3 i4 v3 hv3 hx1
  have h38 : ref_DiffCost_L1 line1 x8 line3 = some v3 := hv3; unfold ref_DiffCost_L1 at h38
  refine AW.seq_w fun K31 hK31 wK31 => ?_
  refine AW.region ?_
  refine sQ rfl (sp_lss rfl iL iL) ?_
  refine AOps.nil (hK31 _ ?_)
  refine AW.seq_w fun K32 hK32 wK32 => ?_
  refine AW.cond rfl (fun hc7 => ?_) (fun hc7 => ?_)
  ·have h39 := ite_t hc7 h38
   refine AW.skip ?_
   refine hK32 _ ?_
   refine AW.seq_w fun K33 hK33 wK33 => ?_
   refine AW.block ?_
   refine AW.seq_w fun K34 hK34 wK34 => ?_
   refine AW.region ?_
   refine sM rfl rfl ?_
   refine sQ rfl (sp_assign rfl iL) ?_
   refine AOps.nil (hK34 _ ?_)
   refine AW.region ?_
   refine sM rfl rfl ?_
   refine sM rfl rfl ?_
   refine sM rfl rfl ?_
   refine ob1k h39 fun x24 ex24 h40 => ?_
   refine sQ rfl (ms_idx_own rfl tg_87.slice iL rfl iL (fun _ => ex24)) ?_
   refine AOps.step0 rfl rfl (ms_store (v := x8) rfl tz_3 iL rfl ex24 iL rfl rfl rfl rfl) ?_
   refine AOps.nil (hK33 _ ?_)
   refine AW.region ?_
   refine ob1k h40 fun x25 ex25 h41 => ?_
   refine sQ rfl (ms_add rfl iL iL (fun _ => ex25)) ?_
   refine sM rfl rfl ?_
   refine AOps.nil ?_
   exact NextQ2.mk h41 (vec [(i4 0), (i4 1)]) ((by exact Weak.cv ⟨jL, jL, jL, jL, jL, trivial⟩ ⟨.inl rfl, trivial⟩ nL))
  ·have h39 := ite_f hc7 h38
   refine AW.exit ?_
   exact wK9 _ _ ((by exact Weak.cv ⟨jL, jL, jL, trivial⟩ ⟨.inl rfl, trivial⟩ nL)) (J2 _ (vec [(i4 0), (i4 1)]) (hx1 _ (Option.some.inj h39).symm))
set_option maxHeartbeats 4000000 in
set_option maxRecDepth 20000 in
theorem w_ref_DiffCost_N (n : Nat) : ∀ {a1 : List GElem} {b1 : List GElem} {tied1 : Bool} {r : Int}, ref_DiffCost_N n a1 b1 tied1 = some r → ARO Try.prog 20 [.r (.sl (a1.map GElem.row)), .r (.sl (b1.map GElem.row)), .r (.bool tied1)] (.r (.int .i64 r)) := by
 induction n with
 | zero => intro a1 b1 tied1 r h; exact absurd (show (none : Option (Int)) = some r from h) (by simp)
 | succ n ih => intro a1 b1 tied1 r h; exact w_ref_DiffCost_B (self := fun a1 b1 tied1 => ref_DiffCost_N n a1 b1 tied1) (fun h2 => ih h2) h
set_option maxHeartbeats 4000000 in
set_option maxRecDepth 20000 in
theorem w_ref_DiffCost {a1 : List GElem} {b1 : List GElem} {tied1 : Bool} {r : Int} (h : ref_DiffCost a1 b1 tied1 = some r) : ARO Try.prog 20 [.r (.sl (a1.map GElem.row)), .r (.sl (b1.map GElem.row)), .r (.bool tied1)] (.r (.int .i64 r)) := by
 unfold ref_DiffCost at h
 by_cases hh : ∃ n r, ref_DiffCost_N n a1 b1 tied1 = some r
 ·rw [dif_pos hh] at h; exact w_ref_DiffCost_N _ h
 ·rw [dif_neg hh] at h; cases h
set_option maxHeartbeats 4000000 in
set_option maxRecDepth 20000 in
theorem w_ref_Get {l1 : List GAttr} {name1 : List UInt8} {r : (List UInt8)} (h : ref_Get l1 name1 = some r) : ARO Try.prog 53 [.r (.sl (l1.map GAttr.row)), .r (.str name1)] (.r (.str r)) := by
 unfold ref_Get at h
 refine ARO.mkF Try.func53 rfl rfl Try.ntmps53 rfl (Nat.le_of_ble_eq_true rfl) fun n0 => ?_
 refine AW.seq_w fun K1 hK1 wK1 => ?_
 refine AW.region ?_
 refine sQ rfl (sp_assign rfl iL) ?_
 refine AOps.nil (hK1 _ ?_)
 refine AW.seq_w fun K2 hK2 wK2 => ?_
 refine AW.seq_w fun K3 hK3 wK3 => ?_
 refine AW.region ?_
 refine sM rfl rfl ?_
 refine sQ rfl (ms_len rfl tg_29.slice iL) ?_
 refine sM rfl rfl ?_
 refine AOps.nil (hK3 _ ?_)
 refine AW.block ?_
 refine jc1k h fun o1 hit1 hk1 he1 => ?_
 have J1 : ∀ (u2 : Unit) (i5 : Nat → Nat), o1 = .nrm u2 → K2 ⟨[], [], (i5 0), 24⟩ := by
  intro u2 i5 e
  have h1 := hk1 _ e
  refine hK2 _ ?_
  refine AW.seq_w fun K4 hK4 wK4 => ?_
  refine AW.region ?_
  refine sQ rfl (sp_assign rfl iL) ?_
  refine AOps.nil (hK4 _ ?_)
  refine AW.ret ?_
  exact retf1 (P := Try.prog) (fun (r : (List UInt8)) => .r (.str r)) h1 iL (.t (.d rfl))
 refine AW.iter1 (fun (x2 : Int) i3 => ⟨[(0, .r (.sl (l1.map GAttr.row))), (1, .r (.str name1)), (7, .r (.int .i64 (l1.length : Int))), (8, .r (.int .i64 x2))], [], (i3 0), 24⟩) (vec [n0]) hit1 ((by exact Weak.cv ⟨jL, jL, jL, jL, trivial⟩ trivial nL)) ?_
 intro x2 i3 v1 hv1 hx1
 have h2 : ref_Get_L1 l1 name1 x2 = some v1 := hv1; unfold ref_Get_L1 at h2
 refine AW.seq_w fun K5 hK5 wK5 => ?_
 refine AW.region ?_
 refine sQ rfl (sp_lss rfl iL iL) ?_
 refine AOps.nil (hK5 _ ?_)
 refine AW.seq_w fun K6 hK6 wK6 => ?_
 refine AW.cond rfl (fun hc1 => ?_) (fun hc1 => ?_)
 ·have h3 := ite_t hc1 h2
  refine AW.skip ?_
  refine hK6 _ ?_
  refine AW.seq_w fun K7 hK7 wK7 => ?_
  refine AW.block ?_
  refine AW.seq_w fun K8 hK8 wK8 => ?_
  refine AW.region ?_
  refine sM rfl rfl ?_
  refine sQ rfl (sp_assign rfl iL) ?_
  refine AOps.nil (hK8 _ ?_)
  refine AW.seq_w fun K9 hK9 wK9 => ?_
  refine AW.region ?_
  refine sM rfl rfl ?_
  refine sM rfl rfl ?_
  refine ob1k h3 fun x4 ex4 h4 => ?_
  refine sQ rfl (ms_idx rfl tg_29.slice iL iL (fun _ => rfl) (fun _ => ex4)) ?_
  refine sQ rfl (sp_fieldAddr_ro rfl tf_92_0 iL) ?_
  refine sQ rfl (ms_load (d := .str x4.Name) rfl ts_9 iL rfl) ?_
  refine sM rfl rfl ?_
  refine sQ rfl (sp_seql rfl iL iL) ?_
  refine AOps.nil (hK9 _ ?_)
  refine AW.cond rfl (fun hc2 => ?_) (fun hc2 => ?_)
  ·have h5 := ite_t hc2 h4
   refine AW.seq_w fun K10 hK10 wK10 => ?_
   refine AW.weak (s' := ⟨[(0, .r (.sl (l1.map GAttr.row))), (5, .r (.int .i64 x2))], [], (i3 0), 24⟩) (by exact Weak.cv ⟨jL, jL, trivial⟩ trivial nL) ?_
   refine AW.region ?_
   refine sM rfl rfl ?_
   refine sM rfl rfl ?_
   refine sQ rfl (ms_idx rfl tg_29.slice iL iL (fun _ => rfl) (fun _ => ex4)) ?_
   refine sQ rfl (sp_fieldAddr_ro rfl tf_92_1 iL) ?_
   refine sQ rfl (ms_load (d := .str x4.Value) rfl ts_9 iL rfl) ?_
   refine sQ rfl (sp_assign rfl iL) ?_
   refine AOps.nil (hK10 _ ?_)
   refine AW.ret ?_
   exact retf1 (P := Try.prog) (fun (r : (List UInt8)) => .r (.str r)) (he1 _ (hx1 _ (Option.some.inj h5).symm)) iL (.t (.d rfl))
  ·have h5 := ite_f hc2 h4
   refine AW.skip ?_
   refine hK7 _ ?_
   refine AW.weak (s' := ⟨[(0, .r (.sl (l1.map GAttr.row))), (1, .r (.str name1)), (7, .r (.int .i64 (l1.length : Int))), (8, .r (.int .i64 x2))], [], (i3 0), 24⟩) (by exact Weak.cv ⟨jL, jL, jL, jL, trivial⟩ trivial nL) ?_
   refine AW.region ?_
   refine ob1k h5 fun x5 ex5 h6 => ?_
   refine sQ rfl (ms_add rfl iL iL (fun _ => ex5)) ?_
   refine sM rfl rfl ?_
   refine AOps.nil ?_
   exact NextQ1.mk h6 (vec [(i3 0)]) ((by exact Weak.cv ⟨jL, jL, jL, jL, trivial⟩ trivial nL))
 ·have h3 := ite_f hc1 h2
  refine AW.exit ?_
  exact wK2 _ _ ((by exact Weak.cv trivial trivial nL)) (J1 _ (vec [(i3 0)]) (hx1 _ (Option.some.inj h3).symm))
set_option maxHeartbeats 4000000 in
set_option maxRecDepth 20000 in
theorem w_ref_put {l1 : List GAttr} {a1 : GAttr} {r : (List GAttr)} (h : ref_put l1 a1 = some r) : ARO Try.prog 80 [.r (.sl (l1.map GAttr.row)), .agg [.r (.str a1.Name), .r (.str a1.Value)]] (.r (.sl (r.map GAttr.row))) := by
 unfold ref_put at h
 refine ARO.mkF Try.func80 rfl rfl Try.ntmps80 rfl (Nat.le_of_ble_eq_true rfl) fun n0 => ?_
 refine AW.seq_w fun K1 hK1 wK1 => ?_
 refine AW.region ?_
 refine AOps.step rfl rfl rfl (ms_box (cs := [.r (.str a1.Name), .r (.str a1.Value)]) 3 rfl iL rfl rfl) ?_
 refine sQ rfl (sp_assign rfl iL) ?_
 refine AOps.nil (hK1 _ ?_)
 refine AW.seq_w fun K2 hK2 wK2 => ?_
 refine AW.region ?_
 refine sQ rfl (sp_assign rfl iL) ?_
 refine AOps.nil (hK2 _ ?_)
 refine AW.seq_w fun K3 hK3 wK3 => ?_
 refine AW.region ?_
 refine sQ rfl (sp_assign rfl iL) ?_
 refine AOps.nil (hK3 _ ?_)
 refine AW.seq_w fun K4 hK4 wK4 => ?_
 refine AW.seq_w fun K5 hK5 wK5 => ?_
 refine AW.region ?_
 refine sM rfl rfl ?_
 refine sQ rfl (ms_len rfl tg_29.slice iL) ?_
 refine sM rfl rfl ?_
 refine AOps.nil (hK5 _ ?_)
 refine AW.block ?_
 refine jb2k h fun o1 hit1 hk1 => ?_
 have J1 : ∀ (done4 : Bool) (out4 : List GAttr) (i5 : Nat → Nat), o1 = (done4, out4) → K4 ⟨[(3, .ptr 3 n0 0 0), (5, .own 5005 (i5 0)), (6, .r (.bool done4))], [(3, some (.box n0 92 [.r (.str a1.Name), .r (.str a1.Value)])), (5005, some (.arr (i5 0) 92 2 (out4.map GAttr.row)))], (i5 1), 52⟩ := by
  intro done4 out4 i5 e
  have h1 := hk1 _ _ e
  refine hK4 _ ?_
  refine AW.seq_w fun K6 hK6 wK6 => ?_
  refine AW.seq_w fun K7 hK7 wK7 => ?_
  refine AW.region ?_
  refine sM rfl rfl ?_
  refine sQ rfl (sp_not rfl iL) ?_
  refine AOps.nil (hK7 _ ?_)
  refine jb1k h1 fun p1 hp1 hk2 => ?_
  have J2 : ∀ (out5 : List GAttr) (i6 : Nat → Nat), p1 = out5 → K6 ⟨[(5, .own 5005 (i6 0))], [(5005, some (.arr (i6 0) 92 2 (out5.map GAttr.row)))], (i6 1), 52⟩ := by
   intro out5 i6 e
   have h2 := hk2 _ e
   refine hK6 _ ?_
   refine AW.seq_w fun K8 hK8 wK8 => ?_
   refine AW.region ?_
   refine sM rfl rfl ?_
   refine sQ rfl (sp_assign rfl iL) ?_
   refine AOps.nil (hK8 _ ?_)
   refine AW.ret ?_
   exact retf1 (P := Try.prog) (fun (r : (List GAttr)) => .r (.sl (r.map GAttr.row))) h2 iL (.t (.one (.own rfl)))
  refine AW.cond rfl (fun hc1 => ?_) (fun hc1 => ?_)
  ·have h3 := ite_t hc1 hp1
   refine AW.region ?_
   refine sM rfl rfl ?_
   refine sQ rfl (ms_loadA_box rfl ta_92 iL rfl rfl) ?_
   refine AOps.step rfl rfl rfl (ms_lit 49 rfl tg_29 (f := GAttr.row) (l := ([a1] : List GAttr)) ⟨rfl, ⟨_, iL, rfl⟩, trivial⟩ rfl (fun _ => rfl) rfl) ?_
   refine ob1k h3 fun out6 eout6 h4 => ?_
   refine AOps.step rfl rfl rfl (ms_app rfl tg_29 iL rfl (.inr (.inl ⟨_, _, iL, rfl⟩)) eout6) ?_
   refine sQ rfl (sp_assign rfl iL) ?_
   refine AOps.nil ?_
   exact wK6 _ _ ((by exact Weak.cv ⟨jL, trivial⟩ ⟨.inl rfl, trivial⟩ nL)) (J2 _ (vec [((i5 1) + 1), ((i5 1) + 2)]) (Option.some.inj h4).symm)
  ·have h3 := ite_f hc1 hp1
   refine AW.skip ?_
   exact wK6 _ _ ((by exact Weak.cv ⟨jL, trivial⟩ ⟨.inl rfl, trivial⟩ nL)) (J2 _ (vec [(i5 0), (i5 1)]) (Option.some.inj h3).symm)
 refine AW.iter3 (fun (done2 : Bool) (x2 : Int) (out2 : List GAttr) i3 => ⟨[(0, .r (.sl (l1.map GAttr.row))), (3, .ptr 3 n0 0 0), (5, .own 5005 (i3 0)), (6, .r (.bool done2)), (9, .r (.int .i64 (l1.length : Int))), (10, .r (.int .i64 x2))], [(3, some (.box n0 92 [.r (.str a1.Name), .r (.str a1.Value)])), (5005, some (.arr (i3 0) 92 2 (out2.map GAttr.row)))], (i3 1), 52⟩) (vec [(n0 + 1), (n0 + 2)]) hit1 (Weak.trans (Weak.trans (Weak.adopt 5 5005 92 2 (by decide) rfl) (by exact Weak.cv (e' := [(0, .r (.sl (l1.map GAttr.row))), (1, .agg [.r (.str a1.Name), .r (.str a1.Value)]), (3, .ptr 3 n0 0 0), (4, .cst (.slice none 0 0)), (5, .own 5005 (n0 + 1)), (6, .r (.bool false)), (8, .r (.sl (l1.map GAttr.row))), (9, .r (.int .i64 (l1.length : Int))), (10, .r (.int .i64 0))]) (h' := [(3, some (.box n0 92 [.r (.str a1.Name), .r (.str a1.Value)])), (5005, some (.arr (n0 + 1) 92 2 (([] : List GAttr).map GAttr.row)))]) ⟨jL, jL, jL, jL, jL, jL, jL, jL, jL, trivial⟩ ⟨.inl rfl, .inl rfl, trivial⟩ nL)) (by exact Weak.cv ⟨jL, jL, jL, jL, jL, jL, trivial⟩ ⟨.inl rfl, .inl rfl, trivial⟩ nL)) ?_
 intro done2 x2 out2 i3 v1 hv1 hx1
 have h5 : ref_put_L1 l1 a1 done2 x2 out2 = some v1 := hv1; unfold ref_put_L1 at h5
 refine AW.seq_w fun K9 hK9 wK9 => ?_
 refine AW.region ?_
 refine sQ rfl (sp_lss rfl iL iL) ?_
 refine AOps.nil (hK9 _ ?_)
 refine AW.seq_w fun K10 hK10 wK10 => ?_
 refine AW.cond rfl (fun hc2 => ?_) (fun hc2 => ?_)
 ·have h6 := ite_t hc2 h5
  refine AW.skip ?_
  refine hK10 _ ?_
  refine AW.seq_w fun K11 hK11 wK11 => ?_
  refine AW.block ?_
  refine jb2k h6 fun p2 hp2 hk3 => ?_
  have J3 : ∀ (done5 : Bool) (out7 : List GAttr) (i7 : Nat → Nat), p2 = (done5, out7) → K11 ⟨[(0, .r (.sl (l1.map GAttr.row))), (3, .ptr 3 n0 0 0), (5, .own 5005 (i7 0)), (6, .r (.bool done5)), (9, .r (.int .i64 (l1.length : Int))), (10, .r (.int .i64 x2))], [(3, some (.box n0 92 [.r (.str a1.Name), .r (.str a1.Value)])), (5005, some (.arr (i7 0) 92 2 (out7.map GAttr.row)))], (i7 1), 52⟩ := by
   intro done5 out7 i7 e
   have h7 := hk3 _ _ e
   refine hK11 _ ?_
   refine AW.region ?_
   refine ob1k h7 fun x4 ex4 h8 => ?_
   refine sQ rfl (ms_add rfl iL iL (fun _ => ex4)) ?_
   refine sM rfl rfl ?_
   refine AOps.nil ?_
   exact NextQ3.mk h8 (vec [(i7 0), (i7 1)]) ((by exact Weak.cv ⟨jL, jL, jL, jL, jL, jL, trivial⟩ ⟨.inl rfl, .inl rfl, trivial⟩ nL))
  refine AW.seq_w fun K12 hK12 wK12 => ?_
  refine AW.region ?_
  refine sM rfl rfl ?_
  refine sQ rfl (sp_assign rfl iL) ?_
  refine AOps.nil (hK12 _ ?_)
  refine AW.seq_w fun K13 hK13 wK13 => ?_
  refine AW.seq_w fun K14 hK14 wK14 => ?_
  refine AW.regionQ hmix (by kernel_rfl) ?_
  refine AQ.step rfl rfl rfl (sp_move rfl iL) ?_
  refine AQ.step rfl rfl rfl (sp_not rfl iL) ?_
  refine AQ.step rfl rfl rfl (sp_move rfl iL) ?_
  refine AQ.stepW (.one rfl rfl rfl) rfl rfl (sp_move rfl iL) ?_
  refine AQ.stepW (.one rfl rfl rfl) rfl rfl (sp_move rfl iL) ?_
  refine ob1k hp2 fun x5 ex5 h9 => ?_
  refine AQ.stepW (.one rfl rfl rfl) rfl rfl (ms_idx rfl tg_29.slice (iR rfl) (iR rfl) (fun _ => rfl) (gdt ex5)) ?_
  refine AQ.stepW (.one rfl rfl rfl) rfl rfl (sp_fieldAddr_ro rfl tf_92_0 (iR rfl)) ?_
  refine AQ.stepW (.one rfl rfl rfl) rfl rfl (ms_load (d := .str x5.Name) rfl ts_9 (iR rfl) rfl) ?_
  refine AQ.stepW (.one rfl rfl rfl) rfl rfl (sp_fieldAddr_own (ob := .box _ _ _) rfl tf_92_0 iL fR rfl) ?_
  refine AQ.stepW (.one rfl rfl rfl) rfl rfl (ms_load_box (a := .r (.str a1.Name)) rfl ts_9 (iR rfl) rfl rfl) ?_
  refine AQ.stepW (.one rfl rfl rfl) rfl rfl (sp_sgeq rfl (iR rfl) (iR rfl)) ?_
  refine AQ.step rfl rfl rfl (sp_and rfl iL (iR rfl)) ?_
  refine AQ.nil ?_
  refine hK14 _ ?_
  refine jb2k h9 fun p3 hp3 hk4 => ?_
  have J4 : ∀ (done6 : Bool) (out8 : List GAttr) (i8 : Nat → Nat), p3 = (done6, out8) → K13 ⟨[(0, .r (.sl (l1.map GAttr.row))), (3, .ptr 3 n0 0 0), (5, .own 5005 (i8 0)), (6, .r (.bool done6)), (7, .r (.int .i64 x2)), (9, .r (.int .i64 (l1.length : Int))), (10, .r (.int .i64 x2))], [(3, some (.box n0 92 [.r (.str a1.Name), .r (.str a1.Value)])), (5005, some (.arr (i8 0) 92 2 (out8.map GAttr.row)))], (i8 1), 52⟩ := by
   intro done6 out8 i8 e
   have h10 := hk4 _ _ e
   refine hK13 _ ?_
   refine AW.seq_w fun K15 hK15 wK15 => ?_
   refine AW.regionQ hmix (by kernel_rfl) ?_
   refine AQ.step rfl rfl rfl (sp_move rfl iL) ?_
   refine AQ.step rfl rfl rfl (sp_move rfl iL) ?_
   refine ob1k h10 fun x6 ex6 h11 => ?_
   refine AQ.step rfl rfl rfl (ms_idx rfl tg_29.slice iL iL (fun _ => rfl) (fun _ => ex6)) ?_
   refine AQ.step rfl rfl rfl (sp_fieldAddr_ro rfl tf_92_0 iL) ?_
   refine AQ.step rfl rfl rfl (ms_load (d := .str x6.Name) rfl ts_9 iL rfl) ?_
   refine AQ.step rfl rfl rfl (sp_fieldAddr_own (ob := .box _ _ _) rfl tf_92_0 iL fR rfl) ?_
   refine AQ.step rfl rfl rfl (ms_load_box (a := .r (.str a1.Name)) rfl ts_9 iL rfl rfl) ?_
   refine AQ.step rfl rfl rfl (sp_sneq rfl iL iL) ?_
   refine AQ.nil ?_
   refine hK15 _ ?_
   refine AW.cond rfl (fun hc3 => ?_) (fun hc3 => ?_)
   ·have h12 := ite_t hc3 h11
    refine AW.region ?_
    refine sM rfl rfl ?_
    refine sM rfl rfl ?_
    refine sM rfl rfl ?_
    refine sQ rfl (ms_idx rfl tg_29.slice iL iL (fun _ => rfl) (fun _ => ex6)) ?_
    refine sQ rfl (ms_loadA (cs := [.r (.str x6.Name), .r (.str x6.Value)]) rfl ta_92 iL rfl rfl) ?_
    refine AOps.step rfl rfl rfl (ms_lit 42 rfl tg_29 (f := GAttr.row) (l := ([x6] : List GAttr)) ⟨rfl, ⟨_, iL, rfl⟩, trivial⟩ rfl (fun _ => rfl) rfl) ?_
    refine ob1k h12 fun out9 eout9 h13 => ?_
    refine AOps.step rfl rfl rfl (ms_app rfl tg_29 iL rfl (.inr (.inl ⟨_, _, iL, rfl⟩)) eout9) ?_
    refine sQ rfl (sp_assign rfl iL) ?_
    refine AOps.nil ?_
    exact wK11 _ _ ((by exact Weak.cv ⟨jL, jL, jL, jL, jL, jL, trivial⟩ ⟨.inl rfl, .inl rfl, trivial⟩ nL)) (J3 _ _ (vec [((i8 1) + 1), ((i8 1) + 2)]) (Option.some.inj h13).symm)
   ·have h12 := ite_f hc3 h11
    refine AW.skip ?_
    exact wK11 _ _ ((by exact Weak.cv ⟨jL, jL, jL, jL, jL, jL, trivial⟩ ⟨.inl rfl, .inl rfl, trivial⟩ nL)) (J3 _ _ (vec [(i8 0), (i8 1)]) (Option.some.inj h12).symm)
  refine AW.cond rfl (fun hc4 => ?_) (fun hc4 => ?_)
  ·have h14 := ite_t hc4 hp3
   refine AW.seq_w fun K16 hK16 wK16 => ?_
   refine AW.region ?_
   refine sM rfl rfl ?_
   refine sQ rfl (ms_loadA_box rfl ta_92 iL rfl rfl) ?_
   refine AOps.step rfl rfl rfl (ms_lit 27 rfl tg_29 (f := GAttr.row) (l := ([a1] : List GAttr)) ⟨rfl, ⟨_, iL, rfl⟩, trivial⟩ rfl (fun _ => rfl) rfl) ?_
   refine ob1k h14 fun out10 eout10 h15 => ?_
   refine AOps.step rfl rfl rfl (ms_app rfl tg_29 iL rfl (.inr (.inl ⟨_, _, iL, rfl⟩)) eout10) ?_
   refine sQ rfl (sp_assign rfl iL) ?_
   refine AOps.nil (hK16 _ ?_)
   refine AW.weak (s' := ⟨[(0, .r (.sl (l1.map GAttr.row))), (3, .ptr 3 n0 0 0), (5, .own 5005 ((i3 1) + 1)), (7, .r (.int .i64 x2)), (9, .r (.int .i64 (l1.length : Int))), (10, .r (.int .i64 x2))], [(3, some (.box n0 92 [.r (.str a1.Name), .r (.str a1.Value)])), (5005, some (.arr ((i3 1) + 1) 92 2 (out10.map GAttr.row)))], ((i3 1) + 2), 52⟩) (by exact Weak.cv ⟨jL, jL, jL, jL, jL, jL, trivial⟩ ⟨.inl rfl, .inl rfl, trivial⟩ nL) ?_
   refine AW.region ?_
   refine sQ rfl (sp_assign rfl iL) ?_
   refine AOps.nil ?_
   exact wK13 _ _ ((by exact Weak.cv ⟨jL, jL, jL, jL, jL, jL, jL, trivial⟩ ⟨.inl rfl, .inl rfl, trivial⟩ nL)) (J4 _ _ (vec [((i3 1) + 1), ((i3 1) + 2)]) (Option.some.inj h15).symm)
  ·have h14 := ite_f hc4 hp3
   refine AW.skip ?_
   exact wK13 _ _ ((by exact Weak.cv ⟨jL, jL, jL, jL, jL, jL, jL, trivial⟩ ⟨.inl rfl, .inl rfl, trivial⟩ nL)) (J4 _ _ (vec [(i3 0), (i3 1)]) (Option.some.inj h14).symm)
 ·have h6 := ite_f hc2 h5
  refine AW.exit ?_
  exact wK4 _ _ ((by exact Weak.cv ⟨jL, jL, jL, trivial⟩ ⟨.inl rfl, .inl rfl, trivial⟩ nL)) (J1 _ _ (vec [(i3 0), (i3 1)]) (hx1 _ (Option.some.inj h6).symm))
set_option maxHeartbeats 4000000 in
set_option maxRecDepth 20000 in
theorem w_ref_Between {a1 : List GAttr} {b1 : List GAttr} {r : (List GAttr)} (h : ref_Between a1 b1 = some r) : ARO Try.prog 47 [.r (.sl (a1.map GAttr.row)), .r (.sl (b1.map GAttr.row))] (.r (.sl (r.map GAttr.row))) := by
 unfold ref_Between at h
 refine ARO.mkF Try.func47 rfl rfl Try.ntmps47 rfl (Nat.le_of_ble_eq_true rfl) fun n0 => ?_
 refine AW.seq_w fun K1 hK1 wK1 => ?_
 refine AW.region ?_
 refine sQ rfl (sp_assign rfl iL) ?_
 refine AOps.nil (hK1 _ ?_)
 refine AW.seq_w fun K2 hK2 wK2 => ?_
 refine AW.region ?_
 refine sQ rfl (sp_assign rfl iL) ?_
 refine AOps.nil (hK2 _ ?_)
 refine AW.seq_w fun K3 hK3 wK3 => ?_
 refine AW.seq_w fun K4 hK4 wK4 => ?_
 refine AW.region ?_
 refine sM rfl rfl ?_
 refine sQ rfl (ms_len rfl tg_29.slice iL) ?_
 refine sM rfl rfl ?_
 refine AOps.nil (hK4 _ ?_)
 refine AW.block ?_
 refine jb1k h fun o1 hit1 hk1 => ?_
 have J1 : ∀ (out4 : List GAttr) (i5 : Nat → Nat), o1 = out4 → K3 ⟨[(0, .r (.sl (a1.map GAttr.row))), (1, .r (.sl (b1.map GAttr.row))), (5, .r (.sl (out4.map GAttr.row)))], [], (i5 0), 56⟩ := by
  intro out4 i5 e
  have h1 := hk1 _ e
  refine hK3 _ ?_
  refine AW.seq_w fun K5 hK5 wK5 => ?_
  refine AW.seq_w fun K6 hK6 wK6 => ?_
  refine AW.region ?_
  refine sM rfl rfl ?_
  refine sQ rfl (ms_len rfl tg_29.slice iL) ?_
  refine sM rfl rfl ?_
  refine AOps.nil (hK6 _ ?_)
  refine AW.block ?_
  refine jb1k h1 fun o2 hit2 hk2 => ?_
  have J2 : ∀ (out8 : List GAttr) (i10 : Nat → Nat), o2 = out8 → K5 ⟨[(5, .r (.sl (out8.map GAttr.row)))], [], (i10 0), 56⟩ := by
   intro out8 i10 e
   have h2 := hk2 _ e
   refine hK5 _ ?_
   refine AW.seq_w fun K7 hK7 wK7 => ?_
   refine AW.region ?_
   refine sM rfl rfl ?_
   refine sQ rfl (sp_assign rfl iL) ?_
   refine AOps.nil (hK7 _ ?_)
   refine AW.ret ?_
   exact retf1 (P := Try.prog) (fun (r : (List GAttr)) => .r (.sl (r.map GAttr.row))) h2 iL (.t (.d rfl))
  refine AW.iter2 (fun (out6 : List GAttr) (x5 : Int) i8 => ⟨[(0, .r (.sl (a1.map GAttr.row))), (1, .r (.sl (b1.map GAttr.row))), (5, .r (.sl (out6.map GAttr.row))), (34, .r (.int .i64 (a1.length : Int))), (35, .r (.int .i64 x5))], [], (i8 0), 56⟩) (vec [(i5 0)]) hit2 ((by exact Weak.cv ⟨jL, jL, jL, jL, jL, trivial⟩ trivial nL)) ?_
  intro out6 x5 i8 v1 hv1 hx2
  have h3 : ref_Between_L2 a1 b1 out6 x5 = some v1 := hv1; unfold ref_Between_L2 at h3
  refine AW.seq_w fun K8 hK8 wK8 => ?_
  refine AW.region ?_
  refine sQ rfl (sp_lss rfl iL iL) ?_
  refine AOps.nil (hK8 _ ?_)
  refine AW.seq_w fun K9 hK9 wK9 => ?_
  refine AW.cond rfl (fun hc1 => ?_) (fun hc1 => ?_)
  ·have h4 := ite_t hc1 h3
   refine AW.skip ?_
   refine hK9 _ ?_
   refine AW.seq_w fun K10 hK10 wK10 => ?_
   refine AW.block ?_
   refine jb1k h4 fun p1 hp1 hk3 => ?_
   have J3 : ∀ (out9 : List GAttr) (i11 : Nat → Nat), p1 = out9 → K10 ⟨[(0, .r (.sl (a1.map GAttr.row))), (1, .r (.sl (b1.map GAttr.row))), (5, .r (.sl (out9.map GAttr.row))), (34, .r (.int .i64 (a1.length : Int))), (35, .r (.int .i64 x5))], [], (i11 0), 56⟩ := by
    intro out9 i11 e
    have h5 := hk3 _ e
    refine hK10 _ ?_
    refine AW.region ?_
    refine ob1k h5 fun x7 ex7 h6 => ?_
    refine sQ rfl (ms_add rfl iL iL (fun _ => ex7)) ?_
    refine sM rfl rfl ?_
    refine AOps.nil ?_
    exact NextQ2.mk h6 (vec [(i11 0)]) ((by exact Weak.cv ⟨jL, jL, jL, jL, jL, trivial⟩ trivial nL))
   refine AW.seq_w fun K11 hK11 wK11 => ?_
   refine AW.region ?_
   refine sM rfl rfl ?_
   refine sQ rfl (sp_assign rfl iL) ?_
   refine AOps.nil (hK11 _ ?_)
   refine AW.seq_w fun K12 hK12 wK12 => ?_
   refine AW.region ?_
   refine sM rfl rfl ?_
   refine sM rfl rfl ?_
   refine sM rfl rfl ?_
   refine ob1k hp1 fun x8 ex8 h7 => ?_
   refine sQ rfl (ms_idx rfl tg_29.slice iL iL (fun _ => rfl) (fun _ => ex8)) ?_
   refine sQ rfl (sp_fieldAddr_ro rfl tf_92_0 iL) ?_
   refine sQ rfl (ms_load (d := .str x8.Name) rfl ts_9 iL rfl) ?_
   refine ob1k h7 fun r1 er1 h8 => ?_
   refine AOps.step rfl rfl rfl (sp_call (r := .r (.str r1)) (caps := []) (bs := [.r (.sl (b1.map GAttr.row)), .r (.str x8.Name)]) rfl iL rfl ⟨⟨_, iL, .d rfl⟩, ⟨_, iL, .d rfl⟩, trivial⟩ (fun _ => w_ref_Get (er1)) rfl) ?_
   refine sQ rfl (sp_seql rfl iL iL) ?_
   refine AOps.nil (hK12 _ ?_)
   refine AW.cond rfl (fun hc2 => ?_) (fun hc2 => ?_)
   ·have h9 := ite_t hc2 h8
    refine AW.weak (s' := ⟨[(0, .r (.sl (a1.map GAttr.row))), (1, .r (.sl (b1.map GAttr.row))), (5, .r (.sl (out6.map GAttr.row))), (7, .r (.int .i64 x5)), (34, .r (.int .i64 (a1.length : Int))), (35, .r (.int .i64 x5))], [], (i8 0), 56⟩) (by exact Weak.cv ⟨jL, jL, jL, jL, jL, jL, trivial⟩ trivial nL) ?_
    refine AW.region ?_
    refine sM rfl rfl ?_
    refine sM rfl rfl ?_
    refine sM rfl rfl ?_
    refine sQ rfl (ms_idx rfl tg_29.slice iL iL (fun _ => rfl) (fun _ => ex8)) ?_
    refine sQ rfl (sp_fieldAddr_ro rfl tf_92_0 iL) ?_
    refine sQ rfl (ms_load (d := .str x8.Name) rfl ts_9 iL rfl) ?_
    refine sQ rfl (sp_build rfl tb_92 (q := [(0, _)]) (by exact ⟨rfl, rfl, rfl, iL, trivial⟩) (cs := [.r (.str x8.Name), .r (.str [])]) (by rfl)) ?_
    refine ob1k h9 fun out10 eout10 h10 => ?_
    refine AOps.step rfl rfl rfl (sp_callS (r := .r (.sl (out10.map GAttr.row))) (caps := []) (bs := [.r (.sl (out6.map GAttr.row)), .agg [.r (.str x8.Name), .r (.str [])]]) rfl iL rfl ⟨.inl ⟨iL, rfl⟩, .inl ⟨iL, rfl⟩, trivial⟩ (fun _ => w_ref_put (eout10))) ?_
    refine sQ rfl (sp_assign rfl iL) ?_
    refine AOps.nil ?_
    exact wK10 _ _ ((by exact Weak.cv ⟨jL, jL, jL, jL, jL, trivial⟩ trivial nL)) (J3 _ (vec [(i8 0)]) (Option.some.inj h10).symm)
   ·have h9 := ite_f hc2 h8
    refine AW.skip ?_
    exact wK10 _ _ ((by exact Weak.cv ⟨jL, jL, jL, jL, jL, trivial⟩ trivial nL)) (J3 _ (vec [(i8 0)]) (Option.some.inj h9).symm)
  ·have h4 := ite_f hc1 h3
   refine AW.exit ?_
   exact wK5 _ _ ((by exact Weak.cv ⟨jL, trivial⟩ trivial nL)) (J2 _ (vec [(i8 0)]) (hx2 _ (Option.some.inj h4).symm))
 refine AW.iter2 (fun (out2 : List GAttr) (x2 : Int) i3 => ⟨[(0, .r (.sl (a1.map GAttr.row))), (1, .r (.sl (b1.map GAttr.row))), (5, .r (.sl (out2.map GAttr.row))), (9, .r (.int .i64 (b1.length : Int))), (10, .r (.int .i64 x2))], [], (i3 0), 56⟩) (vec [n0]) hit1 ((by exact Weak.cv ⟨jL, jL, .inl (.inr (.inr ⟨rfl, rfl⟩)), jL, jL, trivial⟩ trivial nL)) ?_
 intro out2 x2 i3 v2 hv2 hx1
 have h11 : ref_Between_L1 a1 b1 out2 x2 = some v2 := hv2; unfold ref_Between_L1 at h11
 refine AW.seq_w fun K13 hK13 wK13 => ?_
 refine AW.region ?_
 refine sQ rfl (sp_lss rfl iL iL) ?_
 refine AOps.nil (hK13 _ ?_)
 refine AW.seq_w fun K14 hK14 wK14 => ?_
 refine AW.cond rfl (fun hc3 => ?_) (fun hc3 => ?_)
 ·have h12 := ite_t hc3 h11
  refine AW.skip ?_
  refine hK14 _ ?_
  refine AW.seq_w fun K15 hK15 wK15 => ?_
  refine AW.block ?_
  refine jb1k h12 fun p2 hp2 hk4 => ?_
  have J4 : ∀ (out11 : List GAttr) (i12 : Nat → Nat), p2 = out11 → K15 ⟨[(0, .r (.sl (a1.map GAttr.row))), (1, .r (.sl (b1.map GAttr.row))), (5, .r (.sl (out11.map GAttr.row))), (9, .r (.int .i64 (b1.length : Int))), (10, .r (.int .i64 x2))], [], (i12 0), 56⟩ := by
   intro out11 i12 e
   have h13 := hk4 _ e
   refine hK15 _ ?_
   refine AW.region ?_
   refine ob1k h13 fun x9 ex9 h14 => ?_
   refine sQ rfl (ms_add rfl iL iL (fun _ => ex9)) ?_
   refine sM rfl rfl ?_
   refine AOps.nil ?_
   exact NextQ2.mk h14 (vec [(i12 0)]) ((by exact Weak.cv ⟨jL, jL, jL, jL, jL, trivial⟩ trivial nL))
  refine AW.seq_w fun K16 hK16 wK16 => ?_
  refine AW.region ?_
  refine sM rfl rfl ?_
  refine sQ rfl (sp_assign rfl iL) ?_
  refine AOps.nil (hK16 _ ?_)
  refine AW.seq_w fun K17 hK17 wK17 => ?_
  refine AW.regionQ hmix (by kernel_rfl) ?_
  refine AQ.step rfl rfl rfl (sp_move rfl iL) ?_
  refine AQ.step rfl rfl rfl (sp_move rfl iL) ?_
  refine AQ.step rfl rfl rfl (sp_move rfl iL) ?_
  refine ob1k hp2 fun x10 ex10 h15 => ?_
  refine AQ.step rfl rfl rfl (ms_idx rfl tg_29.slice iL iL (fun _ => rfl) (fun _ => ex10)) ?_
  refine AQ.step rfl rfl rfl (sp_fieldAddr_ro rfl tf_92_0 iL) ?_
  refine AQ.step rfl rfl rfl (ms_load (d := .str x10.Name) rfl ts_9 iL rfl) ?_
  refine ob1k h15 fun r2 er2 h16 => ?_
  refine AQ.stepC rfl rfl rfl (r := .r (.str r2)) (caps := []) (bs := [.r (.sl (a1.map GAttr.row)), .r (.str x10.Name)]) rfl iL rfl ⟨⟨_, iL, .d rfl⟩, ⟨_, iL, .d rfl⟩, trivial⟩ (fun _ => w_ref_Get (er2)) rfl ?_
  refine AQ.step rfl rfl rfl (sp_move rfl iL) ?_
  refine AQ.step rfl rfl rfl (sp_move rfl iL) ?_
  refine AQ.step rfl rfl rfl (ms_idx rfl tg_29.slice iL iL (fun _ => rfl) (fun _ => ex10)) ?_
  refine AQ.step rfl rfl rfl (sp_fieldAddr_ro rfl tf_92_1 iL) ?_
  refine AQ.step rfl rfl rfl (ms_load (d := .str x10.Value) rfl ts_9 iL rfl) ?_
  refine AQ.step rfl rfl rfl (sp_sneq rfl iL iL) ?_
  refine AQ.nil ?_
  refine hK17 _ ?_
  refine AW.cond rfl (fun hc4 => ?_) (fun hc4 => ?_)
  ·have h17 := ite_t hc4 h16
   refine AW.weak (s' := ⟨[(0, .r (.sl (a1.map GAttr.row))), (1, .r (.sl (b1.map GAttr.row))), (5, .r (.sl (out2.map GAttr.row))), (6, .r (.int .i64 x2)), (9, .r (.int .i64 (b1.length : Int))), (10, .r (.int .i64 x2))], [], (i3 0), 56⟩) (by exact Weak.cv ⟨jL, jL, jL, jL, jL, jL, trivial⟩ trivial nL) ?_
   refine AW.region ?_
   refine sM rfl rfl ?_
   refine sM rfl rfl ?_
   refine sM rfl rfl ?_
   refine sQ rfl (ms_idx rfl tg_29.slice iL iL (fun _ => rfl) (fun _ => ex10)) ?_
   refine sQ rfl (ms_loadA (cs := [.r (.str x10.Name), .r (.str x10.Value)]) rfl ta_92 iL rfl rfl) ?_
   refine ob1k h17 fun out12 eout12 h18 => ?_
   refine AOps.step rfl rfl rfl (sp_callS (r := .r (.sl (out12.map GAttr.row))) (caps := []) (bs := [.r (.sl (out2.map GAttr.row)), .agg [.r (.str x10.Name), .r (.str x10.Value)]]) rfl iL rfl ⟨.inl ⟨iL, rfl⟩, .inl ⟨iL, rfl⟩, trivial⟩ (fun _ => w_ref_put (eout12))) ?_
   refine sQ rfl (sp_assign rfl iL) ?_
   refine AOps.nil ?_
   exact wK15 _ _ ((by exact Weak.cv ⟨jL, jL, jL, jL, jL, trivial⟩ trivial nL)) (J4 _ (vec [(i3 0)]) (Option.some.inj h18).symm)
  ·have h17 := ite_f hc4 h16
   refine AW.skip ?_
   exact wK15 _ _ ((by exact Weak.cv ⟨jL, jL, jL, jL, jL, trivial⟩ trivial nL)) (J4 _ (vec [(i3 0)]) (Option.some.inj h17).symm)
 ·have h12 := ite_f hc3 h11
  refine AW.exit ?_
  exact wK3 _ _ ((by exact Weak.cv ⟨jL, jL, jL, trivial⟩ trivial nL)) (J1 _ (vec [(i3 0)]) (hx1 _ (Option.some.inj h12).symm))
end Go.Proofs.Ytfkolgjapajekaa.Al
