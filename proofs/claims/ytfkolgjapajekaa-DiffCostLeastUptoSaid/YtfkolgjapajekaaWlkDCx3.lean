/- Walks, as printed. -/
import Derived.Test.YtfkolgjapajekaaWlkDCx2
import Derived.Test.YtfkolgjapajekaaProg
set_option linter.unusedVariables false
namespace Go.Proofs.Ytfkolgjapajekaa.Al
open Go.Proofs
set_option maxHeartbeats 4000000 in
set_option maxRecDepth 20000 in
theorem w_ref_DiffCost_B {self : (List GElem) → (List GElem) → Bool → Option Int} (hself : ∀ {a1 : List GElem} {b1 : List GElem} {tied1 : Bool} {r : Int}, self a1 b1 tied1 = some r → ARO Try.prog 20 [.r (.sl (a1.map GElem.row)), .r (.sl (b1.map GElem.row)), .r (.bool tied1)] (.r (.int .i64 r))) {a1 : List GElem} {b1 : List GElem} {tied1 : Bool} {r : Int} (h : ref_DiffCost_B self a1 b1 tied1 = some r) : ARO Try.prog 20 [.r (.sl (a1.map GElem.row)), .r (.sl (b1.map GElem.row)), .r (.bool tied1)] (.r (.int .i64 r)) := by
 unfold ref_DiffCost_B at h
 refine ARO.mkF Try.func20 rfl rfl Try.ntmps20 rfl (Nat.le_of_ble_eq_true rfl) fun n0 => ?_
 refine AW.seq_w fun K1 hK1 wK1 => ?_
 refine AW.region ?_
 refine sQ rfl (sp_assign rfl iL) ?_
 refine AOps.nil ?_
 refine hK1 _ ?_
 refine AW.seq_w fun K2 hK2 wK2 => ?_
 refine AW.seq_w fun K3 hK3 wK3 => ?_
 refine AW.region ?_
 refine sQ rfl (sp_move rfl iL) ?_
 refine AOps.nil ?_
 refine hK3 _ ?_
 refine AW.cond rfl (fun hc1 => ?_) (fun hc1 => ?_)
 ·have h1 := ite_t hc1 h
  refine AW.seq_w fun K4 hK4 wK4 => ?_
  refine AW.region ?_
  refine sQ rfl (sp_assign rfl iL) ?_
  refine AOps.nil ?_
  refine hK4 _ ?_
  refine AW.seq_w fun K5 hK5 wK5 => ?_
  refine AW.seq_w fun K6 hK6 wK6 => ?_
  refine AW.regionQ hmix (by kernel_rfl) ?_
  refine AQ.step rfl rfl rfl (sp_move rfl iL) ?_
  refine AQ.step rfl rfl rfl (sp_move rfl iL) ?_
  refine AQ.step rfl rfl rfl (ms_len rfl tg_22.slice iL) ?_
  refine ob1k h1 fun x1 ex1 h2 => ?_
  refine AQ.step rfl rfl rfl (ms_sub rfl iL iL (fun _ => ex1)) ?_
  refine ob1k h2 fun x2 ex2 h3 => ?_
  refine AQ.step rfl rfl rfl (ms_idx rfl tg_22.slice iL iL (fun _ => rfl) (fun _ => ex2)) ?_
  refine AQ.step rfl rfl rfl (sp_fieldAddr_ro rfl tf_82_2 iL) ?_
  refine AQ.step rfl rfl rfl (ms_load (d := .sl (x2.Attrs.map GAttr.row)) rfl ts_29 iL rfl) ?_
  refine AQ.step rfl rfl rfl (sp_move rfl iL) ?_
  refine AQ.step rfl rfl rfl (sp_move rfl iL) ?_
  refine AQ.step rfl rfl rfl (ms_len rfl tg_22.slice iL) ?_
  refine ob1k h3 fun x3 ex3 h4 => ?_
  refine AQ.step rfl rfl rfl (ms_sub rfl iL iL (fun _ => ex3)) ?_
  refine ob1k h4 fun x4 ex4 h5 => ?_
  refine AQ.step rfl rfl rfl (ms_idx rfl tg_22.slice iL iL (fun _ => rfl) (fun _ => ex4)) ?_
  refine AQ.step rfl rfl rfl (sp_fieldAddr_ro rfl tf_82_2 iL) ?_
  refine AQ.step rfl rfl rfl (ms_load (d := .sl (x4.Attrs.map GAttr.row)) rfl ts_29 iL rfl) ?_
  refine ob1k h5 fun r1 er1 h6 => ?_
  refine AQ.stepC rfl rfl rfl (r := .r (.bool r1)) (caps := []) (bs := [.r (.sl (x2.Attrs.map GAttr.row)), .r (.sl (x4.Attrs.map GAttr.row))]) rfl iL rfl ⟨⟨_, iL, .d rfl⟩, ⟨_, iL, .d rfl⟩, trivial⟩ (fun _ => w_ref_SameAttrs (er1)) rfl ?_
  refine AQ.step rfl rfl rfl (sp_not rfl iL) ?_
  refine AQ.nil ?_
  refine hK6 _ ?_
  refine jb1k h6 fun p1 hp1 hk1 => ?_
  have J1 : ∀ (n1 : Int) (i1 : Nat → Nat), p1 = n1 → K5 ⟨[(0, .r (.sl (a1.map GElem.row))), (1, .r (.sl (b1.map GElem.row))), (7, .r (.int .i64 n1))], [], (i1 0), 140⟩ := by
   intro n1 i1 e
   have h7 := hk1 _ e
   refine hK5 _ ?_
   refine AW.seq_w fun K7 hK7 wK7 => ?_
   refine AW.regionQ hmix (by kernel_rfl) ?_
   refine AQ.step rfl rfl rfl (sp_move rfl iL) ?_
   refine AQ.step rfl rfl rfl (sp_move rfl iL) ?_
   refine AQ.step rfl rfl rfl (sp_move rfl iL) ?_
   refine AQ.step rfl rfl rfl (ms_len rfl tg_22.slice iL) ?_
   refine AQ.step rfl rfl rfl (ms_sub rfl iL iL (fun _ => ex1)) ?_
   refine ob1k h7 fun l1 el1 h8 => ?_
   refine AQ.step rfl rfl rfl (ms_slice rfl tg_22.slice iL (by exact rfl) (by exact ⟨_, iL⟩) (fun _ => rfl) (fun _ => el1)) ?_
   refine AQ.step rfl rfl rfl (sp_move rfl iL) ?_
   refine AQ.step rfl rfl rfl (sp_move rfl iL) ?_
   refine AQ.step rfl rfl rfl (ms_len rfl tg_22.slice iL) ?_
   refine AQ.step rfl rfl rfl (ms_sub rfl iL iL (fun _ => ex3)) ?_
   refine ob1k h8 fun l2 el2 h9 => ?_
   refine AQ.step rfl rfl rfl (ms_slice rfl tg_22.slice iL (by exact rfl) (by exact ⟨_, iL⟩) (fun _ => rfl) (fun _ => el2)) ?_
   refine ob1k h9 fun r2 er2 h10 => ?_
   refine AQ.stepC rfl rfl rfl (r := .r (.int .i64 r2)) (caps := []) (bs := [.r (.sl (l1.map GElem.row)), .r (.sl (l2.map GElem.row)), .r (.bool false)]) rfl iL rfl ⟨⟨_, iL, .d rfl⟩, ⟨_, iL, .d rfl⟩, ⟨_, iL, .d rfl⟩, trivial⟩ (fun _ => hself (er2)) rfl ?_
   refine ob1k h10 fun x5 ex5 h11 => ?_
   refine AQ.step rfl rfl rfl (ms_add rfl iL iL (fun _ => ex5)) ?_
   refine AQ.step rfl rfl rfl (sp_assign rfl iL) ?_
   refine AQ.nil ?_
   refine hK7 _ ?_
   refine AW.ret ?_
   exact retf1 (P := Try.prog) (fun (r : Int) => .r (.int .i64 r)) h11 iL (.t (.d rfl))
  refine AW.cond rfl (fun hc2 => ?_) (fun hc2 => ?_)
  ·have h12 := ite_t hc2 hp1
   refine AW.weak (s' := ⟨[(0, .r (.sl (a1.map GElem.row))), (1, .r (.sl (b1.map GElem.row)))], [], n0, 140⟩) (by exact Weak.cv ⟨.inl iL, .inl iL, trivial⟩ trivial (Nat.le_refl _)) ?_
   refine AW.region ?_
   refine sQ rfl (sp_assign rfl iL) ?_
   refine AOps.nil ?_
   exact wK5 _ _ ((by exact Weak.cv ⟨.inl iL, .inl iL, .inl iL, trivial⟩ trivial (Nat.le_refl _))) (J1 _ (vec [n0]) (Option.some.inj h12).symm)
  ·have h12 := ite_f hc2 hp1
   refine AW.skip ?_
   exact wK5 _ _ ((by exact Weak.cv ⟨.inl iL, .inl iL, .inl iL, trivial⟩ trivial (Nat.le_refl _))) (J1 _ (vec [n0]) (Option.some.inj h12).symm)
 ·have h1 := ite_f hc1 h
  refine AW.skip ?_
  refine hK2 _ ?_
  refine AW.seq_w fun K8 hK8 wK8 => ?_
  refine AW.region ?_
  refine sQ rfl (sp_move rfl iL) ?_
  refine sQ rfl (ms_len rfl tg_22.slice iL) ?_
  refine ob1k h1 fun x6 ex6 h13 => ?_
  refine sQ rfl (ms_add rfl iL iL (fun _ => ex6)) ?_
  refine ob1k h13 fun line1 eline1 h14 => ?_
  refine AOps.step rfl rfl rfl (ms_mk 48 rfl tg_87 (f := (rInt .i64)) (z0 := 0) tr_3 iL iL eline1) ?_
  refine sQ rfl (sp_assign rfl iL) ?_
  refine AOps.nil ?_
  refine hK8 _ ?_
  refine AW.seq_w fun K9 hK9 wK9 => ?_
  refine AW.seq_w fun K10 hK10 wK10 => ?_
  refine AW.region ?_
  refine sQ rfl (sp_move rfl iL) ?_
  refine sQ rfl (ms_len_own rfl tg_87.slice iL rfl) ?_
  refine sQ rfl (sp_move rfl iL) ?_
  refine AOps.nil ?_
  refine hK10 _ ?_
  refine AW.block ?_
  refine jb1k h14 fun o1 hit1 hk2 => ?_
  have J2 : ∀ (line5 : List Int) (i6 : Nat → Nat), o1 = line5 → K9 ⟨[(0, .r (.sl (a1.map GElem.row))), (1, .r (.sl (b1.map GElem.row))), (8, .own 48 (i6 0))], [(48, some (.arr (i6 0) 3 1 (line5.map (rInt .i64))))], (i6 1), 140⟩ := by
   intro line5 i6 e
   have h15 := hk2 _ e
   refine hK9 _ ?_
   refine AW.seq_w fun K11 hK11 wK11 => ?_
   refine AW.seq_w fun K12 hK12 wK12 => ?_
   refine AW.region ?_
   refine sQ rfl (sp_move rfl iL) ?_
   refine sQ rfl (ms_len rfl tg_22.slice iL) ?_
   refine sQ rfl (sp_move rfl iL) ?_
   refine AOps.nil ?_
   refine hK12 _ ?_
   refine AW.block ?_
   refine jb1k h15 fun o2 hit2 hk3 => ?_
   have J3 : ∀ (line9 : List Int) (i11 : Nat → Nat), o2 = line9 → K11 ⟨[(1, .r (.sl (b1.map GElem.row))), (8, .r (.sl (line9.map (rInt .i64))))], [], (i11 0), 140⟩ := by
    intro line9 i11 e
    have h16 := hk3 _ e
    refine hK11 _ ?_
    refine AW.seq_w fun K13 hK13 wK13 => ?_
    refine AW.region ?_
    refine sQ rfl (sp_move rfl iL) ?_
    refine sQ rfl (sp_move rfl iL) ?_
    refine sQ rfl (ms_len rfl tg_22.slice iL) ?_
    refine ob1k h16 fun x13 ex13 h17 => ?_
    refine sQ rfl (ms_idx rfl tg_87.slice iL iL (fun _ => rfl) (fun _ => ex13)) ?_
    refine sQ rfl (ms_load (d := .int .i64 x13) rfl ts_3 iL rfl) ?_
    refine sQ rfl (sp_assign rfl iL) ?_
    refine AOps.nil ?_
    refine hK13 _ ?_
    refine AW.ret ?_
    exact retf1 (P := Try.prog) (fun (r : Int) => .r (.int .i64 r)) h17 iL (.t (.d rfl))
   refine AW.iter2 (fun (line7 : List Int) (x11 : Int) i9 => ⟨[(0, .r (.sl (a1.map GElem.row))), (1, .r (.sl (b1.map GElem.row))), (8, .r (.sl (line7.map (rInt .i64)))), (60, .r (.int .i64 (a1.length : Int))), (61, .r (.int .i64 x11))], [], (i9 0), 140⟩) (vec [(i6 1)]) hit2 (Weak.trans (by exact Weak.frz (e' := [(0, .r (.sl (a1.map GElem.row))), (1, .r (.sl (b1.map GElem.row))), (8, .r (.sl (line5.map (rInt .i64)))), (59, .r (.sl (a1.map GElem.row))), (60, .r (.int .i64 (a1.length : Int))), (61, .r (.int .i64 0))]) (h' := []) 48 rfl ⟨.inl iL, .inl iL, .inl (.inr (.inr ⟨rfl, rfl⟩)), .inl iL, .inl iL, .inl iL, trivial⟩ trivial) (by exact Weak.cv ⟨.inl iL, .inl iL, .inl iL, .inl iL, .inl iL, trivial⟩ trivial (Nat.le_refl _))) ?_
   intro line7 x11 i9 v1 hv1 hx2
   have h18 : ref_DiffCost_L2 a1 b1 line7 x11 = some v1 := hv1; unfold ref_DiffCost_L2 at h18
   refine AW.seq_w fun K14 hK14 wK14 => ?_
   refine AW.region ?_
   refine sQ rfl (sp_lss rfl iL iL) ?_
   refine AOps.nil ?_
   refine hK14 _ ?_
   refine AW.seq_w fun K15 hK15 wK15 => ?_
   refine AW.cond rfl (fun hc3 => ?_) (fun hc3 => ?_)
   ·have h19 := ite_t hc3 h18
    refine AW.skip ?_
    refine hK15 _ ?_
    refine AW.seq_w fun K16 hK16 wK16 => ?_
    refine AW.block ?_
    refine AW.seq_w fun K17 hK17 wK17 => ?_
    refine AW.region ?_
    refine sQ rfl (sp_move rfl iL) ?_
    refine sQ rfl (sp_assign rfl iL) ?_
    refine AOps.nil ?_
    refine hK17 _ ?_
    refine AW.seq_w fun K18 hK18 wK18 => ?_
    refine AW.region ?_
    refine sQ rfl (sp_move rfl iL) ?_
    refine ob1k h19 fun x14 ex14 h20 => ?_
    refine sQ rfl (ms_add rfl iL iL (fun _ => ex14)) ?_
    refine AOps.step rfl rfl rfl (ms_lit 66 rfl tg_87 (f := (rInt .i64)) (l := ([x14] : List Int)) ⟨rfl, ⟨_, iL, rfl⟩, trivial⟩ rfl (fun _ => rfl) rfl) ?_
    refine sQ rfl (sp_assign rfl iL) ?_
    refine AOps.nil ?_
    refine hK18 _ ?_
    refine AW.seq_w fun K19 hK19 wK19 => ?_
    refine AW.seq_w fun K20 hK20 wK20 => ?_
    refine AW.region ?_
    refine sQ rfl (sp_move rfl iL) ?_
    refine sQ rfl (ms_len rfl tg_22.slice iL) ?_
    refine sQ rfl (sp_move rfl iL) ?_
    refine AOps.nil ?_
    refine hK20 _ ?_
    refine AW.block ?_
    refine jb1k h20 fun o3 hit3 hk4 => ?_
    have J4 : ∀ (next4 : List Int) (i16 : Nat → Nat), o3 = next4 → K19 ⟨[(0, .r (.sl (a1.map GElem.row))), (1, .r (.sl (b1.map GElem.row))), (11, .own 66 (i16 0)), (60, .r (.int .i64 (a1.length : Int))), (61, .r (.int .i64 x11))], [(66, some (.arr (i16 0) 3 1 (next4.map (rInt .i64))))], (i16 1), 140⟩ := by
     intro next4 i16 e
     have h21 := hk4 _ e
     refine hK19 _ ?_
     refine AW.region ?_
     refine sQ rfl (sp_move rfl iL) ?_
     refine sQ rfl (sp_assign rfl iL) ?_
     refine AOps.nil ?_
     refine hK16 _ ?_
     refine AW.region ?_
     refine sQ rfl (ms_add rfl iL iL (fun _ => ex14)) ?_
     refine sQ rfl (sp_move rfl iL) ?_
     refine AOps.nil ?_
     exact NextQ2.mk h21 (vec [(i16 1)]) (Weak.trans (by exact Weak.frz (e' := [(0, .r (.sl (a1.map GElem.row))), (1, .r (.sl (b1.map GElem.row))), (8, .r (.sl (next4.map (rInt .i64)))), (11, .r (.sl (next4.map (rInt .i64)))), (60, .r (.int .i64 (a1.length : Int))), (61, .r (.int .i64 x14)), (133, .r (.sl (next4.map (rInt .i64)))), (134, .r (.int .i64 x14))]) (h' := []) 66 rfl ⟨.inl iL, .inl iL, .inl (.inr (.inr ⟨rfl, rfl⟩)), .inl (.inr (.inr ⟨rfl, rfl⟩)), .inl iL, .inl iL, .inl (.inr (.inr ⟨rfl, rfl⟩)), .inl iL, trivial⟩ trivial) (by exact Weak.cv ⟨.inl iL, .inl iL, .inl iL, .inl iL, .inl iL, trivial⟩ trivial (Nat.le_refl _)))
    refine AW.iter2 (fun (x16 : Int) (next2 : List Int) i14 => ⟨[(0, .r (.sl (a1.map GElem.row))), (1, .r (.sl (b1.map GElem.row))), (8, .r (.sl (line7.map (rInt .i64)))), (10, .r (.int .i64 x11)), (11, .own 66 (i14 0)), (60, .r (.int .i64 (a1.length : Int))), (61, .r (.int .i64 x11)), (68, .r (.int .i64 (b1.length : Int))), (69, .r (.int .i64 x16))], [(66, some (.arr (i14 0) 3 1 (next2.map (rInt .i64))))], (i14 1), 140⟩) (vec [(i9 0), ((i9 0) + 1)]) hit3 ((by exact Weak.cv ⟨.inl iL, .inl iL, .inl iL, .inl iL, .inl iL, .inl iL, .inl iL, .inl iL, .inl iL, trivial⟩ ⟨.inl rfl, trivial⟩ (Nat.le_refl _))) ?_
    intro x16 next2 i14 v2 hv2 hx3
    have h22 : ref_DiffCost_L3 a1 b1 line7 x11 x16 next2 = some v2 := hv2; unfold ref_DiffCost_L3 at h22
    refine AW.seq_w fun K21 hK21 wK21 => ?_
    refine AW.region ?_
    refine sQ rfl (sp_lss rfl iL iL) ?_
    refine AOps.nil ?_
    refine hK21 _ ?_
    refine AW.seq_w fun K22 hK22 wK22 => ?_
    refine AW.cond rfl (fun hc4 => ?_) (fun hc4 => ?_)
    ·have h23 := ite_t hc4 h22
     refine AW.skip ?_
     refine hK22 _ ?_
     refine AW.seq_w fun K23 hK23 wK23 => ?_
     refine AW.block ?_
     refine AW.seq_w fun K24 hK24 wK24 => ?_
     refine AW.region ?_
     refine sQ rfl (sp_move rfl iL) ?_
     refine sQ rfl (sp_assign rfl iL) ?_
     refine AOps.nil ?_
     refine hK24 _ ?_
     refine AW.seq_w fun K25 hK25 wK25 => ?_
     refine AW.regionQ hmix (by kernel_rfl) ?_
     refine AQ.step rfl rfl rfl (sp_move rfl iL) ?_
     refine AQ.step rfl rfl rfl (sp_move rfl iL) ?_
     refine ob1k h23 fun x18 ex18 h24 => ?_
     refine AQ.step rfl rfl rfl (ms_add rfl iL iL (fun _ => ex18)) ?_
     refine ob1k h24 fun x19 ex19 h25 => ?_
     refine AQ.step rfl rfl rfl (ms_idx rfl tg_87.slice iL iL (fun _ => rfl) (fun _ => ex19)) ?_
     refine AQ.step rfl rfl rfl (ms_load (d := .int .i64 x19) rfl ts_3 iL rfl) ?_
     refine AQ.step rfl rfl rfl (sp_move rfl iL) ?_
     refine AQ.step rfl rfl rfl (sp_move rfl iL) ?_
     refine ob1k h25 fun x20 ex20 h26 => ?_
     refine AQ.step rfl rfl rfl (ms_idx_own rfl tg_87.slice iL rfl iL (fun _ => ex20)) ?_
     refine AQ.step rfl rfl rfl (ms_load_own (d := .int .i64 x20) rfl ts_3 iL (fun _ => rfl) (fun _ => ex20) rfl) ?_
     refine AQ.step rfl rfl rfl (sp_min rfl iL iL) ?_
     refine ob1k h26 fun n2 en2 h27 => ?_
     refine AQ.step rfl rfl rfl (ms_add rfl iL iL (fun _ => en2)) ?_
     refine AQ.step rfl rfl rfl (sp_assign rfl iL) ?_
     refine AQ.nil ?_
     refine hK25 _ ?_
     refine AW.seq_w fun K26 hK26 wK26 => ?_
     refine AW.seq_w fun K27 hK27 wK27 => ?_
     refine AW.weak (s' := ⟨[(0, .r (.sl (a1.map GElem.row))), (1, .r (.sl (b1.map GElem.row))), (8, .r (.sl (line7.map (rInt .i64)))), (10, .r (.int .i64 x11)), (11, .own 66 (i14 0)), (12, .r (.int .i64 x16)), (13, .r (.int .i64 n2)), (60, .r (.int .i64 (a1.length : Int))), (61, .r (.int .i64 x11)), (68, .r (.int .i64 (b1.length : Int))), (69, .r (.int .i64 x16))], [(66, some (.arr (i14 0) 3 1 (next2.map (rInt .i64))))], (i14 1), 140⟩) (by exact Weak.cv ⟨.inl iL, .inl iL, .inl iL, .inl iL, .inl iL, .inl iL, .inl iL, .inl iL, .inl iL, .inl iL, .inl iL, trivial⟩ ⟨.inl rfl, trivial⟩ (Nat.le_refl _)) ?_
     refine AW.regionQ hmix (by kernel_rfl) ?_
     refine AQ.step rfl rfl rfl (sp_move rfl iL) ?_
     refine AQ.step rfl rfl rfl (sp_move rfl iL) ?_
     refine ob1k h27 fun x21 ex21 h28 => ?_
     refine AQ.step rfl rfl rfl (ms_idx rfl tg_22.slice iL iL (fun _ => rfl) (fun _ => ex21)) ?_
     refine AQ.step rfl rfl rfl (sp_fieldAddr_ro rfl tf_82_0 iL) ?_
     refine AQ.step rfl rfl rfl (ms_load (d := .int .i64 x21.Char) rfl ts_3 iL rfl) ?_
     refine AQ.step rfl rfl rfl (sp_move rfl iL) ?_
     refine AQ.step rfl rfl rfl (sp_move rfl iL) ?_
     refine ob1k h28 fun x22 ex22 h29 => ?_
     refine AQ.step rfl rfl rfl (ms_idx rfl tg_22.slice iL iL (fun _ => rfl) (fun _ => ex22)) ?_
     refine AQ.step rfl rfl rfl (sp_fieldAddr_ro rfl tf_82_0 iL) ?_
     refine AQ.step rfl rfl rfl (ms_load (d := .int .i64 x22.Char) rfl ts_3 iL rfl) ?_
     refine AQ.step rfl rfl rfl (sp_eql rfl iL iL) ?_
     refine AQ.step rfl rfl rfl (sp_move rfl iL) ?_
     refine AQ.stepW (.one rfl rfl rfl) rfl rfl (sp_move rfl iL) ?_
     refine AQ.stepW (.one rfl rfl rfl) rfl rfl (sp_move rfl iL) ?_
     refine AQ.stepW (.one rfl rfl rfl) rfl rfl (ms_idx rfl tg_22.slice (.inr ⟨_, (by exact id), rfl⟩) (.inr ⟨_, (by exact id), rfl⟩) (fun _ => rfl) (fun _ => ex21)) ?_
     refine AQ.stepW (.one rfl rfl rfl) rfl rfl (sp_fieldAddr_ro rfl tf_82_1 (.inr ⟨_, (by exact id), rfl⟩)) ?_
     refine AQ.stepW (.one rfl rfl rfl) rfl rfl (ms_load (d := .int .i64 x21.Ref) rfl ts_3 (.inr ⟨_, (by exact id), rfl⟩) rfl) ?_
     refine AQ.stepW (.one rfl rfl rfl) rfl rfl (sp_move rfl iL) ?_
     refine AQ.stepW (.one rfl rfl rfl) rfl rfl (sp_move rfl iL) ?_
     refine AQ.stepW (.one rfl rfl rfl) rfl rfl (ms_idx rfl tg_22.slice (.inr ⟨_, (by exact id), rfl⟩) (.inr ⟨_, (by exact id), rfl⟩) (fun _ => rfl) (fun _ => ex22)) ?_
     refine AQ.stepW (.one rfl rfl rfl) rfl rfl (sp_fieldAddr_ro rfl tf_82_1 (.inr ⟨_, (by exact id), rfl⟩)) ?_
     refine AQ.stepW (.one rfl rfl rfl) rfl rfl (ms_load (d := .int .i64 x22.Ref) rfl ts_3 (.inr ⟨_, (by exact id), rfl⟩) rfl) ?_
     refine AQ.stepW (.one rfl rfl rfl) rfl rfl (sp_eql rfl (.inr ⟨_, (by exact id), rfl⟩) (.inr ⟨_, (by exact id), rfl⟩)) ?_
     refine AQ.step rfl rfl rfl (sp_and rfl iL (.inr ⟨_, (by exact id), rfl⟩)) ?_
     refine AQ.nil ?_
     refine hK27 _ ?_
     refine jb1k h29 fun p2 hp2 hk5 => ?_
     have J5 : ∀ (n3 : Int) (i17 : Nat → Nat), p2 = n3 → K26 ⟨[(0, .r (.sl (a1.map GElem.row))), (1, .r (.sl (b1.map GElem.row))), (8, .r (.sl (line7.map (rInt .i64)))), (10, .r (.int .i64 x11)), (11, .own 66 (i14 0)), (13, .r (.int .i64 n3)), (60, .r (.int .i64 (a1.length : Int))), (61, .r (.int .i64 x11)), (68, .r (.int .i64 (b1.length : Int))), (69, .r (.int .i64 x16))], [(66, some (.arr (i14 0) 3 1 (next2.map (rInt .i64))))], (i17 0), 140⟩ := by
      intro n3 i17 e
      have h30 := hk5 _ e
      refine hK26 _ ?_
      refine AW.region ?_
      refine sQ rfl (sp_move rfl iL) ?_
      refine sQ rfl (sp_move rfl iL) ?_
      refine AOps.step rfl rfl rfl (ms_lit 130 rfl tg_87 (f := (rInt .i64)) (l := ([n3] : List Int)) ⟨rfl, ⟨_, iL, rfl⟩, trivial⟩ rfl (fun _ => rfl) rfl) ?_
      refine ob1k h30 fun next5 enext5 h31 => ?_
      refine AOps.step rfl rfl rfl (ms_app rfl tg_87 iL rfl (.inr (.inl ⟨_, _, iL, rfl⟩)) enext5) ?_
      refine sQ rfl (sp_assign rfl iL) ?_
      refine AOps.nil ?_
      refine hK23 _ ?_
      refine AW.region ?_
      refine sQ rfl (ms_add rfl iL iL (fun _ => ex18)) ?_
      refine sQ rfl (sp_move rfl iL) ?_
      refine AOps.nil ?_
      exact NextQ2.mk h31 (vec [((i17 0) + 1), ((i17 0) + 2)]) ((by exact Weak.cv ⟨.inl iL, .inl iL, .inl iL, .inl iL, .inl iL, .inl iL, .inl iL, .inl iL, .inl iL, trivial⟩ ⟨.inl rfl, trivial⟩ (Nat.le_refl _)))
     refine AW.cond rfl (fun hc5 => ?_) (fun hc5 => ?_)
     ·have h32 := ite_t hc5 hp2
      refine AW.seq_w fun K28 hK28 wK28 => ?_
      refine AW.weak (s' := ⟨[(0, .r (.sl (a1.map GElem.row))), (1, .r (.sl (b1.map GElem.row))), (8, .r (.sl (line7.map (rInt .i64)))), (10, .r (.int .i64 x11)), (11, .own 66 (i14 0)), (12, .r (.int .i64 x16)), (13, .r (.int .i64 n2)), (60, .r (.int .i64 (a1.length : Int))), (61, .r (.int .i64 x11)), (68, .r (.int .i64 (b1.length : Int))), (69, .r (.int .i64 x16))], [(66, some (.arr (i14 0) 3 1 (next2.map (rInt .i64))))], (i14 1), 140⟩) (by exact Weak.cv ⟨.inl iL, .inl iL, .inl iL, .inl iL, .inl iL, .inl iL, .inl iL, .inl iL, .inl iL, .inl iL, .inl iL, trivial⟩ ⟨.inl rfl, trivial⟩ (Nat.le_refl _)) ?_
      refine AW.region ?_
      refine sQ rfl (sp_move rfl iL) ?_
      refine sQ rfl (sp_move rfl iL) ?_
      refine ob1k h32 fun x23 ex23 h33 => ?_
      refine sQ rfl (ms_idx rfl tg_87.slice iL iL (fun _ => rfl) (fun _ => ex23)) ?_
      refine sQ rfl (ms_load (d := .int .i64 x23) rfl ts_3 iL rfl) ?_
      refine sQ rfl (sp_assign rfl iL) ?_
      refine AOps.nil ?_
      refine hK28 _ ?_
      refine AW.seq_w fun K29 hK29 wK29 => ?_
      refine AW.seq_w fun K30 hK30 wK30 => ?_
      refine AW.regionQ hmix (by kernel_rfl) ?_
      refine AQ.step rfl rfl rfl (sp_move rfl iL) ?_
      refine AQ.step rfl rfl rfl (sp_move rfl iL) ?_
      refine AQ.step rfl rfl rfl (ms_idx rfl tg_22.slice iL iL (fun _ => rfl) (fun _ => ex21)) ?_
      refine AQ.step rfl rfl rfl (sp_fieldAddr_ro rfl tf_82_2 iL) ?_
      refine AQ.step rfl rfl rfl (ms_load (d := .sl (x21.Attrs.map GAttr.row)) rfl ts_29 iL rfl) ?_
      refine AQ.step rfl rfl rfl (sp_move rfl iL) ?_
      refine AQ.step rfl rfl rfl (sp_move rfl iL) ?_
      refine AQ.step rfl rfl rfl (ms_idx rfl tg_22.slice iL iL (fun _ => rfl) (fun _ => ex22)) ?_
      refine AQ.step rfl rfl rfl (sp_fieldAddr_ro rfl tf_82_2 iL) ?_
      refine AQ.step rfl rfl rfl (ms_load (d := .sl (x22.Attrs.map GAttr.row)) rfl ts_29 iL rfl) ?_
      refine ob1k h33 fun r3 er3 h34 => ?_
      refine AQ.stepC rfl rfl rfl (r := .r (.bool r3)) (caps := []) (bs := [.r (.sl (x21.Attrs.map GAttr.row)), .r (.sl (x22.Attrs.map GAttr.row))]) rfl iL rfl ⟨⟨_, iL, .d rfl⟩, ⟨_, iL, .d rfl⟩, trivial⟩ (fun _ => w_ref_SameAttrs (er3)) rfl ?_
      refine AQ.step rfl rfl rfl (sp_not rfl iL) ?_
      refine AQ.nil ?_
      refine hK30 _ ?_
      refine jb1k h34 fun p4 hp3 hk6 => ?_
      have J6 : ∀ (p3 : Int) (i18 : Nat → Nat), p4 = p3 → K29 ⟨[(0, .r (.sl (a1.map GElem.row))), (1, .r (.sl (b1.map GElem.row))), (8, .r (.sl (line7.map (rInt .i64)))), (10, .r (.int .i64 x11)), (11, .own 66 (i14 0)), (13, .r (.int .i64 n2)), (14, .r (.int .i64 p3)), (60, .r (.int .i64 (a1.length : Int))), (61, .r (.int .i64 x11)), (68, .r (.int .i64 (b1.length : Int))), (69, .r (.int .i64 x16))], [(66, some (.arr (i14 0) 3 1 (next2.map (rInt .i64))))], (i18 0), 140⟩ := by
       intro p3 i18 e
       have h35 := hk6 _ e
       refine hK29 _ ?_
       refine AW.region ?_
       refine sQ rfl (sp_move rfl iL) ?_
       refine sQ rfl (sp_move rfl iL) ?_
       refine sQ rfl (sp_min rfl iL iL) ?_
       refine sQ rfl (sp_assign rfl iL) ?_
       refine AOps.nil ?_
       exact wK26 _ _ ((by exact Weak.cv ⟨.inl iL, .inl iL, .inl iL, .inl iL, .inl iL, .inl iL, .inl iL, .inl iL, .inl iL, .inl iL, trivial⟩ ⟨.inl rfl, trivial⟩ (Nat.le_refl _))) (J5 _ (vec [(i18 0)]) (Option.some.inj h35).symm)
      refine AW.cond rfl (fun hc6 => ?_) (fun hc6 => ?_)
      ·have h36 := ite_t hc6 hp3
       refine AW.weak (s' := ⟨[(0, .r (.sl (a1.map GElem.row))), (1, .r (.sl (b1.map GElem.row))), (8, .r (.sl (line7.map (rInt .i64)))), (10, .r (.int .i64 x11)), (11, .own 66 (i14 0)), (13, .r (.int .i64 n2)), (14, .r (.int .i64 x23)), (60, .r (.int .i64 (a1.length : Int))), (61, .r (.int .i64 x11)), (68, .r (.int .i64 (b1.length : Int))), (69, .r (.int .i64 x16))], [(66, some (.arr (i14 0) 3 1 (next2.map (rInt .i64))))], (i14 1), 140⟩) (by exact Weak.cv ⟨.inl iL, .inl iL, .inl iL, .inl iL, .inl iL, .inl iL, .inl iL, .inl iL, .inl iL, .inl iL, .inl iL, trivial⟩ ⟨.inl rfl, trivial⟩ (Nat.le_refl _)) ?_
       refine AW.region ?_
       refine sQ rfl (sp_move rfl iL) ?_
       refine ob1k h36 fun p5 ep5 h37 => ?_
       refine sQ rfl (ms_add rfl iL iL (fun _ => ep5)) ?_
       refine sQ rfl (sp_assign rfl iL) ?_
       refine AOps.nil ?_
       exact wK29 _ _ ((by exact Weak.cv ⟨.inl iL, .inl iL, .inl iL, .inl iL, .inl iL, .inl iL, .inl iL, .inl iL, .inl iL, .inl iL, .inl iL, trivial⟩ ⟨.inl rfl, trivial⟩ (Nat.le_refl _))) (J6 _ (vec [(i14 1)]) (Option.some.inj h37).symm)
      ·have h36 := ite_f hc6 hp3
       refine AW.skip ?_
       exact wK29 _ _ ((by exact Weak.cv ⟨.inl iL, .inl iL, .inl iL, .inl iL, .inl iL, .inl iL, .inl iL, .inl iL, .inl iL, .inl iL, .inl iL, trivial⟩ ⟨.inl rfl, trivial⟩ (Nat.le_refl _))) (J6 _ (vec [(i14 1)]) (Option.some.inj h36).symm)
     ·have h32 := ite_f hc5 hp2
      refine AW.skip ?_
      exact wK26 _ _ ((by exact Weak.cv ⟨.inl iL, .inl iL, .inl iL, .inl iL, .inl iL, .inl iL, .inl iL, .inl iL, .inl iL, .inl iL, trivial⟩ ⟨.inl rfl, trivial⟩ (Nat.le_refl _))) (J5 _ (vec [(i14 1)]) (Option.some.inj h32).symm)
    ·have h23 := ite_f hc4 h22
     refine AW.exit ?_
     exact wK19 _ _ ((by exact Weak.cv ⟨.inl iL, .inl iL, .inl iL, .inl iL, .inl iL, trivial⟩ ⟨.inl rfl, trivial⟩ (Nat.le_refl _))) (J4 _ (vec [(i14 0), (i14 1)]) (hx3 _ (Option.some.inj h23).symm))
   ·have h19 := ite_f hc3 h18
    refine AW.exit ?_
    exact wK11 _ _ ((by exact Weak.cv ⟨.inl iL, .inl iL, trivial⟩ trivial (Nat.le_refl _))) (J3 _ (vec [(i9 0)]) (hx2 _ (Option.some.inj h19).symm))
  refine AW.iter2 (fun (x8 : Int) (line3 : List Int) i4 => ⟨[(0, .r (.sl (a1.map GElem.row))), (1, .r (.sl (b1.map GElem.row))), (8, .own 48 (i4 0)), (50, .r (.int .i64 (line1.length : Int))), (51, .r (.int .i64 x8))], [(48, some (.arr (i4 0) 3 1 (line3.map (rInt .i64))))], (i4 1), 140⟩) (vec [n0, (n0 + 1)]) hit1 ((by exact Weak.cv ⟨.inl iL, .inl iL, .inl iL, .inl iL, .inl iL, trivial⟩ ⟨.inl rfl, trivial⟩ (Nat.le_refl _))) ?_
  intro x8 line3 i4 v3 hv3 hx1
  have h38 : ref_DiffCost_L1 line1 x8 line3 = some v3 := hv3; unfold ref_DiffCost_L1 at h38
  refine AW.seq_w fun K31 hK31 wK31 => ?_
  refine AW.region ?_
  refine sQ rfl (sp_lss rfl iL iL) ?_
  refine AOps.nil ?_
  refine hK31 _ ?_
  refine AW.seq_w fun K32 hK32 wK32 => ?_
  refine AW.cond rfl (fun hc7 => ?_) (fun hc7 => ?_)
  ·have h39 := ite_t hc7 h38
   refine AW.skip ?_
   refine hK32 _ ?_
   refine AW.seq_w fun K33 hK33 wK33 => ?_
   refine AW.block ?_
   refine AW.seq_w fun K34 hK34 wK34 => ?_
   refine AW.region ?_
   refine sQ rfl (sp_move rfl iL) ?_
   refine sQ rfl (sp_assign rfl iL) ?_
   refine AOps.nil ?_
   refine hK34 _ ?_
   refine AW.region ?_
   refine sQ rfl (sp_move rfl iL) ?_
   refine sQ rfl (sp_move rfl iL) ?_
   refine sQ rfl (sp_move rfl iL) ?_
   refine ob1k h39 fun x24 ex24 h40 => ?_
   refine sQ rfl (ms_idx_own rfl tg_87.slice iL rfl iL (fun _ => ex24)) ?_
   refine AOps.step0 rfl rfl (ms_store (v := x8) rfl tz_3 iL rfl ex24 iL rfl rfl rfl rfl) ?_
   refine AOps.nil ?_
   refine hK33 _ ?_
   refine AW.region ?_
   refine ob1k h40 fun x25 ex25 h41 => ?_
   refine sQ rfl (ms_add rfl iL iL (fun _ => ex25)) ?_
   refine sQ rfl (sp_move rfl iL) ?_
   refine AOps.nil ?_
   exact NextQ2.mk h41 (vec [(i4 0), (i4 1)]) ((by exact Weak.cv ⟨.inl iL, .inl iL, .inl iL, .inl iL, .inl iL, trivial⟩ ⟨.inl rfl, trivial⟩ (Nat.le_refl _)))
  ·have h39 := ite_f hc7 h38
   refine AW.exit ?_
   exact wK9 _ _ ((by exact Weak.cv ⟨.inl iL, .inl iL, .inl iL, trivial⟩ ⟨.inl rfl, trivial⟩ (Nat.le_refl _))) (J2 _ (vec [(i4 0), (i4 1)]) (hx1 _ (Option.some.inj h39).symm))
set_option maxHeartbeats 4000000 in
set_option maxRecDepth 20000 in
theorem w_ref_DiffCost_N (n : Nat) : ∀ {a1 : List GElem} {b1 : List GElem} {tied1 : Bool} {r : Int}, ref_DiffCost_N n a1 b1 tied1 = some r → ARO Try.prog 20 [.r (.sl (a1.map GElem.row)), .r (.sl (b1.map GElem.row)), .r (.bool tied1)] (.r (.int .i64 r)) := by
 induction n with
 | zero => intro a1 b1 tied1 r h; exact absurd (show (none : Option (Int)) = some r from h) (by simp)
 | succ n ih => intro a1 b1 tied1 r h; exact w_ref_DiffCost_B (self := fun a1 b1 tied1 => ref_DiffCost_N n a1 b1 tied1) (fun h2 => ih h2) h
set_option maxHeartbeats 4000000 in
set_option maxRecDepth 20000 in
theorem w_ref_DiffCost {a1 : List GElem} {b1 : List GElem} {tied1 : Bool} {r : Int} (h : ref_DiffCost a1 b1 tied1 = some r) : ARO Try.prog 20 [.r (.sl (a1.map GElem.row)), .r (.sl (b1.map GElem.row)), .r (.bool tied1)] (.r (.int .i64 r)) := by
 unfold ref_DiffCost at h
 by_cases hh : ∃ n r, ref_DiffCost_N n a1 b1 tied1 = some r
 ·rw [dif_pos hh] at h; exact w_ref_DiffCost_N _ h
 ·rw [dif_neg hh] at h; cases h
set_option maxHeartbeats 4000000 in
set_option maxRecDepth 20000 in
theorem w_law_DiffCostLeast {a1 : List GElem} {b1 : List GElem} {r : Bool} (h : law_DiffCostLeast a1 b1 = some r) : ARO Try.prog 4 [.r (.sl (a1.map GElem.row)), .r (.sl (b1.map GElem.row))] (.r (.bool r)) := by
 unfold law_DiffCostLeast at h
 refine ARO.mkF Try.func4 rfl rfl Try.ntmps4 rfl (Nat.le_of_ble_eq_true rfl) fun n0 => ?_
 refine AW.seq_w fun K1 hK1 wK1 => ?_
 refine AW.region ?_
 refine sQ rfl (sp_assign rfl iL) ?_
 refine AOps.nil ?_
 refine hK1 _ ?_
 refine AW.seq_w fun K2 hK2 wK2 => ?_
 refine AW.seq_w fun K3 hK3 wK3 => ?_
 refine AW.region ?_
 refine ob1k h fun r1 er1 h1 => ?_
 refine AOps.step rfl rfl rfl (sp_call (r := .r (.bool r1)) (caps := []) (bs := []) rfl iL rfl trivial (fun _ => w_law_diffs (er1)) rfl) ?_
 refine sQ rfl (sp_not rfl iL) ?_
 refine AOps.nil ?_
 refine hK3 _ ?_
 refine AW.cond rfl (fun hc1 => ?_) (fun hc1 => ?_)
 ·have h2 := ite_t hc1 h1
  refine AW.seq_w fun K4 hK4 wK4 => ?_
  refine AW.region ?_
  refine sQ rfl (sp_assign rfl iL) ?_
  refine AOps.nil ?_
  refine hK4 _ ?_
  refine AW.ret ?_
  exact retf1 (P := Try.prog) (fun (r : Bool) => .r (.bool r)) h2 iL (.t (.d rfl))
 ·have h2 := ite_f hc1 h1
  refine AW.skip ?_
  refine hK2 _ ?_
  refine AW.seq_w fun K5 hK5 wK5 => ?_
  refine AW.region ?_
  refine sQ rfl (sp_move rfl iL) ?_
  refine sQ rfl (sp_move rfl iL) ?_
  refine ob2k h2 fun r2 r3 er2 h3 => ?_
  refine AOps.step rfl rfl rfl (sp_callS (r := .tup [.r (.sl (r2.map GStep.row)), .r (.int .i64 r3)]) (caps := []) (bs := [.r (.sl (a1.map GElem.row)), .r (.sl (b1.map GElem.row))]) rfl iL rfl ⟨.inl ⟨iL, rfl⟩, .inl ⟨iL, rfl⟩, trivial⟩ (fun _ => w_diff_Flows (er2))) ?_
  refine sQ rfl (sp_move rfl iL) ?_
  refine sQ rfl (sp_extract (a := .r (.sl (r2.map GStep.row))) rfl iL rfl) ?_
  refine sQ rfl (sp_extract (a := .r (.int .i64 r3)) rfl iL rfl) ?_
  refine sQ rfl (sp_assign rfl iL) ?_
  refine sQ rfl (sp_assign rfl iL) ?_
  refine AOps.nil ?_
  refine hK5 _ ?_
  refine AW.seq_w fun K6 hK6 wK6 => ?_
  refine AW.weak (s' := ⟨[(0, .r (.sl (a1.map GElem.row))), (1, .r (.sl (b1.map GElem.row))), (5, .r (.sl (r2.map GStep.row))), (6, .r (.int .i64 r3))], [], n0, 92⟩) (by exact Weak.cv ⟨.inl iL, .inl iL, .inl iL, .inl iL, trivial⟩ trivial (Nat.le_refl _)) ?_
  refine AW.region ?_
  refine sQ rfl (sp_move rfl iL) ?_
  refine ob1k h3 fun f1 ef1 h4 => ?_
  refine AOps.step rfl rfl rfl (sp_call (r := .r (.int .i64 f1)) (caps := []) (bs := [.r (.sl (a1.map GElem.row))]) rfl iL rfl ⟨⟨_, iL, .d rfl⟩, trivial⟩ (fun _ => w_ref_PartError (ef1)) rfl) ?_
  refine sQ rfl (sp_assign rfl iL) ?_
  refine AOps.nil ?_
  refine hK6 _ ?_
  refine AW.seq_w fun K7 hK7 wK7 => ?_
  refine AW.seq_w fun K8 hK8 wK8 => ?_
  refine AW.region ?_
  refine sQ rfl (sp_move rfl iL) ?_
  refine sQ rfl (sp_eql rfl iL iL) ?_
  refine AOps.nil ?_
  refine hK8 _ ?_
  refine jb1k h4 fun p1 hp1 hk1 => ?_
  have J1 : ∀ (f2 : Int) (i1 : Nat → Nat), p1 = f2 → K7 ⟨[(0, .r (.sl (a1.map GElem.row))), (1, .r (.sl (b1.map GElem.row))), (5, .r (.sl (r2.map GStep.row))), (6, .r (.int .i64 r3)), (7, .r (.int .i64 f2))], [], (i1 0), 92⟩ := by
   intro f2 i1 e
   have h5 := hk1 _ e
   refine hK7 _ ?_
   refine AW.seq_w fun K9 hK9 wK9 => ?_
   refine AW.seq_w fun K10 hK10 wK10 => ?_
   refine AW.region ?_
   refine sQ rfl (sp_move rfl iL) ?_
   refine sQ rfl (sp_eql rfl iL iL) ?_
   refine sQ rfl (sp_move rfl iL) ?_
   refine sW (.one rfl rfl rfl) rfl (sp_move rfl iL) ?_
   refine sW (.one rfl rfl rfl) rfl (ms_len rfl tg_22.slice (.inr ⟨_, (by exact id), rfl⟩)) ?_
   refine sW (.one rfl rfl rfl) rfl (sp_move rfl iL) ?_
   refine sW (.one rfl rfl rfl) rfl (ms_len rfl tg_22.slice (.inr ⟨_, (by exact id), rfl⟩)) ?_
   refine sW (.one rfl rfl rfl) rfl (sp_max rfl (.inr ⟨_, (by exact id), rfl⟩) (.inr ⟨_, (by exact id), rfl⟩)) ?_
   refine sW (.one rfl rfl rfl) rfl (sp_gtr rfl (.inr ⟨_, (by exact id), rfl⟩) iL) ?_
   refine sQ rfl (sp_and rfl iL (.inr ⟨_, (by exact id), rfl⟩)) ?_
   refine AOps.nil ?_
   refine hK10 _ ?_
   refine jb1k h5 fun p2 hp2 hk2 => ?_
   have J2 : ∀ (f3 : Int) (i2 : Nat → Nat), p2 = f3 → K9 ⟨[(0, .r (.sl (a1.map GElem.row))), (1, .r (.sl (b1.map GElem.row))), (5, .r (.sl (r2.map GStep.row))), (6, .r (.int .i64 r3)), (7, .r (.int .i64 f3))], [], (i2 0), 92⟩ := by
    intro f3 i2 e
    have h6 := hk2 _ e
    refine hK9 _ ?_
    refine AW.seq_w fun K11 hK11 wK11 => ?_
    refine AW.seq_w fun K12 hK12 wK12 => ?_
    refine AW.region ?_
    refine sQ rfl (sp_move rfl iL) ?_
    refine sQ rfl (sp_neq rfl iL iL) ?_
    refine AOps.nil ?_
    refine hK12 _ ?_
    refine AW.cond rfl (fun hc2 => ?_) (fun hc2 => ?_)
    ·have h7 := ite_t hc2 h6
     refine AW.seq_w fun K13 hK13 wK13 => ?_
     refine AW.region ?_
     refine sQ rfl (sp_move rfl iL) ?_
     refine sQ rfl (sp_move rfl iL) ?_
     refine sQ rfl (sp_eql rfl iL iL) ?_
     refine sQ rfl (sp_move rfl iL) ?_
     refine sW (.one rfl rfl rfl) rfl (sp_move rfl iL) ?_
     refine sW (.one rfl rfl rfl) rfl (ms_len rfl tg_23.slice (.inr ⟨_, (by exact id), rfl⟩)) ?_
     refine sW (.one rfl rfl rfl) rfl (sp_eql rfl (.inr ⟨_, (by exact id), rfl⟩) iL) ?_
     refine sQ rfl (sp_and rfl iL (.inr ⟨_, (by exact id), rfl⟩)) ?_
     refine sQ rfl (sp_assign rfl iL) ?_
     refine AOps.nil ?_
     refine hK13 _ ?_
     refine AW.ret ?_
     exact retf1 (P := Try.prog) (fun (r : Bool) => .r (.bool r)) h7 iL (.t (.d rfl))
    ·have h7 := ite_f hc2 h6
     refine AW.skip ?_
     refine hK11 _ ?_
     refine AW.seq_w fun K14 hK14 wK14 => ?_
     refine AW.seq_w fun K15 hK15 wK15 => ?_
     refine AW.region ?_
     refine sQ rfl (sp_move rfl iL) ?_
     refine sQ rfl (ms_len rfl tg_22.slice iL) ?_
     refine sQ rfl (sp_move rfl iL) ?_
     refine sQ rfl (ms_len rfl tg_22.slice iL) ?_
     refine sQ rfl (sp_max rfl iL iL) ?_
     refine sQ rfl (sp_gtr rfl iL iL) ?_
     refine AOps.nil ?_
     refine hK15 _ ?_
     refine AW.cond rfl (fun hc3 => ?_) (fun hc3 => ?_)
     ·have h8 := ite_t hc3 h7
      refine AW.seq_w fun K16 hK16 wK16 => ?_
      refine AW.weak (s' := ⟨[(6, .r (.int .i64 r3))], [], (i2 0), 92⟩) (by exact Weak.cv ⟨.inl iL, trivial⟩ trivial (Nat.le_refl _)) ?_
      refine AW.region ?_
      refine sQ rfl (sp_move rfl iL) ?_
      refine sQ rfl (sp_eql rfl iL iL) ?_
      refine sQ rfl (sp_assign rfl iL) ?_
      refine AOps.nil ?_
      refine hK16 _ ?_
      refine AW.ret ?_
      exact retf1 (P := Try.prog) (fun (r : Bool) => .r (.bool r)) h8 iL (.t (.d rfl))
     ·have h8 := ite_f hc3 h7
      refine AW.skip ?_
      refine hK14 _ ?_
      refine AW.seq_w fun K17 hK17 wK17 => ?_
      refine AW.weak (s' := ⟨[(0, .r (.sl (a1.map GElem.row))), (1, .r (.sl (b1.map GElem.row))), (5, .r (.sl (r2.map GStep.row))), (6, .r (.int .i64 r3))], [], (i2 0), 92⟩) (by exact Weak.cv ⟨.inl iL, .inl iL, .inl iL, .inl iL, trivial⟩ trivial (Nat.le_refl _)) ?_
      refine AW.region ?_
      refine sQ rfl (sp_move rfl iL) ?_
      refine ob2k h8 fun r4 r5 er4 h9 => ?_
      refine AOps.step rfl rfl rfl (sp_call (r := .tup [.r (.int .i64 r4), .r (.int .i64 r5)]) (caps := []) (bs := [.r (.sl (r2.map GStep.row))]) rfl iL rfl ⟨⟨_, iL, .d rfl⟩, trivial⟩ (fun _ => w_diff_Cost (er4)) rfl) ?_
      refine sQ rfl (sp_move rfl iL) ?_
      refine sQ rfl (sp_extract (a := .r (.int .i64 r4)) rfl iL rfl) ?_
      refine sQ rfl (sp_extract (a := .r (.int .i64 r5)) rfl iL rfl) ?_
      refine sQ rfl (sp_assign rfl iL) ?_
      refine sQ rfl (sp_assign rfl iL) ?_
      refine AOps.nil ?_
      refine hK17 _ ?_
      refine AW.seq_w fun K18 hK18 wK18 => ?_
      refine AW.region ?_
      refine sQ rfl (sp_move rfl iL) ?_
      refine sQ rfl (sp_eql rfl iL iL) ?_
      refine sQ rfl (sp_move rfl iL) ?_
      refine sW (.one rfl rfl rfl) rfl (sp_move rfl iL) ?_
      refine ob1k h9 fun r6 er6 h10 => ?_
      refine AOps.stepW (.one rfl rfl rfl) rfl rfl (sp_call (r := .r (.int .i64 r6)) (caps := []) (bs := [.r (.sl (r2.map GStep.row))]) rfl iL rfl ⟨⟨_, (.inr ⟨_, (by exact id), rfl⟩), .d rfl⟩, trivial⟩ (fun hg => w_ref_DeltaError (gdt er6 hg)) rfl) ?_
      refine sW (.one rfl rfl rfl) rfl (sp_eql rfl (.inr ⟨_, (by exact id), rfl⟩) iL) ?_
      refine sQ rfl (sp_and rfl iL (.inr ⟨_, (by exact id), rfl⟩)) ?_
      refine sQ rfl (sp_move rfl iL) ?_
      refine sW (.one rfl rfl rfl) rfl (sp_move rfl iL) ?_
      refine ob1k h10 fun r7 er7 h11 => ?_
      refine AOps.stepW (.one rfl rfl rfl) rfl rfl (sp_call (r := .r (.int .i64 r7)) (caps := []) (bs := [.r (.sl (r2.map GStep.row))]) rfl iL rfl ⟨⟨_, (.inr ⟨_, (by exact id), rfl⟩), .d rfl⟩, trivial⟩ (fun hg => w_ref_DeltaSize (gdt er7 hg)) rfl) ?_
      refine sW (.one rfl rfl rfl) rfl (sp_move rfl iL) ?_
      refine sW (.one rfl rfl rfl) rfl (ms_len rfl tg_22.slice (.inr ⟨_, (by exact id), rfl⟩)) ?_
      refine sW (.one rfl rfl rfl) rfl (sp_eql rfl (.inr ⟨_, (by exact id), rfl⟩) (.inr ⟨_, (by exact id), rfl⟩)) ?_
      refine sQ rfl (sp_and rfl iL (.inr ⟨_, (by exact id), rfl⟩)) ?_
      refine sQ rfl (sp_move rfl iL) ?_
      refine sW (.one rfl rfl rfl) rfl (sp_move rfl iL) ?_
      refine sW (.one rfl rfl rfl) rfl (sp_move rfl iL) ?_
      refine jb1k h11 fun p3 hp3 hk3 => ?_
      have J3 : ∀ (x1 : Bool) (i3 : Nat → Nat), p3 = x1 → K18 ⟨[(4, .r (.bool x1))], [], (i3 0), 92⟩ := by
       intro x1 i3 e
       have h12 := hk3 _ e
       refine hK18 _ ?_
       refine AW.ret ?_
       exact retf1 (P := Try.prog) (fun (r : Bool) => .r (.bool r)) h12 iL (.t (.d rfl))
      refine AOps.split ((((decide (r3 = 0)) && (decide (r6 = 0))) && (decide (r7 = (a1.length : Int)))) == true) (fun hg1 => ?_) (fun hg1 => ?_)
      ·have h13 := ite_t hg1 hp3
       refine AOps.weak (by exact Weak.unw2 (e' := [(0, .r (.sl (a1.map GElem.row))), (1, .r (.sl (b1.map GElem.row))), (5, .r (.sl (r2.map GStep.row))), (6, .r (.int .i64 r3)), (8, .r (.int .i64 r4)), (9, .r (.int .i64 r5)), (52, .tup [.r (.int .i64 r4), .r (.int .i64 r5)]), (53, .r (.sl (r2.map GStep.row))), (54, .tup [.r (.int .i64 r4), .r (.int .i64 r5)]), (55, .r (.int .i64 r4)), (56, .r (.int .i64 r5)), (57, .r (.int .i64 r3)), (58, .r (.bool (decide (r3 = 0)))), (59, .r (.bool (decide (r3 = 0)))), (63, .r (.bool ((decide (r3 = 0)) && (decide (r6 = 0))))), (64, .r (.bool ((decide (r3 = 0)) && (decide (r6 = 0))))), (70, .r (.bool (((decide (r3 = 0)) && (decide (r6 = 0))) && (decide (r7 = (a1.length : Int)))))), (71, .r (.bool (((decide (r3 = 0)) && (decide (r6 = 0))) && (decide (r7 = (a1.length : Int)))))), (72, .r (.sl (a1.map GElem.row))), (73, .r (.sl (r2.map GStep.row)))]) hg1 ⟨.inl rfl, .inl rfl, .inl rfl, .inl rfl, .inl rfl, .inl rfl, .inl rfl, .inl rfl, .inl rfl, .inl rfl, .inl rfl, .inl rfl, .inl rfl, .inl rfl, .inl rfl, .inl rfl, .inl rfl, .inl rfl, .inr iL, .inr iL, trivial⟩) ?_
       refine ob1k h13 fun r8 er8 h14 => ?_
       refine AOps.stepGT (.one rfl rfl rfl) hg1 rfl rfl (sp_callS (r := .r (.sl (r8.map GElem.row))) (caps := []) (bs := [.r (.sl (a1.map GElem.row)), .r (.sl (r2.map GStep.row))]) rfl iL rfl ⟨.inl ⟨iL, rfl⟩, .inl ⟨iL, rfl⟩, trivial⟩ (fun _ => w_ref_After (er8))) ?_
       refine AOps.stepGT (.one rfl rfl rfl) hg1 rfl rfl (OpQ.spec (sp_move rfl iL) _) ?_
       refine ob1k h14 fun r9 er9 h15 => ?_
       refine AOps.stepGT (.one rfl rfl rfl) hg1 rfl rfl (sp_call (r := .r (.bool r9)) (caps := []) (bs := [.r (.sl (r8.map GElem.row)), .r (.sl (b1.map GElem.row))]) rfl iL rfl ⟨⟨_, iL, .d rfl⟩, ⟨_, iL, .d rfl⟩, trivial⟩ (fun _ => w_ref_SameFlow (er9)) rfl) ?_
       refine sQ rfl (sp_and rfl iL iL) ?_
       refine sQ rfl (sp_move rfl iL) ?_
       refine sW (.one rfl rfl rfl) rfl (sp_move rfl iL) ?_
       refine sW (.one rfl rfl rfl) rfl (sp_eql rfl (.inr ⟨_, (by exact id), rfl⟩) iL) ?_
       refine sQ rfl (sp_and rfl iL (.inr ⟨_, (by exact id), rfl⟩)) ?_
       refine sQ rfl (sp_move rfl iL) ?_
       refine sW (.one rfl rfl rfl) rfl (sp_move rfl iL) ?_
       refine sW (.one rfl rfl rfl) rfl (sp_move rfl iL) ?_
       refine sW (.one rfl rfl rfl) rfl (sp_move rfl iL) ?_
       refine sW (.one rfl rfl rfl) rfl (sp_move rfl iL) ?_
       refine sW (.one rfl rfl rfl) rfl (sp_move rfl iL) ?_
       refine ob1k h15 fun r10 er10 h16 => ?_
       refine AOps.stepW (.one rfl rfl rfl) rfl rfl (sp_call (r := .r (.bool r10)) (caps := []) (bs := [.r (.sl (a1.map GElem.row)), .r (.sl (b1.map GElem.row))]) rfl iL rfl ⟨⟨_, (.inr ⟨_, (by exact id), rfl⟩), .d rfl⟩, ⟨_, (.inr ⟨_, (by exact id), rfl⟩), .d rfl⟩, trivial⟩ (fun hg => w_ref_Tied (gdt er10 hg)) rfl) ?_
       refine ob1k h16 fun r11 er11 h17 => ?_
       refine AOps.stepW (.one rfl rfl rfl) rfl rfl (sp_call (r := .r (.int .i64 r11)) (caps := []) (bs := [.r (.sl (a1.map GElem.row)), .r (.sl (b1.map GElem.row)), .r (.bool r10)]) rfl iL rfl ⟨⟨_, (.inr ⟨_, (by exact id), rfl⟩), .d rfl⟩, ⟨_, (.inr ⟨_, (by exact id), rfl⟩), .d rfl⟩, ⟨_, (.inr ⟨_, (by exact id), rfl⟩), .d rfl⟩, trivial⟩ (fun hg => w_ref_DiffCost (gdt er11 hg)) rfl) ?_
       refine sW (.one rfl rfl rfl) rfl (sp_eql rfl (.inr ⟨_, (by exact id), rfl⟩) (.inr ⟨_, (by exact id), rfl⟩)) ?_
       refine sQ rfl (sp_and rfl iL (.inr ⟨_, (by exact id), rfl⟩)) ?_
       refine sQ rfl (sp_assign rfl iL) ?_
       refine AOps.nil ?_
       exact wK18 _ _ ((by exact Weak.cv ⟨.inl iL, trivial⟩ trivial (Nat.le_refl _))) (J3 _ (vec [(i2 0)]) (Option.some.inj h17).symm)
      ·have h13 := ite_f hg1 hp3
       refine AOps.stepGF2 (.one rfl rfl rfl) hg1 rfl rfl ?_
       refine AOps.stepGF2 (.one rfl rfl rfl) hg1 rfl rfl ?_
       refine AOps.stepGF2 (.one rfl rfl rfl) hg1 rfl rfl ?_
       refine sQ rfl (sp_and rfl iL (.inr ⟨_, (by exact id), rfl⟩)) ?_
       refine sQ rfl (sp_move rfl iL) ?_
       refine sW (.one rfl rfl rfl) rfl (sp_move rfl iL) ?_
       refine sW (.one rfl rfl rfl) rfl (sp_eql rfl (.inr ⟨_, (by exact id), rfl⟩) iL) ?_
       refine sQ rfl (sp_and rfl iL (.inr ⟨_, (by exact id), rfl⟩)) ?_
       refine sQ rfl (sp_move rfl iL) ?_
       refine sW (.one rfl rfl rfl) rfl (sp_move rfl iL) ?_
       refine sW (.one rfl rfl rfl) rfl (sp_move rfl iL) ?_
       refine sW (.one rfl rfl rfl) rfl (sp_move rfl iL) ?_
       refine sW (.one rfl rfl rfl) rfl (sp_move rfl iL) ?_
       refine sW (.one rfl rfl rfl) rfl (sp_move rfl iL) ?_
       refine ob1k h13 fun r12 er12 h18 => ?_
       refine AOps.stepW (.one rfl rfl rfl) rfl rfl (sp_call (r := .r (.bool r12)) (caps := []) (bs := [.r (.sl (a1.map GElem.row)), .r (.sl (b1.map GElem.row))]) rfl iL rfl ⟨⟨_, (.inr ⟨_, (by exact id), rfl⟩), .d rfl⟩, ⟨_, (.inr ⟨_, (by exact id), rfl⟩), .d rfl⟩, trivial⟩ (fun hg => w_ref_Tied (gdt er12 hg)) rfl) ?_
       refine ob1k h18 fun r13 er13 h19 => ?_
       refine AOps.stepW (.one rfl rfl rfl) rfl rfl (sp_call (r := .r (.int .i64 r13)) (caps := []) (bs := [.r (.sl (a1.map GElem.row)), .r (.sl (b1.map GElem.row)), .r (.bool r12)]) rfl iL rfl ⟨⟨_, (.inr ⟨_, (by exact id), rfl⟩), .d rfl⟩, ⟨_, (.inr ⟨_, (by exact id), rfl⟩), .d rfl⟩, ⟨_, (.inr ⟨_, (by exact id), rfl⟩), .d rfl⟩, trivial⟩ (fun hg => w_ref_DiffCost (gdt er13 hg)) rfl) ?_
       refine sW (.one rfl rfl rfl) rfl (sp_eql rfl (.inr ⟨_, (by exact id), rfl⟩) (.inr ⟨_, (by exact id), rfl⟩)) ?_
       refine sQ rfl (sp_and rfl iL (.inr ⟨_, (by exact id), rfl⟩)) ?_
       refine sQ rfl (sp_assign rfl iL) ?_
       refine AOps.nil ?_
       exact wK18 _ _ ((by exact Weak.cv ⟨.inl iL, trivial⟩ trivial (Nat.le_refl _))) (J3 _ (vec [(i2 0)]) (Option.some.inj h19).symm)
   refine AW.cond rfl (fun hc4 => ?_) (fun hc4 => ?_)
   ·have h20 := ite_t hc4 hp2
    refine AW.weak (s' := ⟨[(0, .r (.sl (a1.map GElem.row))), (1, .r (.sl (b1.map GElem.row))), (5, .r (.sl (r2.map GStep.row))), (6, .r (.int .i64 r3))], [], (i1 0), 92⟩) (by exact Weak.cv ⟨.inl iL, .inl iL, .inl iL, .inl iL, trivial⟩ trivial (Nat.le_refl _)) ?_
    refine AW.region ?_
    refine sQ rfl (sp_assign rfl iL) ?_
    refine AOps.nil ?_
    exact wK9 _ _ ((by exact Weak.cv ⟨.inl iL, .inl iL, .inl iL, .inl iL, .inl iL, trivial⟩ trivial (Nat.le_refl _))) (J2 _ (vec [(i1 0)]) (Option.some.inj h20).symm)
   ·have h20 := ite_f hc4 hp2
    refine AW.skip ?_
    exact wK9 _ _ ((by exact Weak.cv ⟨.inl iL, .inl iL, .inl iL, .inl iL, .inl iL, trivial⟩ trivial (Nat.le_refl _))) (J2 _ (vec [(i1 0)]) (Option.some.inj h20).symm)
  refine AW.cond rfl (fun hc5 => ?_) (fun hc5 => ?_)
  ·have h21 := ite_t hc5 hp1
   refine AW.region ?_
   refine sQ rfl (sp_move rfl iL) ?_
   refine ob1k h21 fun f4 ef4 h22 => ?_
   refine AOps.step rfl rfl rfl (sp_call (r := .r (.int .i64 f4)) (caps := []) (bs := [.r (.sl (b1.map GElem.row))]) rfl iL rfl ⟨⟨_, iL, .d rfl⟩, trivial⟩ (fun _ => w_ref_PartError (ef4)) rfl) ?_
   refine sQ rfl (sp_assign rfl iL) ?_
   refine AOps.nil ?_
   exact wK7 _ _ ((by exact Weak.cv ⟨.inl iL, .inl iL, .inl iL, .inl iL, .inl iL, trivial⟩ trivial (Nat.le_refl _))) (J1 _ (vec [n0]) (Option.some.inj h22).symm)
  ·have h21 := ite_f hc5 hp1
   refine AW.skip ?_
   exact wK7 _ _ ((by exact Weak.cv ⟨.inl iL, .inl iL, .inl iL, .inl iL, .inl iL, trivial⟩ trivial (Nat.le_refl _))) (J1 _ (vec [n0]) (Option.some.inj h21).symm)
end Go.Proofs.Ytfkolgjapajekaa.Al
